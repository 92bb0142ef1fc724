/-
  Contracts by plain functions: earth.New$1, earth.New, earth.hundredths, earth.Declination$1, earth.Declination$2, earth.Declination, (*earth.Frame).Scale, astrolabelaw8.awake, astrolabelaw8.EarthKnown Contracts by plain functions: astrolaberef4.cell, astrolaberef4.table, (*astrolaberef2.Acc).Clamp, (*astrolaberef2.Acc).Sat, (*astrolaberef2.Acc).Sub, astrolaberef2.size, astrolaberef2.product, astrolaberef2.mul, astrolaberef2.less, astrolaberef2.add, astrolaberef2.divided, (*astrolaberef2.Acc).end, (*astrolaberef2.Acc).MulDiv, (*astrolaberef2.Acc).Add, astrolaberef4.along, astrolaberef4.Declination, astrolaberef4.Wrap, astrolaberef2.shifted, (*astrolaberef2.Acc).Mul, (*astrolaberef2.Acc).M, astrolaberef4.Sin, astrolaberef4.Cos, astrolaberef2.root, (*astrolaberef2.Acc).Sqrt, (*astrolaberef2.Acc).Div, (*astrolaberef2.Acc).D, astrolaberef4.Scales
-/
import Derived.Test.YtcalippagaaikaaZA
import Derived.Test.YtcalippagaaikaaZB
set_option maxRecDepth 100000
set_option maxHeartbeats 4000000
set_option linter.unusedVariables false
namespace Go.Proofs.Ytcalippagaaikaa
open Go.Ab
abbrev t0E2 := Int → Int → Int → Bool → Option (Int × Bool)
abbrev t1E2 := Int → Int → Int → Option Bool
abbrev t2E2 := Int → Int → Bool → Option (Int × Bool)
abbrev t3E2 := Int → Bool → Option (Int × Bool)
abbrev t4E2 := Int → Int → Int → Int → Bool → Option (Int × Bool)
abbrev t5E2 := Int → Int → Int → Int → Int → Int → Int → Int → Int → Bool → Option (Int × Bool)
abbrev t6E2 := Int → Int → Int → Option (Unit ⊕ Int × Int × Int × Int × Int)
abbrev t7E2 := Int → Int → Int → Int → Int → Int → Int → Int → Bool → Option (Int × Int × Int × Int × Bool)
abbrev t8E2 := Int → Int → Int → Bool → Option (Int × Int × Bool)
abbrev t9E2 := Int → Int → Int → Int → Int → Option (Int × Int)
def K_BL {ρ : Type} (g_Ag : t0E2) (x0 : Int) (x1 : Int) (x2 : Bool) (k : (Int × Bool) → Option ρ) : Option ρ := Option.bind (g_Ag x0 x1 30 x2) fun (d : Int × Bool) => k (d.1, d.2)
def f_BL (x0 : Int) (x1 : Int) (x2 : Bool) : Option (Int × Bool) := K_BL f_Ag  x0 x1 x2 some
section
open Go.Ab.Rdr
def QA_BL := ((pair (cons (ar (rc (cf (fi .i64 hole)))) (cons (ar (rc (cf (fi .i64 hole)))) (cons (ar (rc (cptr (nat 0) (ok' (nat 0)) (nat 1)))) nil))) (cons (cons (gc (cptr (nat 1) (ok' (nat 0)) (nat 1))) nil) (cons (cons (gc (cf (fb hole))) nil) nil))) : Rdr (List AV × List Blk) _)
end
def F_BL (f : (Int) → (Int) → (Bool) → Option (Int × Bool)) : Sem1 := fun args h => match (QA_BL).rd (args, h) with
  | some b => .opt (f b.1.1 b.1.2.1 b.2.2.1.1) fun (d : Int × Bool) => .leaf (Res.mk (rI d.1) [Ch.keep, Ch.set [sB d.2]] [])
  | none => .fail
theorem d_BL (g_Ag : t0E2) (x0 : Int) (x1 : Int) (x2 : Bool) : den Try.prog (envOf [(67, F_Ag g_Ag)]) ⟨[], [], [], [], none⟩ 200 66 [rI x0, rI x1, .r (.c (.ptr 0 (.k 0) 1))] [[.c (.ptr 1 (.k 0) 1)], [.c (.f (.b x2))]] = K_BL g_Ag x0 x1 x2 (fun (d : Int ×
 Bool) => some (Res.mk (rI d.1) [Ch.keep, Ch.set [sB d.2]] [])) := by kernel_rfl
theorem m_BL {ρ σ : Type} (q : ρ → Option σ) (g_Ag : t0E2)   (x0 : Int) (x1 : Int) (x2 : Bool) (k : (Int × Bool) → Option ρ) : (K_BL g_Ag  x0 x1 x2 k).bind q = K_BL g_Ag  x0 x1 x2 (fun d => (k d).bind q) := by
  simp only [K_BL, bnd_cond, bnd_bind, bnd_none, bnd_sum]
theorem qa_BL : ∀ b, (QA_BL).em b = ([rI b.1.1, rI b.1.2.1, .r (.c (.ptr 0 (.k 0) 1))], [[.c (.ptr 1 (.k 0) 1)], [.c (.f (.b b.2.2.1.1))]]) := fun b => by kernel_rfl
theorem e_BL {f : (Int) → (Int) → (Bool) → Option (Int × Bool)} {args : List AV} {h : List Blk} {r : Res} (hr : (F_BL f args h).eval = some r) : ∃ x0 x1 x2, args = [rI x0, rI x1, .r (.c (.ptr 0 (.k 0) 1))] ∧ h = [[.c (.ptr 1 (.k 0) 1)], [.c (.f (.b x2))]] ∧ (f x0 x1 x2).bind (fun (d : Int × Bool) => some (Res.mk (rI d.1) [Ch.keep, Ch.set [sB d.2]] [])) = some r := by
  unfold F_BL at hr
  split at hr
  · rename_i b hb
    have e := ((QA_BL).ok _ _ hb).trans (qa_BL b)
    rw [opt_eval2] at hr
    exact ⟨b.1.1, b.1.2.1, b.2.2.1.1, (Prod.mk.inj e).1, (Prod.mk.inj e).2, hr⟩
  · cases hr
theorem n_BL {σ : Type} (q : (Int × Bool) → Option σ) (x0 : Int) (x1 : Int) (x2 : Bool) : (f_BL x0 x1 x2).bind q = K_BL f_Ag  x0 x1 x2 q := by
  unfold f_BL
  exact m_BL q f_Ag   x0 x1 x2 some
theorem s_BL [Amb] : Sound Try.prog 66 (F_BL f_BL) := (inl_sound (l := [(67, F_Ag f_Ag)]) (.cons s_Ag (.nil _)) mixed [] [] 200 (by kernel_rfl)).by (F := F_BL f_BL) fun args b r hr => by
  obtain ⟨x0, x1, x2, rfl, rfl, hr1⟩ := e_BL hr
  exact inl_eval ((d_BL f_Ag  x0 x1 x2).trans ((n_BL (fun (d : Int × Bool) => some (Res.mk (rI d.1) [Ch.keep, Ch.set [sB d.2]] [])) x0 x1 x2).symm.trans hr1))

def K_Ap {ρ : Type} (g_AH : t1E2) (g_BL : t2E2) (g_AK : t0E2) (g_Aq : t3E2) (g_BK : t3E2) (g_BU : t3E2) (g_BN : t0E2) (x0 : Int) (x1 : Int) (x2 : Int) (k : (Unit ⊕ Int × Int × Int × Int × Int) → Option ρ) : Option ρ := Option.bind (g_AH x0 x1 x2) fun (d : Bool) => bif !d then k (Sum.inl ()) else bif decide (x0 > 850000000) then k (Sum.inl ()) else bif decide (x0 < -850000000) then
 k (Sum.inl ()) else Option.bind (g_AK x0 3373259426 1800000000 false) fun (d : Int × Bool) => Option.bind (g_Aq d.1 d.2) fun (d_1 : Int × Bool) => Option.bind (g_BK d.1 d_1.2) fun (d : Int × Bool) => Option.bind (g_BL d_1.1 d_1.1 d.2) fun (d_2 : Int × Bool) => Option.bind (g_BL 7188036 d_2.1 d_2.2) fun (d_3 : Int ×
 Bool) => Option.bind (g_BU (IntKind.wrap IntKind.i64 (1073741824 - d_3.1)) d_3.2) fun (d_4 : Int × Bool) => Option.bind (g_BN 6531212288 d_4.1 30 d_4.2) fun (d_5 : Int × Bool) => Option.bind (g_BL 6531212288 1066553788 d_5.2) fun (d_6 : Int × Bool) => Option.bind (g_BL (IntKind.wrap IntKind.i64 (1073741824 - d_3.1)) d_4.1 d_6.2) fun (d_7 : Int ×
 Bool) => Option.bind (g_BN d_6.1 d_7.1 30 d_7.2) fun (d_8 : Int × Bool) => Option.bind (g_AK d_8.1 3373259426 1800000000 d_8.2) fun (d_9 : Int × Bool) => Option.bind (g_BL d_5.1 d.1 d_9.2) fun (d : Int × Bool) => Option.bind (g_AK d.1 3373259426 1800000000 d.2) fun (d : Int × Bool) => k (Sum.inr (x0,
 x1, x2, d_9.1, d.1))
def f_Ap (x0 : Int) (x1 : Int) (x2 : Int) : Option (Unit ⊕ Int × Int × Int × Int × Int) := K_Ap f_AH f_BL f_AK f_Aq f_BK f_BU f_BN  x0 x1 x2 some
section
open Go.Ab.Rdr
def QA_Ap := ((pair (cons (ar (ra (cons (gc (cf (fi .i64 hole))) (cons (gc (cf (fi .i64 hole))) (cons (gc (cf (fi .i64 hole))) nil))))) nil) nil) : Rdr (List AV × List Blk) _)
end
def F_Ap (f : (Int) → (Int) → (Int) → Option (Unit ⊕ Int × Int × Int × Int × Int)) : Sem1 := fun args h => match (QA_Ap).rd (args, h) with
  | some b => .opt (f b.1.1.1 b.1.1.2.1 b.1.1.2.2.1) fun d0 => T.sum d0 (fun (d : Unit) => .leaf (Res.mk (AV.tup [RV.c CV.nilp, RV.c (fI 1)]) [] [])) (fun (d : Int × Int × Int × Int × Int) => .leaf (Res.mk (AV.tup [RV.c (CV.ptr 0 (Off.k 0) 5), RV.c (fI 0)]) []
    [[sI d.1, sI d.2.1, sI d.2.2.1, sI d.2.2.2.1,
        sI d.c4]]))
  | none => .fail
theorem d_Ap (g_AH : t1E2) (g_BL : t2E2) (g_AK : t0E2) (g_Aq : t3E2) (g_BK : t3E2) (g_BU : t3E2) (g_BN : t0E2) (x0 : Int) (x1 : Int) (x2 : Int) : den Try.prog (envOf [(40, F_AH g_AH), (66, F_BL g_BL), (68, F_AK g_AK), (69, F_Aq g_Aq), (70, F_BK g_BK), (71, F_BU g_BU), (72, F_BN g_BN)]) ⟨[], [], [], [], none⟩ 200 37 [.r (.agg [.c (.f (.i .i64 x0)), .c (.f (.i .i64 x1)), .c (.f (.i .i64 x2))])] [] = K_Ap g_AH g_BL g_AK g_Aq g_BK g_BU g_BN x0 x1 x2 ((Sum.elim (fun (d : Unit) => some (Res.mk (AV.tup [RV.c CV.nilp,
 RV.c (fI 1)]) [] [])) (fun (d : Int × Int × Int × Int × Int) => some (Res.mk (AV.tup [RV.c (CV.ptr 0 (Off.k 0) 5), RV.c (fI 0)]) [] [[sI d.1, sI d.2.1, sI d.2.2.1, sI d.2.2.2.1,
 sI d.c4]])))) := by kernel_rfl
theorem m_Ap {ρ σ : Type} (q : ρ → Option σ) (g_AH : t1E2) (g_BL : t2E2) (g_AK : t0E2) (g_Aq : t3E2) (g_BK : t3E2) (g_BU : t3E2) (g_BN : t0E2)   (x0 : Int) (x1 : Int) (x2 : Int) (k : (Unit ⊕ Int × Int × Int × Int × Int) → Option ρ) : (K_Ap g_AH g_BL g_AK g_Aq g_BK g_BU g_BN  x0 x1 x2 k).bind q = K_Ap g_AH g_BL g_AK g_Aq g_BK g_BU g_BN  x0 x1 x2 (fun d => (k d).bind q) := by
  simp only [K_Ap, bnd_cond, bnd_bind, bnd_none, bnd_sum]
theorem qa_Ap : ∀ b, (QA_Ap).em b = ([.r (.agg [.c (.f (.i .i64 b.1.1.1)), .c (.f (.i .i64 b.1.1.2.1)), .c (.f (.i .i64 b.1.1.2.2.1))])], []) := fun b => by kernel_rfl
theorem e_Ap {f : (Int) → (Int) → (Int) → Option (Unit ⊕ Int × Int × Int × Int × Int)} {args : List AV} {h : List Blk} {r : Res} (hr : (F_Ap f args h).eval = some r) : ∃ x0 x1 x2, args = [.r (.agg [.c (.f (.i .i64 x0)), .c (.f (.i .i64 x1)), .c (.f (.i .i64 x2))])] ∧ h = [] ∧ (f x0 x1 x2).bind ((Sum.elim (fun (d : Unit) => some (Res.mk (AV.tup [RV.c CV.nilp,
 RV.c (fI 1)]) [] [])) (fun (d : Int × Int × Int × Int × Int) => some (Res.mk (AV.tup [RV.c (CV.ptr 0 (Off.k 0) 5), RV.c (fI 0)]) [] [[sI d.1, sI d.2.1, sI d.2.2.1, sI d.2.2.2.1,
 sI d.c4]])))) = some r := by
  unfold F_Ap at hr
  split at hr
  · rename_i b hb
    have e := ((QA_Ap).ok _ _ hb).trans (qa_Ap b)
    rw [opt_eval2] at hr
    simp only [sum_eval, leaf_eval] at hr
    exact ⟨b.1.1.1, b.1.1.2.1, b.1.1.2.2.1, (Prod.mk.inj e).1, (Prod.mk.inj e).2, hr⟩
  · cases hr
theorem n_Ap {σ : Type} (q : (Unit ⊕ Int × Int × Int × Int × Int) → Option σ) (x0 : Int) (x1 : Int) (x2 : Int) : (f_Ap x0 x1 x2).bind q = K_Ap f_AH f_BL f_AK f_Aq f_BK f_BU f_BN  x0 x1 x2 q := by
  unfold f_Ap
  exact m_Ap q f_AH f_BL f_AK f_Aq f_BK f_BU f_BN   x0 x1 x2 some
theorem s_Ap [Amb] : Sound Try.prog 37 (F_Ap f_Ap) := (inl_sound (l := [(40, F_AH f_AH), (66, F_BL f_BL), (68, F_AK f_AK), (69, F_Aq f_Aq), (70, F_BK f_BK), (71, F_BU f_BU), (72, F_BN f_BN)]) (.cons s_AH (.cons s_BL (.cons s_AK (.cons s_Aq (.cons s_BK (.cons s_BU (.cons s_BN (.nil _)))))))) mixed [] [] 200 (by kernel_rfl)).by (F := F_Ap f_Ap) fun args b r hr => by
  obtain ⟨x0, x1, x2, rfl, rfl, hr1⟩ := e_Ap hr
  exact inl_eval ((d_Ap f_AH f_BL f_AK f_Aq f_BK f_BU f_BN  x0 x1 x2).trans ((n_Ap ((Sum.elim (fun (d : Unit) => some (Res.mk (AV.tup [RV.c CV.nilp, RV.c (fI 1)]) [] [])) (fun (d : Int × Int × Int × Int × Int) => some (Res.mk (AV.tup [RV.c (CV.ptr 0 (Off.k 0) 5), RV.c (fI 0)]) []
    [[sI d.1, sI d.2.1, sI d.2.2.1, sI d.2.2.2.1,
        sI d.c4]])))) x0 x1 x2).symm.trans hr1))

def K_Bc {ρ : Type} (k : (Unit) → Option ρ) : Option ρ := k ()
def f_Bc  : Option (Unit) := K_Bc    some
section
open Go.Ab.Rdr
def QA_Bc := ((pair nil nil) : Rdr (List AV × List Blk) _)
end
def F_Bc (f : Option (Unit)) : Sem1 := fun args h => match (QA_Bc).rd (args, h) with
  | some b => .opt (f ) fun (d : Unit) => .leaf (Res.mk
    (AV.r
      (RV.agg
        [sI 3000, sI 6000, sI (-2000), sI (-1500),
          sI (-6000), sI (-9000), sI 3000, sI 2200, sI 2500,
          sI 500, sI (-2200), sI (-3800), sI 0, sI 2200,
          sI 950, sI 900, sI (-1400), sI (-500), sI (-300),
          sI 100, sI 950, sI 500, sI 1500, sI (-1700),
          sI 100, sI 700, sI (-800), sI 500, sI 1000,
          sI 4000, sI (-3000), sI 500, sI 3500, sI (-1200),
          sI 1000]))
    [] [])
  | none => .fail
theorem d_Bc : den Try.prog (envOf []) ⟨[], [], [], [], none⟩ 200 73 [] [] = K_Bc (fun (d : Unit) => some (Res.mk (AV.r (RV.agg [sI 3000, sI 6000, sI (-2000), sI (-1500), sI (-6000),
 sI (-9000), sI 3000, sI 2200, sI 2500, sI 500, sI (-2200), sI (-3800), sI 0,
 sI 2200, sI 950, sI 900, sI (-1400), sI (-500), sI (-300), sI 100, sI 950, sI 500,
 sI 1500, sI (-1700), sI 100, sI 700, sI (-800), sI 500, sI 1000, sI 4000, sI (-3000),
 sI 500, sI 3500, sI (-1200), sI 1000])) [] [])) := by kernel_rfl
theorem m_Bc {ρ σ : Type} (q : ρ → Option σ)     (k : (Unit) → Option ρ) : (K_Bc    k).bind q = K_Bc    (fun d => (k d).bind q) := by
  simp only [K_Bc, bnd_cond, bnd_bind, bnd_none, bnd_sum]
theorem qa_Bc : ∀ b, (QA_Bc).em b = ([], []) := fun b => by kernel_rfl
theorem e_Bc {f : Option (Unit)} {args : List AV} {h : List Blk} {r : Res} (hr : (F_Bc f args h).eval = some r) : args = [] ∧ h = [] ∧ (f ).bind (fun (d : Unit) => some (Res.mk (AV.r (RV.agg [sI 3000, sI 6000, sI (-2000),
 sI (-1500), sI (-6000), sI (-9000), sI 3000, sI 2200, sI 2500, sI 500, sI (-2200),
 sI (-3800), sI 0, sI 2200, sI 950, sI 900, sI (-1400), sI (-500), sI (-300),
 sI 100, sI 950, sI 500, sI 1500, sI (-1700), sI 100, sI 700, sI (-800), sI 500,
 sI 1000, sI 4000, sI (-3000), sI 500, sI 3500, sI (-1200), sI 1000])) [] [])) = some r := by
  unfold F_Bc at hr
  split at hr
  · rename_i b hb
    have e := ((QA_Bc).ok _ _ hb).trans (qa_Bc b)
    rw [opt_eval2] at hr
    exact ⟨(Prod.mk.inj e).1, (Prod.mk.inj e).2, hr⟩
  · cases hr
theorem n_Bc {σ : Type} (q : (Unit) → Option σ)  : (f_Bc ).bind q = K_Bc    q := by
  unfold f_Bc
  exact m_Bc q     some
theorem s_Bc [Amb] : Sound Try.prog 73 (F_Bc f_Bc) := (inl_sound (l := []) (.nil _) mixed [] [] 200 (by kernel_rfl)).by (F := F_Bc f_Bc) fun args b r hr => by
  obtain ⟨rfl, rfl, hr1⟩ := e_Bc hr
  exact inl_eval ((d_Bc   ).trans ((n_Bc (fun (d : Unit) => some (Res.mk
    (AV.r
      (RV.agg
        [sI 3000, sI 6000, sI (-2000), sI (-1500),
          sI (-6000), sI (-9000), sI 3000, sI 2200, sI 2500,
          sI 500, sI (-2200), sI (-3800), sI 0, sI 2200,
          sI 950, sI 900, sI (-1400), sI (-500), sI (-300),
          sI 100, sI 950, sI 500, sI 1500, sI (-1700),
          sI 100, sI 700, sI (-800), sI 500, sI 1000,
          sI 4000, sI (-3000), sI 500, sI 3500, sI (-1200),
          sI 1000]))
    [] [])) ).symm.trans hr1))

def K_AF {ρ : Type} (g_AK : t0E2) (x0 : Int) (x1 : Int) (x2 : Int) (x3 : Int) (x4 : Bool) (k : (Int × Bool) → Option ρ) : Option ρ := Option.bind (g_AK (IntKind.wrap IntKind.i64 (x1 - x0)) x2 x3 x4) fun (d : Int × Bool) => k (IntKind.wrap IntKind.i64 (x0 + d.1),
 d.2)
def f_AF (x0 : Int) (x1 : Int) (x2 : Int) (x3 : Int) (x4 : Bool) : Option (Int × Bool) := K_AF f_AK  x0 x1 x2 x3 x4 some
section
open Go.Ab.Rdr
def QA_AF := ((pair (cons (ar (rc (cf (fi .i64 hole)))) (cons (ar (rc (cf (fi .i64 hole)))) (cons (ar (rc (cf (fi .i64 hole)))) (cons (ar (rc (cf (fi .i64 hole)))) (cons (ar (rc (cptr (nat 0) (ok' (nat 0)) (nat 1)))) nil))))) (cons (cons (gc (cptr (nat 1) (ok' (nat 0)) (nat 1))) nil) (cons (cons (gc (cf (fb hole))) nil) nil))) : Rdr (List AV × List Blk) _)
end
def F_AF (f : (Int) → (Int) → (Int) → (Int) → (Bool) → Option (Int × Bool)) : Sem1 := fun args h => match (QA_AF).rd (args, h) with
  | some b => .opt (f b.1.1 b.1.2.1 b.1.2.2.1 b.1.2.2.2.1 b.2.2.1.1) fun (d : Int × Bool) => .leaf (Res.mk (rI d.1) [Ch.keep, Ch.set [sB d.2]] [])
  | none => .fail
theorem d_AF (g_AK : t0E2) (x0 : Int) (x1 : Int) (x2 : Int) (x3 : Int) (x4 : Bool) : den Try.prog (envOf [(68, F_AK g_AK)]) ⟨[], [], [], [], none⟩ 200 74 [rI x0, rI x1, rI x2, rI x3,
 .r (.c (.ptr 0 (.k 0) 1))] [[.c (.ptr 1 (.k 0) 1)], [.c (.f (.b x4))]] = K_AF g_AK x0 x1 x2 x3 x4 (fun (d : Int × Bool) => some (Res.mk (rI d.1) [Ch.keep, Ch.set [sB d.2]] [])) := by kernel_rfl
theorem m_AF {ρ σ : Type} (q : ρ → Option σ) (g_AK : t0E2)   (x0 : Int) (x1 : Int) (x2 : Int) (x3 : Int) (x4 : Bool) (k : (Int × Bool) → Option ρ) : (K_AF g_AK  x0 x1 x2 x3 x4 k).bind q = K_AF g_AK  x0 x1 x2 x3 x4 (fun d => (k d).bind q) := by
  simp only [K_AF, bnd_cond, bnd_bind, bnd_none, bnd_sum]
theorem qa_AF : ∀ b, (QA_AF).em b = ([rI b.1.1, rI b.1.2.1, rI b.1.2.2.1, rI b.1.2.2.2.1, .r (.c (.ptr 0 (.k 0) 1))], [[.c (.ptr 1 (.k 0) 1)], [.c (.f (.b b.2.2.1.1))]]) := fun b => by kernel_rfl
theorem e_AF {f : (Int) → (Int) → (Int) → (Int) → (Bool) → Option (Int × Bool)} {args : List AV} {h : List Blk} {r : Res} (hr : (F_AF f args h).eval = some r) : ∃ x0 x1 x2 x3 x4, args = [rI x0, rI x1, rI x2, rI x3, .r (.c (.ptr 0 (.k 0) 1))] ∧ h = [[.c (.ptr 1 (.k 0) 1)], [.c (.f (.b x4))]] ∧ (f x0 x1 x2 x3 x4).bind (fun (d : Int × Bool) => some (Res.mk (rI d.1) [Ch.keep, Ch.set [sB d.2]] [])) = some r := by
  unfold F_AF at hr
  split at hr
  · rename_i b hb
    have e := ((QA_AF).ok _ _ hb).trans (qa_AF b)
    rw [opt_eval2] at hr
    exact ⟨b.1.1, b.1.2.1, b.1.2.2.1, b.1.2.2.2.1, b.2.2.1.1, (Prod.mk.inj e).1, (Prod.mk.inj e).2, hr⟩
  · cases hr
theorem n_AF {σ : Type} (q : (Int × Bool) → Option σ) (x0 : Int) (x1 : Int) (x2 : Int) (x3 : Int) (x4 : Bool) : (f_AF x0 x1 x2 x3 x4).bind q = K_AF f_AK  x0 x1 x2 x3 x4 q := by
  unfold f_AF
  exact m_AF q f_AK   x0 x1 x2 x3 x4 some
theorem s_AF [Amb] : Sound Try.prog 74 (F_AF f_AF) := (inl_sound (l := [(68, F_AK f_AK)]) (.cons s_AK (.nil _)) mixed [] [] 200 (by kernel_rfl)).by (F := F_AF f_AF) fun args b r hr => by
  obtain ⟨x0, x1, x2, x3, x4, rfl, rfl, hr1⟩ := e_AF hr
  exact inl_eval ((d_AF f_AK  x0 x1 x2 x3 x4).trans ((n_AF (fun (d : Int × Bool) => some (Res.mk (rI d.1) [Ch.keep, Ch.set [sB d.2]] [])) x0 x1 x2 x3 x4).symm.trans hr1))

def K_Ah {ρ : Type} (g_AF : t4E2) (x0 : Int) (x1 : Int) (x2 : Int) (x3 : Int) (x4 : Int) (x5 : Int) (x6 : Int) (x7 : Int) (x8 : Int) (x9 : Bool) (k : (Int × Bool) → Option ρ) : Option ρ := bif inR x7 7 then bif x7 == 6 then bif inR (IntKind.wrap IntKind.i64 (x7 + 1)) 7 then
 bif IntKind.wrap IntKind.i64 (x7 + 1) == 6 then Option.bind (g_AF (IntKind.wrap IntKind.i64 (x6 * 1073741824)) (IntKind.wrap IntKind.i64 (x6 * 1073741824)) x8 600000000 x9) fun (d : Int × Bool) => k (d.1, d.2) else bif IntKind.wrap IntKind.i64 (x7 + 1) == 5 then Option.bind (g_AF (IntKind.wrap IntKind.i64 (x6 * 1073741824)) (IntKind.wrap IntKind.i64 (x5 * 1073741824)) x8 600000000 x9) fun (d : Int ×
 Bool) => k (d.1, d.2) else bif IntKind.wrap IntKind.i64 (x7 + 1) == 4 then Option.bind (g_AF (IntKind.wrap IntKind.i64 (x6 * 1073741824)) (IntKind.wrap IntKind.i64 (x4 * 1073741824)) x8 600000000 x9) fun (d : Int × Bool) => k (d.1, d.2) else bif IntKind.wrap IntKind.i64 (x7 + 1) == 3 then Option.bind (g_AF (IntKind.wrap IntKind.i64 (x6 * 1073741824)) (IntKind.wrap IntKind.i64 (x3 * 1073741824)) x8 600000000 x9) fun (d : Int ×
 Bool) => k (d.1, d.2) else bif IntKind.wrap IntKind.i64 (x7 + 1) == 2 then Option.bind (g_AF (IntKind.wrap IntKind.i64 (x6 * 1073741824)) (IntKind.wrap IntKind.i64 (x2 * 1073741824)) x8 600000000 x9) fun (d : Int × Bool) => k (d.1, d.2) else bif IntKind.wrap IntKind.i64 (x7 + 1) == 1 then Option.bind (g_AF (IntKind.wrap IntKind.i64 (x6 * 1073741824)) (IntKind.wrap IntKind.i64 (x1 * 1073741824)) x8 600000000 x9) fun (d : Int ×
 Bool) => k (d.1, d.2) else Option.bind (g_AF (IntKind.wrap IntKind.i64 (x6 * 1073741824)) (IntKind.wrap IntKind.i64 (x0 * 1073741824)) x8 600000000 x9) fun (d : Int × Bool) => k (d.1, d.2) else none else bif x7 == 5 then bif inR (IntKind.wrap IntKind.i64 (x7 + 1)) 7 then bif IntKind.wrap IntKind.i64 (x7 + 1) == 6 then
 Option.bind (g_AF (IntKind.wrap IntKind.i64 (x5 * 1073741824)) (IntKind.wrap IntKind.i64 (x6 * 1073741824)) x8 600000000 x9) fun (d : Int × Bool) => k (d.1, d.2) else bif IntKind.wrap IntKind.i64 (x7 + 1) == 5 then Option.bind (g_AF (IntKind.wrap IntKind.i64 (x5 * 1073741824)) (IntKind.wrap IntKind.i64 (x5 * 1073741824)) x8 600000000 x9) fun (d : Int ×
 Bool) => k (d.1, d.2) else bif IntKind.wrap IntKind.i64 (x7 + 1) == 4 then Option.bind (g_AF (IntKind.wrap IntKind.i64 (x5 * 1073741824)) (IntKind.wrap IntKind.i64 (x4 * 1073741824)) x8 600000000 x9) fun (d : Int × Bool) => k (d.1, d.2) else bif IntKind.wrap IntKind.i64 (x7 + 1) == 3 then Option.bind (g_AF (IntKind.wrap IntKind.i64 (x5 * 1073741824)) (IntKind.wrap IntKind.i64 (x3 * 1073741824)) x8 600000000 x9) fun (d : Int ×
 Bool) => k (d.1, d.2) else bif IntKind.wrap IntKind.i64 (x7 + 1) == 2 then Option.bind (g_AF (IntKind.wrap IntKind.i64 (x5 * 1073741824)) (IntKind.wrap IntKind.i64 (x2 * 1073741824)) x8 600000000 x9) fun (d : Int × Bool) => k (d.1, d.2) else bif IntKind.wrap IntKind.i64 (x7 + 1) == 1 then Option.bind (g_AF (IntKind.wrap IntKind.i64 (x5 * 1073741824)) (IntKind.wrap IntKind.i64 (x1 * 1073741824)) x8 600000000 x9) fun (d : Int ×
 Bool) => k (d.1, d.2) else Option.bind (g_AF (IntKind.wrap IntKind.i64 (x5 * 1073741824)) (IntKind.wrap IntKind.i64 (x0 * 1073741824)) x8 600000000 x9) fun (d : Int × Bool) => k (d.1, d.2) else none else bif x7 == 4 then bif inR (IntKind.wrap IntKind.i64 (x7 + 1)) 7 then bif IntKind.wrap IntKind.i64 (x7 + 1) == 6 then
 Option.bind (g_AF (IntKind.wrap IntKind.i64 (x4 * 1073741824)) (IntKind.wrap IntKind.i64 (x6 * 1073741824)) x8 600000000 x9) fun (d : Int × Bool) => k (d.1, d.2) else bif IntKind.wrap IntKind.i64 (x7 + 1) == 5 then Option.bind (g_AF (IntKind.wrap IntKind.i64 (x4 * 1073741824)) (IntKind.wrap IntKind.i64 (x5 * 1073741824)) x8 600000000 x9) fun (d : Int ×
 Bool) => k (d.1, d.2) else bif IntKind.wrap IntKind.i64 (x7 + 1) == 4 then Option.bind (g_AF (IntKind.wrap IntKind.i64 (x4 * 1073741824)) (IntKind.wrap IntKind.i64 (x4 * 1073741824)) x8 600000000 x9) fun (d : Int × Bool) => k (d.1, d.2) else bif IntKind.wrap IntKind.i64 (x7 + 1) == 3 then Option.bind (g_AF (IntKind.wrap IntKind.i64 (x4 * 1073741824)) (IntKind.wrap IntKind.i64 (x3 * 1073741824)) x8 600000000 x9) fun (d : Int ×
 Bool) => k (d.1, d.2) else bif IntKind.wrap IntKind.i64 (x7 + 1) == 2 then Option.bind (g_AF (IntKind.wrap IntKind.i64 (x4 * 1073741824)) (IntKind.wrap IntKind.i64 (x2 * 1073741824)) x8 600000000 x9) fun (d : Int × Bool) => k (d.1, d.2) else bif IntKind.wrap IntKind.i64 (x7 + 1) == 1 then Option.bind (g_AF (IntKind.wrap IntKind.i64 (x4 * 1073741824)) (IntKind.wrap IntKind.i64 (x1 * 1073741824)) x8 600000000 x9) fun (d : Int ×
 Bool) => k (d.1, d.2) else Option.bind (g_AF (IntKind.wrap IntKind.i64 (x4 * 1073741824)) (IntKind.wrap IntKind.i64 (x0 * 1073741824)) x8 600000000 x9) fun (d : Int × Bool) => k (d.1, d.2) else none else bif x7 == 3 then bif inR (IntKind.wrap IntKind.i64 (x7 + 1)) 7 then bif IntKind.wrap IntKind.i64 (x7 + 1) == 6 then
 Option.bind (g_AF (IntKind.wrap IntKind.i64 (x3 * 1073741824)) (IntKind.wrap IntKind.i64 (x6 * 1073741824)) x8 600000000 x9) fun (d : Int × Bool) => k (d.1, d.2) else bif IntKind.wrap IntKind.i64 (x7 + 1) == 5 then Option.bind (g_AF (IntKind.wrap IntKind.i64 (x3 * 1073741824)) (IntKind.wrap IntKind.i64 (x5 * 1073741824)) x8 600000000 x9) fun (d : Int ×
 Bool) => k (d.1, d.2) else bif IntKind.wrap IntKind.i64 (x7 + 1) == 4 then Option.bind (g_AF (IntKind.wrap IntKind.i64 (x3 * 1073741824)) (IntKind.wrap IntKind.i64 (x4 * 1073741824)) x8 600000000 x9) fun (d : Int × Bool) => k (d.1, d.2) else bif IntKind.wrap IntKind.i64 (x7 + 1) == 3 then Option.bind (g_AF (IntKind.wrap IntKind.i64 (x3 * 1073741824)) (IntKind.wrap IntKind.i64 (x3 * 1073741824)) x8 600000000 x9) fun (d : Int ×
 Bool) => k (d.1, d.2) else bif IntKind.wrap IntKind.i64 (x7 + 1) == 2 then Option.bind (g_AF (IntKind.wrap IntKind.i64 (x3 * 1073741824)) (IntKind.wrap IntKind.i64 (x2 * 1073741824)) x8 600000000 x9) fun (d : Int × Bool) => k (d.1, d.2) else bif IntKind.wrap IntKind.i64 (x7 + 1) == 1 then Option.bind (g_AF (IntKind.wrap IntKind.i64 (x3 * 1073741824)) (IntKind.wrap IntKind.i64 (x1 * 1073741824)) x8 600000000 x9) fun (d : Int ×
 Bool) => k (d.1, d.2) else Option.bind (g_AF (IntKind.wrap IntKind.i64 (x3 * 1073741824)) (IntKind.wrap IntKind.i64 (x0 * 1073741824)) x8 600000000 x9) fun (d : Int × Bool) => k (d.1, d.2) else none else bif x7 == 2 then bif inR (IntKind.wrap IntKind.i64 (x7 + 1)) 7 then bif IntKind.wrap IntKind.i64 (x7 + 1) == 6 then
 Option.bind (g_AF (IntKind.wrap IntKind.i64 (x2 * 1073741824)) (IntKind.wrap IntKind.i64 (x6 * 1073741824)) x8 600000000 x9) fun (d : Int × Bool) => k (d.1, d.2) else bif IntKind.wrap IntKind.i64 (x7 + 1) == 5 then Option.bind (g_AF (IntKind.wrap IntKind.i64 (x2 * 1073741824)) (IntKind.wrap IntKind.i64 (x5 * 1073741824)) x8 600000000 x9) fun (d : Int ×
 Bool) => k (d.1, d.2) else bif IntKind.wrap IntKind.i64 (x7 + 1) == 4 then Option.bind (g_AF (IntKind.wrap IntKind.i64 (x2 * 1073741824)) (IntKind.wrap IntKind.i64 (x4 * 1073741824)) x8 600000000 x9) fun (d : Int × Bool) => k (d.1, d.2) else bif IntKind.wrap IntKind.i64 (x7 + 1) == 3 then Option.bind (g_AF (IntKind.wrap IntKind.i64 (x2 * 1073741824)) (IntKind.wrap IntKind.i64 (x3 * 1073741824)) x8 600000000 x9) fun (d : Int ×
 Bool) => k (d.1, d.2) else bif IntKind.wrap IntKind.i64 (x7 + 1) == 2 then Option.bind (g_AF (IntKind.wrap IntKind.i64 (x2 * 1073741824)) (IntKind.wrap IntKind.i64 (x2 * 1073741824)) x8 600000000 x9) fun (d : Int × Bool) => k (d.1, d.2) else bif IntKind.wrap IntKind.i64 (x7 + 1) == 1 then Option.bind (g_AF (IntKind.wrap IntKind.i64 (x2 * 1073741824)) (IntKind.wrap IntKind.i64 (x1 * 1073741824)) x8 600000000 x9) fun (d : Int ×
 Bool) => k (d.1, d.2) else Option.bind (g_AF (IntKind.wrap IntKind.i64 (x2 * 1073741824)) (IntKind.wrap IntKind.i64 (x0 * 1073741824)) x8 600000000 x9) fun (d : Int × Bool) => k (d.1, d.2) else none else bif x7 == 1 then bif inR (IntKind.wrap IntKind.i64 (x7 + 1)) 7 then bif IntKind.wrap IntKind.i64 (x7 + 1) == 6 then
 Option.bind (g_AF (IntKind.wrap IntKind.i64 (x1 * 1073741824)) (IntKind.wrap IntKind.i64 (x6 * 1073741824)) x8 600000000 x9) fun (d : Int × Bool) => k (d.1, d.2) else bif IntKind.wrap IntKind.i64 (x7 + 1) == 5 then Option.bind (g_AF (IntKind.wrap IntKind.i64 (x1 * 1073741824)) (IntKind.wrap IntKind.i64 (x5 * 1073741824)) x8 600000000 x9) fun (d : Int ×
 Bool) => k (d.1, d.2) else bif IntKind.wrap IntKind.i64 (x7 + 1) == 4 then Option.bind (g_AF (IntKind.wrap IntKind.i64 (x1 * 1073741824)) (IntKind.wrap IntKind.i64 (x4 * 1073741824)) x8 600000000 x9) fun (d : Int × Bool) => k (d.1, d.2) else bif IntKind.wrap IntKind.i64 (x7 + 1) == 3 then Option.bind (g_AF (IntKind.wrap IntKind.i64 (x1 * 1073741824)) (IntKind.wrap IntKind.i64 (x3 * 1073741824)) x8 600000000 x9) fun (d : Int ×
 Bool) => k (d.1, d.2) else bif IntKind.wrap IntKind.i64 (x7 + 1) == 2 then Option.bind (g_AF (IntKind.wrap IntKind.i64 (x1 * 1073741824)) (IntKind.wrap IntKind.i64 (x2 * 1073741824)) x8 600000000 x9) fun (d : Int × Bool) => k (d.1, d.2) else bif IntKind.wrap IntKind.i64 (x7 + 1) == 1 then Option.bind (g_AF (IntKind.wrap IntKind.i64 (x1 * 1073741824)) (IntKind.wrap IntKind.i64 (x1 * 1073741824)) x8 600000000 x9) fun (d : Int ×
 Bool) => k (d.1, d.2) else Option.bind (g_AF (IntKind.wrap IntKind.i64 (x1 * 1073741824)) (IntKind.wrap IntKind.i64 (x0 * 1073741824)) x8 600000000 x9) fun (d : Int × Bool) => k (d.1, d.2) else none else bif inR (IntKind.wrap IntKind.i64 (x7 + 1)) 7 then bif IntKind.wrap IntKind.i64 (x7 + 1) == 6 then
 Option.bind (g_AF (IntKind.wrap IntKind.i64 (x0 * 1073741824)) (IntKind.wrap IntKind.i64 (x6 * 1073741824)) x8 600000000 x9) fun (d : Int × Bool) => k (d.1, d.2) else bif IntKind.wrap IntKind.i64 (x7 + 1) == 5 then Option.bind (g_AF (IntKind.wrap IntKind.i64 (x0 * 1073741824)) (IntKind.wrap IntKind.i64 (x5 * 1073741824)) x8 600000000 x9) fun (d : Int ×
 Bool) => k (d.1, d.2) else bif IntKind.wrap IntKind.i64 (x7 + 1) == 4 then Option.bind (g_AF (IntKind.wrap IntKind.i64 (x0 * 1073741824)) (IntKind.wrap IntKind.i64 (x4 * 1073741824)) x8 600000000 x9) fun (d : Int × Bool) => k (d.1, d.2) else bif IntKind.wrap IntKind.i64 (x7 + 1) == 3 then Option.bind (g_AF (IntKind.wrap IntKind.i64 (x0 * 1073741824)) (IntKind.wrap IntKind.i64 (x3 * 1073741824)) x8 600000000 x9) fun (d : Int ×
 Bool) => k (d.1, d.2) else bif IntKind.wrap IntKind.i64 (x7 + 1) == 2 then Option.bind (g_AF (IntKind.wrap IntKind.i64 (x0 * 1073741824)) (IntKind.wrap IntKind.i64 (x2 * 1073741824)) x8 600000000 x9) fun (d : Int × Bool) => k (d.1, d.2) else bif IntKind.wrap IntKind.i64 (x7 + 1) == 1 then Option.bind (g_AF (IntKind.wrap IntKind.i64 (x0 * 1073741824)) (IntKind.wrap IntKind.i64 (x1 * 1073741824)) x8 600000000 x9) fun (d : Int ×
 Bool) => k (d.1, d.2) else Option.bind (g_AF (IntKind.wrap IntKind.i64 (x0 * 1073741824)) (IntKind.wrap IntKind.i64 (x0 * 1073741824)) x8 600000000 x9) fun (d : Int × Bool) => k (d.1, d.2) else none else none
def f_Ah (x0 : Int) (x1 : Int) (x2 : Int) (x3 : Int) (x4 : Int) (x5 : Int) (x6 : Int) (x7 : Int) (x8 : Int) (x9 : Bool) : Option (Int × Bool) := K_Ah f_AF  x0 x1 x2 x3 x4 x5 x6 x7 x8 x9 some
section
open Go.Ab.Rdr
def QA_Ah := ((pair (cons (ar (ra (cons (gc (cf (fi .i64 hole))) (cons (gc (cf (fi .i64 hole))) (cons (gc (cf (fi .i64 hole))) (cons (gc (cf (fi .i64 hole))) (cons (gc (cf (fi .i64 hole))) (cons (gc (cf (fi .i64 hole))) (cons (gc (cf (fi .i64 hole))) nil))))))))) (cons (ar (rc (cptr (nat 0) (ok' (nat 0)) (nat 1)))) (cons (ar (rc (cptr (nat 1) (ok' (nat 0)) (nat 1)))) (cons (ar (rc (cptr (nat 2) (ok' (nat 0)) (nat 1)))) nil)))) (cons (cons (gc (ccl (nat 74) (nat 3) (ok' (nat 0)) (nat 1))) nil) (cons (cons (gc (cf (fi .i64 hole))) nil) (cons (cons (gc (cf (fi .i64 hole))) nil) (cons (cons (gc (cptr (nat 4) (ok' (nat 0)) (nat 1))) nil) (cons (cons (gc (cf (fb hole))) nil) nil)))))) : Rdr (List AV × List Blk) _)
end
def F_Ah (f : (Int) → (Int) → (Int) → (Int) → (Int) → (Int) → (Int) → (Int) → (Int) → (Bool) → Option (Int × Bool)) : Sem1 := fun args h => match (QA_Ah).rd (args, h) with
  | some b => .opt (f b.1.1.1 b.1.1.2.1 b.1.1.2.2.1 b.1.1.2.2.2.1 b.1.1.c4.1 b.1.1.c4.2.1 b.1.1.c4.2.2.1 b.2.2.1.1 b.2.2.2.1.1 b.c4.2.1.1) fun (d : Int × Bool) => .leaf (Res.mk (rI d.1) [Ch.keep, Ch.keep, Ch.keep, Ch.keep, Ch.set [sB d.2]] [])
  | none => .fail
theorem d_Ah (g_AF : t4E2) (x0 : Int) (x1 : Int) (x2 : Int) (x3 : Int) (x4 : Int) (x5 : Int) (x6 : Int) (x7 : Int) (x8 : Int) (x9 : Bool) : den Try.prog (envOf [(74, F_AF g_AF)]) ⟨[], [], [], [], none⟩ 200 75 [.r (.agg [.c (.f (.i .i64 x0)), .c (.f (.i .i64 x1)),
 .c (.f (.i .i64 x2)), .c (.f (.i .i64 x3)), .c (.f (.i .i64 x4)), .c (.f (.i .i64 x5)), .c (.f (.i .i64 x6))]), .r (.c (.ptr 0 (.k 0) 1)), .r (.c (.ptr 1 (.k 0) 1)), .r (.c (.ptr 2 (.k 0) 1))] [[.c (.cl 74 3 (.k 0) 1)], [.c (.f (.i .i64 x7))], [.c (.f (.i .i64 x8))], [.c (.ptr 4 (.k 0) 1)], [.c (.f (.b x9))]] = K_Ah g_AF x0 x1 x2 x3 x4 x5 x6 x7 x8 x9 (fun (d : Int ×
 Bool) => some (Res.mk (rI d.1) [Ch.keep, Ch.keep, Ch.keep, Ch.keep, Ch.set [sB d.2]] [])) := by kernel_rfl
theorem m_Ah {ρ σ : Type} (q : ρ → Option σ) (g_AF : t4E2)   (x0 : Int) (x1 : Int) (x2 : Int) (x3 : Int) (x4 : Int) (x5 : Int) (x6 : Int) (x7 : Int) (x8 : Int) (x9 : Bool) (k : (Int × Bool) → Option ρ) : (K_Ah g_AF  x0 x1 x2 x3 x4 x5 x6 x7 x8 x9 k).bind q = K_Ah g_AF  x0 x1 x2 x3 x4 x5 x6 x7 x8 x9 (fun d => (k d).bind q) := by
  simp only [K_Ah, bnd_cond, bnd_bind, bnd_none, bnd_sum]
theorem qa_Ah : ∀ b, (QA_Ah).em b = ([.r (.agg [.c (.f (.i .i64 b.1.1.1)), .c (.f (.i .i64 b.1.1.2.1)), .c (.f (.i .i64 b.1.1.2.2.1)), .c (.f (.i .i64 b.1.1.2.2.2.1)), .c (.f (.i .i64 b.1.1.c4.1)), .c (.f (.i .i64 b.1.1.c4.2.1)), .c (.f (.i .i64 b.1.1.c4.2.2.1))]), .r (.c (.ptr 0 (.k 0) 1)), .r (.c (.ptr 1 (.k 0) 1)), .r (.c (.ptr 2 (.k 0) 1))], [[.c (.cl 74 3 (.k 0) 1)], [.c (.f (.i .i64 b.2.2.1.1))], [.c (.f (.i .i64 b.2.2.2.1.1))], [.c (.ptr 4 (.k 0) 1)], [.c (.f (.b b.c4.2.1.1))]]) := fun b => by kernel_rfl
theorem e_Ah {f : (Int) → (Int) → (Int) → (Int) → (Int) → (Int) → (Int) → (Int) → (Int) → (Bool) → Option (Int × Bool)} {args : List AV} {h : List Blk} {r : Res} (hr : (F_Ah f args h).eval = some r) : ∃ x0 x1 x2 x3 x4 x5 x6 x7 x8 x9, args = [.r (.agg [.c (.f (.i .i64 x0)), .c (.f (.i .i64 x1)), .c (.f (.i .i64 x2)), .c (.f (.i .i64 x3)), .c (.f (.i .i64 x4)), .c (.f (.i .i64 x5)), .c (.f (.i .i64 x6))]), .r (.c (.ptr 0 (.k 0) 1)), .r (.c (.ptr 1 (.k 0) 1)), .r (.c (.ptr 2 (.k 0) 1))] ∧ h = [[.c (.cl 74 3 (.k 0) 1)], [.c (.f (.i .i64 x7))], [.c (.f (.i .i64 x8))], [.c (.ptr 4 (.k 0) 1)], [.c (.f (.b x9))]] ∧ (f x0 x1 x2 x3 x4 x5 x6 x7 x8 x9).bind (fun (d : Int × Bool) => some (Res.mk (rI d.1) [Ch.keep, Ch.keep, Ch.keep, Ch.keep, Ch.set [sB d.2]] [])) = some r := by
  unfold F_Ah at hr
  split at hr
  · rename_i b hb
    have e := ((QA_Ah).ok _ _ hb).trans (qa_Ah b)
    rw [opt_eval2] at hr
    exact ⟨b.1.1.1, b.1.1.2.1, b.1.1.2.2.1, b.1.1.2.2.2.1, b.1.1.c4.1, b.1.1.c4.2.1, b.1.1.c4.2.2.1, b.2.2.1.1, b.2.2.2.1.1, b.c4.2.1.1, (Prod.mk.inj e).1, (Prod.mk.inj e).2, hr⟩
  · cases hr
theorem n_Ah {σ : Type} (q : (Int × Bool) → Option σ) (x0 : Int) (x1 : Int) (x2 : Int) (x3 : Int) (x4 : Int) (x5 : Int) (x6 : Int) (x7 : Int) (x8 : Int) (x9 : Bool) : (f_Ah x0 x1 x2 x3 x4 x5 x6 x7 x8 x9).bind q = K_Ah f_AF  x0 x1 x2 x3 x4 x5 x6 x7 x8 x9 q := by
  unfold f_Ah
  exact m_Ah q f_AF   x0 x1 x2 x3 x4 x5 x6 x7 x8 x9 some
theorem s_Ah [Amb] : Sound Try.prog 75 (F_Ah f_Ah) := (inl_sound (l := [(74, F_AF f_AF)]) (.cons s_AF (.nil _)) mixed [] [] 200 (by kernel_rfl)).by (F := F_Ah f_Ah) fun args b r hr => by
  obtain ⟨x0, x1, x2, x3, x4, x5, x6, x7, x8, x9, rfl, rfl, hr1⟩ := e_Ah hr
  exact inl_eval ((d_Ah f_AF  x0 x1 x2 x3 x4 x5 x6 x7 x8 x9).trans ((n_Ah (fun (d : Int × Bool) => some (Res.mk (rI d.1) [Ch.keep, Ch.keep, Ch.keep, Ch.keep, Ch.set [sB d.2]] [])) x0 x1 x2 x3 x4 x5 x6 x7 x8 x9).symm.trans hr1))

def K_Ao {ρ : Type} (g_AH : t1E2) (g_Bc : Option Unit) (g_AF : t4E2) (g_Ah : t5E2) (g_AK : t0E2) (x0 : Int) (x1 : Int) (x2 : Int) (x3 : Bool) (k : (Int ×
 Int × Bool) → Option ρ) : Option ρ := Option.bind (g_AH x0 x1 x2) fun (d : Bool) => bif !d then k (0, 1, x3) else Option.bind g_Bc fun (d : Unit) => bif inR (if 3 < IntKind.wrap IntKind.i64 (Int.tdiv (IntKind.wrap IntKind.i64 (x0 + 900000000)) 450000000) then 3 else IntKind.wrap IntKind.i64 (Int.tdiv (IntKind.wrap IntKind.i64 (x0 + 900000000)) 450000000)) 5 then
 bif (if 3 < IntKind.wrap IntKind.i64 (Int.tdiv (IntKind.wrap IntKind.i64 (x0 + 900000000)) 450000000) then 3 else IntKind.wrap IntKind.i64 (Int.tdiv (IntKind.wrap IntKind.i64 (x0 + 900000000)) 450000000)) == 4 then Option.bind (g_Ah 1000 4000 (-3000) 500 3500 (-1200) 1000 (if 5 < IntKind.wrap IntKind.i64 (Int.tdiv (IntKind.wrap IntKind.i64 (x1 + 1800000000)) 600000000) then
 5 else IntKind.wrap IntKind.i64 (Int.tdiv (IntKind.wrap IntKind.i64 (x1 + 1800000000)) 600000000)) (IntKind.wrap IntKind.i64 (IntKind.wrap IntKind.i64 (x1 + 1800000000) - IntKind.wrap IntKind.i64 ((if 5 < IntKind.wrap IntKind.i64 (Int.tdiv (IntKind.wrap IntKind.i64 (x1 + 1800000000)) 600000000) then
 5 else IntKind.wrap IntKind.i64 (Int.tdiv (IntKind.wrap IntKind.i64 (x1 + 1800000000)) 600000000)) * 600000000))) x3) fun (d : Int × Bool) => bif inR (IntKind.wrap IntKind.i64 ((if 3 < IntKind.wrap IntKind.i64 (Int.tdiv (IntKind.wrap IntKind.i64 (x0 + 900000000)) 450000000) then 3 else IntKind.wrap IntKind.i64 (Int.tdiv (IntKind.wrap IntKind.i64 (x0 + 900000000)) 450000000)) + 1)) 5 then
 bif IntKind.wrap IntKind.i64 ((if 3 < IntKind.wrap IntKind.i64 (Int.tdiv (IntKind.wrap IntKind.i64 (x0 + 900000000)) 450000000) then 3 else IntKind.wrap IntKind.i64 (Int.tdiv (IntKind.wrap IntKind.i64 (x0 + 900000000)) 450000000)) + 1) == 4 then Option.bind (g_Ah 1000 4000 (-3000) 500 3500 (-1200) 1000 (if 5 < IntKind.wrap IntKind.i64 (Int.tdiv (IntKind.wrap IntKind.i64 (x1 + 1800000000)) 600000000) then
 5 else IntKind.wrap IntKind.i64 (Int.tdiv (IntKind.wrap IntKind.i64 (x1 + 1800000000)) 600000000)) (IntKind.wrap IntKind.i64 (IntKind.wrap IntKind.i64 (x1 + 1800000000) - IntKind.wrap IntKind.i64 ((if 5 < IntKind.wrap IntKind.i64 (Int.tdiv (IntKind.wrap IntKind.i64 (x1 + 1800000000)) 600000000) then
 5 else IntKind.wrap IntKind.i64 (Int.tdiv (IntKind.wrap IntKind.i64 (x1 + 1800000000)) 600000000)) * 600000000))) d.2) fun (d_1 : Int × Bool) => Option.bind (g_AF d.1 d_1.1 (IntKind.wrap IntKind.i64 (IntKind.wrap IntKind.i64 (x0 + 900000000) - IntKind.wrap IntKind.i64 ((if 3 < IntKind.wrap IntKind.i64 (Int.tdiv (IntKind.wrap IntKind.i64 (x0 + 900000000)) 450000000) then
 3 else IntKind.wrap IntKind.i64 (Int.tdiv (IntKind.wrap IntKind.i64 (x0 + 900000000)) 450000000)) * 450000000))) 450000000 d_1.2) fun (d : Int × Bool) => Option.bind (g_AK d.1 3373259426 19327352832000 d.2) fun (d : Int × Bool) => k (d.1, 0, d.2) else bif IntKind.wrap IntKind.i64 ((if 3 < IntKind.wrap IntKind.i64 (Int.tdiv (IntKind.wrap IntKind.i64 (x0 + 900000000)) 450000000) then
 3 else IntKind.wrap IntKind.i64 (Int.tdiv (IntKind.wrap IntKind.i64 (x0 + 900000000)) 450000000)) + 1) == 3 then Option.bind (g_Ah 500 1500 (-1700) 100 700 (-800) 500 (if 5 < IntKind.wrap IntKind.i64 (Int.tdiv (IntKind.wrap IntKind.i64 (x1 + 1800000000)) 600000000) then 5 else IntKind.wrap IntKind.i64 (Int.tdiv (IntKind.wrap IntKind.i64 (x1 + 1800000000)) 600000000)) (IntKind.wrap IntKind.i64 (IntKind.wrap IntKind.i64 (x1 + 1800000000) - IntKind.wrap IntKind.i64 ((if 5 < IntKind.wrap IntKind.i64 (Int.tdiv (IntKind.wrap IntKind.i64 (x1 + 1800000000)) 600000000) then
 5 else IntKind.wrap IntKind.i64 (Int.tdiv (IntKind.wrap IntKind.i64 (x1 + 1800000000)) 600000000)) * 600000000))) d.2) fun (d_1 : Int × Bool) => Option.bind (g_AF d.1 d_1.1 (IntKind.wrap IntKind.i64 (IntKind.wrap IntKind.i64 (x0 + 900000000) - IntKind.wrap IntKind.i64 ((if 3 < IntKind.wrap IntKind.i64 (Int.tdiv (IntKind.wrap IntKind.i64 (x0 + 900000000)) 450000000) then
 3 else IntKind.wrap IntKind.i64 (Int.tdiv (IntKind.wrap IntKind.i64 (x0 + 900000000)) 450000000)) * 450000000))) 450000000 d_1.2) fun (d : Int × Bool) => Option.bind (g_AK d.1 3373259426 19327352832000 d.2) fun (d : Int × Bool) => k (d.1, 0, d.2) else bif IntKind.wrap IntKind.i64 ((if 3 < IntKind.wrap IntKind.i64 (Int.tdiv (IntKind.wrap IntKind.i64 (x0 + 900000000)) 450000000) then
 3 else IntKind.wrap IntKind.i64 (Int.tdiv (IntKind.wrap IntKind.i64 (x0 + 900000000)) 450000000)) + 1) == 2 then Option.bind (g_Ah 950 900 (-1400) (-500) (-300) 100 950 (if 5 < IntKind.wrap IntKind.i64 (Int.tdiv (IntKind.wrap IntKind.i64 (x1 + 1800000000)) 600000000) then 5 else IntKind.wrap IntKind.i64 (Int.tdiv (IntKind.wrap IntKind.i64 (x1 + 1800000000)) 600000000)) (IntKind.wrap IntKind.i64 (IntKind.wrap IntKind.i64 (x1 + 1800000000) - IntKind.wrap IntKind.i64 ((if 5 < IntKind.wrap IntKind.i64 (Int.tdiv (IntKind.wrap IntKind.i64 (x1 + 1800000000)) 600000000) then
 5 else IntKind.wrap IntKind.i64 (Int.tdiv (IntKind.wrap IntKind.i64 (x1 + 1800000000)) 600000000)) * 600000000))) d.2) fun (d_1 : Int × Bool) => Option.bind (g_AF d.1 d_1.1 (IntKind.wrap IntKind.i64 (IntKind.wrap IntKind.i64 (x0 + 900000000) - IntKind.wrap IntKind.i64 ((if 3 < IntKind.wrap IntKind.i64 (Int.tdiv (IntKind.wrap IntKind.i64 (x0 + 900000000)) 450000000) then
 3 else IntKind.wrap IntKind.i64 (Int.tdiv (IntKind.wrap IntKind.i64 (x0 + 900000000)) 450000000)) * 450000000))) 450000000 d_1.2) fun (d : Int × Bool) => Option.bind (g_AK d.1 3373259426 19327352832000 d.2) fun (d : Int × Bool) => k (d.1, 0, d.2) else bif IntKind.wrap IntKind.i64 ((if 3 < IntKind.wrap IntKind.i64 (Int.tdiv (IntKind.wrap IntKind.i64 (x0 + 900000000)) 450000000) then
 3 else IntKind.wrap IntKind.i64 (Int.tdiv (IntKind.wrap IntKind.i64 (x0 + 900000000)) 450000000)) + 1) == 1 then Option.bind (g_Ah 2200 2500 500 (-2200) (-3800) 0 2200 (if 5 < IntKind.wrap IntKind.i64 (Int.tdiv (IntKind.wrap IntKind.i64 (x1 + 1800000000)) 600000000) then 5 else IntKind.wrap IntKind.i64 (Int.tdiv (IntKind.wrap IntKind.i64 (x1 + 1800000000)) 600000000)) (IntKind.wrap IntKind.i64 (IntKind.wrap IntKind.i64 (x1 + 1800000000) - IntKind.wrap IntKind.i64 ((if 5 < IntKind.wrap IntKind.i64 (Int.tdiv (IntKind.wrap IntKind.i64 (x1 + 1800000000)) 600000000) then
 5 else IntKind.wrap IntKind.i64 (Int.tdiv (IntKind.wrap IntKind.i64 (x1 + 1800000000)) 600000000)) * 600000000))) d.2) fun (d_1 : Int × Bool) => Option.bind (g_AF d.1 d_1.1 (IntKind.wrap IntKind.i64 (IntKind.wrap IntKind.i64 (x0 + 900000000) - IntKind.wrap IntKind.i64 ((if 3 < IntKind.wrap IntKind.i64 (Int.tdiv (IntKind.wrap IntKind.i64 (x0 + 900000000)) 450000000) then
 3 else IntKind.wrap IntKind.i64 (Int.tdiv (IntKind.wrap IntKind.i64 (x0 + 900000000)) 450000000)) * 450000000))) 450000000 d_1.2) fun (d : Int × Bool) => Option.bind (g_AK d.1 3373259426 19327352832000 d.2) fun (d : Int × Bool) => k (d.1, 0, d.2) else Option.bind (g_Ah 3000 6000 (-2000) (-1500) (-6000) (-9000) 3000 (if 5 < IntKind.wrap IntKind.i64 (Int.tdiv (IntKind.wrap IntKind.i64 (x1 + 1800000000)) 600000000) then
 5 else IntKind.wrap IntKind.i64 (Int.tdiv (IntKind.wrap IntKind.i64 (x1 + 1800000000)) 600000000)) (IntKind.wrap IntKind.i64 (IntKind.wrap IntKind.i64 (x1 + 1800000000) - IntKind.wrap IntKind.i64 ((if 5 < IntKind.wrap IntKind.i64 (Int.tdiv (IntKind.wrap IntKind.i64 (x1 + 1800000000)) 600000000) then
 5 else IntKind.wrap IntKind.i64 (Int.tdiv (IntKind.wrap IntKind.i64 (x1 + 1800000000)) 600000000)) * 600000000))) d.2) fun (d_1 : Int × Bool) => Option.bind (g_AF d.1 d_1.1 (IntKind.wrap IntKind.i64 (IntKind.wrap IntKind.i64 (x0 + 900000000) - IntKind.wrap IntKind.i64 ((if 3 < IntKind.wrap IntKind.i64 (Int.tdiv (IntKind.wrap IntKind.i64 (x0 + 900000000)) 450000000) then
 3 else IntKind.wrap IntKind.i64 (Int.tdiv (IntKind.wrap IntKind.i64 (x0 + 900000000)) 450000000)) * 450000000))) 450000000 d_1.2) fun (d : Int × Bool) => Option.bind (g_AK d.1 3373259426 19327352832000 d.2) fun (d : Int × Bool) => k (d.1, 0, d.2) else none else bif (if 3 < IntKind.wrap IntKind.i64 (Int.tdiv (IntKind.wrap IntKind.i64 (x0 + 900000000)) 450000000) then
 3 else IntKind.wrap IntKind.i64 (Int.tdiv (IntKind.wrap IntKind.i64 (x0 + 900000000)) 450000000)) == 3 then Option.bind (g_Ah 500 1500 (-1700) 100 700 (-800) 500 (if 5 < IntKind.wrap IntKind.i64 (Int.tdiv (IntKind.wrap IntKind.i64 (x1 + 1800000000)) 600000000) then 5 else IntKind.wrap IntKind.i64 (Int.tdiv (IntKind.wrap IntKind.i64 (x1 + 1800000000)) 600000000)) (IntKind.wrap IntKind.i64 (IntKind.wrap IntKind.i64 (x1 + 1800000000) - IntKind.wrap IntKind.i64 ((if 5 < IntKind.wrap IntKind.i64 (Int.tdiv (IntKind.wrap IntKind.i64 (x1 + 1800000000)) 600000000) then
 5 else IntKind.wrap IntKind.i64 (Int.tdiv (IntKind.wrap IntKind.i64 (x1 + 1800000000)) 600000000)) * 600000000))) x3) fun (d : Int × Bool) => bif inR (IntKind.wrap IntKind.i64 ((if 3 < IntKind.wrap IntKind.i64 (Int.tdiv (IntKind.wrap IntKind.i64 (x0 + 900000000)) 450000000) then 3 else IntKind.wrap IntKind.i64 (Int.tdiv (IntKind.wrap IntKind.i64 (x0 + 900000000)) 450000000)) + 1)) 5 then
 bif IntKind.wrap IntKind.i64 ((if 3 < IntKind.wrap IntKind.i64 (Int.tdiv (IntKind.wrap IntKind.i64 (x0 + 900000000)) 450000000) then 3 else IntKind.wrap IntKind.i64 (Int.tdiv (IntKind.wrap IntKind.i64 (x0 + 900000000)) 450000000)) + 1) == 4 then Option.bind (g_Ah 1000 4000 (-3000) 500 3500 (-1200) 1000 (if 5 < IntKind.wrap IntKind.i64 (Int.tdiv (IntKind.wrap IntKind.i64 (x1 + 1800000000)) 600000000) then
 5 else IntKind.wrap IntKind.i64 (Int.tdiv (IntKind.wrap IntKind.i64 (x1 + 1800000000)) 600000000)) (IntKind.wrap IntKind.i64 (IntKind.wrap IntKind.i64 (x1 + 1800000000) - IntKind.wrap IntKind.i64 ((if 5 < IntKind.wrap IntKind.i64 (Int.tdiv (IntKind.wrap IntKind.i64 (x1 + 1800000000)) 600000000) then
 5 else IntKind.wrap IntKind.i64 (Int.tdiv (IntKind.wrap IntKind.i64 (x1 + 1800000000)) 600000000)) * 600000000))) d.2) fun (d_1 : Int × Bool) => Option.bind (g_AF d.1 d_1.1 (IntKind.wrap IntKind.i64 (IntKind.wrap IntKind.i64 (x0 + 900000000) - IntKind.wrap IntKind.i64 ((if 3 < IntKind.wrap IntKind.i64 (Int.tdiv (IntKind.wrap IntKind.i64 (x0 + 900000000)) 450000000) then
 3 else IntKind.wrap IntKind.i64 (Int.tdiv (IntKind.wrap IntKind.i64 (x0 + 900000000)) 450000000)) * 450000000))) 450000000 d_1.2) fun (d : Int × Bool) => Option.bind (g_AK d.1 3373259426 19327352832000 d.2) fun (d : Int × Bool) => k (d.1, 0, d.2) else bif IntKind.wrap IntKind.i64 ((if 3 < IntKind.wrap IntKind.i64 (Int.tdiv (IntKind.wrap IntKind.i64 (x0 + 900000000)) 450000000) then
 3 else IntKind.wrap IntKind.i64 (Int.tdiv (IntKind.wrap IntKind.i64 (x0 + 900000000)) 450000000)) + 1) == 3 then Option.bind (g_Ah 500 1500 (-1700) 100 700 (-800) 500 (if 5 < IntKind.wrap IntKind.i64 (Int.tdiv (IntKind.wrap IntKind.i64 (x1 + 1800000000)) 600000000) then 5 else IntKind.wrap IntKind.i64 (Int.tdiv (IntKind.wrap IntKind.i64 (x1 + 1800000000)) 600000000)) (IntKind.wrap IntKind.i64 (IntKind.wrap IntKind.i64 (x1 + 1800000000) - IntKind.wrap IntKind.i64 ((if 5 < IntKind.wrap IntKind.i64 (Int.tdiv (IntKind.wrap IntKind.i64 (x1 + 1800000000)) 600000000) then
 5 else IntKind.wrap IntKind.i64 (Int.tdiv (IntKind.wrap IntKind.i64 (x1 + 1800000000)) 600000000)) * 600000000))) d.2) fun (d_1 : Int × Bool) => Option.bind (g_AF d.1 d_1.1 (IntKind.wrap IntKind.i64 (IntKind.wrap IntKind.i64 (x0 + 900000000) - IntKind.wrap IntKind.i64 ((if 3 < IntKind.wrap IntKind.i64 (Int.tdiv (IntKind.wrap IntKind.i64 (x0 + 900000000)) 450000000) then
 3 else IntKind.wrap IntKind.i64 (Int.tdiv (IntKind.wrap IntKind.i64 (x0 + 900000000)) 450000000)) * 450000000))) 450000000 d_1.2) fun (d : Int × Bool) => Option.bind (g_AK d.1 3373259426 19327352832000 d.2) fun (d : Int × Bool) => k (d.1, 0, d.2) else bif IntKind.wrap IntKind.i64 ((if 3 < IntKind.wrap IntKind.i64 (Int.tdiv (IntKind.wrap IntKind.i64 (x0 + 900000000)) 450000000) then
 3 else IntKind.wrap IntKind.i64 (Int.tdiv (IntKind.wrap IntKind.i64 (x0 + 900000000)) 450000000)) + 1) == 2 then Option.bind (g_Ah 950 900 (-1400) (-500) (-300) 100 950 (if 5 < IntKind.wrap IntKind.i64 (Int.tdiv (IntKind.wrap IntKind.i64 (x1 + 1800000000)) 600000000) then 5 else IntKind.wrap IntKind.i64 (Int.tdiv (IntKind.wrap IntKind.i64 (x1 + 1800000000)) 600000000)) (IntKind.wrap IntKind.i64 (IntKind.wrap IntKind.i64 (x1 + 1800000000) - IntKind.wrap IntKind.i64 ((if 5 < IntKind.wrap IntKind.i64 (Int.tdiv (IntKind.wrap IntKind.i64 (x1 + 1800000000)) 600000000) then
 5 else IntKind.wrap IntKind.i64 (Int.tdiv (IntKind.wrap IntKind.i64 (x1 + 1800000000)) 600000000)) * 600000000))) d.2) fun (d_1 : Int × Bool) => Option.bind (g_AF d.1 d_1.1 (IntKind.wrap IntKind.i64 (IntKind.wrap IntKind.i64 (x0 + 900000000) - IntKind.wrap IntKind.i64 ((if 3 < IntKind.wrap IntKind.i64 (Int.tdiv (IntKind.wrap IntKind.i64 (x0 + 900000000)) 450000000) then
 3 else IntKind.wrap IntKind.i64 (Int.tdiv (IntKind.wrap IntKind.i64 (x0 + 900000000)) 450000000)) * 450000000))) 450000000 d_1.2) fun (d : Int × Bool) => Option.bind (g_AK d.1 3373259426 19327352832000 d.2) fun (d : Int × Bool) => k (d.1, 0, d.2) else bif IntKind.wrap IntKind.i64 ((if 3 < IntKind.wrap IntKind.i64 (Int.tdiv (IntKind.wrap IntKind.i64 (x0 + 900000000)) 450000000) then
 3 else IntKind.wrap IntKind.i64 (Int.tdiv (IntKind.wrap IntKind.i64 (x0 + 900000000)) 450000000)) + 1) == 1 then Option.bind (g_Ah 2200 2500 500 (-2200) (-3800) 0 2200 (if 5 < IntKind.wrap IntKind.i64 (Int.tdiv (IntKind.wrap IntKind.i64 (x1 + 1800000000)) 600000000) then 5 else IntKind.wrap IntKind.i64 (Int.tdiv (IntKind.wrap IntKind.i64 (x1 + 1800000000)) 600000000)) (IntKind.wrap IntKind.i64 (IntKind.wrap IntKind.i64 (x1 + 1800000000) - IntKind.wrap IntKind.i64 ((if 5 < IntKind.wrap IntKind.i64 (Int.tdiv (IntKind.wrap IntKind.i64 (x1 + 1800000000)) 600000000) then
 5 else IntKind.wrap IntKind.i64 (Int.tdiv (IntKind.wrap IntKind.i64 (x1 + 1800000000)) 600000000)) * 600000000))) d.2) fun (d_1 : Int × Bool) => Option.bind (g_AF d.1 d_1.1 (IntKind.wrap IntKind.i64 (IntKind.wrap IntKind.i64 (x0 + 900000000) - IntKind.wrap IntKind.i64 ((if 3 < IntKind.wrap IntKind.i64 (Int.tdiv (IntKind.wrap IntKind.i64 (x0 + 900000000)) 450000000) then
 3 else IntKind.wrap IntKind.i64 (Int.tdiv (IntKind.wrap IntKind.i64 (x0 + 900000000)) 450000000)) * 450000000))) 450000000 d_1.2) fun (d : Int × Bool) => Option.bind (g_AK d.1 3373259426 19327352832000 d.2) fun (d : Int × Bool) => k (d.1, 0, d.2) else Option.bind (g_Ah 3000 6000 (-2000) (-1500) (-6000) (-9000) 3000 (if 5 < IntKind.wrap IntKind.i64 (Int.tdiv (IntKind.wrap IntKind.i64 (x1 + 1800000000)) 600000000) then
 5 else IntKind.wrap IntKind.i64 (Int.tdiv (IntKind.wrap IntKind.i64 (x1 + 1800000000)) 600000000)) (IntKind.wrap IntKind.i64 (IntKind.wrap IntKind.i64 (x1 + 1800000000) - IntKind.wrap IntKind.i64 ((if 5 < IntKind.wrap IntKind.i64 (Int.tdiv (IntKind.wrap IntKind.i64 (x1 + 1800000000)) 600000000) then
 5 else IntKind.wrap IntKind.i64 (Int.tdiv (IntKind.wrap IntKind.i64 (x1 + 1800000000)) 600000000)) * 600000000))) d.2) fun (d_1 : Int × Bool) => Option.bind (g_AF d.1 d_1.1 (IntKind.wrap IntKind.i64 (IntKind.wrap IntKind.i64 (x0 + 900000000) - IntKind.wrap IntKind.i64 ((if 3 < IntKind.wrap IntKind.i64 (Int.tdiv (IntKind.wrap IntKind.i64 (x0 + 900000000)) 450000000) then
 3 else IntKind.wrap IntKind.i64 (Int.tdiv (IntKind.wrap IntKind.i64 (x0 + 900000000)) 450000000)) * 450000000))) 450000000 d_1.2) fun (d : Int × Bool) => Option.bind (g_AK d.1 3373259426 19327352832000 d.2) fun (d : Int × Bool) => k (d.1, 0, d.2) else none else bif (if 3 < IntKind.wrap IntKind.i64 (Int.tdiv (IntKind.wrap IntKind.i64 (x0 + 900000000)) 450000000) then
 3 else IntKind.wrap IntKind.i64 (Int.tdiv (IntKind.wrap IntKind.i64 (x0 + 900000000)) 450000000)) == 2 then Option.bind (g_Ah 950 900 (-1400) (-500) (-300) 100 950 (if 5 < IntKind.wrap IntKind.i64 (Int.tdiv (IntKind.wrap IntKind.i64 (x1 + 1800000000)) 600000000) then 5 else IntKind.wrap IntKind.i64 (Int.tdiv (IntKind.wrap IntKind.i64 (x1 + 1800000000)) 600000000)) (IntKind.wrap IntKind.i64 (IntKind.wrap IntKind.i64 (x1 + 1800000000) - IntKind.wrap IntKind.i64 ((if 5 < IntKind.wrap IntKind.i64 (Int.tdiv (IntKind.wrap IntKind.i64 (x1 + 1800000000)) 600000000) then
 5 else IntKind.wrap IntKind.i64 (Int.tdiv (IntKind.wrap IntKind.i64 (x1 + 1800000000)) 600000000)) * 600000000))) x3) fun (d : Int × Bool) => bif inR (IntKind.wrap IntKind.i64 ((if 3 < IntKind.wrap IntKind.i64 (Int.tdiv (IntKind.wrap IntKind.i64 (x0 + 900000000)) 450000000) then 3 else IntKind.wrap IntKind.i64 (Int.tdiv (IntKind.wrap IntKind.i64 (x0 + 900000000)) 450000000)) + 1)) 5 then
 bif IntKind.wrap IntKind.i64 ((if 3 < IntKind.wrap IntKind.i64 (Int.tdiv (IntKind.wrap IntKind.i64 (x0 + 900000000)) 450000000) then 3 else IntKind.wrap IntKind.i64 (Int.tdiv (IntKind.wrap IntKind.i64 (x0 + 900000000)) 450000000)) + 1) == 4 then Option.bind (g_Ah 1000 4000 (-3000) 500 3500 (-1200) 1000 (if 5 < IntKind.wrap IntKind.i64 (Int.tdiv (IntKind.wrap IntKind.i64 (x1 + 1800000000)) 600000000) then
 5 else IntKind.wrap IntKind.i64 (Int.tdiv (IntKind.wrap IntKind.i64 (x1 + 1800000000)) 600000000)) (IntKind.wrap IntKind.i64 (IntKind.wrap IntKind.i64 (x1 + 1800000000) - IntKind.wrap IntKind.i64 ((if 5 < IntKind.wrap IntKind.i64 (Int.tdiv (IntKind.wrap IntKind.i64 (x1 + 1800000000)) 600000000) then
 5 else IntKind.wrap IntKind.i64 (Int.tdiv (IntKind.wrap IntKind.i64 (x1 + 1800000000)) 600000000)) * 600000000))) d.2) fun (d_1 : Int × Bool) => Option.bind (g_AF d.1 d_1.1 (IntKind.wrap IntKind.i64 (IntKind.wrap IntKind.i64 (x0 + 900000000) - IntKind.wrap IntKind.i64 ((if 3 < IntKind.wrap IntKind.i64 (Int.tdiv (IntKind.wrap IntKind.i64 (x0 + 900000000)) 450000000) then
 3 else IntKind.wrap IntKind.i64 (Int.tdiv (IntKind.wrap IntKind.i64 (x0 + 900000000)) 450000000)) * 450000000))) 450000000 d_1.2) fun (d : Int × Bool) => Option.bind (g_AK d.1 3373259426 19327352832000 d.2) fun (d : Int × Bool) => k (d.1, 0, d.2) else bif IntKind.wrap IntKind.i64 ((if 3 < IntKind.wrap IntKind.i64 (Int.tdiv (IntKind.wrap IntKind.i64 (x0 + 900000000)) 450000000) then
 3 else IntKind.wrap IntKind.i64 (Int.tdiv (IntKind.wrap IntKind.i64 (x0 + 900000000)) 450000000)) + 1) == 3 then Option.bind (g_Ah 500 1500 (-1700) 100 700 (-800) 500 (if 5 < IntKind.wrap IntKind.i64 (Int.tdiv (IntKind.wrap IntKind.i64 (x1 + 1800000000)) 600000000) then 5 else IntKind.wrap IntKind.i64 (Int.tdiv (IntKind.wrap IntKind.i64 (x1 + 1800000000)) 600000000)) (IntKind.wrap IntKind.i64 (IntKind.wrap IntKind.i64 (x1 + 1800000000) - IntKind.wrap IntKind.i64 ((if 5 < IntKind.wrap IntKind.i64 (Int.tdiv (IntKind.wrap IntKind.i64 (x1 + 1800000000)) 600000000) then
 5 else IntKind.wrap IntKind.i64 (Int.tdiv (IntKind.wrap IntKind.i64 (x1 + 1800000000)) 600000000)) * 600000000))) d.2) fun (d_1 : Int × Bool) => Option.bind (g_AF d.1 d_1.1 (IntKind.wrap IntKind.i64 (IntKind.wrap IntKind.i64 (x0 + 900000000) - IntKind.wrap IntKind.i64 ((if 3 < IntKind.wrap IntKind.i64 (Int.tdiv (IntKind.wrap IntKind.i64 (x0 + 900000000)) 450000000) then
 3 else IntKind.wrap IntKind.i64 (Int.tdiv (IntKind.wrap IntKind.i64 (x0 + 900000000)) 450000000)) * 450000000))) 450000000 d_1.2) fun (d : Int × Bool) => Option.bind (g_AK d.1 3373259426 19327352832000 d.2) fun (d : Int × Bool) => k (d.1, 0, d.2) else bif IntKind.wrap IntKind.i64 ((if 3 < IntKind.wrap IntKind.i64 (Int.tdiv (IntKind.wrap IntKind.i64 (x0 + 900000000)) 450000000) then
 3 else IntKind.wrap IntKind.i64 (Int.tdiv (IntKind.wrap IntKind.i64 (x0 + 900000000)) 450000000)) + 1) == 2 then Option.bind (g_Ah 950 900 (-1400) (-500) (-300) 100 950 (if 5 < IntKind.wrap IntKind.i64 (Int.tdiv (IntKind.wrap IntKind.i64 (x1 + 1800000000)) 600000000) then 5 else IntKind.wrap IntKind.i64 (Int.tdiv (IntKind.wrap IntKind.i64 (x1 + 1800000000)) 600000000)) (IntKind.wrap IntKind.i64 (IntKind.wrap IntKind.i64 (x1 + 1800000000) - IntKind.wrap IntKind.i64 ((if 5 < IntKind.wrap IntKind.i64 (Int.tdiv (IntKind.wrap IntKind.i64 (x1 + 1800000000)) 600000000) then
 5 else IntKind.wrap IntKind.i64 (Int.tdiv (IntKind.wrap IntKind.i64 (x1 + 1800000000)) 600000000)) * 600000000))) d.2) fun (d_1 : Int × Bool) => Option.bind (g_AF d.1 d_1.1 (IntKind.wrap IntKind.i64 (IntKind.wrap IntKind.i64 (x0 + 900000000) - IntKind.wrap IntKind.i64 ((if 3 < IntKind.wrap IntKind.i64 (Int.tdiv (IntKind.wrap IntKind.i64 (x0 + 900000000)) 450000000) then
 3 else IntKind.wrap IntKind.i64 (Int.tdiv (IntKind.wrap IntKind.i64 (x0 + 900000000)) 450000000)) * 450000000))) 450000000 d_1.2) fun (d : Int × Bool) => Option.bind (g_AK d.1 3373259426 19327352832000 d.2) fun (d : Int × Bool) => k (d.1, 0, d.2) else bif IntKind.wrap IntKind.i64 ((if 3 < IntKind.wrap IntKind.i64 (Int.tdiv (IntKind.wrap IntKind.i64 (x0 + 900000000)) 450000000) then
 3 else IntKind.wrap IntKind.i64 (Int.tdiv (IntKind.wrap IntKind.i64 (x0 + 900000000)) 450000000)) + 1) == 1 then Option.bind (g_Ah 2200 2500 500 (-2200) (-3800) 0 2200 (if 5 < IntKind.wrap IntKind.i64 (Int.tdiv (IntKind.wrap IntKind.i64 (x1 + 1800000000)) 600000000) then 5 else IntKind.wrap IntKind.i64 (Int.tdiv (IntKind.wrap IntKind.i64 (x1 + 1800000000)) 600000000)) (IntKind.wrap IntKind.i64 (IntKind.wrap IntKind.i64 (x1 + 1800000000) - IntKind.wrap IntKind.i64 ((if 5 < IntKind.wrap IntKind.i64 (Int.tdiv (IntKind.wrap IntKind.i64 (x1 + 1800000000)) 600000000) then
 5 else IntKind.wrap IntKind.i64 (Int.tdiv (IntKind.wrap IntKind.i64 (x1 + 1800000000)) 600000000)) * 600000000))) d.2) fun (d_1 : Int × Bool) => Option.bind (g_AF d.1 d_1.1 (IntKind.wrap IntKind.i64 (IntKind.wrap IntKind.i64 (x0 + 900000000) - IntKind.wrap IntKind.i64 ((if 3 < IntKind.wrap IntKind.i64 (Int.tdiv (IntKind.wrap IntKind.i64 (x0 + 900000000)) 450000000) then
 3 else IntKind.wrap IntKind.i64 (Int.tdiv (IntKind.wrap IntKind.i64 (x0 + 900000000)) 450000000)) * 450000000))) 450000000 d_1.2) fun (d : Int × Bool) => Option.bind (g_AK d.1 3373259426 19327352832000 d.2) fun (d : Int × Bool) => k (d.1, 0, d.2) else Option.bind (g_Ah 3000 6000 (-2000) (-1500) (-6000) (-9000) 3000 (if 5 < IntKind.wrap IntKind.i64 (Int.tdiv (IntKind.wrap IntKind.i64 (x1 + 1800000000)) 600000000) then
 5 else IntKind.wrap IntKind.i64 (Int.tdiv (IntKind.wrap IntKind.i64 (x1 + 1800000000)) 600000000)) (IntKind.wrap IntKind.i64 (IntKind.wrap IntKind.i64 (x1 + 1800000000) - IntKind.wrap IntKind.i64 ((if 5 < IntKind.wrap IntKind.i64 (Int.tdiv (IntKind.wrap IntKind.i64 (x1 + 1800000000)) 600000000) then
 5 else IntKind.wrap IntKind.i64 (Int.tdiv (IntKind.wrap IntKind.i64 (x1 + 1800000000)) 600000000)) * 600000000))) d.2) fun (d_1 : Int × Bool) => Option.bind (g_AF d.1 d_1.1 (IntKind.wrap IntKind.i64 (IntKind.wrap IntKind.i64 (x0 + 900000000) - IntKind.wrap IntKind.i64 ((if 3 < IntKind.wrap IntKind.i64 (Int.tdiv (IntKind.wrap IntKind.i64 (x0 + 900000000)) 450000000) then
 3 else IntKind.wrap IntKind.i64 (Int.tdiv (IntKind.wrap IntKind.i64 (x0 + 900000000)) 450000000)) * 450000000))) 450000000 d_1.2) fun (d : Int × Bool) => Option.bind (g_AK d.1 3373259426 19327352832000 d.2) fun (d : Int × Bool) => k (d.1, 0, d.2) else none else bif (if 3 < IntKind.wrap IntKind.i64 (Int.tdiv (IntKind.wrap IntKind.i64 (x0 + 900000000)) 450000000) then
 3 else IntKind.wrap IntKind.i64 (Int.tdiv (IntKind.wrap IntKind.i64 (x0 + 900000000)) 450000000)) == 1 then Option.bind (g_Ah 2200 2500 500 (-2200) (-3800) 0 2200 (if 5 < IntKind.wrap IntKind.i64 (Int.tdiv (IntKind.wrap IntKind.i64 (x1 + 1800000000)) 600000000) then 5 else IntKind.wrap IntKind.i64 (Int.tdiv (IntKind.wrap IntKind.i64 (x1 + 1800000000)) 600000000)) (IntKind.wrap IntKind.i64 (IntKind.wrap IntKind.i64 (x1 + 1800000000) - IntKind.wrap IntKind.i64 ((if 5 < IntKind.wrap IntKind.i64 (Int.tdiv (IntKind.wrap IntKind.i64 (x1 + 1800000000)) 600000000) then
 5 else IntKind.wrap IntKind.i64 (Int.tdiv (IntKind.wrap IntKind.i64 (x1 + 1800000000)) 600000000)) * 600000000))) x3) fun (d : Int × Bool) => bif inR (IntKind.wrap IntKind.i64 ((if 3 < IntKind.wrap IntKind.i64 (Int.tdiv (IntKind.wrap IntKind.i64 (x0 + 900000000)) 450000000) then 3 else IntKind.wrap IntKind.i64 (Int.tdiv (IntKind.wrap IntKind.i64 (x0 + 900000000)) 450000000)) + 1)) 5 then
 bif IntKind.wrap IntKind.i64 ((if 3 < IntKind.wrap IntKind.i64 (Int.tdiv (IntKind.wrap IntKind.i64 (x0 + 900000000)) 450000000) then 3 else IntKind.wrap IntKind.i64 (Int.tdiv (IntKind.wrap IntKind.i64 (x0 + 900000000)) 450000000)) + 1) == 4 then Option.bind (g_Ah 1000 4000 (-3000) 500 3500 (-1200) 1000 (if 5 < IntKind.wrap IntKind.i64 (Int.tdiv (IntKind.wrap IntKind.i64 (x1 + 1800000000)) 600000000) then
 5 else IntKind.wrap IntKind.i64 (Int.tdiv (IntKind.wrap IntKind.i64 (x1 + 1800000000)) 600000000)) (IntKind.wrap IntKind.i64 (IntKind.wrap IntKind.i64 (x1 + 1800000000) - IntKind.wrap IntKind.i64 ((if 5 < IntKind.wrap IntKind.i64 (Int.tdiv (IntKind.wrap IntKind.i64 (x1 + 1800000000)) 600000000) then
 5 else IntKind.wrap IntKind.i64 (Int.tdiv (IntKind.wrap IntKind.i64 (x1 + 1800000000)) 600000000)) * 600000000))) d.2) fun (d_1 : Int × Bool) => Option.bind (g_AF d.1 d_1.1 (IntKind.wrap IntKind.i64 (IntKind.wrap IntKind.i64 (x0 + 900000000) - IntKind.wrap IntKind.i64 ((if 3 < IntKind.wrap IntKind.i64 (Int.tdiv (IntKind.wrap IntKind.i64 (x0 + 900000000)) 450000000) then
 3 else IntKind.wrap IntKind.i64 (Int.tdiv (IntKind.wrap IntKind.i64 (x0 + 900000000)) 450000000)) * 450000000))) 450000000 d_1.2) fun (d : Int × Bool) => Option.bind (g_AK d.1 3373259426 19327352832000 d.2) fun (d : Int × Bool) => k (d.1, 0, d.2) else bif IntKind.wrap IntKind.i64 ((if 3 < IntKind.wrap IntKind.i64 (Int.tdiv (IntKind.wrap IntKind.i64 (x0 + 900000000)) 450000000) then
 3 else IntKind.wrap IntKind.i64 (Int.tdiv (IntKind.wrap IntKind.i64 (x0 + 900000000)) 450000000)) + 1) == 3 then Option.bind (g_Ah 500 1500 (-1700) 100 700 (-800) 500 (if 5 < IntKind.wrap IntKind.i64 (Int.tdiv (IntKind.wrap IntKind.i64 (x1 + 1800000000)) 600000000) then 5 else IntKind.wrap IntKind.i64 (Int.tdiv (IntKind.wrap IntKind.i64 (x1 + 1800000000)) 600000000)) (IntKind.wrap IntKind.i64 (IntKind.wrap IntKind.i64 (x1 + 1800000000) - IntKind.wrap IntKind.i64 ((if 5 < IntKind.wrap IntKind.i64 (Int.tdiv (IntKind.wrap IntKind.i64 (x1 + 1800000000)) 600000000) then
 5 else IntKind.wrap IntKind.i64 (Int.tdiv (IntKind.wrap IntKind.i64 (x1 + 1800000000)) 600000000)) * 600000000))) d.2) fun (d_1 : Int × Bool) => Option.bind (g_AF d.1 d_1.1 (IntKind.wrap IntKind.i64 (IntKind.wrap IntKind.i64 (x0 + 900000000) - IntKind.wrap IntKind.i64 ((if 3 < IntKind.wrap IntKind.i64 (Int.tdiv (IntKind.wrap IntKind.i64 (x0 + 900000000)) 450000000) then
 3 else IntKind.wrap IntKind.i64 (Int.tdiv (IntKind.wrap IntKind.i64 (x0 + 900000000)) 450000000)) * 450000000))) 450000000 d_1.2) fun (d : Int × Bool) => Option.bind (g_AK d.1 3373259426 19327352832000 d.2) fun (d : Int × Bool) => k (d.1, 0, d.2) else bif IntKind.wrap IntKind.i64 ((if 3 < IntKind.wrap IntKind.i64 (Int.tdiv (IntKind.wrap IntKind.i64 (x0 + 900000000)) 450000000) then
 3 else IntKind.wrap IntKind.i64 (Int.tdiv (IntKind.wrap IntKind.i64 (x0 + 900000000)) 450000000)) + 1) == 2 then Option.bind (g_Ah 950 900 (-1400) (-500) (-300) 100 950 (if 5 < IntKind.wrap IntKind.i64 (Int.tdiv (IntKind.wrap IntKind.i64 (x1 + 1800000000)) 600000000) then 5 else IntKind.wrap IntKind.i64 (Int.tdiv (IntKind.wrap IntKind.i64 (x1 + 1800000000)) 600000000)) (IntKind.wrap IntKind.i64 (IntKind.wrap IntKind.i64 (x1 + 1800000000) - IntKind.wrap IntKind.i64 ((if 5 < IntKind.wrap IntKind.i64 (Int.tdiv (IntKind.wrap IntKind.i64 (x1 + 1800000000)) 600000000) then
 5 else IntKind.wrap IntKind.i64 (Int.tdiv (IntKind.wrap IntKind.i64 (x1 + 1800000000)) 600000000)) * 600000000))) d.2) fun (d_1 : Int × Bool) => Option.bind (g_AF d.1 d_1.1 (IntKind.wrap IntKind.i64 (IntKind.wrap IntKind.i64 (x0 + 900000000) - IntKind.wrap IntKind.i64 ((if 3 < IntKind.wrap IntKind.i64 (Int.tdiv (IntKind.wrap IntKind.i64 (x0 + 900000000)) 450000000) then
 3 else IntKind.wrap IntKind.i64 (Int.tdiv (IntKind.wrap IntKind.i64 (x0 + 900000000)) 450000000)) * 450000000))) 450000000 d_1.2) fun (d : Int × Bool) => Option.bind (g_AK d.1 3373259426 19327352832000 d.2) fun (d : Int × Bool) => k (d.1, 0, d.2) else bif IntKind.wrap IntKind.i64 ((if 3 < IntKind.wrap IntKind.i64 (Int.tdiv (IntKind.wrap IntKind.i64 (x0 + 900000000)) 450000000) then
 3 else IntKind.wrap IntKind.i64 (Int.tdiv (IntKind.wrap IntKind.i64 (x0 + 900000000)) 450000000)) + 1) == 1 then Option.bind (g_Ah 2200 2500 500 (-2200) (-3800) 0 2200 (if 5 < IntKind.wrap IntKind.i64 (Int.tdiv (IntKind.wrap IntKind.i64 (x1 + 1800000000)) 600000000) then 5 else IntKind.wrap IntKind.i64 (Int.tdiv (IntKind.wrap IntKind.i64 (x1 + 1800000000)) 600000000)) (IntKind.wrap IntKind.i64 (IntKind.wrap IntKind.i64 (x1 + 1800000000) - IntKind.wrap IntKind.i64 ((if 5 < IntKind.wrap IntKind.i64 (Int.tdiv (IntKind.wrap IntKind.i64 (x1 + 1800000000)) 600000000) then
 5 else IntKind.wrap IntKind.i64 (Int.tdiv (IntKind.wrap IntKind.i64 (x1 + 1800000000)) 600000000)) * 600000000))) d.2) fun (d_1 : Int × Bool) => Option.bind (g_AF d.1 d_1.1 (IntKind.wrap IntKind.i64 (IntKind.wrap IntKind.i64 (x0 + 900000000) - IntKind.wrap IntKind.i64 ((if 3 < IntKind.wrap IntKind.i64 (Int.tdiv (IntKind.wrap IntKind.i64 (x0 + 900000000)) 450000000) then
 3 else IntKind.wrap IntKind.i64 (Int.tdiv (IntKind.wrap IntKind.i64 (x0 + 900000000)) 450000000)) * 450000000))) 450000000 d_1.2) fun (d : Int × Bool) => Option.bind (g_AK d.1 3373259426 19327352832000 d.2) fun (d : Int × Bool) => k (d.1, 0, d.2) else Option.bind (g_Ah 3000 6000 (-2000) (-1500) (-6000) (-9000) 3000 (if 5 < IntKind.wrap IntKind.i64 (Int.tdiv (IntKind.wrap IntKind.i64 (x1 + 1800000000)) 600000000) then
 5 else IntKind.wrap IntKind.i64 (Int.tdiv (IntKind.wrap IntKind.i64 (x1 + 1800000000)) 600000000)) (IntKind.wrap IntKind.i64 (IntKind.wrap IntKind.i64 (x1 + 1800000000) - IntKind.wrap IntKind.i64 ((if 5 < IntKind.wrap IntKind.i64 (Int.tdiv (IntKind.wrap IntKind.i64 (x1 + 1800000000)) 600000000) then
 5 else IntKind.wrap IntKind.i64 (Int.tdiv (IntKind.wrap IntKind.i64 (x1 + 1800000000)) 600000000)) * 600000000))) d.2) fun (d_1 : Int × Bool) => Option.bind (g_AF d.1 d_1.1 (IntKind.wrap IntKind.i64 (IntKind.wrap IntKind.i64 (x0 + 900000000) - IntKind.wrap IntKind.i64 ((if 3 < IntKind.wrap IntKind.i64 (Int.tdiv (IntKind.wrap IntKind.i64 (x0 + 900000000)) 450000000) then
 3 else IntKind.wrap IntKind.i64 (Int.tdiv (IntKind.wrap IntKind.i64 (x0 + 900000000)) 450000000)) * 450000000))) 450000000 d_1.2) fun (d : Int × Bool) => Option.bind (g_AK d.1 3373259426 19327352832000 d.2) fun (d : Int × Bool) => k (d.1, 0, d.2) else none else Option.bind (g_Ah 3000 6000 (-2000) (-1500) (-6000) (-9000) 3000 (if 5 < IntKind.wrap IntKind.i64 (Int.tdiv (IntKind.wrap IntKind.i64 (x1 + 1800000000)) 600000000) then
 5 else IntKind.wrap IntKind.i64 (Int.tdiv (IntKind.wrap IntKind.i64 (x1 + 1800000000)) 600000000)) (IntKind.wrap IntKind.i64 (IntKind.wrap IntKind.i64 (x1 + 1800000000) - IntKind.wrap IntKind.i64 ((if 5 < IntKind.wrap IntKind.i64 (Int.tdiv (IntKind.wrap IntKind.i64 (x1 + 1800000000)) 600000000) then
 5 else IntKind.wrap IntKind.i64 (Int.tdiv (IntKind.wrap IntKind.i64 (x1 + 1800000000)) 600000000)) * 600000000))) x3) fun (d : Int × Bool) => bif inR (IntKind.wrap IntKind.i64 ((if 3 < IntKind.wrap IntKind.i64 (Int.tdiv (IntKind.wrap IntKind.i64 (x0 + 900000000)) 450000000) then 3 else IntKind.wrap IntKind.i64 (Int.tdiv (IntKind.wrap IntKind.i64 (x0 + 900000000)) 450000000)) + 1)) 5 then
 bif IntKind.wrap IntKind.i64 ((if 3 < IntKind.wrap IntKind.i64 (Int.tdiv (IntKind.wrap IntKind.i64 (x0 + 900000000)) 450000000) then 3 else IntKind.wrap IntKind.i64 (Int.tdiv (IntKind.wrap IntKind.i64 (x0 + 900000000)) 450000000)) + 1) == 4 then Option.bind (g_Ah 1000 4000 (-3000) 500 3500 (-1200) 1000 (if 5 < IntKind.wrap IntKind.i64 (Int.tdiv (IntKind.wrap IntKind.i64 (x1 + 1800000000)) 600000000) then
 5 else IntKind.wrap IntKind.i64 (Int.tdiv (IntKind.wrap IntKind.i64 (x1 + 1800000000)) 600000000)) (IntKind.wrap IntKind.i64 (IntKind.wrap IntKind.i64 (x1 + 1800000000) - IntKind.wrap IntKind.i64 ((if 5 < IntKind.wrap IntKind.i64 (Int.tdiv (IntKind.wrap IntKind.i64 (x1 + 1800000000)) 600000000) then
 5 else IntKind.wrap IntKind.i64 (Int.tdiv (IntKind.wrap IntKind.i64 (x1 + 1800000000)) 600000000)) * 600000000))) d.2) fun (d_1 : Int × Bool) => Option.bind (g_AF d.1 d_1.1 (IntKind.wrap IntKind.i64 (IntKind.wrap IntKind.i64 (x0 + 900000000) - IntKind.wrap IntKind.i64 ((if 3 < IntKind.wrap IntKind.i64 (Int.tdiv (IntKind.wrap IntKind.i64 (x0 + 900000000)) 450000000) then
 3 else IntKind.wrap IntKind.i64 (Int.tdiv (IntKind.wrap IntKind.i64 (x0 + 900000000)) 450000000)) * 450000000))) 450000000 d_1.2) fun (d : Int × Bool) => Option.bind (g_AK d.1 3373259426 19327352832000 d.2) fun (d : Int × Bool) => k (d.1, 0, d.2) else bif IntKind.wrap IntKind.i64 ((if 3 < IntKind.wrap IntKind.i64 (Int.tdiv (IntKind.wrap IntKind.i64 (x0 + 900000000)) 450000000) then
 3 else IntKind.wrap IntKind.i64 (Int.tdiv (IntKind.wrap IntKind.i64 (x0 + 900000000)) 450000000)) + 1) == 3 then Option.bind (g_Ah 500 1500 (-1700) 100 700 (-800) 500 (if 5 < IntKind.wrap IntKind.i64 (Int.tdiv (IntKind.wrap IntKind.i64 (x1 + 1800000000)) 600000000) then 5 else IntKind.wrap IntKind.i64 (Int.tdiv (IntKind.wrap IntKind.i64 (x1 + 1800000000)) 600000000)) (IntKind.wrap IntKind.i64 (IntKind.wrap IntKind.i64 (x1 + 1800000000) - IntKind.wrap IntKind.i64 ((if 5 < IntKind.wrap IntKind.i64 (Int.tdiv (IntKind.wrap IntKind.i64 (x1 + 1800000000)) 600000000) then
 5 else IntKind.wrap IntKind.i64 (Int.tdiv (IntKind.wrap IntKind.i64 (x1 + 1800000000)) 600000000)) * 600000000))) d.2) fun (d_1 : Int × Bool) => Option.bind (g_AF d.1 d_1.1 (IntKind.wrap IntKind.i64 (IntKind.wrap IntKind.i64 (x0 + 900000000) - IntKind.wrap IntKind.i64 ((if 3 < IntKind.wrap IntKind.i64 (Int.tdiv (IntKind.wrap IntKind.i64 (x0 + 900000000)) 450000000) then
 3 else IntKind.wrap IntKind.i64 (Int.tdiv (IntKind.wrap IntKind.i64 (x0 + 900000000)) 450000000)) * 450000000))) 450000000 d_1.2) fun (d : Int × Bool) => Option.bind (g_AK d.1 3373259426 19327352832000 d.2) fun (d : Int × Bool) => k (d.1, 0, d.2) else bif IntKind.wrap IntKind.i64 ((if 3 < IntKind.wrap IntKind.i64 (Int.tdiv (IntKind.wrap IntKind.i64 (x0 + 900000000)) 450000000) then
 3 else IntKind.wrap IntKind.i64 (Int.tdiv (IntKind.wrap IntKind.i64 (x0 + 900000000)) 450000000)) + 1) == 2 then Option.bind (g_Ah 950 900 (-1400) (-500) (-300) 100 950 (if 5 < IntKind.wrap IntKind.i64 (Int.tdiv (IntKind.wrap IntKind.i64 (x1 + 1800000000)) 600000000) then 5 else IntKind.wrap IntKind.i64 (Int.tdiv (IntKind.wrap IntKind.i64 (x1 + 1800000000)) 600000000)) (IntKind.wrap IntKind.i64 (IntKind.wrap IntKind.i64 (x1 + 1800000000) - IntKind.wrap IntKind.i64 ((if 5 < IntKind.wrap IntKind.i64 (Int.tdiv (IntKind.wrap IntKind.i64 (x1 + 1800000000)) 600000000) then
 5 else IntKind.wrap IntKind.i64 (Int.tdiv (IntKind.wrap IntKind.i64 (x1 + 1800000000)) 600000000)) * 600000000))) d.2) fun (d_1 : Int × Bool) => Option.bind (g_AF d.1 d_1.1 (IntKind.wrap IntKind.i64 (IntKind.wrap IntKind.i64 (x0 + 900000000) - IntKind.wrap IntKind.i64 ((if 3 < IntKind.wrap IntKind.i64 (Int.tdiv (IntKind.wrap IntKind.i64 (x0 + 900000000)) 450000000) then
 3 else IntKind.wrap IntKind.i64 (Int.tdiv (IntKind.wrap IntKind.i64 (x0 + 900000000)) 450000000)) * 450000000))) 450000000 d_1.2) fun (d : Int × Bool) => Option.bind (g_AK d.1 3373259426 19327352832000 d.2) fun (d : Int × Bool) => k (d.1, 0, d.2) else bif IntKind.wrap IntKind.i64 ((if 3 < IntKind.wrap IntKind.i64 (Int.tdiv (IntKind.wrap IntKind.i64 (x0 + 900000000)) 450000000) then
 3 else IntKind.wrap IntKind.i64 (Int.tdiv (IntKind.wrap IntKind.i64 (x0 + 900000000)) 450000000)) + 1) == 1 then Option.bind (g_Ah 2200 2500 500 (-2200) (-3800) 0 2200 (if 5 < IntKind.wrap IntKind.i64 (Int.tdiv (IntKind.wrap IntKind.i64 (x1 + 1800000000)) 600000000) then 5 else IntKind.wrap IntKind.i64 (Int.tdiv (IntKind.wrap IntKind.i64 (x1 + 1800000000)) 600000000)) (IntKind.wrap IntKind.i64 (IntKind.wrap IntKind.i64 (x1 + 1800000000) - IntKind.wrap IntKind.i64 ((if 5 < IntKind.wrap IntKind.i64 (Int.tdiv (IntKind.wrap IntKind.i64 (x1 + 1800000000)) 600000000) then
 5 else IntKind.wrap IntKind.i64 (Int.tdiv (IntKind.wrap IntKind.i64 (x1 + 1800000000)) 600000000)) * 600000000))) d.2) fun (d_1 : Int × Bool) => Option.bind (g_AF d.1 d_1.1 (IntKind.wrap IntKind.i64 (IntKind.wrap IntKind.i64 (x0 + 900000000) - IntKind.wrap IntKind.i64 ((if 3 < IntKind.wrap IntKind.i64 (Int.tdiv (IntKind.wrap IntKind.i64 (x0 + 900000000)) 450000000) then
 3 else IntKind.wrap IntKind.i64 (Int.tdiv (IntKind.wrap IntKind.i64 (x0 + 900000000)) 450000000)) * 450000000))) 450000000 d_1.2) fun (d : Int × Bool) => Option.bind (g_AK d.1 3373259426 19327352832000 d.2) fun (d : Int × Bool) => k (d.1, 0, d.2) else Option.bind (g_Ah 3000 6000 (-2000) (-1500) (-6000) (-9000) 3000 (if 5 < IntKind.wrap IntKind.i64 (Int.tdiv (IntKind.wrap IntKind.i64 (x1 + 1800000000)) 600000000) then
 5 else IntKind.wrap IntKind.i64 (Int.tdiv (IntKind.wrap IntKind.i64 (x1 + 1800000000)) 600000000)) (IntKind.wrap IntKind.i64 (IntKind.wrap IntKind.i64 (x1 + 1800000000) - IntKind.wrap IntKind.i64 ((if 5 < IntKind.wrap IntKind.i64 (Int.tdiv (IntKind.wrap IntKind.i64 (x1 + 1800000000)) 600000000) then
 5 else IntKind.wrap IntKind.i64 (Int.tdiv (IntKind.wrap IntKind.i64 (x1 + 1800000000)) 600000000)) * 600000000))) d.2) fun (d_1 : Int × Bool) => Option.bind (g_AF d.1 d_1.1 (IntKind.wrap IntKind.i64 (IntKind.wrap IntKind.i64 (x0 + 900000000) - IntKind.wrap IntKind.i64 ((if 3 < IntKind.wrap IntKind.i64 (Int.tdiv (IntKind.wrap IntKind.i64 (x0 + 900000000)) 450000000) then
 3 else IntKind.wrap IntKind.i64 (Int.tdiv (IntKind.wrap IntKind.i64 (x0 + 900000000)) 450000000)) * 450000000))) 450000000 d_1.2) fun (d : Int × Bool) => Option.bind (g_AK d.1 3373259426 19327352832000 d.2) fun (d : Int × Bool) => k (d.1, 0, d.2) else none else none
def f_Ao (x0 : Int) (x1 : Int) (x2 : Int) (x3 : Bool) : Option (Int × Int × Bool) := K_Ao f_AH f_Bc f_AF f_Ah f_AK  x0 x1 x2 x3 some
section
open Go.Ab.Rdr
def QA_Ao := ((pair (cons (ar (rc (cptr (nat 0) (ok' (nat 0)) (nat 1)))) (cons (ar (ra (cons (gc (cf (fi .i64 hole))) (cons (gc (cf (fi .i64 hole))) (cons (gc (cf (fi .i64 hole))) nil))))) nil)) (cons (cons (gc (cf (fb hole))) nil) nil)) : Rdr (List AV × List Blk) _)
end
def F_Ao (f : (Int) → (Int) → (Int) → (Bool) → Option (Int × Int × Bool)) : Sem1 := fun args h => match (QA_Ao).rd (args, h) with
  | some b => .opt (f b.1.2.1.1 b.1.2.1.2.1 b.1.2.1.2.2.1 b.2.1.1) fun (d : Int × Int × Bool) => .leaf (Res.mk (AV.tup [RV.c (fI d.1), RV.c (fI d.2.1)]) [Ch.set [sB d.2.2]] [])
  | none => .fail
theorem d_Ao (g_AH : t1E2) (g_Bc : Option Unit) (g_AF : t4E2) (g_Ah : t5E2) (g_AK : t0E2) (x0 : Int) (x1 : Int) (x2 : Int) (x3 : Bool) : den Try.prog (envOf [(40,
 F_AH g_AH), (73, F_Bc g_Bc), (74, F_AF g_AF), (75, F_Ah g_Ah), (68, F_AK g_AK)]) ⟨[], [], [0], [], none⟩ 200 38 [.r (.c (.ptr 0 (.k 0) 1)), .r (.agg [.c (.f (.i .i64 x0)), .c (.f (.i .i64 x1)), .c (.f (.i .i64 x2))])] [[.c (.f (.b x3))]] = K_Ao g_AH g_Bc g_AF g_Ah g_AK x0 x1 x2 x3 (fun (d : Int × Int ×
 Bool) => some (Res.mk (AV.tup [RV.c (fI d.1), RV.c (fI d.2.1)]) [Ch.set [sB d.2.2]] [])) := by kernel_rfl
theorem m_Ao {ρ σ : Type} (q : ρ → Option σ) (g_AH : t1E2) (g_Bc : Option Unit) (g_AF : t4E2) (g_Ah : t5E2) (g_AK : t0E2)   (x0 : Int) (x1 : Int) (x2 : Int) (x3 : Bool) (k : (Int × Int × Bool) → Option ρ) : (K_Ao g_AH g_Bc g_AF g_Ah g_AK  x0 x1 x2 x3 k).bind q = K_Ao g_AH g_Bc g_AF g_Ah g_AK  x0 x1 x2 x3 (fun d => (k d).bind q) := by
  simp only [K_Ao, bnd_cond, bnd_bind, bnd_none, bnd_sum]
theorem qa_Ao : ∀ b, (QA_Ao).em b = ([.r (.c (.ptr 0 (.k 0) 1)), .r (.agg [.c (.f (.i .i64 b.1.2.1.1)), .c (.f (.i .i64 b.1.2.1.2.1)), .c (.f (.i .i64 b.1.2.1.2.2.1))])], [[.c (.f (.b b.2.1.1))]]) := fun b => by kernel_rfl
theorem e_Ao {f : (Int) → (Int) → (Int) → (Bool) → Option (Int × Int × Bool)} {args : List AV} {h : List Blk} {r : Res} (hr : (F_Ao f args h).eval = some r) : ∃ x0 x1 x2 x3, args = [.r (.c (.ptr 0 (.k 0) 1)), .r (.agg [.c (.f (.i .i64 x0)), .c (.f (.i .i64 x1)), .c (.f (.i .i64 x2))])] ∧ h = [[.c (.f (.b x3))]] ∧ (f x0 x1 x2 x3).bind (fun (d : Int × Int × Bool) => some (Res.mk (AV.tup [RV.c (fI d.1), RV.c (fI d.2.1)]) [Ch.set [sB d.2.2]] [])) = some r := by
  unfold F_Ao at hr
  split at hr
  · rename_i b hb
    have e := ((QA_Ao).ok _ _ hb).trans (qa_Ao b)
    rw [opt_eval2] at hr
    exact ⟨b.1.2.1.1, b.1.2.1.2.1, b.1.2.1.2.2.1, b.2.1.1, (Prod.mk.inj e).1, (Prod.mk.inj e).2, hr⟩
  · cases hr
theorem n_Ao {σ : Type} (q : (Int × Int × Bool) → Option σ) (x0 : Int) (x1 : Int) (x2 : Int) (x3 : Bool) : (f_Ao x0 x1 x2 x3).bind q = K_Ao f_AH f_Bc f_AF f_Ah f_AK  x0 x1 x2 x3 q := by
  unfold f_Ao
  exact m_Ao q f_AH f_Bc f_AF f_Ah f_AK   x0 x1 x2 x3 some
theorem s_Ao [Amb] : Sound Try.prog 38 (F_Ao f_Ao) := (inl_sound (l := [(40, F_AH f_AH), (73, F_Bc f_Bc), (74, F_AF f_AF), (75, F_Ah f_Ah), (68, F_AK f_AK)]) (.cons s_AH (.cons s_Bc (.cons s_AF (.cons s_Ah (.cons s_AK (.nil _)))))) mixed [] [0] 200 (by kernel_rfl)).by (F := F_Ao f_Ao) fun args b r hr => by
  obtain ⟨x0, x1, x2, x3, rfl, rfl, hr1⟩ := e_Ao hr
  exact inl_eval ((d_Ao f_AH f_Bc f_AF f_Ah f_AK  x0 x1 x2 x3).trans ((n_Ao (fun (d : Int × Int × Bool) => some (Res.mk (AV.tup [RV.c (fI d.1), RV.c (fI d.2.1)]) [Ch.set [sB d.2.2]] [])) x0 x1 x2 x3).symm.trans hr1))

def K_BE {ρ : Type} (x0 : Int) (x1 : Int) (x2 : Int) (x3 : Int) (x4 : Int) (k : (Int × Int) → Option ρ) : Option ρ := k (x3, x4)
def f_BE (x0 : Int) (x1 : Int) (x2 : Int) (x3 : Int) (x4 : Int) : Option (Int × Int) := K_BE   x0 x1 x2 x3 x4 some
section
open Go.Ab.Rdr
def QA_BE := ((pair (cons (ar (rc (cptr (nat 0) (ok' (nat 0)) (nat 5)))) nil) (cons (cons (gc (cf (fi .i64 hole))) (cons (gc (cf (fi .i64 hole))) (cons (gc (cf (fi .i64 hole))) (cons (gc (cf (fi .i64 hole))) (cons (gc (cf (fi .i64 hole))) nil))))) nil)) : Rdr (List AV × List Blk) _)
end
def F_BE (f : (Int) → (Int) → (Int) → (Int) → (Int) → Option (Int × Int)) : Sem1 := fun args h => match (QA_BE).rd (args, h) with
  | some b => .opt (f b.2.1.1 b.2.1.2.1 b.2.1.2.2.1 b.2.1.2.2.2.1 b.2.1.c4.1) fun (d : Int × Int) => .leaf (Res.mk (AV.tup [RV.c (fI d.1), RV.c (fI d.2)]) [Ch.keep] [])
  | none => .fail
theorem d_BE (x0 : Int) (x1 : Int) (x2 : Int) (x3 : Int) (x4 : Int) : den Try.prog (envOf []) ⟨[], [], [], [], none⟩ 200 43 [.r (.c (.ptr 0 (.k 0) 5))] [[.c (.f (.i .i64 x0)), .c (.f (.i .i64 x1)), .c (.f (.i .i64 x2)), .c (.f (.i .i64 x3)), .c (.f (.i .i64 x4))]] = K_BE x0 x1 x2 x3 x4 (fun (d : Int ×
 Int) => some (Res.mk (AV.tup [RV.c (fI d.1), RV.c (fI d.2)]) [Ch.keep] [])) := by kernel_rfl
theorem m_BE {ρ σ : Type} (q : ρ → Option σ)    (x0 : Int) (x1 : Int) (x2 : Int) (x3 : Int) (x4 : Int) (k : (Int × Int) → Option ρ) : (K_BE   x0 x1 x2 x3 x4 k).bind q = K_BE   x0 x1 x2 x3 x4 (fun d => (k d).bind q) := by
  simp only [K_BE, bnd_cond, bnd_bind, bnd_none, bnd_sum]
theorem qa_BE : ∀ b, (QA_BE).em b = ([.r (.c (.ptr 0 (.k 0) 5))], [[.c (.f (.i .i64 b.2.1.1)), .c (.f (.i .i64 b.2.1.2.1)), .c (.f (.i .i64 b.2.1.2.2.1)), .c (.f (.i .i64 b.2.1.2.2.2.1)), .c (.f (.i .i64 b.2.1.c4.1))]]) := fun b => by kernel_rfl
theorem e_BE {f : (Int) → (Int) → (Int) → (Int) → (Int) → Option (Int × Int)} {args : List AV} {h : List Blk} {r : Res} (hr : (F_BE f args h).eval = some r) : ∃ x0 x1 x2 x3 x4, args = [.r (.c (.ptr 0 (.k 0) 5))] ∧ h = [[.c (.f (.i .i64 x0)), .c (.f (.i .i64 x1)), .c (.f (.i .i64 x2)), .c (.f (.i .i64 x3)), .c (.f (.i .i64 x4))]] ∧ (f x0 x1 x2 x3 x4).bind (fun (d : Int × Int) => some (Res.mk (AV.tup [RV.c (fI d.1), RV.c (fI d.2)]) [Ch.keep] [])) = some r := by
  unfold F_BE at hr
  split at hr
  · rename_i b hb
    have e := ((QA_BE).ok _ _ hb).trans (qa_BE b)
    rw [opt_eval2] at hr
    exact ⟨b.2.1.1, b.2.1.2.1, b.2.1.2.2.1, b.2.1.2.2.2.1, b.2.1.c4.1, (Prod.mk.inj e).1, (Prod.mk.inj e).2, hr⟩
  · cases hr
theorem n_BE {σ : Type} (q : (Int × Int) → Option σ) (x0 : Int) (x1 : Int) (x2 : Int) (x3 : Int) (x4 : Int) : (f_BE x0 x1 x2 x3 x4).bind q = K_BE   x0 x1 x2 x3 x4 q := by
  unfold f_BE
  exact m_BE q    x0 x1 x2 x3 x4 some
theorem s_BE [Amb] : Sound Try.prog 43 (F_BE f_BE) := (inl_sound (l := []) (.nil _) mixed [] [] 200 (by kernel_rfl)).by (F := F_BE f_BE) fun args b r hr => by
  obtain ⟨x0, x1, x2, x3, x4, rfl, rfl, hr1⟩ := e_BE hr
  exact inl_eval ((d_BE   x0 x1 x2 x3 x4).trans ((n_BE (fun (d : Int × Int) => some (Res.mk (AV.tup [RV.c (fI d.1), RV.c (fI d.2)]) [Ch.keep] [])) x0 x1 x2 x3 x4).symm.trans hr1))

def K_Bb {ρ : Type} (g_Ap : t6E2) (g_As : t7E2) (g_Ao : t8E2) (g_BE : t9E2) (g_AH : t1E2)   (k : (Bool) → Option ρ) : Option ρ :=
  Option.bind (g_Ap 0 0 0) fun (d : Unit ⊕ Int × Int × Int × Int × Int) =>
    bif
        match d with
        | Sum.inl val => true
        | Sum.inr val => false then
      Option.bind
        (match d with
        | Sum.inl a => some a
        | Sum.inr val => none)
        fun (d : Unit) => k false
    else
      Option.bind
        (match d with
        | Sum.inr b => some b
        | Sum.inl val => none)
        fun (d : Int × Int × Int × Int × Int) =>
        Option.bind (g_As 0 0 0 d.1 d.2.1 d.2.2.1 d.2.2.2.1 d.c4 false) fun (d_1 : Int × Int × Int × Int × Bool) =>
          Option.bind (g_Ao 0 0 0 d_1.c4) fun (d_2 : Int × Int × Bool) =>
            Option.bind (g_BE d.1 d.2.1 d.2.2.1 d.2.2.2.1 d.c4) fun (d : Int × Int) =>
              bif d_1.2.2.2.1 == 0 then
                bif d_1.1 == 0 && (d_1.2.1 == 0 && (d_1.2.2.1 == 0 && true)) then
                  bif d_2.2.1 == 0 then
                    bif d_2.1 == -93701651 then
                      bif decide (d.1 > 8589934592) then bif decide (d.2 > d.1) then Option.bind (g_AH 0 0 0) fun (d : Bool) => bif d then k !d_2.2.2 else k false else k false
                      else k false
                    else k false
                  else k false
                else k false
              else k false
def f_Bb  : Option (Bool) := K_Bb f_Ap f_As f_Ao f_BE f_AH   some
section
open Go.Ab.Rdr
def QA_Bb := ((pair nil nil) : Rdr (List AV × List Blk) _)
end
def F_Bb (f : Option (Bool)) : Sem1 := fun args h => match (QA_Bb).rd (args, h) with
  | some b => .opt (f ) fun (d : Bool) => .leaf (Res.mk (rB d) [] [])
  | none => .fail
theorem d_Bb (g_Ap : t6E2) (g_As : t7E2) (g_Ao : t8E2) (g_BE : t9E2) (g_AH : t1E2) : den Try.prog (envOf [(37, F_Ap g_Ap), (39, F_As g_As), (38, F_Ao g_Ao), (43, F_BE g_BE), (40, F_AH g_AH)]) ⟨[], [], [], [], none⟩ 200 36 [] [] = K_Bb g_Ap g_As g_Ao g_BE g_AH (fun (d : Bool) => some (Res.mk (rB d) [] [])) := by kernel_rfl
theorem m_Bb {ρ σ : Type} (q : ρ → Option σ) (g_Ap : t6E2) (g_As : t7E2) (g_Ao : t8E2) (g_BE : t9E2) (g_AH : t1E2)    (k : (Bool) → Option ρ) : (K_Bb g_Ap g_As g_Ao g_BE g_AH   k).bind q = K_Bb g_Ap g_As g_Ao g_BE g_AH   (fun d => (k d).bind q) := by
  simp only [K_Bb, bnd_cond, bnd_bind, bnd_none, bnd_sum]
theorem qa_Bb : ∀ b, (QA_Bb).em b = ([], []) := fun b => by kernel_rfl
theorem e_Bb {f : Option (Bool)} {args : List AV} {h : List Blk} {r : Res} (hr : (F_Bb f args h).eval = some r) : args = [] ∧ h = [] ∧ (f ).bind (fun (d : Bool) => some (Res.mk (rB d) [] [])) = some r := by
  unfold F_Bb at hr
  split at hr
  · rename_i b hb
    have e := ((QA_Bb).ok _ _ hb).trans (qa_Bb b)
    rw [opt_eval2] at hr
    exact ⟨(Prod.mk.inj e).1, (Prod.mk.inj e).2, hr⟩
  · cases hr
theorem n_Bb {σ : Type} (q : (Bool) → Option σ)  : (f_Bb ).bind q = K_Bb f_Ap f_As f_Ao f_BE f_AH   q := by
  unfold f_Bb
  exact m_Bb q f_Ap f_As f_Ao f_BE f_AH    some
theorem s_Bb [Amb] : Sound Try.prog 36 (F_Bb f_Bb) := (inl_sound (l := [(37, F_Ap f_Ap), (39, F_As f_As), (38, F_Ao f_Ao), (43, F_BE f_BE), (40, F_AH f_AH)]) (.cons s_Ap (.cons s_As (.cons s_Ao (.cons s_BE (.cons s_AH (.nil _)))))) mixed [] [] 200 (by kernel_rfl)).by (F := F_Bb f_Bb) fun args b r hr => by
  obtain ⟨rfl, rfl, hr1⟩ := e_Bb hr
  exact inl_eval ((d_Bb f_Ap f_As f_Ao f_BE f_AH  ).trans ((n_Bb (fun (d : Bool) => some (Res.mk (rB d) [] [])) ).symm.trans hr1))

end Go.Proofs.Ytcalippagaaikaa
set_option maxRecDepth 100000
set_option maxHeartbeats 4000000
set_option linter.unusedVariables false
namespace Go.Proofs.Ytcalippagaaikaa
open Go.Ab
abbrev u0ES1 : List Nat := [0, 3, 8, 9, 10, 11, 12, 13, 14, 15, 16, 17, 18, 19, 20, 21, 22, 23, 24, 25, 26, 27, 28, 29, 30, 31, 32, 33, 34, 35, 36, 37, 38, 39, 40, 41, 42, 43, 44, 45, 46, 47, 48, 49, 50, 51, 52, 53, 54, 55, 56, 57, 58, 59, 60, 61, 62, 63, 64, 65, 66, 67, 68, 69, 70]
abbrev u1ES1 : List Nat := [0, 1, 2, 3, 5, 6, 7, 8, 9, 10, 11, 12, 13, 14, 15, 16, 17, 18, 19, 20, 21, 22, 23, 24, 25, 26, 27, 28, 29, 30, 31, 32, 33, 34, 35, 36, 37, 38, 39, 40, 41, 42, 43, 44, 45, 46, 47, 48, 49, 50, 51, 52, 53, 54, 55, 56, 57, 58, 59, 60, 61, 62, 63, 64, 65, 66, 67, 68, 69, 70]
abbrev u2ES1 : List Nat := [1, 2, 3, 4, 7, 12, 13, 14, 15, 16, 17, 18, 19, 20, 21, 22, 23, 24, 25, 26, 27, 28, 29, 30, 31, 32, 33, 34, 35, 36, 37, 38, 39, 40, 41, 42, 43, 44, 45, 46, 47, 48, 49, 50, 51, 52, 53, 54, 55, 56, 57, 58, 59, 60, 61, 62, 63, 64, 65, 66, 67, 68, 69, 70, 71, 72, 73, 74, 75, 76, 77, 78, 79, 80, 81, 82, 83, 84, 85, 86, 87, 88, 89, 90, 91, 92, 93, 94, 95, 96, 97, 98, 99, 100, 101, 102, 103]
abbrev u3ES1 : List Nat := [1, 2, 3, 4, 7, 8, 9, 10, 11, 16, 17, 18, 19, 20, 21, 22, 23, 24, 25, 26, 27, 28, 29, 30, 31, 32, 33, 34, 35, 36, 37, 38, 39, 40, 41, 42, 43, 44, 45, 46, 47, 48, 49, 50, 51, 52, 53, 54, 55, 56, 57, 58, 59, 60, 61, 62, 63, 64, 65, 66, 67, 68, 69, 70, 71, 72, 73, 74, 75, 76, 77, 78, 79, 80, 81, 82, 83, 84, 85, 86, 87, 88, 89, 90, 91, 92, 93, 94, 95, 96, 97, 98, 99, 100, 101, 102, 103]
abbrev u4ES1 : List Nat := [0, 1, 2, 3, 5, 6, 7, 8, 9, 10, 11, 12, 13, 14, 15, 16, 17, 18, 19, 20, 21, 22, 23, 24, 25, 26, 27, 28, 29, 30, 31, 32, 33, 34, 35, 36, 37, 38, 39, 40, 41, 42, 43, 44, 45, 46, 47, 48, 49, 50, 51, 52, 53, 54, 55, 56, 57, 58, 59, 60, 61, 62, 63, 64, 65, 66, 67, 68, 69, 70, 71, 72, 73, 74, 75, 76, 77, 78, 79, 80, 81, 82, 83, 84, 85, 86, 87, 88, 89, 90, 91, 92, 93, 94, 95, 96, 97, 98, 99, 100, 101, 102, 103]
abbrev u5ES1 : List Nat := [0, 5, 6, 7, 8, 9, 10, 11, 12, 13, 14, 15, 16, 17, 18, 19, 20, 21, 22, 23, 24, 25, 26, 27, 28, 29, 30, 31, 32, 33, 34, 35, 36, 37, 38, 39, 40, 41, 42, 43, 44, 45, 46, 47, 48, 49, 50, 51, 56, 57, 58, 59, 60, 61, 62, 63]
abbrev u6ES1 : List Nat := [0, 1, 3, 4, 5, 6, 7, 8, 9, 10, 11, 12, 13, 14, 15, 16, 17, 18, 19, 20, 21, 22, 23, 24, 25, 26, 27, 28, 29, 30, 31, 32, 33, 34, 35, 36, 37, 38, 39, 40, 41, 42, 43, 44, 45, 46, 47, 48, 49, 50, 51, 52, 53, 54, 55, 56, 57, 58, 59, 60, 61, 62, 63]
abbrev t7ES1 := Int → Int → Int → Bool → Option (Int × Bool)
abbrev t8ES1 := Int → Bool → Option (Int × Bool)
abbrev t9ES1 := Int → Option Int
abbrev t10ES1 := Int → Int → Option (Int × Int)
abbrev t11ES1 := Int → Int → Bool → Int → Int → Bool → Option Bool
abbrev t12ES1 := Int → Int → Bool → Int → Int → Bool → Option (Int × Int × Bool)
abbrev t13ES1 := Int → Int → Option (Int × Int × Bool)
abbrev t14ES1 := Int → Int → Bool → Int → Option (Int × Int × Bool)
abbrev t15ES1 := Int → Int → Bool → Bool → Option (Int × Bool)
abbrev t16ES1 := Int → Int → Option Int
abbrev t17ES1 := Int → Int → Bool → Option (Int × Bool)
abbrev t18ES1 := Int → Int → Int → Option (Int × Int)
abbrev t19ES1 := Int → Int → Bool → Option (Int × Int)
def K_BM {ρ : Type} (x0 : Int) (x1 : Int) (x2 : Int) (k : (Int × Int) → Option ρ) : Option ρ := bif !decide (x1 = 0) then bif decide (IntKind.wrap IntKind.i64 (Int.tdiv x0 x1) ≥ x2) then k (IntKind.wrap IntKind.i64 (x2 - 1), IntKind.wrap IntKind.i64 (x0 - IntKind.wrap IntKind.i64 (IntKind.wrap IntKind.i64 (x2 - 1) * x1))) else
 k (IntKind.wrap IntKind.i64 (Int.tdiv x0 x1), IntKind.wrap IntKind.i64 (x0 - IntKind.wrap IntKind.i64 (IntKind.wrap IntKind.i64 (Int.tdiv x0 x1) * x1))) else none
def f_BM (x0 : Int) (x1 : Int) (x2 : Int) : Option (Int × Int) := K_BM   x0 x1 x2 some
section
open Go.Ab.Rdr
def QA_BM := ((pair (cons (ar (rc (cf (fi .i64 hole)))) (cons (ar (rc (cf (fi .i64 hole)))) (cons (ar (rc (cf (fi .i64 hole)))) nil))) nil) : Rdr (List AV × List Blk) _)
end
def F_BM (f : (Int) → (Int) → (Int) → Option (Int × Int)) : Sem1 := fun args h => match (QA_BM).rd (args, h) with
  | some b => .opt (f b.1.1 b.1.2.1 b.1.2.2.1) fun (d : Int × Int) => .leaf (Res.mk (AV.tup [RV.c (fI d.1), RV.c (fI d.2)]) [] [])
  | none => .fail
theorem d_BM (x0 : Int) (x1 : Int) (x2 : Int) : den Try.prog (envOf []) ⟨[], [], [], [], none⟩ 200 76 [rI x0, rI x1, rI x2] [] = K_BM x0 x1 x2 (fun (d : Int × Int) => some (Res.mk (AV.tup [RV.c (fI d.1), RV.c (fI d.2)]) [] [])) := by kernel_rfl
theorem m_BM {ρ σ : Type} (q : ρ → Option σ)    (x0 : Int) (x1 : Int) (x2 : Int) (k : (Int × Int) → Option ρ) : (K_BM   x0 x1 x2 k).bind q = K_BM   x0 x1 x2 (fun d => (k d).bind q) := by
  simp only [K_BM, bnd_cond, bnd_bind, bnd_none, bnd_sum]
theorem qa_BM : ∀ b, (QA_BM).em b = ([rI b.1.1, rI b.1.2.1, rI b.1.2.2.1], []) := fun b => by kernel_rfl
theorem e_BM {f : (Int) → (Int) → (Int) → Option (Int × Int)} {args : List AV} {h : List Blk} {r : Res} (hr : (F_BM f args h).eval = some r) : ∃ x0 x1 x2, args = [rI x0, rI x1, rI x2] ∧ h = [] ∧ (f x0 x1 x2).bind (fun (d : Int × Int) => some (Res.mk (AV.tup [RV.c (fI d.1), RV.c (fI d.2)]) [] [])) = some r := by
  unfold F_BM at hr
  split at hr
  · rename_i b hb
    have e := ((QA_BM).ok _ _ hb).trans (qa_BM b)
    rw [opt_eval2] at hr
    exact ⟨b.1.1, b.1.2.1, b.1.2.2.1, (Prod.mk.inj e).1, (Prod.mk.inj e).2, hr⟩
  · cases hr
theorem n_BM {σ : Type} (q : (Int × Int) → Option σ) (x0 : Int) (x1 : Int) (x2 : Int) : (f_BM x0 x1 x2).bind q = K_BM   x0 x1 x2 q := by
  unfold f_BM
  exact m_BM q    x0 x1 x2 some
theorem s_BM [Amb] : Sound Try.prog 76 (F_BM f_BM) := (inl_sound (l := []) (.nil _) mixed [] [] 200 (by kernel_rfl)).by (F := F_BM f_BM) fun args b r hr => by
  obtain ⟨x0, x1, x2, rfl, rfl, hr1⟩ := e_BM hr
  exact inl_eval ((d_BM   x0 x1 x2).trans ((n_BM (fun (d : Int × Int) => some (Res.mk (AV.tup [RV.c (fI d.1), RV.c (fI d.2)]) [] [])) x0 x1 x2).symm.trans hr1))

def K_BH {ρ : Type} (x0 : Int) (x1 : Int) (k : (Int) → Option ρ) : Option ρ := bif inR (IntKind.wrap IntKind.i64 (IntKind.wrap IntKind.i64 (7 * x0) + x1)) 35 then k (IntKind.wrap IntKind.i64 ((bif Nat.beq (Int.toNat (IntKind.wrap IntKind.i64 (IntKind.wrap IntKind.i64 (7 * x0) + x1))) 34 then 1000 else
 bif Nat.beq (Int.toNat (IntKind.wrap IntKind.i64 (IntKind.wrap IntKind.i64 (7 * x0) + x1))) 33 then -1200 else bif Nat.beq (Int.toNat (IntKind.wrap IntKind.i64 (IntKind.wrap IntKind.i64 (7 * x0) + x1))) 32 then 3500 else bif Nat.beq (Int.toNat (IntKind.wrap IntKind.i64 (IntKind.wrap IntKind.i64 (7 * x0) + x1))) 31 then
 500 else bif Nat.beq (Int.toNat (IntKind.wrap IntKind.i64 (IntKind.wrap IntKind.i64 (7 * x0) + x1))) 30 then -3000 else bif Nat.beq (Int.toNat (IntKind.wrap IntKind.i64 (IntKind.wrap IntKind.i64 (7 * x0) + x1))) 29 then 4000 else bif Nat.beq (Int.toNat (IntKind.wrap IntKind.i64 (IntKind.wrap IntKind.i64 (7 * x0) + x1))) 28 then
 1000 else bif Nat.beq (Int.toNat (IntKind.wrap IntKind.i64 (IntKind.wrap IntKind.i64 (7 * x0) + x1))) 27 then 500 else bif Nat.beq (Int.toNat (IntKind.wrap IntKind.i64 (IntKind.wrap IntKind.i64 (7 * x0) + x1))) 26 then -800 else bif Nat.beq (Int.toNat (IntKind.wrap IntKind.i64 (IntKind.wrap IntKind.i64 (7 * x0) + x1))) 25 then
 700 else bif Nat.beq (Int.toNat (IntKind.wrap IntKind.i64 (IntKind.wrap IntKind.i64 (7 * x0) + x1))) 24 then 100 else bif Nat.beq (Int.toNat (IntKind.wrap IntKind.i64 (IntKind.wrap IntKind.i64 (7 * x0) + x1))) 23 then -1700 else bif Nat.beq (Int.toNat (IntKind.wrap IntKind.i64 (IntKind.wrap IntKind.i64 (7 * x0) + x1))) 22 then
 1500 else bif Nat.beq (Int.toNat (IntKind.wrap IntKind.i64 (IntKind.wrap IntKind.i64 (7 * x0) + x1))) 21 then 500 else bif Nat.beq (Int.toNat (IntKind.wrap IntKind.i64 (IntKind.wrap IntKind.i64 (7 * x0) + x1))) 20 then 950 else bif Nat.beq (Int.toNat (IntKind.wrap IntKind.i64 (IntKind.wrap IntKind.i64 (7 * x0) + x1))) 19 then
 100 else bif Nat.beq (Int.toNat (IntKind.wrap IntKind.i64 (IntKind.wrap IntKind.i64 (7 * x0) + x1))) 18 then -300 else bif Nat.beq (Int.toNat (IntKind.wrap IntKind.i64 (IntKind.wrap IntKind.i64 (7 * x0) + x1))) 17 then -500 else bif Nat.beq (Int.toNat (IntKind.wrap IntKind.i64 (IntKind.wrap IntKind.i64 (7 * x0) + x1))) 16 then
 -1400 else bif Nat.beq (Int.toNat (IntKind.wrap IntKind.i64 (IntKind.wrap IntKind.i64 (7 * x0) + x1))) 15 then 900 else bif Nat.beq (Int.toNat (IntKind.wrap IntKind.i64 (IntKind.wrap IntKind.i64 (7 * x0) + x1))) 14 then 950 else bif Nat.beq (Int.toNat (IntKind.wrap IntKind.i64 (IntKind.wrap IntKind.i64 (7 * x0) + x1))) 13 then
 2200 else bif Nat.beq (Int.toNat (IntKind.wrap IntKind.i64 (IntKind.wrap IntKind.i64 (7 * x0) + x1))) 12 then 0 else bif Nat.beq (Int.toNat (IntKind.wrap IntKind.i64 (IntKind.wrap IntKind.i64 (7 * x0) + x1))) 11 then -3800 else bif Nat.beq (Int.toNat (IntKind.wrap IntKind.i64 (IntKind.wrap IntKind.i64 (7 * x0) + x1))) 10 then
 -2200 else bif Nat.beq (Int.toNat (IntKind.wrap IntKind.i64 (IntKind.wrap IntKind.i64 (7 * x0) + x1))) 9 then 500 else bif Nat.beq (Int.toNat (IntKind.wrap IntKind.i64 (IntKind.wrap IntKind.i64 (7 * x0) + x1))) 8 then 2500 else bif Nat.beq (Int.toNat (IntKind.wrap IntKind.i64 (IntKind.wrap IntKind.i64 (7 * x0) + x1))) 7 then
 2200 else bif Nat.beq (Int.toNat (IntKind.wrap IntKind.i64 (IntKind.wrap IntKind.i64 (7 * x0) + x1))) 6 then 3000 else bif Nat.beq (Int.toNat (IntKind.wrap IntKind.i64 (IntKind.wrap IntKind.i64 (7 * x0) + x1))) 5 then -9000 else bif Nat.beq (Int.toNat (IntKind.wrap IntKind.i64 (IntKind.wrap IntKind.i64 (7 * x0) + x1))) 4 then
 -6000 else bif Nat.beq (Int.toNat (IntKind.wrap IntKind.i64 (IntKind.wrap IntKind.i64 (7 * x0) + x1))) 3 then -1500 else bif Nat.beq (Int.toNat (IntKind.wrap IntKind.i64 (IntKind.wrap IntKind.i64 (7 * x0) + x1))) 2 then -2000 else bif Nat.beq (Int.toNat (IntKind.wrap IntKind.i64 (IntKind.wrap IntKind.i64 (7 * x0) + x1))) 1 then
 6000 else bif Nat.beq (Int.toNat (IntKind.wrap IntKind.i64 (IntKind.wrap IntKind.i64 (7 * x0) + x1))) 0 then 3000 else 3000) * 1073741824)) else none
def f_BH (x0 : Int) (x1 : Int) : Option (Int) := K_BH   x0 x1 some
section
open Go.Ab.Rdr
def QA_BH := ((pair (cons (ar (rc (cf (fi .i64 hole)))) (cons (ar (rc (cf (fi .i64 hole)))) nil)) nil) : Rdr (List AV × List Blk) _)
end
def F_BH (f : (Int) → (Int) → Option (Int)) : Sem1 := fun args h => match (QA_BH).rd (args, h) with
  | some b => .opt (f b.1.1 b.1.2.1) fun (d : Int) => .leaf (Res.mk (rI d) [] [])
  | none => .fail
theorem d_BH (x0 : Int) (x1 : Int) : den Try.prog (envOf []) ⟨[], [], [], [], none⟩ 200 99 [rI x0, rI x1] [] = K_BH x0 x1 (fun (d : Int) => some (Res.mk (rI d) [] [])) := by kernel_rfl
theorem m_BH {ρ σ : Type} (q : ρ → Option σ)    (x0 : Int) (x1 : Int) (k : (Int) → Option ρ) : (K_BH   x0 x1 k).bind q = K_BH   x0 x1 (fun d => (k d).bind q) := by
  simp only [K_BH, bnd_cond, bnd_bind, bnd_none, bnd_sum]
theorem qa_BH : ∀ b, (QA_BH).em b = ([rI b.1.1, rI b.1.2.1], []) := fun b => by kernel_rfl
theorem e_BH {f : (Int) → (Int) → Option (Int)} {args : List AV} {h : List Blk} {r : Res} (hr : (F_BH f args h).eval = some r) : ∃ x0 x1, args = [rI x0, rI x1] ∧ h = [] ∧ (f x0 x1).bind (fun (d : Int) => some (Res.mk (rI d) [] [])) = some r := by
  unfold F_BH at hr
  split at hr
  · rename_i b hb
    have e := ((QA_BH).ok _ _ hb).trans (qa_BH b)
    rw [opt_eval2] at hr
    exact ⟨b.1.1, b.1.2.1, (Prod.mk.inj e).1, (Prod.mk.inj e).2, hr⟩
  · cases hr
theorem n_BH {σ : Type} (q : (Int) → Option σ) (x0 : Int) (x1 : Int) : (f_BH x0 x1).bind q = K_BH   x0 x1 q := by
  unfold f_BH
  exact m_BH q    x0 x1 some
theorem s_BH [Amb] : Sound Try.prog 99 (F_BH f_BH) := (inl_sound (l := []) (.nil _) mixed [] [] 200 (by kernel_rfl)).by (F := F_BH f_BH) fun args b r hr => by
  obtain ⟨x0, x1, rfl, rfl, hr1⟩ := e_BH hr
  exact inl_eval ((d_BH   x0 x1).trans ((n_BH (fun (d : Int) => some (Res.mk (rI d) [] [])) x0 x1).symm.trans hr1))

def K_AJ {ρ : Type} (x0 : Int) (x1 : Int) (x2 : Int) (x3 : Bool) (k : (Int × Bool) → Option ρ) : Option ρ := bif decide (x0 < x1) then bif x1 != x0 then k (x1, true) else bif decide (x1 > x2) then k (x1, true) else k (x1, x3) else bif decide (x1 > x2) then bif x1 != x0 then k (x1, true) else bif decide (x1 > x2) then
 k (x1, true) else k (x1, x3) else bif decide (x0 > x2) then bif x2 != x0 then k (x2, true) else bif decide (x1 > x2) then k (x2, true) else k (x2, x3) else bif x0 != x0 then k (x0, true) else bif decide (x1 > x2) then k (x0, true) else k (x0, x3)
def f_AJ (x0 : Int) (x1 : Int) (x2 : Int) (x3 : Bool) : Option (Int × Bool) := K_AJ   x0 x1 x2 x3 some
section
open Go.Ab.Rdr
def QA_AJ := ((pair (cons (ar (rc (cptr (nat 0) (ok' (nat 0)) (nat 1)))) (cons (ar (rc (cf (fi .i64 hole)))) (cons (ar (rc (cf (fi .i64 hole)))) (cons (ar (rc (cf (fi .i64 hole)))) nil)))) (cons (cons (gc (cf (fb hole))) nil) nil)) : Rdr (List AV × List Blk) _)
end
def F_AJ (f : (Int) → (Int) → (Int) → (Bool) → Option (Int × Bool)) : Sem1 := fun args h => match (QA_AJ).rd (args, h) with
  | some b => .opt (f b.1.2.1 b.1.2.2.1 b.1.2.2.2.1 b.2.1.1) fun (d : Int × Bool) => .leaf (Res.mk (rI d.1) [Ch.set [sB d.2]] [])
  | none => .fail
theorem d_AJ (x0 : Int) (x1 : Int) (x2 : Int) (x3 : Bool) : den Try.prog (envOf []) ⟨[], [], [0], [], none⟩ 200 106 [.r (.c (.ptr 0 (.k 0) 1)), rI x0, rI x1, rI x2] [[.c (.f (.b x3))]] = K_AJ x0 x1 x2 x3 (fun (d : Int × Bool) => some (Res.mk (rI d.1) [Ch.set [sB d.2]] [])) := by kernel_rfl
theorem m_AJ {ρ σ : Type} (q : ρ → Option σ)    (x0 : Int) (x1 : Int) (x2 : Int) (x3 : Bool) (k : (Int × Bool) → Option ρ) : (K_AJ   x0 x1 x2 x3 k).bind q = K_AJ   x0 x1 x2 x3 (fun d => (k d).bind q) := by
  simp only [K_AJ, bnd_cond, bnd_bind, bnd_none, bnd_sum]
theorem qa_AJ : ∀ b, (QA_AJ).em b = ([.r (.c (.ptr 0 (.k 0) 1)), rI b.1.2.1, rI b.1.2.2.1, rI b.1.2.2.2.1], [[.c (.f (.b b.2.1.1))]]) := fun b => by kernel_rfl
theorem e_AJ {f : (Int) → (Int) → (Int) → (Bool) → Option (Int × Bool)} {args : List AV} {h : List Blk} {r : Res} (hr : (F_AJ f args h).eval = some r) : ∃ x0 x1 x2 x3, args = [.r (.c (.ptr 0 (.k 0) 1)), rI x0, rI x1, rI x2] ∧ h = [[.c (.f (.b x3))]] ∧ (f x0 x1 x2 x3).bind (fun (d : Int × Bool) => some (Res.mk (rI d.1) [Ch.set [sB d.2]] [])) = some r := by
  unfold F_AJ at hr
  split at hr
  · rename_i b hb
    have e := ((QA_AJ).ok _ _ hb).trans (qa_AJ b)
    rw [opt_eval2] at hr
    exact ⟨b.1.2.1, b.1.2.2.1, b.1.2.2.2.1, b.2.1.1, (Prod.mk.inj e).1, (Prod.mk.inj e).2, hr⟩
  · cases hr
theorem n_AJ {σ : Type} (q : (Int × Bool) → Option σ) (x0 : Int) (x1 : Int) (x2 : Int) (x3 : Bool) : (f_AJ x0 x1 x2 x3).bind q = K_AJ   x0 x1 x2 x3 q := by
  unfold f_AJ
  exact m_AJ q    x0 x1 x2 x3 some
theorem s_AJ [Amb] : Sound Try.prog 106 (F_AJ f_AJ) := (inl_sound (l := []) (.nil _) mixed [] [0] 200 (by kernel_rfl)).by (F := F_AJ f_AJ) fun args b r hr => by
  obtain ⟨x0, x1, x2, x3, rfl, rfl, hr1⟩ := e_AJ hr
  exact inl_eval ((d_AJ   x0 x1 x2 x3).trans ((n_AJ (fun (d : Int × Bool) => some (Res.mk (rI d.1) [Ch.set [sB d.2]] [])) x0 x1 x2 x3).symm.trans hr1))

def K_AA {ρ : Type} (g_AJ : t7ES1) (x0 : Int) (x1 : Bool) (k : (Int × Bool) → Option ρ) : Option ρ := Option.bind (g_AJ x0 (-1152921504606846976) 1152921504606846976 x1) fun (d : Int × Bool) => k (d.1, d.2)
def f_AA (x0 : Int) (x1 : Bool) : Option (Int × Bool) := K_AA f_AJ  x0 x1 some
section
open Go.Ab.Rdr
def QA_AA := ((pair (cons (ar (rc (cptr (nat 0) (ok' (nat 0)) (nat 1)))) (cons (ar (rc (cf (fi .i64 hole)))) nil)) (cons (cons (gc (cf (fb hole))) nil) nil)) : Rdr (List AV × List Blk) _)
end
def F_AA (f : (Int) → (Bool) → Option (Int × Bool)) : Sem1 := fun args h => match (QA_AA).rd (args, h) with
  | some b => .opt (f b.1.2.1 b.2.1.1) fun (d : Int × Bool) => .leaf (Res.mk (rI d.1) [Ch.set [sB d.2]] [])
  | none => .fail
theorem d_AA (g_AJ : t7ES1) (x0 : Int) (x1 : Bool) : den Try.prog (envOf [(106, F_AJ g_AJ)]) ⟨[], [], [], [], none⟩ 200 100 [.r (.c (.ptr 0 (.k 0) 1)), rI x0] [[.c (.f (.b x1))]] = K_AA g_AJ x0 x1 (fun (d : Int × Bool) => some (Res.mk (rI d.1) [Ch.set [sB d.2]] [])) := by kernel_rfl
theorem m_AA {ρ σ : Type} (q : ρ → Option σ) (g_AJ : t7ES1)   (x0 : Int) (x1 : Bool) (k : (Int × Bool) → Option ρ) : (K_AA g_AJ  x0 x1 k).bind q = K_AA g_AJ  x0 x1 (fun d => (k d).bind q) := by
  simp only [K_AA, bnd_cond, bnd_bind, bnd_none, bnd_sum]
theorem qa_AA : ∀ b, (QA_AA).em b = ([.r (.c (.ptr 0 (.k 0) 1)), rI b.1.2.1], [[.c (.f (.b b.2.1.1))]]) := fun b => by kernel_rfl
theorem e_AA {f : (Int) → (Bool) → Option (Int × Bool)} {args : List AV} {h : List Blk} {r : Res} (hr : (F_AA f args h).eval = some r) : ∃ x0 x1, args = [.r (.c (.ptr 0 (.k 0) 1)), rI x0] ∧ h = [[.c (.f (.b x1))]] ∧ (f x0 x1).bind (fun (d : Int × Bool) => some (Res.mk (rI d.1) [Ch.set [sB d.2]] [])) = some r := by
  unfold F_AA at hr
  split at hr
  · rename_i b hb
    have e := ((QA_AA).ok _ _ hb).trans (qa_AA b)
    rw [opt_eval2] at hr
    exact ⟨b.1.2.1, b.2.1.1, (Prod.mk.inj e).1, (Prod.mk.inj e).2, hr⟩
  · cases hr
theorem n_AA {σ : Type} (q : (Int × Bool) → Option σ) (x0 : Int) (x1 : Bool) : (f_AA x0 x1).bind q = K_AA f_AJ  x0 x1 q := by
  unfold f_AA
  exact m_AA q f_AJ   x0 x1 some
theorem s_AA [Amb] : Sound Try.prog 100 (F_AA f_AA) := (inl_sound (l := [(106, F_AJ f_AJ)]) (.cons s_AJ (.nil _)) mixed [] [] 200 (by kernel_rfl)).by (F := F_AA f_AA) fun args b r hr => by
  obtain ⟨x0, x1, rfl, rfl, hr1⟩ := e_AA hr
  exact inl_eval ((d_AA f_AJ  x0 x1).trans ((n_AA (fun (d : Int × Bool) => some (Res.mk (rI d.1) [Ch.set [sB d.2]] [])) x0 x1).symm.trans hr1))

def K_Au {ρ : Type} (g_AA : t8ES1) (x0 : Int) (x1 : Int) (x2 : Bool) (k : (Int × Bool) → Option ρ) : Option ρ := Option.bind (g_AA x0 x2) fun (d : Int × Bool) => Option.bind (g_AA x1 d.2) fun (d_1 : Int × Bool) => Option.bind (g_AA (IntKind.wrap IntKind.i64 (d.1 - d_1.1)) d_1.2) fun (d : Int ×
 Bool) => k (d.1, d.2)
def f_Au (x0 : Int) (x1 : Int) (x2 : Bool) : Option (Int × Bool) := K_Au f_AA  x0 x1 x2 some
section
open Go.Ab.Rdr
def QA_Au := ((pair (cons (ar (rc (cptr (nat 0) (ok' (nat 0)) (nat 1)))) (cons (ar (rc (cf (fi .i64 hole)))) (cons (ar (rc (cf (fi .i64 hole)))) nil))) (cons (cons (gc (cf (fb hole))) nil) nil)) : Rdr (List AV × List Blk) _)
end
def F_Au (f : (Int) → (Int) → (Bool) → Option (Int × Bool)) : Sem1 := fun args h => match (QA_Au).rd (args, h) with
  | some b => .opt (f b.1.2.1 b.1.2.2.1 b.2.1.1) fun (d : Int × Bool) => .leaf (Res.mk (rI d.1) [Ch.set [sB d.2]] [])
  | none => .fail
theorem d_Au (g_AA : t8ES1) (x0 : Int) (x1 : Int) (x2 : Bool) : den Try.prog (envOf [(100, F_AA g_AA)]) ⟨[], [], [], [], none⟩ 200 80 [.r (.c (.ptr 0 (.k 0) 1)), rI x0, rI x1] [[.c (.f (.b x2))]] = K_Au g_AA x0 x1 x2 (fun (d : Int × Bool) => some (Res.mk (rI d.1) [Ch.set [sB d.2]] [])) := by kernel_rfl
theorem m_Au {ρ σ : Type} (q : ρ → Option σ) (g_AA : t8ES1)   (x0 : Int) (x1 : Int) (x2 : Bool) (k : (Int × Bool) → Option ρ) : (K_Au g_AA  x0 x1 x2 k).bind q = K_Au g_AA  x0 x1 x2 (fun d => (k d).bind q) := by
  simp only [K_Au, bnd_cond, bnd_bind, bnd_none, bnd_sum]
theorem qa_Au : ∀ b, (QA_Au).em b = ([.r (.c (.ptr 0 (.k 0) 1)), rI b.1.2.1, rI b.1.2.2.1], [[.c (.f (.b b.2.1.1))]]) := fun b => by kernel_rfl
theorem e_Au {f : (Int) → (Int) → (Bool) → Option (Int × Bool)} {args : List AV} {h : List Blk} {r : Res} (hr : (F_Au f args h).eval = some r) : ∃ x0 x1 x2, args = [.r (.c (.ptr 0 (.k 0) 1)), rI x0, rI x1] ∧ h = [[.c (.f (.b x2))]] ∧ (f x0 x1 x2).bind (fun (d : Int × Bool) => some (Res.mk (rI d.1) [Ch.set [sB d.2]] [])) = some r := by
  unfold F_Au at hr
  split at hr
  · rename_i b hb
    have e := ((QA_Au).ok _ _ hb).trans (qa_Au b)
    rw [opt_eval2] at hr
    exact ⟨b.1.2.1, b.1.2.2.1, b.2.1.1, (Prod.mk.inj e).1, (Prod.mk.inj e).2, hr⟩
  · cases hr
theorem n_Au {σ : Type} (q : (Int × Bool) → Option σ) (x0 : Int) (x1 : Int) (x2 : Bool) : (f_Au x0 x1 x2).bind q = K_Au f_AA  x0 x1 x2 q := by
  unfold f_Au
  exact m_Au q f_AA   x0 x1 x2 some
theorem s_Au [Amb] : Sound Try.prog 80 (F_Au f_Au) := (inl_sound (l := [(100, F_AA f_AA)]) (.cons s_AA (.nil _)) mixed [] [] 200 (by kernel_rfl)).by (F := F_Au f_Au) fun args b r hr => by
  obtain ⟨x0, x1, x2, rfl, rfl, hr1⟩ := e_Au hr
  exact inl_eval ((d_Au f_AA  x0 x1 x2).trans ((n_Au (fun (d : Int × Bool) => some (Res.mk (rI d.1) [Ch.set [sB d.2]] [])) x0 x1 x2).symm.trans hr1))

def K_AT {ρ : Type} (x0 : Int) (k : (Int) → Option ρ) : Option ρ := bif decide (x0 < 0) then k (IntKind.wrap IntKind.u64 (IntKind.wrap IntKind.i64 (0 - x0))) else k (IntKind.wrap IntKind.u64 x0)
def f_AT (x0 : Int) : Option (Int) := K_AT   x0 some
section
open Go.Ab.Rdr
def QA_AT := ((pair (cons (ar (rc (cf (fi .i64 hole)))) nil) nil) : Rdr (List AV × List Blk) _)
end
def F_AT (f : (Int) → Option (Int)) : Sem1 := fun args h => match (QA_AT).rd (args, h) with
  | some b => .opt (f b.1.1) fun (d : Int) => .leaf (Res.mk (rU d) [] [])
  | none => .fail
theorem d_AT (x0 : Int) : den Try.prog (envOf []) ⟨[], [], [], [], none⟩ 200 104 [rI x0] [] = K_AT x0 (fun (d : Int) => some (Res.mk (rU d) [] [])) := by kernel_rfl
theorem m_AT {ρ σ : Type} (q : ρ → Option σ)    (x0 : Int) (k : (Int) → Option ρ) : (K_AT   x0 k).bind q = K_AT   x0 (fun d => (k d).bind q) := by
  simp only [K_AT, bnd_cond, bnd_bind, bnd_none, bnd_sum]
theorem qa_AT : ∀ b, (QA_AT).em b = ([rI b.1.1], []) := fun b => by kernel_rfl
theorem e_AT {f : (Int) → Option (Int)} {args : List AV} {h : List Blk} {r : Res} (hr : (F_AT f args h).eval = some r) : ∃ x0, args = [rI x0] ∧ h = [] ∧ (f x0).bind (fun (d : Int) => some (Res.mk (rU d) [] [])) = some r := by
  unfold F_AT at hr
  split at hr
  · rename_i b hb
    have e := ((QA_AT).ok _ _ hb).trans (qa_AT b)
    rw [opt_eval2] at hr
    exact ⟨b.1.1, (Prod.mk.inj e).1, (Prod.mk.inj e).2, hr⟩
  · cases hr
theorem n_AT {σ : Type} (q : (Int) → Option σ) (x0 : Int) : (f_AT x0).bind q = K_AT   x0 q := by
  unfold f_AT
  exact m_AT q    x0 some
theorem s_AT [Amb] : Sound Try.prog 104 (F_AT f_AT) := (inl_sound (l := []) (.nil _) mixed [] [] 200 (by kernel_rfl)).by (F := F_AT f_AT) fun args b r hr => by
  obtain ⟨x0, rfl, rfl, hr1⟩ := e_AT hr
  exact inl_eval ((d_AT   x0).trans ((n_AT (fun (d : Int) => some (Res.mk (rU d) [] [])) x0).symm.trans hr1))

def K_Aj {ρ : Type} (x0 : Int) (x1 : Int) (k : (Int × Int) → Option ρ) : Option ρ := k (IntKind.wrap IntKind.u64 (IntKind.wrap IntKind.u64 (IntKind.wrap IntKind.u64 (Int.fdiv x0 4294967296 * Int.fdiv x1 4294967296) + Int.fdiv (IntKind.wrap IntKind.u64 (IntKind.wrap IntKind.u64 (Int.fdiv x0 4294967296 * IntKind.wrap IntKind.u64 (Int.ofNat (BitVec.toNat (BitVec.ofInt 64 x1 &&& BitVec.ofInt 64 4294967295)))) + Int.fdiv (IntKind.wrap IntKind.u64 (IntKind.wrap IntKind.u64 (Int.ofNat (BitVec.toNat (BitVec.ofInt 64 x0 &&& BitVec.ofInt 64 4294967295))) * IntKind.wrap IntKind.u64 (Int.ofNat (BitVec.toNat (BitVec.ofInt 64 x1 &&& BitVec.ofInt 64 4294967295))))) 4294967296)) 4294967296) + Int.fdiv (IntKind.wrap IntKind.u64 (IntKind.wrap IntKind.u64 (IntKind.wrap IntKind.u64 (Int.ofNat (BitVec.toNat (BitVec.ofInt 64 x0 &&& BitVec.ofInt 64 4294967295))) * Int.fdiv x1 4294967296) + IntKind.wrap IntKind.u64 (Int.ofNat (BitVec.toNat (BitVec.ofInt 64 (IntKind.wrap IntKind.u64 (IntKind.wrap IntKind.u64 (Int.fdiv x0 4294967296 * IntKind.wrap IntKind.u64 (Int.ofNat (BitVec.toNat (BitVec.ofInt 64 x1 &&& BitVec.ofInt 64 4294967295)))) + Int.fdiv (IntKind.wrap IntKind.u64 (IntKind.wrap IntKind.u64 (Int.ofNat (BitVec.toNat (BitVec.ofInt 64 x0 &&& BitVec.ofInt 64 4294967295))) * IntKind.wrap IntKind.u64 (Int.ofNat (BitVec.toNat (BitVec.ofInt 64 x1 &&& BitVec.ofInt 64 4294967295))))) 4294967296)) &&& BitVec.ofInt 64 4294967295))))) 4294967296),
 IntKind.wrap IntKind.u64 (Int.ofNat (BitVec.toNat (BitVec.ofInt 64 (IntKind.wrap IntKind.u64 (IntKind.wrap IntKind.u64 (IntKind.wrap IntKind.u64 (IntKind.wrap IntKind.u64 (Int.ofNat (BitVec.toNat (BitVec.ofInt 64 x0 &&& BitVec.ofInt 64 4294967295))) * Int.fdiv x1 4294967296) + IntKind.wrap IntKind.u64 (Int.ofNat (BitVec.toNat (BitVec.ofInt 64 (IntKind.wrap IntKind.u64 (IntKind.wrap IntKind.u64 (Int.fdiv x0 4294967296 * IntKind.wrap IntKind.u64 (Int.ofNat (BitVec.toNat (BitVec.ofInt 64 x1 &&& BitVec.ofInt 64 4294967295)))) + Int.fdiv (IntKind.wrap IntKind.u64 (IntKind.wrap IntKind.u64 (Int.ofNat (BitVec.toNat (BitVec.ofInt 64 x0 &&& BitVec.ofInt 64 4294967295))) * IntKind.wrap IntKind.u64 (Int.ofNat (BitVec.toNat (BitVec.ofInt 64 x1 &&& BitVec.ofInt 64 4294967295))))) 4294967296)) &&& BitVec.ofInt 64 4294967295)))) * 4294967296)) ||| BitVec.ofInt 64 (IntKind.wrap IntKind.u64 (Int.ofNat (BitVec.toNat (BitVec.ofInt 64 (IntKind.wrap IntKind.u64 (IntKind.wrap IntKind.u64 (Int.ofNat (BitVec.toNat (BitVec.ofInt 64 x0 &&& BitVec.ofInt 64 4294967295))) * IntKind.wrap IntKind.u64 (Int.ofNat (BitVec.toNat (BitVec.ofInt 64 x1 &&& BitVec.ofInt 64 4294967295))))) &&& BitVec.ofInt 64 4294967295))))))))
def f_Aj (x0 : Int) (x1 : Int) : Option (Int × Int) := K_Aj   x0 x1 some
section
open Go.Ab.Rdr
def QA_Aj := ((pair (cons (ar (rc (cf (fi .u64 hole)))) (cons (ar (rc (cf (fi .u64 hole)))) nil)) nil) : Rdr (List AV × List Blk) _)
end
def F_Aj (f : (Int) → (Int) → Option (Int × Int)) : Sem1 := fun args h => match (QA_Aj).rd (args, h) with
  | some b => .opt (f b.1.1 b.1.2.1) fun (d : Int × Int) => .leaf (Res.mk (AV.tup [RV.c (CV.f (FV.i IntKind.u64 d.1)), RV.c (CV.f (FV.i IntKind.u64 d.2))]) [] [])
  | none => .fail
theorem d_Aj (x0 : Int) (x1 : Int) : den Try.prog (envOf []) ⟨[], [], [], [], none⟩ 200 115 [rU x0, rU x1] [] = K_Aj x0 x1 (fun (d : Int × Int) => some (Res.mk (AV.tup [RV.c (CV.f (FV.i IntKind.u64 d.1)), RV.c (CV.f (FV.i IntKind.u64 d.2))]) [] [])) := by kernel_rfl
theorem m_Aj {ρ σ : Type} (q : ρ → Option σ)    (x0 : Int) (x1 : Int) (k : (Int × Int) → Option ρ) : (K_Aj   x0 x1 k).bind q = K_Aj   x0 x1 (fun d => (k d).bind q) := by
  simp only [K_Aj, bnd_cond, bnd_bind, bnd_none, bnd_sum]
theorem qa_Aj : ∀ b, (QA_Aj).em b = ([rU b.1.1, rU b.1.2.1], []) := fun b => by kernel_rfl
theorem e_Aj {f : (Int) → (Int) → Option (Int × Int)} {args : List AV} {h : List Blk} {r : Res} (hr : (F_Aj f args h).eval = some r) : ∃ x0 x1, args = [rU x0, rU x1] ∧ h = [] ∧ (f x0 x1).bind (fun (d : Int × Int) => some (Res.mk (AV.tup [RV.c (CV.f (FV.i IntKind.u64 d.1)), RV.c (CV.f (FV.i IntKind.u64 d.2))]) [] [])) = some r := by
  unfold F_Aj at hr
  split at hr
  · rename_i b hb
    have e := ((QA_Aj).ok _ _ hb).trans (qa_Aj b)
    rw [opt_eval2] at hr
    exact ⟨b.1.1, b.1.2.1, (Prod.mk.inj e).1, (Prod.mk.inj e).2, hr⟩
  · cases hr
theorem n_Aj {σ : Type} (q : (Int × Int) → Option σ) (x0 : Int) (x1 : Int) : (f_Aj x0 x1).bind q = K_Aj   x0 x1 q := by
  unfold f_Aj
  exact m_Aj q    x0 x1 some
theorem s_Aj [Amb] : Sound Try.prog 115 (F_Aj f_Aj) := (inl_sound (l := []) (.nil _) mixed [] [] 200 (by kernel_rfl)).by (F := F_Aj f_Aj) fun args b r hr => by
  obtain ⟨x0, x1, rfl, rfl, hr1⟩ := e_Aj hr
  exact inl_eval ((d_Aj   x0 x1).trans ((n_Aj (fun (d : Int × Int) => some (Res.mk (AV.tup [RV.c (CV.f (FV.i IntKind.u64 d.1)), RV.c (CV.f (FV.i IntKind.u64 d.2))]) [] [])) x0 x1).symm.trans hr1))

def K_BC {ρ : Type} (g_AT : t9ES1) (g_Aj : t10ES1) (x0 : Int) (x1 : Int) (k : (Int × Int × Bool) → Option ρ) : Option ρ := Option.bind (g_AT x0) fun (d : Int) => Option.bind (g_AT x1) fun (d_1 : Int) => Option.bind (g_Aj d d_1) fun (d : Int × Int) => k (d.1, d.2, !decide (x0 < 0) == decide (x1 < 0))
def f_BC (x0 : Int) (x1 : Int) : Option (Int × Int × Bool) := K_BC f_AT f_Aj  x0 x1 some
section
open Go.Ab.Rdr
def QA_BC := ((pair (cons (ar (rc (cf (fi .i64 hole)))) (cons (ar (rc (cf (fi .i64 hole)))) nil)) nil) : Rdr (List AV × List Blk) _)
end
def F_BC (f : (Int) → (Int) → Option (Int × Int × Bool)) : Sem1 := fun args h => match (QA_BC).rd (args, h) with
  | some b => .opt (f b.1.1 b.1.2.1) fun (d : Int × Int × Bool) => .leaf (Res.mk (AV.r (RV.agg [sU d.1, sU d.2.1, sB d.2.2])) [] [])
  | none => .fail
theorem d_BC (g_AT : t9ES1) (g_Aj : t10ES1) (x0 : Int) (x1 : Int) : den Try.prog (envOf [(104, F_AT g_AT), (115, F_Aj g_Aj)]) ⟨[], [], [], [], none⟩ 200 101 [rI x0, rI x1] [] = K_BC g_AT g_Aj x0 x1 (fun (d : Int × Int × Bool) => some (Res.mk (AV.r (RV.agg [sU d.1,
 sU d.2.1, sB d.2.2])) [] [])) := by kernel_rfl
theorem m_BC {ρ σ : Type} (q : ρ → Option σ) (g_AT : t9ES1) (g_Aj : t10ES1)   (x0 : Int) (x1 : Int) (k : (Int × Int × Bool) → Option ρ) : (K_BC g_AT g_Aj  x0 x1 k).bind q = K_BC g_AT g_Aj  x0 x1 (fun d => (k d).bind q) := by
  simp only [K_BC, bnd_cond, bnd_bind, bnd_none, bnd_sum]
theorem qa_BC : ∀ b, (QA_BC).em b = ([rI b.1.1, rI b.1.2.1], []) := fun b => by kernel_rfl
theorem e_BC {f : (Int) → (Int) → Option (Int × Int × Bool)} {args : List AV} {h : List Blk} {r : Res} (hr : (F_BC f args h).eval = some r) : ∃ x0 x1, args = [rI x0, rI x1] ∧ h = [] ∧ (f x0 x1).bind (fun (d : Int × Int × Bool) => some (Res.mk (AV.r (RV.agg [sU d.1, sU d.2.1, sB d.2.2])) [] [])) = some r := by
  unfold F_BC at hr
  split at hr
  · rename_i b hb
    have e := ((QA_BC).ok _ _ hb).trans (qa_BC b)
    rw [opt_eval2] at hr
    exact ⟨b.1.1, b.1.2.1, (Prod.mk.inj e).1, (Prod.mk.inj e).2, hr⟩
  · cases hr
theorem n_BC {σ : Type} (q : (Int × Int × Bool) → Option σ) (x0 : Int) (x1 : Int) : (f_BC x0 x1).bind q = K_BC f_AT f_Aj  x0 x1 q := by
  unfold f_BC
  exact m_BC q f_AT f_Aj   x0 x1 some
theorem s_BC [Amb] : Sound Try.prog 101 (F_BC f_BC) := (inl_sound (l := [(104, F_AT f_AT), (115, F_Aj f_Aj)]) (.cons s_AT (.cons s_Aj (.nil _))) mixed [] [] 200 (by kernel_rfl)).by (F := F_BC f_BC) fun args b r hr => by
  obtain ⟨x0, x1, rfl, rfl, hr1⟩ := e_BC hr
  exact inl_eval ((d_BC f_AT f_Aj  x0 x1).trans ((n_BC (fun (d : Int × Int × Bool) => some (Res.mk (AV.r (RV.agg [sU d.1, sU d.2.1, sB d.2.2])) [] [])) x0 x1).symm.trans hr1))

def K_Am {ρ : Type} (x0 : Int) (x1 : Int) (x2 : Bool) (x3 : Int) (x4 : Int) (x5 : Bool) (k : (Bool) → Option ρ) : Option ρ := bif decide (x0 < x3) then k true else bif x0 == x3 then k (decide (x1 < x4)) else k false
def f_Am (x0 : Int) (x1 : Int) (x2 : Bool) (x3 : Int) (x4 : Int) (x5 : Bool) : Option (Bool) := K_Am   x0 x1 x2 x3 x4 x5 some
section
open Go.Ab.Rdr
def QA_Am := ((pair (cons (ar (ra (cons (gc (cf (fi .u64 hole))) (cons (gc (cf (fi .u64 hole))) (cons (gc (cf (fb hole))) nil))))) (cons (ar (ra (cons (gc (cf (fi .u64 hole))) (cons (gc (cf (fi .u64 hole))) (cons (gc (cf (fb hole))) nil))))) nil)) nil) : Rdr (List AV × List Blk) _)
end
def F_Am (f : (Int) → (Int) → (Bool) → (Int) → (Int) → (Bool) → Option (Bool)) : Sem1 := fun args h => match (QA_Am).rd (args, h) with
  | some b => .opt (f b.1.1.1 b.1.1.2.1 b.1.1.2.2.1 b.1.2.1.1 b.1.2.1.2.1 b.1.2.1.2.2.1) fun (d : Bool) => .leaf (Res.mk (rB d) [] [])
  | none => .fail
theorem d_Am (x0 : Int) (x1 : Int) (x2 : Bool) (x3 : Int) (x4 : Int) (x5 : Bool) : den Try.prog (envOf []) ⟨[], [], [], [], none⟩ 200 117 [.r (.agg [.c (.f (.i .u64 x0)), .c (.f (.i .u64 x1)), .c (.f (.b x2))]), .r (.agg [.c (.f (.i .u64 x3)), .c (.f (.i .u64 x4)), .c (.f (.b x5))])] [] = K_Am x0 x1 x2 x3 x4 x5 (fun (d : Bool) => some (Res.mk (rB d) [] [])) := by kernel_rfl
theorem m_Am {ρ σ : Type} (q : ρ → Option σ)    (x0 : Int) (x1 : Int) (x2 : Bool) (x3 : Int) (x4 : Int) (x5 : Bool) (k : (Bool) → Option ρ) : (K_Am   x0 x1 x2 x3 x4 x5 k).bind q = K_Am   x0 x1 x2 x3 x4 x5 (fun d => (k d).bind q) := by
  simp only [K_Am, bnd_cond, bnd_bind, bnd_none, bnd_sum]
theorem qa_Am : ∀ b, (QA_Am).em b = ([.r (.agg [.c (.f (.i .u64 b.1.1.1)), .c (.f (.i .u64 b.1.1.2.1)), .c (.f (.b b.1.1.2.2.1))]), .r (.agg [.c (.f (.i .u64 b.1.2.1.1)), .c (.f (.i .u64 b.1.2.1.2.1)), .c (.f (.b b.1.2.1.2.2.1))])], []) := fun b => by kernel_rfl
theorem e_Am {f : (Int) → (Int) → (Bool) → (Int) → (Int) → (Bool) → Option (Bool)} {args : List AV} {h : List Blk} {r : Res} (hr : (F_Am f args h).eval = some r) : ∃ x0 x1 x2 x3 x4 x5, args = [.r (.agg [.c (.f (.i .u64 x0)), .c (.f (.i .u64 x1)), .c (.f (.b x2))]), .r (.agg [.c (.f (.i .u64 x3)), .c (.f (.i .u64 x4)), .c (.f (.b x5))])] ∧ h = [] ∧ (f x0 x1 x2 x3 x4 x5).bind (fun (d : Bool) => some (Res.mk (rB d) [] [])) = some r := by
  unfold F_Am at hr
  split at hr
  · rename_i b hb
    have e := ((QA_Am).ok _ _ hb).trans (qa_Am b)
    rw [opt_eval2] at hr
    exact ⟨b.1.1.1, b.1.1.2.1, b.1.1.2.2.1, b.1.2.1.1, b.1.2.1.2.1, b.1.2.1.2.2.1, (Prod.mk.inj e).1, (Prod.mk.inj e).2, hr⟩
  · cases hr
theorem n_Am {σ : Type} (q : (Bool) → Option σ) (x0 : Int) (x1 : Int) (x2 : Bool) (x3 : Int) (x4 : Int) (x5 : Bool) : (f_Am x0 x1 x2 x3 x4 x5).bind q = K_Am   x0 x1 x2 x3 x4 x5 q := by
  unfold f_Am
  exact m_Am q    x0 x1 x2 x3 x4 x5 some
theorem s_Am [Amb] : Sound Try.prog 117 (F_Am f_Am) := (inl_sound (l := []) (.nil _) mixed [] [] 200 (by kernel_rfl)).by (F := F_Am f_Am) fun args b r hr => by
  obtain ⟨x0, x1, x2, x3, x4, x5, rfl, rfl, hr1⟩ := e_Am hr
  exact inl_eval ((d_Am   x0 x1 x2 x3 x4 x5).trans ((n_Am (fun (d : Bool) => some (Res.mk (rB d) [] [])) x0 x1 x2 x3 x4 x5).symm.trans hr1))

def K_AM {ρ : Type} (g_Am : t11ES1) (x0 : Int) (x1 : Int) (x2 : Bool) (x3 : Int) (x4 : Int) (x5 : Bool) (k : (Int × Int × Bool) → Option ρ) : Option ρ := bif x2 == x5 then bif decide (IntKind.wrap IntKind.u64 (x1 + x4) < x1) then k (IntKind.wrap IntKind.u64 (IntKind.wrap IntKind.u64 (x0 + x3) + 1),
 IntKind.wrap IntKind.u64 (x1 + x4), x2) else k (IntKind.wrap IntKind.u64 (x0 + x3), IntKind.wrap IntKind.u64 (x1 + x4), x2) else Option.bind (g_Am x0 x1 x2 x3 x4 x5) fun (d : Bool) => bif d then bif decide (x4 < x1) then k (IntKind.wrap IntKind.u64 (IntKind.wrap IntKind.u64 (x3 - x0) - 1), IntKind.wrap IntKind.u64 (x4 - x1),
 x5) else k (IntKind.wrap IntKind.u64 (x3 - x0), IntKind.wrap IntKind.u64 (x4 - x1), x5) else bif decide (x1 < x4) then k (IntKind.wrap IntKind.u64 (IntKind.wrap IntKind.u64 (x0 - x3) - 1), IntKind.wrap IntKind.u64 (x1 - x4), x2) else k (IntKind.wrap IntKind.u64 (x0 - x3), IntKind.wrap IntKind.u64 (x1 - x4),
 x2)
def f_AM (x0 : Int) (x1 : Int) (x2 : Bool) (x3 : Int) (x4 : Int) (x5 : Bool) : Option (Int × Int × Bool) := K_AM f_Am  x0 x1 x2 x3 x4 x5 some
section
open Go.Ab.Rdr
def QA_AM := ((pair (cons (ar (ra (cons (gc (cf (fi .u64 hole))) (cons (gc (cf (fi .u64 hole))) (cons (gc (cf (fb hole))) nil))))) (cons (ar (ra (cons (gc (cf (fi .u64 hole))) (cons (gc (cf (fi .u64 hole))) (cons (gc (cf (fb hole))) nil))))) nil)) nil) : Rdr (List AV × List Blk) _)
end
def F_AM (f : (Int) → (Int) → (Bool) → (Int) → (Int) → (Bool) → Option (Int × Int × Bool)) : Sem1 := fun args h => match (QA_AM).rd (args, h) with
  | some b => .opt (f b.1.1.1 b.1.1.2.1 b.1.1.2.2.1 b.1.2.1.1 b.1.2.1.2.1 b.1.2.1.2.2.1) fun (d : Int × Int × Bool) => .leaf (Res.mk (AV.r (RV.agg [sU d.1, sU d.2.1, sB d.2.2])) [] [])
  | none => .fail
theorem d_AM (g_Am : t11ES1) (x0 : Int) (x1 : Int) (x2 : Bool) (x3 : Int) (x4 : Int) (x5 : Bool) : den Try.prog (envOf [(117, F_Am g_Am)]) ⟨[], [], [], [], none⟩ 200 116 [.r (.agg [.c (.f (.i .u64 x0)), .c (.f (.i .u64 x1)), .c (.f (.b x2))]), .r (.agg [.c (.f (.i .u64 x3)),
 .c (.f (.i .u64 x4)), .c (.f (.b x5))])] [] = K_AM g_Am x0 x1 x2 x3 x4 x5 (fun (d : Int × Int × Bool) => some (Res.mk (AV.r (RV.agg [sU d.1, sU d.2.1, sB d.2.2])) [] [])) := by kernel_rfl
theorem m_AM {ρ σ : Type} (q : ρ → Option σ) (g_Am : t11ES1)   (x0 : Int) (x1 : Int) (x2 : Bool) (x3 : Int) (x4 : Int) (x5 : Bool) (k : (Int × Int × Bool) → Option ρ) : (K_AM g_Am  x0 x1 x2 x3 x4 x5 k).bind q = K_AM g_Am  x0 x1 x2 x3 x4 x5 (fun d => (k d).bind q) := by
  simp only [K_AM, bnd_cond, bnd_bind, bnd_none, bnd_sum]
theorem qa_AM : ∀ b, (QA_AM).em b = ([.r (.agg [.c (.f (.i .u64 b.1.1.1)), .c (.f (.i .u64 b.1.1.2.1)), .c (.f (.b b.1.1.2.2.1))]), .r (.agg [.c (.f (.i .u64 b.1.2.1.1)), .c (.f (.i .u64 b.1.2.1.2.1)), .c (.f (.b b.1.2.1.2.2.1))])], []) := fun b => by kernel_rfl
theorem e_AM {f : (Int) → (Int) → (Bool) → (Int) → (Int) → (Bool) → Option (Int × Int × Bool)} {args : List AV} {h : List Blk} {r : Res} (hr : (F_AM f args h).eval = some r) : ∃ x0 x1 x2 x3 x4 x5, args = [.r (.agg [.c (.f (.i .u64 x0)), .c (.f (.i .u64 x1)), .c (.f (.b x2))]), .r (.agg [.c (.f (.i .u64 x3)), .c (.f (.i .u64 x4)), .c (.f (.b x5))])] ∧ h = [] ∧ (f x0 x1 x2 x3 x4 x5).bind (fun (d : Int × Int × Bool) => some (Res.mk (AV.r (RV.agg [sU d.1, sU d.2.1, sB d.2.2])) [] [])) = some r := by
  unfold F_AM at hr
  split at hr
  · rename_i b hb
    have e := ((QA_AM).ok _ _ hb).trans (qa_AM b)
    rw [opt_eval2] at hr
    exact ⟨b.1.1.1, b.1.1.2.1, b.1.1.2.2.1, b.1.2.1.1, b.1.2.1.2.1, b.1.2.1.2.2.1, (Prod.mk.inj e).1, (Prod.mk.inj e).2, hr⟩
  · cases hr
theorem n_AM {σ : Type} (q : (Int × Int × Bool) → Option σ) (x0 : Int) (x1 : Int) (x2 : Bool) (x3 : Int) (x4 : Int) (x5 : Bool) : (f_AM x0 x1 x2 x3 x4 x5).bind q = K_AM f_Am  x0 x1 x2 x3 x4 x5 q := by
  unfold f_AM
  exact m_AM q f_Am   x0 x1 x2 x3 x4 x5 some
theorem s_AM [Amb] : Sound Try.prog 116 (F_AM f_AM) := (inl_sound (l := [(117, F_Am f_Am)]) (.cons s_Am (.nil _)) mixed [] [] 200 (by kernel_rfl)).by (F := F_AM f_AM) fun args b r hr => by
  obtain ⟨x0, x1, x2, x3, x4, x5, rfl, rfl, hr1⟩ := e_AM hr
  exact inl_eval ((d_AM f_Am  x0 x1 x2 x3 x4 x5).trans ((n_AM (fun (d : Int × Int × Bool) => some (Res.mk (AV.r (RV.agg [sU d.1, sU d.2.1, sB d.2.2])) [] [])) x0 x1 x2 x3 x4 x5).symm.trans hr1))

def S_AN_0 {ρ : Type} (g_AM : t12ES1) (x0 : Int) (x1 : Int) (x2 : Int) (x3 : Int) (x4 : Int) (x5 : Bool) (x6 : Int) (x7 : Int) (x8 : Bool) (c : (Int × Int × Int × Int × Int × Bool × Int × Int × Bool) → Option ρ) (x : (Int × Int × Int × Bool × Int ×
 Int × Bool × Int × Int × Bool) → Option ρ) : Option ρ := bif decide (x2 ≥ 0) then bif !decide (IntKind.wrap IntKind.u64 (IntKind.wrap IntKind.i64 (Int.ofNat (BitVec.toNat (BitVec.ofInt 64 x2 &&& BitVec.ofInt 64 63)))) < 0) then bif decide (x2 ≥ 64) then bif !decide (IntKind.wrap IntKind.u64 (IntKind.wrap IntKind.i64 (Int.ofNat (BitVec.toNat (BitVec.ofInt 64 x2 &&& BitVec.ofInt 64 63)))) < 0) then
 bif decide (IntKind.wrap IntKind.u64 (Int.ofNat (BitVec.toNat (BitVec.ofInt 64 (IntKind.wrap IntKind.u64 (x1 * 2)) ||| BitVec.ofInt 64 (IntKind.wrap IntKind.u64 (Int.ofNat (BitVec.toNat (BitVec.ofInt 64 (Int.fdiv x3 (2 ^ min (Int.toNat (IntKind.wrap IntKind.u64 (IntKind.wrap IntKind.i64 (Int.ofNat (BitVec.toNat (BitVec.ofInt 64 x2 &&& BitVec.ofInt 64 63)))))) 64)) &&& BitVec.ofInt 64 1))))))) ≥ x0) then
 bif decide (x2 ≥ 64) then bif !decide (IntKind.wrap IntKind.u64 (IntKind.wrap IntKind.i64 (Int.ofNat (BitVec.toNat (BitVec.ofInt 64 x2 &&& BitVec.ofInt 64 63)))) < 0) then c (x0, IntKind.wrap IntKind.u64 (IntKind.wrap IntKind.u64 (Int.ofNat (BitVec.toNat (BitVec.ofInt 64 (IntKind.wrap IntKind.u64 (x1 * 2)) ||| BitVec.ofInt 64 (IntKind.wrap IntKind.u64 (Int.ofNat (BitVec.toNat (BitVec.ofInt 64 (Int.fdiv x3 (2 ^ min (Int.toNat (IntKind.wrap IntKind.u64 (IntKind.wrap IntKind.i64 (Int.ofNat (BitVec.toNat (BitVec.ofInt 64 x2 &&& BitVec.ofInt 64 63)))))) 64)) &&& BitVec.ofInt 64 1))))))) - x0),
 IntKind.wrap IntKind.i64 (x2 - 1), x3, x4, x5, IntKind.wrap IntKind.u64 (Int.ofNat (BitVec.toNat (BitVec.ofInt 64 x6 ||| BitVec.ofInt 64 (IntKind.wrap IntKind.u64 (1 * 2 ^ min (Int.toNat (IntKind.wrap IntKind.u64 (IntKind.wrap IntKind.i64 (Int.ofNat (BitVec.toNat (BitVec.ofInt 64 x2 &&& BitVec.ofInt 64 63)))))) 64))))),
 x7, x8) else none else bif !decide (IntKind.wrap IntKind.u64 (IntKind.wrap IntKind.i64 (Int.ofNat (BitVec.toNat (BitVec.ofInt 64 x2 &&& BitVec.ofInt 64 63)))) < 0) then c (x0, IntKind.wrap IntKind.u64 (IntKind.wrap IntKind.u64 (Int.ofNat (BitVec.toNat (BitVec.ofInt 64 (IntKind.wrap IntKind.u64 (x1 * 2)) ||| BitVec.ofInt 64 (IntKind.wrap IntKind.u64 (Int.ofNat (BitVec.toNat (BitVec.ofInt 64 (Int.fdiv x3 (2 ^ min (Int.toNat (IntKind.wrap IntKind.u64 (IntKind.wrap IntKind.i64 (Int.ofNat (BitVec.toNat (BitVec.ofInt 64 x2 &&& BitVec.ofInt 64 63)))))) 64)) &&& BitVec.ofInt 64 1))))))) - x0),
 IntKind.wrap IntKind.i64 (x2 - 1), x3, x4, x5, x6, IntKind.wrap IntKind.u64 (Int.ofNat (BitVec.toNat (BitVec.ofInt 64 x7 ||| BitVec.ofInt 64 (IntKind.wrap IntKind.u64 (1 * 2 ^ min (Int.toNat (IntKind.wrap IntKind.u64 (IntKind.wrap IntKind.i64 (Int.ofNat (BitVec.toNat (BitVec.ofInt 64 x2 &&& BitVec.ofInt 64 63)))))) 64))))),
 x8) else none else c (x0, IntKind.wrap IntKind.u64 (Int.ofNat (BitVec.toNat (BitVec.ofInt 64 (IntKind.wrap IntKind.u64 (x1 * 2)) ||| BitVec.ofInt 64 (IntKind.wrap IntKind.u64 (Int.ofNat (BitVec.toNat (BitVec.ofInt 64 (Int.fdiv x3 (2 ^ min (Int.toNat (IntKind.wrap IntKind.u64 (IntKind.wrap IntKind.i64 (Int.ofNat (BitVec.toNat (BitVec.ofInt 64 x2 &&& BitVec.ofInt 64 63)))))) 64)) &&& BitVec.ofInt 64 1))))))),
 IntKind.wrap IntKind.i64 (x2 - 1), x3, x4, x5, x6, x7, x8) else none else bif decide (IntKind.wrap IntKind.u64 (Int.ofNat (BitVec.toNat (BitVec.ofInt 64 (IntKind.wrap IntKind.u64 (x1 * 2)) ||| BitVec.ofInt 64 (IntKind.wrap IntKind.u64 (Int.ofNat (BitVec.toNat (BitVec.ofInt 64 (Int.fdiv x4 (2 ^ min (Int.toNat (IntKind.wrap IntKind.u64 (IntKind.wrap IntKind.i64 (Int.ofNat (BitVec.toNat (BitVec.ofInt 64 x2 &&& BitVec.ofInt 64 63)))))) 64)) &&& BitVec.ofInt 64 1))))))) ≥ x0) then
 bif decide (x2 ≥ 64) then bif !decide (IntKind.wrap IntKind.u64 (IntKind.wrap IntKind.i64 (Int.ofNat (BitVec.toNat (BitVec.ofInt 64 x2 &&& BitVec.ofInt 64 63)))) < 0) then c (x0, IntKind.wrap IntKind.u64 (IntKind.wrap IntKind.u64 (Int.ofNat (BitVec.toNat (BitVec.ofInt 64 (IntKind.wrap IntKind.u64 (x1 * 2)) ||| BitVec.ofInt 64 (IntKind.wrap IntKind.u64 (Int.ofNat (BitVec.toNat (BitVec.ofInt 64 (Int.fdiv x4 (2 ^ min (Int.toNat (IntKind.wrap IntKind.u64 (IntKind.wrap IntKind.i64 (Int.ofNat (BitVec.toNat (BitVec.ofInt 64 x2 &&& BitVec.ofInt 64 63)))))) 64)) &&& BitVec.ofInt 64 1))))))) - x0),
 IntKind.wrap IntKind.i64 (x2 - 1), x3, x4, x5, IntKind.wrap IntKind.u64 (Int.ofNat (BitVec.toNat (BitVec.ofInt 64 x6 ||| BitVec.ofInt 64 (IntKind.wrap IntKind.u64 (1 * 2 ^ min (Int.toNat (IntKind.wrap IntKind.u64 (IntKind.wrap IntKind.i64 (Int.ofNat (BitVec.toNat (BitVec.ofInt 64 x2 &&& BitVec.ofInt 64 63)))))) 64))))),
 x7, x8) else none else bif !decide (IntKind.wrap IntKind.u64 (IntKind.wrap IntKind.i64 (Int.ofNat (BitVec.toNat (BitVec.ofInt 64 x2 &&& BitVec.ofInt 64 63)))) < 0) then c (x0, IntKind.wrap IntKind.u64 (IntKind.wrap IntKind.u64 (Int.ofNat (BitVec.toNat (BitVec.ofInt 64 (IntKind.wrap IntKind.u64 (x1 * 2)) ||| BitVec.ofInt 64 (IntKind.wrap IntKind.u64 (Int.ofNat (BitVec.toNat (BitVec.ofInt 64 (Int.fdiv x4 (2 ^ min (Int.toNat (IntKind.wrap IntKind.u64 (IntKind.wrap IntKind.i64 (Int.ofNat (BitVec.toNat (BitVec.ofInt 64 x2 &&& BitVec.ofInt 64 63)))))) 64)) &&& BitVec.ofInt 64 1))))))) - x0),
 IntKind.wrap IntKind.i64 (x2 - 1), x3, x4, x5, x6, IntKind.wrap IntKind.u64 (Int.ofNat (BitVec.toNat (BitVec.ofInt 64 x7 ||| BitVec.ofInt 64 (IntKind.wrap IntKind.u64 (1 * 2 ^ min (Int.toNat (IntKind.wrap IntKind.u64 (IntKind.wrap IntKind.i64 (Int.ofNat (BitVec.toNat (BitVec.ofInt 64 x2 &&& BitVec.ofInt 64 63)))))) 64))))),
 x8) else none else c (x0, IntKind.wrap IntKind.u64 (Int.ofNat (BitVec.toNat (BitVec.ofInt 64 (IntKind.wrap IntKind.u64 (x1 * 2)) ||| BitVec.ofInt 64 (IntKind.wrap IntKind.u64 (Int.ofNat (BitVec.toNat (BitVec.ofInt 64 (Int.fdiv x4 (2 ^ min (Int.toNat (IntKind.wrap IntKind.u64 (IntKind.wrap IntKind.i64 (Int.ofNat (BitVec.toNat (BitVec.ofInt 64 x2 &&& BitVec.ofInt 64 63)))))) 64)) &&& BitVec.ofInt 64 1))))))),
 IntKind.wrap IntKind.i64 (x2 - 1), x3, x4, x5, x6, x7, x8) else none else x (x0, x1, x2, decide (x2 ≥ 0), x3, x4, x5, x6, x7, x8)
section
open Go.Ab.Rdr
def Q_AN_0 := (st (cons aund (cons (ar (rc (cf (fi .u64 hole)))) (cons (ar (rc (cptr (nat 0) (ok' (nat 0)) (nat 3)))) (cons aund (cons (ar (rc (cptr (nat 1) (ok' (nat 0)) (nat 3)))) (cons (ar (rc (cptr (nat 2) (ok' (nat 0)) (nat 3)))) (cons (ar (rc (cf (fi .u64 hole)))) (cons (ar (rc (cf (fi .i64 hole)))) (cons aund (cons aund (cons aund (cons aund (cons aund (cons aund (cons aund (cons aund (cons aund (cons aund (cons aund (cons aund (cons aund (cons aund (cons aund (cons aund (cons aund (cons aund (cons aund (cons aund (cons aund (cons aund (cons aund (cons aund (cons aund (cons aund (cons aund (cons aund (cons aund (cons aund (cons aund (cons aund (cons aund (cons aund (cons aund (cons aund (cons aund (cons aund (cons aund (cons aund (cons aund (cons aund (cons aund (cons aund (cons aund (cons aund (cons aund (cons aund (cons aund (cons aund (cons aund (cons aund (cons aund (cons aund (cons aund (cons aund (cons aund (cons aund (cons aund (cons aund (cons aund (cons aund (cons aund nil))))))))))))))))))))))))))))))))))))))))))))))))))))))))))))))))))))))) (cons (some' (cons (gc (cf (fi .u64 hole))) (cons (gc (cf (fi .u64 hole))) (cons (gc (cf (fb hole))) nil)))) (cons (some' (cons (gc (cf (fi .u64 (int 0)))) (cons (gc (cf (fi .u64 (int 0)))) (cons (gc (cf (fb (bool false)))) nil)))) (cons (some' (cons (gc (cf (fi .u64 hole))) (cons (gc (cf (fi .u64 hole))) (cons (gc (cf (fb hole))) nil)))) nil))) nil)
end
theorem q_AN_0 : ∀ b, (Q_AN_0).em b = St.mk [un, rU b.1.2.1, AV.r (RV.c (CV.ptr 0 (Off.k 0) 3)), un, AV.r (RV.c (CV.ptr 1 (Off.k 0) 3)), AV.r (RV.c (CV.ptr 2 (Off.k 0) 3)), rU b.1.c4.2.2.1, rI b.1.c4.2.2.2.1,
 un, un, un, un, un, un, un, un, un, un, un, un, un, un, un, un, un, un, un, un, un, un, un, un, un, un, un, un, un, un, un, un, un, un, un, un, un, un,
 un, un, un, un, un, un, un, un, un, un, un, un, un, un, un, un, un, un, un, un, un, un, un, un, un] [some [sU b.2.1.1.1, sU b.2.1.1.2.1, sB b.2.1.1.2.2.1],
 some [sU 0, sU 0, sB false], some [sU b.2.1.2.2.1.1, sU b.2.1.2.2.1.2.1, sB b.2.1.2.2.1.2.2.1]] [] := fun b => by kernel_rfl
def R_AN_0 (l : ∀ {ρ : Type}, (Int × Int × Int × Int × Int × Bool × Int × Int × Bool) → ((Int × Int × Int × Bool × Int × Int × Bool × Int × Int × Bool) → Option ρ) → Option ρ) {ρ : Type} (s : St) (K : AX → St → Option ρ) : Option ρ := ((Q_AN_0).rd s).bind fun b => l (b.1.2.1, b.1.c4.2.2.1, b.1.c4.2.2.2.1,
 b.2.1.1.1, b.2.1.1.2.1, b.2.1.1.2.2.1, b.2.1.2.2.1.1, b.2.1.2.2.1.2.1, b.2.1.2.2.1.2.2.1) (fun d => K (AX.ex 0) (St.mk [un, rU d.1, AV.r (RV.c (CV.ptr 0 (Off.k 0) 3)), un, AV.r (RV.c (CV.ptr 1 (Off.k 0) 3)), AV.r (RV.c (CV.ptr 2 (Off.k 0) 3)), rU d.2.1,
 rI d.2.2.1, un, un, un, un, rI d.2.2.1, rB d.2.2.2.1, un, un, un, un, un, un, un, un, un, un, un, un, un, un, un, un, un, un,
 un, un, un, un, un, un, un, un, un, un, un, un, un, un, un, un, un, un, un, un, un, un, un, un, un, un, un, un, un, un, un, un, un, un, un, un, un, un,
 un] [some [sU d.c4.1, sU d.c4.2.1, sB d.c4.2.2.1], some [sU 0, sU 0, sB false], some [sU d.c4.2.2.2.1, sU d.c8.1,
 sB d.c8.2]] []))
theorem ms_AN_0 {ρ σ : Type} (g_AM : t12ES1)   (q : ρ → Option σ) (x0 : Int) (x1 : Int) (x2 : Int) (x3 : Int) (x4 : Int) (x5 : Bool) (x6 : Int) (x7 : Int) (x8 : Bool) (c : (Int × Int × Int × Int × Int × Bool × Int × Int × Bool) → Option ρ) (x : (Int × Int × Int × Bool × Int × Int × Bool × Int × Int × Bool) → Option ρ) : (S_AN_0 g_AM  x0 x1 x2 x3 x4 x5 x6 x7 x8 c x).bind q = S_AN_0 g_AM  x0 x1 x2 x3 x4 x5 x6 x7 x8 (fun d => (c d).bind q) (fun d => (x d).bind q) := by
  simp only [S_AN_0, bnd_cond, bnd_bind, bnd_none, bnd_sum]
def L_AN_0 {ρ : Type} (d : Int × Int × Int × Int × Int × Bool × Int × Int × Bool) (k : (Int × Int × Int × Bool × Int × Int × Bool × Int × Int × Bool) → Option ρ) : Option ρ := loopK (fun d c x => S_AN_0 f_AM  d.1 d.2.1 d.2.2.1 d.2.2.2.1 d.c4.1 d.c4.2.1 d.c4.2.2.1 d.c4.2.2.2.1 d.c8 c x) 200 d k
theorem mL_AN_0 {ρ σ : Type} (q : ρ → Option σ) (d : Int × Int × Int × Int × Int × Bool × Int × Int × Bool) (k : (Int × Int × Int × Bool × Int × Int × Bool × Int × Int × Bool) → Option ρ) : (L_AN_0 d k).bind q = L_AN_0 d fun x => (k x).bind q := loopK_bind q (fun d c x => ms_AN_0 f_AM q d.1 d.2.1 d.2.2.1 d.2.2.2.1 d.c4.1 d.c4.2.1 d.c4.2.2.1 d.c4.2.2.2.1 d.c8 c x) k _ d
theorem ds_AN_0 {ρ : Type} (g_AM : t12ES1) (l_0 : ∀ {ρ : Type}, (Int × Int × Int × Int × Int × Bool × Int × Int × Bool) → ((Int × Int × Int × Bool × Int × Int × Bool × Int × Int × Bool) → Option ρ) → Option ρ) (x0 : Int) (x1 : Int) (x2 : Int) (x3 : Int) (x4 : Int) (x5 : Bool) (x6 : Int) (x7 : Int) (x8 : Bool) (c : St →
 Option ρ) (K : AX → St → Option ρ) : runC Try.prog (envOf [(116, F_AM g_AM)]) ⟨[⟨4, u0ES1, []⟩], [⟨4, 0, @R_AN_0 (@l_0)⟩], [], [], (some ⟨0, u1ES1, []⟩)⟩ (tmpsOf Try.prog 103) 0 200 (loopIn Try.prog 103 4) (St.mk [un, rU x0, AV.r (RV.c (CV.ptr 0 (Off.k 0) 3)), un, AV.r (RV.c (CV.ptr 1 (Off.k 0) 3)), AV.r (RV.c (CV.ptr 2 (Off.k 0) 3)), rU x1,
 rI x2, un, un, un, un, un, un, un, un, un, un, un, un, un, un, un, un, un, un, un, un, un, un, un, un, un, un, un, un, un, un, un, un, un,
 un, un, un, un, un, un, un, un, un, un, un, un, un, un, un, un, un, un, un, un, un, un, un, un, un, un, un, un, un, un] [some [sU x3, sU x4,
 sB x5], some [sU 0, sU 0, sB false], some [sU x6, sU x7, sB x8]] []) (next (fun t => t.head 0 ⟨[⟨4, u0ES1, []⟩], [⟨4, 0, @R_AN_0 (@l_0)⟩], [], [], (some ⟨0, u1ES1, []⟩)⟩ (loopIn Try.prog 103 4)) c K) = S_AN_0 g_AM x0 x1 x2 x3 x4 x5 x6 x7 x8 (fun d => c (St.mk [un,
 rU d.1, AV.r (RV.c (CV.ptr 0 (Off.k 0) 3)), un, AV.r (RV.c (CV.ptr 1 (Off.k 0) 3)), AV.r (RV.c (CV.ptr 2 (Off.k 0) 3)), rU d.2.1, rI d.2.2.1, un, un, un, un, un, un, un,
 un, un, un, un, un, un, un, un, un, un, un, un, un, un, un, un, un, un, un, un, un, un, un, un, un, un, un, un, un, un, un, un, un, un, un, un, un, un,
 un, un, un, un, un, un, un, un, un, un, un, un, un, un, un, un, un, un] [some [sU d.2.2.2.1, sU d.c4.1, sB d.c4.2.1], some [sU 0,
 sU 0, sB false], some [sU d.c4.2.2.1, sU d.c4.2.2.2.1, sB d.c8]] [])) (fun d => K (AX.ex 0) (St.mk [un, rU d.1, AV.r (RV.c (CV.ptr 0 (Off.k 0) 3)),
 un, AV.r (RV.c (CV.ptr 1 (Off.k 0) 3)), AV.r (RV.c (CV.ptr 2 (Off.k 0) 3)), rU d.2.1, rI d.2.2.1, un, un, un, un, rI d.2.2.1, rB d.2.2.2.1, un, un,
 un, un, un, un, un, un, un, un, un, un, un, un, un, un, un, un, un, un, un, un, un, un, un, un, un, un, un, un, un, un, un, un, un, un, un, un, un, un,
 un, un, un, un, un, un, un, un, un, un, un, un, un, un, un, un, un] [some [sU d.c4.1, sU d.c4.2.1, sB d.c4.2.2.1], some [sU 0,
 sU 0, sB false], some [sU d.c4.2.2.2.1, sU d.c8.1, sB d.c8.2]] [])) := by kernel_rfl
theorem it_AN_0 {ρ : Type} (x0 : Int) (x1 : Int) (x2 : Int) (x3 : Int) (x4 : Int) (x5 : Bool) (x6 : Int) (x7 : Int) (x8 : Bool) (K : AX → St → Option ρ) : iter (fun t => t.head 0 ⟨[⟨4, u0ES1, []⟩], [⟨4, 0, @R_AN_0 (@L_AN_0)⟩], [], [], (some ⟨0, u1ES1, []⟩)⟩ (loopIn Try.prog 103 4)) (runC Try.prog (envOf [(116, F_AM f_AM)]) ⟨[⟨4, u0ES1, []⟩], [⟨4, 0, @R_AN_0 (@L_AN_0)⟩], [], [], (some ⟨0, u1ES1, []⟩)⟩ (tmpsOf Try.prog 103) 0 200 (loopIn Try.prog 103 4)) K 200 (St.mk [un,
 rU x0, AV.r (RV.c (CV.ptr 0 (Off.k 0) 3)), un, AV.r (RV.c (CV.ptr 1 (Off.k 0) 3)), AV.r (RV.c (CV.ptr 2 (Off.k 0) 3)), rU x1, rI x2, un, un, un, un, un, un, un, un,
 un, un, un, un, un, un, un, un, un, un, un, un, un, un, un, un, un, un, un, un, un, un, un, un, un, un, un, un, un, un, un, un, un, un, un, un, un, un,
 un, un, un, un, un, un, un, un, un, un, un, un, un, un, un, un, un] [some [sU x3, sU x4, sB x5], some [sU 0, sU 0,
 sB false], some [sU x6, sU x7, sB x8]] []) = L_AN_0 (x0, x1, x2, x3, x4, x5, x6, x7, x8) (fun d => K (AX.ex 0) (St.mk [un, rU d.1, AV.r (RV.c (CV.ptr 0 (Off.k 0) 3)), un,
 AV.r (RV.c (CV.ptr 1 (Off.k 0) 3)), AV.r (RV.c (CV.ptr 2 (Off.k 0) 3)), rU d.2.1, rI d.2.2.1, un, un, un, un, rI d.2.2.1, rB d.2.2.2.1, un, un, un,
 un, un, un, un, un, un, un, un, un, un, un, un, un, un, un, un, un, un, un, un, un, un, un, un, un, un, un, un, un, un, un, un, un, un, un, un, un, un,
 un, un, un, un, un, un, un, un, un, un, un, un, un, un, un, un] [some [sU d.c4.1, sU d.c4.2.1, sB d.c4.2.2.1], some [sU 0,
 sU 0, sB false], some [sU d.c4.2.2.2.1, sU d.c8.1, sB d.c8.2]] [])) := iter_loopX (emb := fun (d : Int × Int × Int × Int × Int × Bool × Int × Int × Bool) => St.mk [un,
 rU d.1, AV.r (RV.c (CV.ptr 0 (Off.k 0) 3)), un, AV.r (RV.c (CV.ptr 1 (Off.k 0) 3)), AV.r (RV.c (CV.ptr 2 (Off.k 0) 3)), rU d.2.1, rI d.2.2.1, un, un, un, un, un, un, un,
 un, un, un, un, un, un, un, un, un, un, un, un, un, un, un, un, un, un, un, un, un, un, un, un, un, un, un, un, un, un, un, un, un, un, un, un, un, un,
 un, un, un, un, un, un, un, un, un, un, un, un, un, un, un, un, un, un] [some [sU d.2.2.2.1, sU d.c4.1, sB d.c4.2.1], some [sU 0,
 sU 0, sB false], some [sU d.c4.2.2.1, sU d.c4.2.2.2.1, sB d.c8]] []) (step := fun d c x => S_AN_0 f_AM d.1 d.2.1 d.2.2.1 d.2.2.2.1 d.c4.1 d.c4.2.1 d.c4.2.2.1 d.c4.2.2.2.1 d.c8 c x) (kx := (fun d => K (AX.ex 0) (St.mk [un,
 rU d.1, AV.r (RV.c (CV.ptr 0 (Off.k 0) 3)), un, AV.r (RV.c (CV.ptr 1 (Off.k 0) 3)), AV.r (RV.c (CV.ptr 2 (Off.k 0) 3)), rU d.2.1, rI d.2.2.1, un, un, un, un, rI d.2.2.1,
 rB d.2.2.2.1, un, un, un, un, un, un, un, un, un, un, un, un, un, un, un, un, un, un, un, un, un, un, un, un, un, un, un, un, un, un, un, un, un,
 un, un, un, un, un, un, un, un, un, un, un, un, un, un, un, un, un, un, un, un, un, un, un, un] [some [sU d.c4.1, sU d.c4.2.1, sB d.c4.2.2.1],
 some [sU 0, sU 0, sB false], some [sU d.c4.2.2.2.1, sU d.c8.1, sB d.c8.2]] []))) (fun d c => ds_AN_0 f_AM (@L_AN_0) d.1 d.2.1 d.2.2.1 d.2.2.2.1 d.c4.1 d.c4.2.1 d.c4.2.2.1 d.c4.2.2.2.1 d.c8 c K) 200 (x0,
 x1, x2, x3, x4, x5, x6, x7, x8)
theorem so_AN_0 [Amb] : ∀ kk, SumOK Try.prog (envOf [(116, F_AM f_AM)]) ⟨[⟨4, u0ES1, []⟩], [⟨4, 0, @R_AN_0 (@L_AN_0)⟩], [], [], (some ⟨0, u1ES1, []⟩)⟩ (tmpsOf Try.prog 103) kk 200 (loopIn Try.prog 103 4) := SumOK.of (id := 4) (k0 := 0) (run := @R_AN_0 (@L_AN_0)) (by kernel_rfl) fun s K r hr => by
    unfold R_AN_0 at hr
    obtain ⟨b, hb, hr1⟩ := Option.bind_eq_some_iff.1 hr
    have e := ((Q_AN_0).ok s b hb).trans (q_AN_0 b)
    subst e
    exact ⟨200, (it_AN_0 b.1.2.1 b.1.c4.2.2.1 b.1.c4.2.2.2.1 b.2.1.1.1 b.2.1.1.2.1 b.2.1.1.2.2.1 b.2.1.2.2.1.1 b.2.1.2.2.1.2.1 b.2.1.2.2.1.2.2.1 K).trans hr1⟩
def K_AN {ρ : Type} (g_AM : t12ES1) (l_0 : ∀ {ρ : Type}, (Int × Int × Int × Int × Int × Bool × Int × Int × Bool) → ((Int × Int × Int × Bool × Int × Int × Bool × Int × Int × Bool) → Option ρ) → Option ρ) (x0 : Int) (x1 : Int) (x2 : Bool) (x3 : Int) (k : (Int ×
 Int × Bool) → Option ρ) : Option ρ := l_0 (x3, 0, 127, x0, x1, x2, 0, 0, x2) fun (d : Int × Int × Int × Bool × Int × Int × Bool × Int × Int × Bool) => bif decide (d.2.1 ≥ IntKind.wrap IntKind.u64 (d.1 - d.2.1)) then Option.bind (g_AM d.c4.2.2.2.1 d.c8.1 d.c8.2 0 1 d.c8.2) fun (d : Int ×
 Int × Bool) => k (d.1, d.2.1, d.2.2) else k (d.c4.2.2.2.1, d.c8.1, d.c8.2)
def f_AN (x0 : Int) (x1 : Int) (x2 : Bool) (x3 : Int) : Option (Int × Int × Bool) := K_AN f_AM (@L_AN_0) x0 x1 x2 x3 some
section
open Go.Ab.Rdr
def QA_AN := ((pair (cons (ar (ra (cons (gc (cf (fi .u64 hole))) (cons (gc (cf (fi .u64 hole))) (cons (gc (cf (fb hole))) nil))))) (cons (ar (rc (cf (fi .u64 hole)))) nil)) nil) : Rdr (List AV × List Blk) _)
end
def F_AN (f : (Int) → (Int) → (Bool) → (Int) → Option (Int × Int × Bool)) : Sem1 := fun args h => match (QA_AN).rd (args, h) with
  | some b => .opt (f b.1.1.1 b.1.1.2.1 b.1.1.2.2.1 b.1.2.1) fun (d : Int × Int × Bool) => .leaf (Res.mk (AV.r (RV.agg [sU d.1, sU d.2.1, sB d.2.2])) [] [])
  | none => .fail
theorem d_AN (g_AM : t12ES1) (l_0 : ∀ {ρ : Type}, (Int × Int × Int × Int × Int × Bool × Int × Int × Bool) → ((Int × Int × Int × Bool × Int × Int × Bool × Int × Int × Bool) → Option ρ) → Option ρ) (x0 : Int) (x1 : Int) (x2 : Bool) (x3 : Int) : den Try.prog (envOf [(116,
 F_AM g_AM)]) ⟨[⟨4, u0ES1, []⟩], [⟨4, 0, @R_AN_0 (@l_0)⟩],
 [], [], (some ⟨0, u1ES1, []⟩)⟩ 200 103 [.r (.agg [.c (.f (.i .u64 x0)),
 .c (.f (.i .u64 x1)), .c (.f (.b x2))]), rU x3] [] = K_AN g_AM (@l_0) x0 x1 x2 x3 (fun (d : Int × Int × Bool) => some (Res.mk (AV.r (RV.agg [sU d.1, sU d.2.1, sB d.2.2])) [] [])) := by kernel_rfl
theorem m_AN {ρ σ : Type} (q : ρ → Option σ) (g_AM : t12ES1) (l_0 : ∀ {ρ : Type}, (Int × Int × Int × Int × Int × Bool × Int × Int × Bool) → ((Int × Int × Int × Bool × Int × Int × Bool × Int × Int × Bool) → Option ρ) → Option ρ) (hl_0 : ∀ {ρ σ : Type} (q : ρ → Option σ) (d : Int × Int × Int × Int × Int × Bool × Int × Int × Bool) (k : (Int × Int × Int × Bool × Int × Int × Bool × Int × Int × Bool) → Option ρ), (l_0 d k).bind q = l_0 d fun x => (k x).bind q) (x0 : Int) (x1 : Int) (x2 : Bool) (x3 : Int) (k : (Int × Int × Bool) → Option ρ) : (K_AN g_AM (@l_0) x0 x1 x2 x3 k).bind q = K_AN g_AM (@l_0) x0 x1 x2 x3 (fun d => (k d).bind q) := by
  simp only [K_AN, bnd_cond, bnd_bind, bnd_none, bnd_sum, hl_0]
theorem qa_AN : ∀ b, (QA_AN).em b = ([.r (.agg [.c (.f (.i .u64 b.1.1.1)), .c (.f (.i .u64 b.1.1.2.1)), .c (.f (.b b.1.1.2.2.1))]), rU b.1.2.1], []) := fun b => by kernel_rfl
theorem e_AN {f : (Int) → (Int) → (Bool) → (Int) → Option (Int × Int × Bool)} {args : List AV} {h : List Blk} {r : Res} (hr : (F_AN f args h).eval = some r) : ∃ x0 x1 x2 x3, args = [.r (.agg [.c (.f (.i .u64 x0)), .c (.f (.i .u64 x1)), .c (.f (.b x2))]), rU x3] ∧ h = [] ∧ (f x0 x1 x2 x3).bind (fun (d : Int × Int × Bool) => some (Res.mk (AV.r (RV.agg [sU d.1, sU d.2.1, sB d.2.2])) [] [])) = some r := by
  unfold F_AN at hr
  split at hr
  · rename_i b hb
    have e := ((QA_AN).ok _ _ hb).trans (qa_AN b)
    rw [opt_eval2] at hr
    exact ⟨b.1.1.1, b.1.1.2.1, b.1.1.2.2.1, b.1.2.1, (Prod.mk.inj e).1, (Prod.mk.inj e).2, hr⟩
  · cases hr
theorem n_AN {σ : Type} (q : (Int × Int × Bool) → Option σ) (x0 : Int) (x1 : Int) (x2 : Bool) (x3 : Int) : (f_AN x0 x1 x2 x3).bind q = K_AN f_AM (@L_AN_0) x0 x1 x2 x3 q := by
  unfold f_AN
  exact m_AN q f_AM (@L_AN_0) (fun q d k => mL_AN_0 q d k) x0 x1 x2 x3 some
theorem s_AN [Amb] : Sound Try.prog 103 (F_AN f_AN) := (inl_sums (l := [(116, F_AM f_AM)]) (.cons s_AM (.nil _)) mixed (hs := ⟨[⟨4, u0ES1, []⟩], [⟨4, 0, @R_AN_0 (@L_AN_0)⟩], [], [], (some ⟨0, u1ES1, []⟩)⟩) (lf := 200) (Sums.by (l := [loopIn Try.prog 103 4]) (lj := []) (by kernel_rfl) ⟨so_AN_0, trivial⟩ (by kernel_rfl) trivial) (by kernel_rfl)).by (F := F_AN f_AN) fun args b r hr => by
  obtain ⟨x0, x1, x2, x3, rfl, rfl, hr1⟩ := e_AN hr
  exact inl_eval ((d_AN f_AM (@L_AN_0) x0 x1 x2 x3).trans ((n_AN (fun (d : Int × Int × Bool) => some (Res.mk (AV.r (RV.agg [sU d.1, sU d.2.1, sB d.2.2])) [] [])) x0 x1 x2 x3).symm.trans hr1))

def K_Ac {ρ : Type} (x0 : Int) (x1 : Int) (x2 : Bool) (x3 : Bool) (k : (Int × Bool) → Option ρ) : Option ρ := bif decide (x0 > 0) then bif x2 then k (-1152921504606846976, true) else k (1152921504606846976, true) else bif decide (x1 > 1152921504606846976) then bif x2 then k (-1152921504606846976, true) else
 k (1152921504606846976, true) else bif x2 then k (IntKind.wrap IntKind.i64 (0 - IntKind.wrap IntKind.i64 x1), x3) else k (IntKind.wrap IntKind.i64 x1, x3)
def f_Ac (x0 : Int) (x1 : Int) (x2 : Bool) (x3 : Bool) : Option (Int × Bool) := K_Ac   x0 x1 x2 x3 some
section
open Go.Ab.Rdr
def QA_Ac := ((pair (cons (ar (rc (cptr (nat 0) (ok' (nat 0)) (nat 1)))) (cons (ar (ra (cons (gc (cf (fi .u64 hole))) (cons (gc (cf (fi .u64 hole))) (cons (gc (cf (fb hole))) nil))))) nil)) (cons (cons (gc (cf (fb hole))) nil) nil)) : Rdr (List AV × List Blk) _)
end
def F_Ac (f : (Int) → (Int) → (Bool) → (Bool) → Option (Int × Bool)) : Sem1 := fun args h => match (QA_Ac).rd (args, h) with
  | some b => .opt (f b.1.2.1.1 b.1.2.1.2.1 b.1.2.1.2.2.1 b.2.1.1) fun (d : Int × Bool) => .leaf (Res.mk (rI d.1) [Ch.set [sB d.2]] [])
  | none => .fail
theorem d_Ac (x0 : Int) (x1 : Int) (x2 : Bool) (x3 : Bool) : den Try.prog (envOf []) ⟨[], [], [0], [], none⟩ 200 102 [.r (.c (.ptr 0 (.k 0) 1)), .r (.agg [.c (.f (.i .u64 x0)), .c (.f (.i .u64 x1)), .c (.f (.b x2))])] [[.c (.f (.b x3))]] = K_Ac x0 x1 x2 x3 (fun (d : Int × Bool) => some (Res.mk (rI d.1) [Ch.set [sB d.2]] [])) := by kernel_rfl
theorem m_Ac {ρ σ : Type} (q : ρ → Option σ)    (x0 : Int) (x1 : Int) (x2 : Bool) (x3 : Bool) (k : (Int × Bool) → Option ρ) : (K_Ac   x0 x1 x2 x3 k).bind q = K_Ac   x0 x1 x2 x3 (fun d => (k d).bind q) := by
  simp only [K_Ac, bnd_cond, bnd_bind, bnd_none, bnd_sum]
theorem qa_Ac : ∀ b, (QA_Ac).em b = ([.r (.c (.ptr 0 (.k 0) 1)), .r (.agg [.c (.f (.i .u64 b.1.2.1.1)), .c (.f (.i .u64 b.1.2.1.2.1)), .c (.f (.b b.1.2.1.2.2.1))])], [[.c (.f (.b b.2.1.1))]]) := fun b => by kernel_rfl
theorem e_Ac {f : (Int) → (Int) → (Bool) → (Bool) → Option (Int × Bool)} {args : List AV} {h : List Blk} {r : Res} (hr : (F_Ac f args h).eval = some r) : ∃ x0 x1 x2 x3, args = [.r (.c (.ptr 0 (.k 0) 1)), .r (.agg [.c (.f (.i .u64 x0)), .c (.f (.i .u64 x1)), .c (.f (.b x2))])] ∧ h = [[.c (.f (.b x3))]] ∧ (f x0 x1 x2 x3).bind (fun (d : Int × Bool) => some (Res.mk (rI d.1) [Ch.set [sB d.2]] [])) = some r := by
  unfold F_Ac at hr
  split at hr
  · rename_i b hb
    have e := ((QA_Ac).ok _ _ hb).trans (qa_Ac b)
    rw [opt_eval2] at hr
    exact ⟨b.1.2.1.1, b.1.2.1.2.1, b.1.2.1.2.2.1, b.2.1.1, (Prod.mk.inj e).1, (Prod.mk.inj e).2, hr⟩
  · cases hr
theorem n_Ac {σ : Type} (q : (Int × Bool) → Option σ) (x0 : Int) (x1 : Int) (x2 : Bool) (x3 : Bool) : (f_Ac x0 x1 x2 x3).bind q = K_Ac   x0 x1 x2 x3 q := by
  unfold f_Ac
  exact m_Ac q    x0 x1 x2 x3 some
theorem s_Ac [Amb] : Sound Try.prog 102 (F_Ac f_Ac) := (inl_sound (l := []) (.nil _) mixed [] [0] 200 (by kernel_rfl)).by (F := F_Ac f_Ac) fun args b r hr => by
  obtain ⟨x0, x1, x2, x3, rfl, rfl, hr1⟩ := e_Ac hr
  exact inl_eval ((d_Ac   x0 x1 x2 x3).trans ((n_Ac (fun (d : Int × Bool) => some (Res.mk (rI d.1) [Ch.set [sB d.2]] [])) x0 x1 x2 x3).symm.trans hr1))

def K_AG {ρ : Type} (g_AA : t8ES1) (g_BC : t13ES1) (g_AT : t9ES1) (g_AN : t14ES1) (g_Ac : t15ES1) (x0 : Int) (x1 : Int) (x2 : Int) (x3 : Bool) (k : (Int ×
 Bool) → Option ρ) : Option ρ := Option.bind (g_AA x0 x3) fun (d : Int × Bool) => Option.bind (g_AA x1 d.2) fun (d_1 : Int × Bool) => Option.bind (g_BC d.1 d_1.1) fun (d : Int × Int × Bool) => Option.bind (g_AA x2 d_1.2) fun (d_2 : Int × Bool) => bif d_2.1 == 0 then bif d.1 == 0 then bif d.2.1 == 0 then
 k (0, true) else bif d.2.2 then k (-1152921504606846976, true) else k (1152921504606846976, true) else bif d.2.2 then k (-1152921504606846976, true) else k (1152921504606846976, true) else Option.bind (g_AT d_2.1) fun (d_3 : Int) => Option.bind (g_AN d.1 d.2.1 (!d.2.2 == decide (d_2.1 < 0)) d_3) fun (d : Int ×
 Int × Bool) => Option.bind (g_Ac d.1 d.2.1 d.2.2 d_2.2) fun (d : Int × Bool) => k (d.1, d.2)
def f_AG (x0 : Int) (x1 : Int) (x2 : Int) (x3 : Bool) : Option (Int × Bool) := K_AG f_AA f_BC f_AT f_AN f_Ac  x0 x1 x2 x3 some
section
open Go.Ab.Rdr
def QA_AG := ((pair (cons (ar (rc (cptr (nat 0) (ok' (nat 0)) (nat 1)))) (cons (ar (rc (cf (fi .i64 hole)))) (cons (ar (rc (cf (fi .i64 hole)))) (cons (ar (rc (cf (fi .i64 hole)))) nil)))) (cons (cons (gc (cf (fb hole))) nil) nil)) : Rdr (List AV × List Blk) _)
end
def F_AG (f : (Int) → (Int) → (Int) → (Bool) → Option (Int × Bool)) : Sem1 := fun args h => match (QA_AG).rd (args, h) with
  | some b => .opt (f b.1.2.1 b.1.2.2.1 b.1.2.2.2.1 b.2.1.1) fun (d : Int × Bool) => .leaf (Res.mk (rI d.1) [Ch.set [sB d.2]] [])
  | none => .fail
theorem d_AG (g_AA : t8ES1) (g_BC : t13ES1) (g_AT : t9ES1) (g_AN : t14ES1) (g_Ac : t15ES1) (x0 : Int) (x1 : Int) (x2 : Int) (x3 : Bool) : den Try.prog (envOf [(100,
 F_AA g_AA), (101, F_BC g_BC), (104, F_AT g_AT), (103, F_AN g_AN), (102, F_Ac g_Ac)]) ⟨[], [], [], [], none⟩ 200 79 [.r (.c (.ptr 0 (.k 0) 1)), rI x0, rI x1, rI x2] [[.c (.f (.b x3))]] = K_AG g_AA g_BC g_AT g_AN g_Ac x0 x1 x2 x3 (fun (d : Int ×
 Bool) => some (Res.mk (rI d.1) [Ch.set [sB d.2]] [])) := by kernel_rfl
theorem m_AG {ρ σ : Type} (q : ρ → Option σ) (g_AA : t8ES1) (g_BC : t13ES1) (g_AT : t9ES1) (g_AN : t14ES1) (g_Ac : t15ES1)   (x0 : Int) (x1 : Int) (x2 : Int) (x3 : Bool) (k : (Int × Bool) → Option ρ) : (K_AG g_AA g_BC g_AT g_AN g_Ac  x0 x1 x2 x3 k).bind q = K_AG g_AA g_BC g_AT g_AN g_Ac  x0 x1 x2 x3 (fun d => (k d).bind q) := by
  simp only [K_AG, bnd_cond, bnd_bind, bnd_none, bnd_sum]
theorem qa_AG : ∀ b, (QA_AG).em b = ([.r (.c (.ptr 0 (.k 0) 1)), rI b.1.2.1, rI b.1.2.2.1, rI b.1.2.2.2.1], [[.c (.f (.b b.2.1.1))]]) := fun b => by kernel_rfl
theorem e_AG {f : (Int) → (Int) → (Int) → (Bool) → Option (Int × Bool)} {args : List AV} {h : List Blk} {r : Res} (hr : (F_AG f args h).eval = some r) : ∃ x0 x1 x2 x3, args = [.r (.c (.ptr 0 (.k 0) 1)), rI x0, rI x1, rI x2] ∧ h = [[.c (.f (.b x3))]] ∧ (f x0 x1 x2 x3).bind (fun (d : Int × Bool) => some (Res.mk (rI d.1) [Ch.set [sB d.2]] [])) = some r := by
  unfold F_AG at hr
  split at hr
  · rename_i b hb
    have e := ((QA_AG).ok _ _ hb).trans (qa_AG b)
    rw [opt_eval2] at hr
    exact ⟨b.1.2.1, b.1.2.2.1, b.1.2.2.2.1, b.2.1.1, (Prod.mk.inj e).1, (Prod.mk.inj e).2, hr⟩
  · cases hr
theorem n_AG {σ : Type} (q : (Int × Bool) → Option σ) (x0 : Int) (x1 : Int) (x2 : Int) (x3 : Bool) : (f_AG x0 x1 x2 x3).bind q = K_AG f_AA f_BC f_AT f_AN f_Ac  x0 x1 x2 x3 q := by
  unfold f_AG
  exact m_AG q f_AA f_BC f_AT f_AN f_Ac   x0 x1 x2 x3 some
theorem s_AG [Amb] : Sound Try.prog 79 (F_AG f_AG) := (inl_sound (l := [(100, F_AA f_AA), (101, F_BC f_BC), (104, F_AT f_AT), (103, F_AN f_AN), (102, F_Ac f_Ac)]) (.cons s_AA (.cons s_BC (.cons s_AT (.cons s_AN (.cons s_Ac (.nil _)))))) mixed [] [] 200 (by kernel_rfl)).by (F := F_AG f_AG) fun args b r hr => by
  obtain ⟨x0, x1, x2, x3, rfl, rfl, hr1⟩ := e_AG hr
  exact inl_eval ((d_AG f_AA f_BC f_AT f_AN f_Ac  x0 x1 x2 x3).trans ((n_AG (fun (d : Int × Bool) => some (Res.mk (rI d.1) [Ch.set [sB d.2]] [])) x0 x1 x2 x3).symm.trans hr1))

def K_AI {ρ : Type} (g_AA : t8ES1) (x0 : Int) (x1 : Int) (x2 : Bool) (k : (Int × Bool) → Option ρ) : Option ρ := Option.bind (g_AA x0 x2) fun (d : Int × Bool) => Option.bind (g_AA x1 d.2) fun (d_1 : Int × Bool) => Option.bind (g_AA (IntKind.wrap IntKind.i64 (d.1 + d_1.1)) d_1.2) fun (d : Int ×
 Bool) => k (d.1, d.2)
def f_AI (x0 : Int) (x1 : Int) (x2 : Bool) : Option (Int × Bool) := K_AI f_AA  x0 x1 x2 some
section
open Go.Ab.Rdr
def QA_AI := ((pair (cons (ar (rc (cptr (nat 0) (ok' (nat 0)) (nat 1)))) (cons (ar (rc (cf (fi .i64 hole)))) (cons (ar (rc (cf (fi .i64 hole)))) nil))) (cons (cons (gc (cf (fb hole))) nil) nil)) : Rdr (List AV × List Blk) _)
end
def F_AI (f : (Int) → (Int) → (Bool) → Option (Int × Bool)) : Sem1 := fun args h => match (QA_AI).rd (args, h) with
  | some b => .opt (f b.1.2.1 b.1.2.2.1 b.2.1.1) fun (d : Int × Bool) => .leaf (Res.mk (rI d.1) [Ch.set [sB d.2]] [])
  | none => .fail
theorem d_AI (g_AA : t8ES1) (x0 : Int) (x1 : Int) (x2 : Bool) : den Try.prog (envOf [(100, F_AA g_AA)]) ⟨[], [], [], [], none⟩ 200 78 [.r (.c (.ptr 0 (.k 0) 1)), rI x0, rI x1] [[.c (.f (.b x2))]] = K_AI g_AA x0 x1 x2 (fun (d : Int × Bool) => some (Res.mk (rI d.1) [Ch.set [sB d.2]] [])) := by kernel_rfl
theorem m_AI {ρ σ : Type} (q : ρ → Option σ) (g_AA : t8ES1)   (x0 : Int) (x1 : Int) (x2 : Bool) (k : (Int × Bool) → Option ρ) : (K_AI g_AA  x0 x1 x2 k).bind q = K_AI g_AA  x0 x1 x2 (fun d => (k d).bind q) := by
  simp only [K_AI, bnd_cond, bnd_bind, bnd_none, bnd_sum]
theorem qa_AI : ∀ b, (QA_AI).em b = ([.r (.c (.ptr 0 (.k 0) 1)), rI b.1.2.1, rI b.1.2.2.1], [[.c (.f (.b b.2.1.1))]]) := fun b => by kernel_rfl
theorem e_AI {f : (Int) → (Int) → (Bool) → Option (Int × Bool)} {args : List AV} {h : List Blk} {r : Res} (hr : (F_AI f args h).eval = some r) : ∃ x0 x1 x2, args = [.r (.c (.ptr 0 (.k 0) 1)), rI x0, rI x1] ∧ h = [[.c (.f (.b x2))]] ∧ (f x0 x1 x2).bind (fun (d : Int × Bool) => some (Res.mk (rI d.1) [Ch.set [sB d.2]] [])) = some r := by
  unfold F_AI at hr
  split at hr
  · rename_i b hb
    have e := ((QA_AI).ok _ _ hb).trans (qa_AI b)
    rw [opt_eval2] at hr
    exact ⟨b.1.2.1, b.1.2.2.1, b.2.1.1, (Prod.mk.inj e).1, (Prod.mk.inj e).2, hr⟩
  · cases hr
theorem n_AI {σ : Type} (q : (Int × Bool) → Option σ) (x0 : Int) (x1 : Int) (x2 : Bool) : (f_AI x0 x1 x2).bind q = K_AI f_AA  x0 x1 x2 q := by
  unfold f_AI
  exact m_AI q f_AA   x0 x1 x2 some
theorem s_AI [Amb] : Sound Try.prog 78 (F_AI f_AI) := (inl_sound (l := [(100, F_AA f_AA)]) (.cons s_AA (.nil _)) mixed [] [] 200 (by kernel_rfl)).by (F := F_AI f_AI) fun args b r hr => by
  obtain ⟨x0, x1, x2, rfl, rfl, hr1⟩ := e_AI hr
  exact inl_eval ((d_AI f_AA  x0 x1 x2).trans ((n_AI (fun (d : Int × Bool) => some (Res.mk (rI d.1) [Ch.set [sB d.2]] [])) x0 x1 x2).symm.trans hr1))

def K_BI {ρ : Type} (g_BH : t16ES1) (g_Au : t17ES1) (g_AG : t7ES1) (g_AI : t17ES1) (x0 : Int) (x1 : Int) (x2 : Int) (x3 : Bool) (k : (Int × Bool) → Option ρ) : Option ρ := Option.bind (g_BH x0 x1) fun (d : Int) => Option.bind (g_BH x0 (IntKind.wrap IntKind.i64 (x1 + 1))) fun (d_1 : Int) => Option.bind (g_Au d_1 d x3) fun (d_2 : Int ×
 Bool) => Option.bind (g_AG d_2.1 x2 600000000 d_2.2) fun (d_3 : Int × Bool) => Option.bind (g_AI d d_3.1 d_3.2) fun (d : Int × Bool) => k (d.1, d.2)
def f_BI (x0 : Int) (x1 : Int) (x2 : Int) (x3 : Bool) : Option (Int × Bool) := K_BI f_BH f_Au f_AG f_AI  x0 x1 x2 x3 some
section
open Go.Ab.Rdr
def QA_BI := ((pair (cons (ar (rc (cptr (nat 0) (ok' (nat 0)) (nat 1)))) (cons (ar (rc (cf (fi .i64 hole)))) (cons (ar (rc (cf (fi .i64 hole)))) (cons (ar (rc (cf (fi .i64 hole)))) nil)))) (cons (cons (gc (cf (fb hole))) nil) nil)) : Rdr (List AV × List Blk) _)
end
def F_BI (f : (Int) → (Int) → (Int) → (Bool) → Option (Int × Bool)) : Sem1 := fun args h => match (QA_BI).rd (args, h) with
  | some b => .opt (f b.1.2.1 b.1.2.2.1 b.1.2.2.2.1 b.2.1.1) fun (d : Int × Bool) => .leaf (Res.mk (rI d.1) [Ch.set [sB d.2]] [])
  | none => .fail
theorem d_BI (g_BH : t16ES1) (g_Au : t17ES1) (g_AG : t7ES1) (g_AI : t17ES1) (x0 : Int) (x1 : Int) (x2 : Int) (x3 : Bool) : den Try.prog (envOf [(99, F_BH g_BH), (80, F_Au g_Au), (79,
 F_AG g_AG), (78, F_AI g_AI)]) ⟨[], [], [], [], none⟩ 200 77 [.r (.c (.ptr 0 (.k 0) 1)), rI x0, rI x1, rI x2] [[.c (.f (.b x3))]] = K_BI g_BH g_Au g_AG g_AI x0 x1 x2 x3 (fun (d : Int × Bool) => some (Res.mk (rI d.1) [Ch.set [sB d.2]] [])) := by kernel_rfl
theorem m_BI {ρ σ : Type} (q : ρ → Option σ) (g_BH : t16ES1) (g_Au : t17ES1) (g_AG : t7ES1) (g_AI : t17ES1)   (x0 : Int) (x1 : Int) (x2 : Int) (x3 : Bool) (k : (Int × Bool) → Option ρ) : (K_BI g_BH g_Au g_AG g_AI  x0 x1 x2 x3 k).bind q = K_BI g_BH g_Au g_AG g_AI  x0 x1 x2 x3 (fun d => (k d).bind q) := by
  simp only [K_BI, bnd_cond, bnd_bind, bnd_none, bnd_sum]
theorem qa_BI : ∀ b, (QA_BI).em b = ([.r (.c (.ptr 0 (.k 0) 1)), rI b.1.2.1, rI b.1.2.2.1, rI b.1.2.2.2.1], [[.c (.f (.b b.2.1.1))]]) := fun b => by kernel_rfl
theorem e_BI {f : (Int) → (Int) → (Int) → (Bool) → Option (Int × Bool)} {args : List AV} {h : List Blk} {r : Res} (hr : (F_BI f args h).eval = some r) : ∃ x0 x1 x2 x3, args = [.r (.c (.ptr 0 (.k 0) 1)), rI x0, rI x1, rI x2] ∧ h = [[.c (.f (.b x3))]] ∧ (f x0 x1 x2 x3).bind (fun (d : Int × Bool) => some (Res.mk (rI d.1) [Ch.set [sB d.2]] [])) = some r := by
  unfold F_BI at hr
  split at hr
  · rename_i b hb
    have e := ((QA_BI).ok _ _ hb).trans (qa_BI b)
    rw [opt_eval2] at hr
    exact ⟨b.1.2.1, b.1.2.2.1, b.1.2.2.2.1, b.2.1.1, (Prod.mk.inj e).1, (Prod.mk.inj e).2, hr⟩
  · cases hr
theorem n_BI {σ : Type} (q : (Int × Bool) → Option σ) (x0 : Int) (x1 : Int) (x2 : Int) (x3 : Bool) : (f_BI x0 x1 x2 x3).bind q = K_BI f_BH f_Au f_AG f_AI  x0 x1 x2 x3 q := by
  unfold f_BI
  exact m_BI q f_BH f_Au f_AG f_AI   x0 x1 x2 x3 some
theorem s_BI [Amb] : Sound Try.prog 77 (F_BI f_BI) := (inl_sound (l := [(99, F_BH f_BH), (80, F_Au f_Au), (79, F_AG f_AG), (78, F_AI f_AI)]) (.cons s_BH (.cons s_Au (.cons s_AG (.cons s_AI (.nil _))))) mixed [] [] 200 (by kernel_rfl)).by (F := F_BI f_BI) fun args b r hr => by
  obtain ⟨x0, x1, x2, x3, rfl, rfl, hr1⟩ := e_BI hr
  exact inl_eval ((d_BI f_BH f_Au f_AG f_AI  x0 x1 x2 x3).trans ((n_BI (fun (d : Int × Bool) => some (Res.mk (rI d.1) [Ch.set [sB d.2]] [])) x0 x1 x2 x3).symm.trans hr1))

def K_BV {ρ : Type} (g_BM : t18ES1) (g_BI : t7ES1) (g_Au : t17ES1) (g_AG : t7ES1) (g_AI : t17ES1) (x0 : Int) (x1 : Int) (x2 : Bool) (k : (Int ×
 Bool) → Option ρ) : Option ρ := Option.bind (g_BM (IntKind.wrap IntKind.i64 (x0 + 900000000)) 450000000 4) fun (d : Int × Int) => Option.bind (g_BM (IntKind.wrap IntKind.i64 (x1 + 1800000000)) 600000000 6) fun (d_1 : Int × Int) => Option.bind (g_BI d.1 d_1.1 d_1.2 x2) fun (d_2 : Int × Bool) => Option.bind (g_BI (IntKind.wrap IntKind.i64 (d.1 + 1)) d_1.1 d_1.2 d_2.2) fun (d_3 : Int ×
 Bool) => Option.bind (g_Au d_3.1 d_2.1 d_3.2) fun (d_4 : Int × Bool) => Option.bind (g_AG d_4.1 d.2 450000000 d_4.2) fun (d : Int × Bool) => Option.bind (g_AI d_2.1 d.1 d.2) fun (d : Int × Bool) => Option.bind (g_AG d.1 3373259426 19327352832000 d.2) fun (d : Int × Bool) => k (d.1, d.2)
def f_BV (x0 : Int) (x1 : Int) (x2 : Bool) : Option (Int × Bool) := K_BV f_BM f_BI f_Au f_AG f_AI  x0 x1 x2 some
section
open Go.Ab.Rdr
def QA_BV := ((pair (cons (ar (rc (cptr (nat 0) (ok' (nat 0)) (nat 1)))) (cons (ar (rc (cf (fi .i64 hole)))) (cons (ar (rc (cf (fi .i64 hole)))) nil))) (cons (cons (gc (cf (fb hole))) nil) nil)) : Rdr (List AV × List Blk) _)
end
def F_BV (f : (Int) → (Int) → (Bool) → Option (Int × Bool)) : Sem1 := fun args h => match (QA_BV).rd (args, h) with
  | some b => .opt (f b.1.2.1 b.1.2.2.1 b.2.1.1) fun (d : Int × Bool) => .leaf (Res.mk (rI d.1) [Ch.set [sB d.2]] [])
  | none => .fail
theorem d_BV (g_BM : t18ES1) (g_BI : t7ES1) (g_Au : t17ES1) (g_AG : t7ES1) (g_AI : t17ES1) (x0 : Int) (x1 : Int) (x2 : Bool) : den Try.prog (envOf [(76,
 F_BM g_BM), (77, F_BI g_BI), (80, F_Au g_Au), (79, F_AG g_AG), (78, F_AI g_AI)]) ⟨[], [], [], [], none⟩ 200 42 [.r (.c (.ptr 0 (.k 0) 1)), rI x0, rI x1] [[.c (.f (.b x2))]] = K_BV g_BM g_BI g_Au g_AG g_AI x0 x1 x2 (fun (d : Int × Bool) => some (Res.mk (rI d.1) [Ch.set [sB d.2]] [])) := by kernel_rfl
theorem m_BV {ρ σ : Type} (q : ρ → Option σ) (g_BM : t18ES1) (g_BI : t7ES1) (g_Au : t17ES1) (g_AG : t7ES1) (g_AI : t17ES1)   (x0 : Int) (x1 : Int) (x2 : Bool) (k : (Int × Bool) → Option ρ) : (K_BV g_BM g_BI g_Au g_AG g_AI  x0 x1 x2 k).bind q = K_BV g_BM g_BI g_Au g_AG g_AI  x0 x1 x2 (fun d => (k d).bind q) := by
  simp only [K_BV, bnd_cond, bnd_bind, bnd_none, bnd_sum]
theorem qa_BV : ∀ b, (QA_BV).em b = ([.r (.c (.ptr 0 (.k 0) 1)), rI b.1.2.1, rI b.1.2.2.1], [[.c (.f (.b b.2.1.1))]]) := fun b => by kernel_rfl
theorem e_BV {f : (Int) → (Int) → (Bool) → Option (Int × Bool)} {args : List AV} {h : List Blk} {r : Res} (hr : (F_BV f args h).eval = some r) : ∃ x0 x1 x2, args = [.r (.c (.ptr 0 (.k 0) 1)), rI x0, rI x1] ∧ h = [[.c (.f (.b x2))]] ∧ (f x0 x1 x2).bind (fun (d : Int × Bool) => some (Res.mk (rI d.1) [Ch.set [sB d.2]] [])) = some r := by
  unfold F_BV at hr
  split at hr
  · rename_i b hb
    have e := ((QA_BV).ok _ _ hb).trans (qa_BV b)
    rw [opt_eval2] at hr
    exact ⟨b.1.2.1, b.1.2.2.1, b.2.1.1, (Prod.mk.inj e).1, (Prod.mk.inj e).2, hr⟩
  · cases hr
theorem n_BV {σ : Type} (q : (Int × Bool) → Option σ) (x0 : Int) (x1 : Int) (x2 : Bool) : (f_BV x0 x1 x2).bind q = K_BV f_BM f_BI f_Au f_AG f_AI  x0 x1 x2 q := by
  unfold f_BV
  exact m_BV q f_BM f_BI f_Au f_AG f_AI   x0 x1 x2 some
theorem s_BV [Amb] : Sound Try.prog 42 (F_BV f_BV) := (inl_sound (l := [(76, F_BM f_BM), (77, F_BI f_BI), (80, F_Au f_Au), (79, F_AG f_AG), (78, F_AI f_AI)]) (.cons s_BM (.cons s_BI (.cons s_Au (.cons s_AG (.cons s_AI (.nil _)))))) mixed [] [] 200 (by kernel_rfl)).by (F := F_BV f_BV) fun args b r hr => by
  obtain ⟨x0, x1, x2, rfl, rfl, hr1⟩ := e_BV hr
  exact inl_eval ((d_BV f_BM f_BI f_Au f_AG f_AI  x0 x1 x2).trans ((n_BV (fun (d : Int × Bool) => some (Res.mk (rI d.1) [Ch.set [sB d.2]] [])) x0 x1 x2).symm.trans hr1))

def K_AU {ρ : Type} (x0 : Int) (k : (Int) → Option ρ) : Option ρ := bif decide (Int.tmod x0 6746518852 > 3373259426) then bif decide (IntKind.wrap IntKind.i64 (Int.tmod x0 6746518852 - 6746518852) ≤ -3373259426) then k (IntKind.wrap IntKind.i64 (IntKind.wrap IntKind.i64 (Int.tmod x0 6746518852 - 6746518852) + 6746518852)) else
 k (IntKind.wrap IntKind.i64 (Int.tmod x0 6746518852 - 6746518852)) else bif decide (Int.tmod x0 6746518852 ≤ -3373259426) then k (IntKind.wrap IntKind.i64 (Int.tmod x0 6746518852 + 6746518852)) else k (Int.tmod x0 6746518852)
def f_AU (x0 : Int) : Option (Int) := K_AU   x0 some
section
open Go.Ab.Rdr
def QA_AU := ((pair (cons (ar (rc (cf (fi .i64 hole)))) nil) nil) : Rdr (List AV × List Blk) _)
end
def F_AU (f : (Int) → Option (Int)) : Sem1 := fun args h => match (QA_AU).rd (args, h) with
  | some b => .opt (f b.1.1) fun (d : Int) => .leaf (Res.mk (rI d) [] [])
  | none => .fail
theorem d_AU (x0 : Int) : den Try.prog (envOf []) ⟨[], [], [], [], none⟩ 200 105 [rI x0] [] = K_AU x0 (fun (d : Int) => some (Res.mk (rI d) [] [])) := by kernel_rfl
theorem m_AU {ρ σ : Type} (q : ρ → Option σ)    (x0 : Int) (k : (Int) → Option ρ) : (K_AU   x0 k).bind q = K_AU   x0 (fun d => (k d).bind q) := by
  simp only [K_AU, bnd_cond, bnd_bind, bnd_none, bnd_sum]
theorem qa_AU : ∀ b, (QA_AU).em b = ([rI b.1.1], []) := fun b => by kernel_rfl
theorem e_AU {f : (Int) → Option (Int)} {args : List AV} {h : List Blk} {r : Res} (hr : (F_AU f args h).eval = some r) : ∃ x0, args = [rI x0] ∧ h = [] ∧ (f x0).bind (fun (d : Int) => some (Res.mk (rI d) [] [])) = some r := by
  unfold F_AU at hr
  split at hr
  · rename_i b hb
    have e := ((QA_AU).ok _ _ hb).trans (qa_AU b)
    rw [opt_eval2] at hr
    exact ⟨b.1.1, (Prod.mk.inj e).1, (Prod.mk.inj e).2, hr⟩
  · cases hr
theorem n_AU {σ : Type} (q : (Int) → Option σ) (x0 : Int) : (f_AU x0).bind q = K_AU   x0 q := by
  unfold f_AU
  exact m_AU q    x0 some
theorem s_AU [Amb] : Sound Try.prog 105 (F_AU f_AU) := (inl_sound (l := []) (.nil _) mixed [] [] 200 (by kernel_rfl)).by (F := F_AU f_AU) fun args b r hr => by
  obtain ⟨x0, rfl, rfl, hr1⟩ := e_AU hr
  exact inl_eval ((d_AU   x0).trans ((n_AU (fun (d : Int) => some (Res.mk (rI d) [] [])) x0).symm.trans hr1))

def K_BW {ρ : Type} (g_AM : t12ES1) (x0 : Int) (x1 : Int) (x2 : Bool) (x3 : Int) (k : (Int × Int × Bool) → Option ρ) : Option ρ := bif x3 == 0 then k (x0, x1, x2) else bif decide (IntKind.wrap IntKind.i64 (x3 - 1) ≥ 64) then bif !decide (IntKind.wrap IntKind.u64 (IntKind.wrap IntKind.i64 (x3 - 65)) < 0) then
 Option.bind (g_AM x0 x1 x2 (IntKind.wrap IntKind.u64 (1 * 2 ^ min (Int.toNat (IntKind.wrap IntKind.u64 (IntKind.wrap IntKind.i64 (x3 - 65)))) 64)) 0 x2) fun (d : Int × Int × Bool) => bif decide (x3 ≥ 64) then bif !decide (IntKind.wrap IntKind.u64 (IntKind.wrap IntKind.i64 (x3 - 64)) < 0) then k (0, Int.fdiv d.1 (2 ^ min (Int.toNat (IntKind.wrap IntKind.u64 (IntKind.wrap IntKind.i64 (x3 - 64)))) 64),
 d.2.2) else none else bif !decide (IntKind.wrap IntKind.u64 x3 < 0) then bif !decide (IntKind.wrap IntKind.u64 x3 < 0) then bif !decide (IntKind.wrap IntKind.u64 (IntKind.wrap IntKind.i64 (64 - x3)) < 0) then k (Int.fdiv d.1 (2 ^ min (Int.toNat (IntKind.wrap IntKind.u64 x3)) 64), IntKind.wrap IntKind.u64 (Int.ofNat (BitVec.toNat (BitVec.ofInt 64 (Int.fdiv d.2.1 (2 ^ min (Int.toNat (IntKind.wrap IntKind.u64 x3)) 64)) ||| BitVec.ofInt 64 (IntKind.wrap IntKind.u64 (d.1 * 2 ^ min (Int.toNat (IntKind.wrap IntKind.u64 (IntKind.wrap IntKind.i64 (64 - x3)))) 64))))),
 d.2.2) else none else none else none else none else bif !decide (IntKind.wrap IntKind.u64 (IntKind.wrap IntKind.i64 (x3 - 1)) < 0) then Option.bind (g_AM x0 x1 x2 0 (IntKind.wrap IntKind.u64 (1 * 2 ^ min (Int.toNat (IntKind.wrap IntKind.u64 (IntKind.wrap IntKind.i64 (x3 - 1)))) 64)) x2) fun (d : Int ×
 Int × Bool) => bif decide (x3 ≥ 64) then bif !decide (IntKind.wrap IntKind.u64 (IntKind.wrap IntKind.i64 (x3 - 64)) < 0) then k (0, Int.fdiv d.1 (2 ^ min (Int.toNat (IntKind.wrap IntKind.u64 (IntKind.wrap IntKind.i64 (x3 - 64)))) 64), d.2.2) else none else bif !decide (IntKind.wrap IntKind.u64 x3 < 0) then
 bif !decide (IntKind.wrap IntKind.u64 x3 < 0) then bif !decide (IntKind.wrap IntKind.u64 (IntKind.wrap IntKind.i64 (64 - x3)) < 0) then k (Int.fdiv d.1 (2 ^ min (Int.toNat (IntKind.wrap IntKind.u64 x3)) 64), IntKind.wrap IntKind.u64 (Int.ofNat (BitVec.toNat (BitVec.ofInt 64 (Int.fdiv d.2.1 (2 ^ min (Int.toNat (IntKind.wrap IntKind.u64 x3)) 64)) ||| BitVec.ofInt 64 (IntKind.wrap IntKind.u64 (d.1 * 2 ^ min (Int.toNat (IntKind.wrap IntKind.u64 (IntKind.wrap IntKind.i64 (64 - x3)))) 64))))),
 d.2.2) else none else none else none else none
def f_BW (x0 : Int) (x1 : Int) (x2 : Bool) (x3 : Int) : Option (Int × Int × Bool) := K_BW f_AM  x0 x1 x2 x3 some
section
open Go.Ab.Rdr
def QA_BW := ((pair (cons (ar (ra (cons (gc (cf (fi .u64 hole))) (cons (gc (cf (fi .u64 hole))) (cons (gc (cf (fb hole))) nil))))) (cons (ar (rc (cf (fi .i64 hole)))) nil)) nil) : Rdr (List AV × List Blk) _)
end
def F_BW (f : (Int) → (Int) → (Bool) → (Int) → Option (Int × Int × Bool)) : Sem1 := fun args h => match (QA_BW).rd (args, h) with
  | some b => .opt (f b.1.1.1 b.1.1.2.1 b.1.1.2.2.1 b.1.2.1) fun (d : Int × Int × Bool) => .leaf (Res.mk (AV.r (RV.agg [sU d.1, sU d.2.1, sB d.2.2])) [] [])
  | none => .fail
theorem d_BW (g_AM : t12ES1) (x0 : Int) (x1 : Int) (x2 : Bool) (x3 : Int) : den Try.prog (envOf [(116, F_AM g_AM)]) ⟨[], [], [], [], none⟩ 200 109 [.r (.agg [.c (.f (.i .u64 x0)), .c (.f (.i .u64 x1)), .c (.f (.b x2))]), rI x3] [] = K_BW g_AM x0 x1 x2 x3 (fun (d : Int ×
 Int × Bool) => some (Res.mk (AV.r (RV.agg [sU d.1, sU d.2.1, sB d.2.2])) [] [])) := by kernel_rfl
theorem m_BW {ρ σ : Type} (q : ρ → Option σ) (g_AM : t12ES1)   (x0 : Int) (x1 : Int) (x2 : Bool) (x3 : Int) (k : (Int × Int × Bool) → Option ρ) : (K_BW g_AM  x0 x1 x2 x3 k).bind q = K_BW g_AM  x0 x1 x2 x3 (fun d => (k d).bind q) := by
  simp only [K_BW, bnd_cond, bnd_bind, bnd_none, bnd_sum]
theorem qa_BW : ∀ b, (QA_BW).em b = ([.r (.agg [.c (.f (.i .u64 b.1.1.1)), .c (.f (.i .u64 b.1.1.2.1)), .c (.f (.b b.1.1.2.2.1))]), rI b.1.2.1], []) := fun b => by kernel_rfl
theorem e_BW {f : (Int) → (Int) → (Bool) → (Int) → Option (Int × Int × Bool)} {args : List AV} {h : List Blk} {r : Res} (hr : (F_BW f args h).eval = some r) : ∃ x0 x1 x2 x3, args = [.r (.agg [.c (.f (.i .u64 x0)), .c (.f (.i .u64 x1)), .c (.f (.b x2))]), rI x3] ∧ h = [] ∧ (f x0 x1 x2 x3).bind (fun (d : Int × Int × Bool) => some (Res.mk (AV.r (RV.agg [sU d.1, sU d.2.1, sB d.2.2])) [] [])) = some r := by
  unfold F_BW at hr
  split at hr
  · rename_i b hb
    have e := ((QA_BW).ok _ _ hb).trans (qa_BW b)
    rw [opt_eval2] at hr
    exact ⟨b.1.1.1, b.1.1.2.1, b.1.1.2.2.1, b.1.2.1, (Prod.mk.inj e).1, (Prod.mk.inj e).2, hr⟩
  · cases hr
theorem n_BW {σ : Type} (q : (Int × Int × Bool) → Option σ) (x0 : Int) (x1 : Int) (x2 : Bool) (x3 : Int) : (f_BW x0 x1 x2 x3).bind q = K_BW f_AM  x0 x1 x2 x3 q := by
  unfold f_BW
  exact m_BW q f_AM   x0 x1 x2 x3 some
theorem s_BW [Amb] : Sound Try.prog 109 (F_BW f_BW) := (inl_sound (l := [(116, F_AM f_AM)]) (.cons s_AM (.nil _)) mixed [] [] 200 (by kernel_rfl)).by (F := F_BW f_BW) fun args b r hr => by
  obtain ⟨x0, x1, x2, x3, rfl, rfl, hr1⟩ := e_BW hr
  exact inl_eval ((d_BW f_AM  x0 x1 x2 x3).trans ((n_BW (fun (d : Int × Int × Bool) => some (Res.mk (AV.r (RV.agg [sU d.1, sU d.2.1, sB d.2.2])) [] [])) x0 x1 x2 x3).symm.trans hr1))

def K_AY {ρ : Type} (g_AA : t8ES1) (g_BC : t13ES1) (g_BW : t14ES1) (g_Ac : t15ES1) (x0 : Int) (x1 : Int) (x2 : Int) (x3 : Bool) (k : (Int × Bool) → Option ρ) : Option ρ := Option.bind (g_AA x0 x3) fun (d : Int ×
 Bool) => Option.bind (g_AA x1 d.2) fun (d_1 : Int × Bool) => Option.bind (g_BC d.1 d_1.1) fun (d : Int × Int × Bool) => Option.bind (g_BW d.1 d.2.1 d.2.2 x2) fun (d : Int × Int × Bool) => Option.bind (g_Ac d.1 d.2.1 d.2.2 d_1.2) fun (d : Int × Bool) => k (d.1, d.2)
def f_AY (x0 : Int) (x1 : Int) (x2 : Int) (x3 : Bool) : Option (Int × Bool) := K_AY f_AA f_BC f_BW f_Ac  x0 x1 x2 x3 some
section
open Go.Ab.Rdr
def QA_AY := ((pair (cons (ar (rc (cptr (nat 0) (ok' (nat 0)) (nat 1)))) (cons (ar (rc (cf (fi .i64 hole)))) (cons (ar (rc (cf (fi .i64 hole)))) (cons (ar (rc (cf (fi .i64 hole)))) nil)))) (cons (cons (gc (cf (fb hole))) nil) nil)) : Rdr (List AV × List Blk) _)
end
def F_AY (f : (Int) → (Int) → (Int) → (Bool) → Option (Int × Bool)) : Sem1 := fun args h => match (QA_AY).rd (args, h) with
  | some b => .opt (f b.1.2.1 b.1.2.2.1 b.1.2.2.2.1 b.2.1.1) fun (d : Int × Bool) => .leaf (Res.mk (rI d.1) [Ch.set [sB d.2]] [])
  | none => .fail
theorem d_AY (g_AA : t8ES1) (g_BC : t13ES1) (g_BW : t14ES1) (g_Ac : t15ES1) (x0 : Int) (x1 : Int) (x2 : Int) (x3 : Bool) : den Try.prog (envOf [(100, F_AA g_AA),
 (101, F_BC g_BC), (109, F_BW g_BW), (102, F_Ac g_Ac)]) ⟨[], [], [], [], none⟩ 200 86 [.r (.c (.ptr 0 (.k 0) 1)), rI x0, rI x1, rI x2] [[.c (.f (.b x3))]] = K_AY g_AA g_BC g_BW g_Ac x0 x1 x2 x3 (fun (d : Int × Bool) => some (Res.mk (rI d.1) [Ch.set [sB d.2]] [])) := by kernel_rfl
theorem m_AY {ρ σ : Type} (q : ρ → Option σ) (g_AA : t8ES1) (g_BC : t13ES1) (g_BW : t14ES1) (g_Ac : t15ES1)   (x0 : Int) (x1 : Int) (x2 : Int) (x3 : Bool) (k : (Int × Bool) → Option ρ) : (K_AY g_AA g_BC g_BW g_Ac  x0 x1 x2 x3 k).bind q = K_AY g_AA g_BC g_BW g_Ac  x0 x1 x2 x3 (fun d => (k d).bind q) := by
  simp only [K_AY, bnd_cond, bnd_bind, bnd_none, bnd_sum]
theorem qa_AY : ∀ b, (QA_AY).em b = ([.r (.c (.ptr 0 (.k 0) 1)), rI b.1.2.1, rI b.1.2.2.1, rI b.1.2.2.2.1], [[.c (.f (.b b.2.1.1))]]) := fun b => by kernel_rfl
theorem e_AY {f : (Int) → (Int) → (Int) → (Bool) → Option (Int × Bool)} {args : List AV} {h : List Blk} {r : Res} (hr : (F_AY f args h).eval = some r) : ∃ x0 x1 x2 x3, args = [.r (.c (.ptr 0 (.k 0) 1)), rI x0, rI x1, rI x2] ∧ h = [[.c (.f (.b x3))]] ∧ (f x0 x1 x2 x3).bind (fun (d : Int × Bool) => some (Res.mk (rI d.1) [Ch.set [sB d.2]] [])) = some r := by
  unfold F_AY at hr
  split at hr
  · rename_i b hb
    have e := ((QA_AY).ok _ _ hb).trans (qa_AY b)
    rw [opt_eval2] at hr
    exact ⟨b.1.2.1, b.1.2.2.1, b.1.2.2.2.1, b.2.1.1, (Prod.mk.inj e).1, (Prod.mk.inj e).2, hr⟩
  · cases hr
theorem n_AY {σ : Type} (q : (Int × Bool) → Option σ) (x0 : Int) (x1 : Int) (x2 : Int) (x3 : Bool) : (f_AY x0 x1 x2 x3).bind q = K_AY f_AA f_BC f_BW f_Ac  x0 x1 x2 x3 q := by
  unfold f_AY
  exact m_AY q f_AA f_BC f_BW f_Ac   x0 x1 x2 x3 some
theorem s_AY [Amb] : Sound Try.prog 86 (F_AY f_AY) := (inl_sound (l := [(100, F_AA f_AA), (101, F_BC f_BC), (109, F_BW f_BW), (102, F_Ac f_Ac)]) (.cons s_AA (.cons s_BC (.cons s_BW (.cons s_Ac (.nil _))))) mixed [] [] 200 (by kernel_rfl)).by (F := F_AY f_AY) fun args b r hr => by
  obtain ⟨x0, x1, x2, x3, rfl, rfl, hr1⟩ := e_AY hr
  exact inl_eval ((d_AY f_AA f_BC f_BW f_Ac  x0 x1 x2 x3).trans ((n_AY (fun (d : Int × Bool) => some (Res.mk (rI d.1) [Ch.set [sB d.2]] [])) x0 x1 x2 x3).symm.trans hr1))

def K_AE {ρ : Type} (g_AY : t7ES1) (x0 : Int) (x1 : Int) (x2 : Bool) (k : (Int × Bool) → Option ρ) : Option ρ := Option.bind (g_AY x0 x1 30 x2) fun (d : Int × Bool) => k (d.1, d.2)
def f_AE (x0 : Int) (x1 : Int) (x2 : Bool) : Option (Int × Bool) := K_AE f_AY  x0 x1 x2 some
section
open Go.Ab.Rdr
def QA_AE := ((pair (cons (ar (rc (cptr (nat 0) (ok' (nat 0)) (nat 1)))) (cons (ar (rc (cf (fi .i64 hole)))) (cons (ar (rc (cf (fi .i64 hole)))) nil))) (cons (cons (gc (cf (fb hole))) nil) nil)) : Rdr (List AV × List Blk) _)
end
def F_AE (f : (Int) → (Int) → (Bool) → Option (Int × Bool)) : Sem1 := fun args h => match (QA_AE).rd (args, h) with
  | some b => .opt (f b.1.2.1 b.1.2.2.1 b.2.1.1) fun (d : Int × Bool) => .leaf (Res.mk (rI d.1) [Ch.set [sB d.2]] [])
  | none => .fail
theorem d_AE (g_AY : t7ES1) (x0 : Int) (x1 : Int) (x2 : Bool) : den Try.prog (envOf [(86, F_AY g_AY)]) ⟨[], [], [], [], none⟩ 200 83 [.r (.c (.ptr 0 (.k 0) 1)), rI x0, rI x1] [[.c (.f (.b x2))]] = K_AE g_AY x0 x1 x2 (fun (d : Int ×
 Bool) => some (Res.mk (rI d.1) [Ch.set [sB d.2]] [])) := by kernel_rfl
theorem m_AE {ρ σ : Type} (q : ρ → Option σ) (g_AY : t7ES1)   (x0 : Int) (x1 : Int) (x2 : Bool) (k : (Int × Bool) → Option ρ) : (K_AE g_AY  x0 x1 x2 k).bind q = K_AE g_AY  x0 x1 x2 (fun d => (k d).bind q) := by
  simp only [K_AE, bnd_cond, bnd_bind, bnd_none, bnd_sum]
theorem qa_AE : ∀ b, (QA_AE).em b = ([.r (.c (.ptr 0 (.k 0) 1)), rI b.1.2.1, rI b.1.2.2.1], [[.c (.f (.b b.2.1.1))]]) := fun b => by kernel_rfl
theorem e_AE {f : (Int) → (Int) → (Bool) → Option (Int × Bool)} {args : List AV} {h : List Blk} {r : Res} (hr : (F_AE f args h).eval = some r) : ∃ x0 x1 x2, args = [.r (.c (.ptr 0 (.k 0) 1)), rI x0, rI x1] ∧ h = [[.c (.f (.b x2))]] ∧ (f x0 x1 x2).bind (fun (d : Int × Bool) => some (Res.mk (rI d.1) [Ch.set [sB d.2]] [])) = some r := by
  unfold F_AE at hr
  split at hr
  · rename_i b hb
    have e := ((QA_AE).ok _ _ hb).trans (qa_AE b)
    rw [opt_eval2] at hr
    exact ⟨b.1.2.1, b.1.2.2.1, b.2.1.1, (Prod.mk.inj e).1, (Prod.mk.inj e).2, hr⟩
  · cases hr
theorem n_AE {σ : Type} (q : (Int × Bool) → Option σ) (x0 : Int) (x1 : Int) (x2 : Bool) : (f_AE x0 x1 x2).bind q = K_AE f_AY  x0 x1 x2 q := by
  unfold f_AE
  exact m_AE q f_AY   x0 x1 x2 some
theorem s_AE [Amb] : Sound Try.prog 83 (F_AE f_AE) := (inl_sound (l := [(86, F_AY f_AY)]) (.cons s_AY (.nil _)) mixed [] [] 200 (by kernel_rfl)).by (F := F_AE f_AE) fun args b r hr => by
  obtain ⟨x0, x1, x2, rfl, rfl, hr1⟩ := e_AE hr
  exact inl_eval ((d_AE f_AY  x0 x1 x2).trans ((n_AE (fun (d : Int × Bool) => some (Res.mk (rI d.1) [Ch.set [sB d.2]] [])) x0 x1 x2).symm.trans hr1))

def S_Z_0 {ρ : Type} (g_AA : t8ES1) (g_AU : t9ES1) (g_AE : t17ES1) (g_AI : t17ES1) (g_AJ : t7ES1) (x0 : Int) (x1 : Int) (x2 : Int) (x3 : Int) (x4 : Bool) (c : (Int ×
 Int × Int × Int × Bool) → Option ρ) (x : (Int × Int × Int × Int × Bool × Bool) → Option ρ) : Option ρ := bif decide (x3 < 6) then bif inR x3 6 then bif x3 == 5 then Option.bind (g_AE x1 x2 x4) fun (d : Int × Bool) => Option.bind (g_AI 1073741824 d.1 d.2) fun (d : Int × Bool) => c (x0, x1, d.1, IntKind.wrap IntKind.i64 (x3 + 1),
 d.2) else bif x3 == 4 then Option.bind (g_AE x1 x2 x4) fun (d : Int × Bool) => Option.bind (g_AI (-536870912) d.1 d.2) fun (d : Int × Bool) => c (x0, x1, d.1, IntKind.wrap IntKind.i64 (x3 + 1), d.2) else bif x3 == 3 then Option.bind (g_AE x1 x2 x4) fun (d : Int × Bool) => Option.bind (g_AI 44739243 d.1 d.2) fun (d : Int ×
 Bool) => c (x0, x1, d.1, IntKind.wrap IntKind.i64 (x3 + 1), d.2) else bif x3 == 2 then Option.bind (g_AE x1 x2 x4) fun (d : Int × Bool) => Option.bind (g_AI (-1491308) d.1 d.2) fun (d : Int × Bool) => c (x0, x1, d.1, IntKind.wrap IntKind.i64 (x3 + 1), d.2) else bif x3 == 1 then Option.bind (g_AE x1 x2 x4) fun (d : Int ×
 Bool) => Option.bind (g_AI 26631 d.1 d.2) fun (d : Int × Bool) => c (x0, x1, d.1, IntKind.wrap IntKind.i64 (x3 + 1), d.2) else Option.bind (g_AE x1 x2 x4) fun (d : Int × Bool) => Option.bind (g_AI (-296) d.1 d.2) fun (d : Int × Bool) => c (x0, x1, d.1, IntKind.wrap IntKind.i64 (x3 + 1), d.2) else none else
 x (x0, x1, x2, x3, decide (x3 < 6), x4)
section
open Go.Ab.Rdr
def Q_Z_0 := (st (cons (ar (rc (cptr (nat 0) (ok' (nat 0)) (nat 1)))) (cons aund (cons aund (cons aund (cons aund (cons (ar (rc (cf (fi .i64 hole)))) (cons (ar (rc (cptr (nat 1) (ok' (nat 0)) (nat 1)))) (cons aund (cons (ar (rc (cf (fi .i64 hole)))) (cons (ar (rc (csl (nat 2) (ok' (nat 0)) (szl (nat 6)) (nat 1) (bool true)))) (cons (ar (rc (cf (fi .i64 hole)))) (cons (ar (rc (cf (fi .i64 hole)))) (cons aund (cons aund (cons aund (cons aund (cons aund (cons aund (cons aund (cons aund (cons aund (cons aund (cons aund (cons aund (cons aund (cons aund (cons aund (cons aund (cons aund (cons aund (cons aund (cons aund (cons aund (cons aund (cons aund (cons aund (cons aund (cons aund (cons aund (cons aund (cons aund (cons aund (cons aund (cons aund (cons aund (cons aund (cons aund (cons aund (cons aund (cons aund (cons aund (cons aund (cons aund (cons aund (cons aund (cons aund (cons aund (cons aund (cons aund (cons aund (cons aund (cons aund (cons aund (cons aund (cons aund (cons aund (cons aund (cons aund (cons aund (cons aund (cons aund (cons aund (cons aund (cons aund (cons aund (cons aund (cons aund (cons aund (cons aund (cons aund (cons aund (cons aund (cons aund (cons aund (cons aund (cons aund (cons aund (cons aund (cons aund (cons aund (cons aund (cons aund (cons aund (cons aund (cons aund (cons aund (cons aund (cons aund (cons aund (cons aund (cons aund (cons aund (cons aund (cons aund nil)))))))))))))))))))))))))))))))))))))))))))))))))))))))))))))))))))))))))))))))))))))))))))))))))))))))) (cons (some' (cons (gc (cf (fb hole))) nil)) (cons (some' (cons (gc (cf (fb (bool false)))) nil)) (cons (some' (cons (gc (cf (fi .i64 (int (-296))))) (cons (gc (cf (fi .i64 (int 26631)))) (cons (gc (cf (fi .i64 (int (-1491308))))) (cons (gc (cf (fi .i64 (int 44739243)))) (cons (gc (cf (fi .i64 (int (-536870912))))) (cons (gc (cf (fi .i64 (int 1073741824)))) nil))))))) nil))) (cons (nat 0) nil))
end
theorem q_Z_0 : ∀ b, (Q_Z_0).em b = St.mk [AV.r (RV.c (CV.ptr 0 (Off.k 0) 1)), un, un, un, un, rI b.1.c4.2.1, AV.r (RV.c (CV.ptr 1 (Off.k 0) 1)), un, rI b.1.c8.1, AV.r (RV.c (CV.sl 2 (Off.k 0) (Sz.l 6) 1 true)),
 rI b.1.c8.2.2.1, rI b.1.c8.2.2.2.1, un, un, un, un, un, un, un, un, un, un, un, un, un, un, un, un, un, un, un, un, un, un,
 un, un, un, un, un, un, un, un, un, un, un, un, un, un, un, un, un, un, un, un, un, un, un, un, un, un, un, un, un, un, un, un, un, un, un, un, un, un,
 un, un, un, un, un, un, un, un, un, un, un, un, un, un, un, un, un, un, un, un, un, un, un, un, un, un, un, un, un, un, un, un] [some [sB b.2.1.1.1], some [sB false],
 some [sI (-296), sI 26631, sI (-1491308), sI 44739243, sI (-536870912), sI 1073741824]] [0] := fun b => by kernel_rfl
def R_Z_0 (l : ∀ {ρ : Type}, (Int × Int × Int × Int × Bool) → ((Int × Int × Int × Int × Bool × Bool) → Option ρ) → Option ρ) {ρ : Type} (s : St) (K : AX → St → Option ρ) : Option ρ := ((Q_Z_0).rd s).bind fun b => l (b.1.c4.2.1, b.1.c8.1, b.1.c8.2.2.1, b.1.c8.2.2.2.1,
 b.2.1.1.1) (fun d => K (AX.ex 0) (St.mk [AV.r (RV.c (CV.ptr 0 (Off.k 0) 1)), un, un, un, un, rI d.1, AV.r (RV.c (CV.ptr 1 (Off.k 0) 1)), un, rI d.2.1, AV.r (RV.c (CV.sl 2 (Off.k 0) (Sz.l 6) 1 true)), rI d.2.2.1,
 rI d.2.2.2.1, un, un, un, un, un, un, un, un, un, un, un, un, un, un, un, un, un, un, un, un, un, un, un, un, un, un, un, un, un, un, un, un,
 un, un, rI d.2.2.2.1, rB d.c4.1, un, un, un, un, un, un, un, un, un, un, un, un, un, un, un, un, un, un, un, un, un, un, un, un, un,
 un, un, un, un, un, un, un, un, un, un, un, un, un, un, un, un, un, un, un, un, un, un, un, un, un, un, un, un, un, un, un] [some [sB d.c4.2], some [sB false],
 some [sI (-296), sI 26631, sI (-1491308), sI 44739243, sI (-536870912), sI 1073741824]] [0]))
theorem ms_Z_0 {ρ σ : Type} (g_AA : t8ES1) (g_AU : t9ES1) (g_AE : t17ES1) (g_AI : t17ES1) (g_AJ : t7ES1)   (q : ρ → Option σ) (x0 : Int) (x1 : Int) (x2 : Int) (x3 : Int) (x4 : Bool) (c : (Int × Int × Int × Int × Bool) → Option ρ) (x : (Int × Int × Int × Int × Bool × Bool) → Option ρ) : (S_Z_0 g_AA g_AU g_AE g_AI g_AJ  x0 x1 x2 x3 x4 c x).bind q = S_Z_0 g_AA g_AU g_AE g_AI g_AJ  x0 x1 x2 x3 x4 (fun d => (c d).bind q) (fun d => (x d).bind q) := by
  simp only [S_Z_0, bnd_cond, bnd_bind, bnd_none, bnd_sum]
def L_Z_0 {ρ : Type} (d : Int × Int × Int × Int × Bool) (k : (Int × Int × Int × Int × Bool × Bool) → Option ρ) : Option ρ := loopK (fun d c x => S_Z_0 f_AA f_AU f_AE f_AI f_AJ  d.1 d.2.1 d.2.2.1 d.2.2.2.1 d.c4 c x) 200 d k
theorem mL_Z_0 {ρ σ : Type} (q : ρ → Option σ) (d : Int × Int × Int × Int × Bool) (k : (Int × Int × Int × Int × Bool × Bool) → Option ρ) : (L_Z_0 d k).bind q = L_Z_0 d fun x => (k x).bind q := loopK_bind q (fun d c x => ms_Z_0 f_AA f_AU f_AE f_AI f_AJ q d.1 d.2.1 d.2.2.1 d.2.2.2.1 d.c4 c x) k _ d
def S_Z_1 {ρ : Type} (g_AA : t8ES1) (g_AU : t9ES1) (g_AE : t17ES1) (g_AI : t17ES1) (g_AJ : t7ES1) (x0 : Int) (x1 : Int) (x2 : Int) (x3 : Int) (x4 : Bool) (c : (Int ×
 Int × Int × Int × Bool) → Option ρ) (x : (Int × Int × Int × Int × Bool × Bool) → Option ρ) : Option ρ := bif decide (x3 < 5) then bif inR x3 5 then bif x3 == 4 then Option.bind (g_AE x1 x2 x4) fun (d : Int × Bool) => Option.bind (g_AI 1073741824 d.1 d.2) fun (d : Int × Bool) => c (x0, x1, d.1, IntKind.wrap IntKind.i64 (x3 + 1),
 d.2) else bif x3 == 3 then Option.bind (g_AE x1 x2 x4) fun (d : Int × Bool) => Option.bind (g_AI (-178956971) d.1 d.2) fun (d : Int × Bool) => c (x0, x1, d.1, IntKind.wrap IntKind.i64 (x3 + 1), d.2) else bif x3 == 2 then Option.bind (g_AE x1 x2 x4) fun (d : Int × Bool) => Option.bind (g_AI 8947849 d.1 d.2) fun (d : Int ×
 Bool) => c (x0, x1, d.1, IntKind.wrap IntKind.i64 (x3 + 1), d.2) else bif x3 == 1 then Option.bind (g_AE x1 x2 x4) fun (d : Int × Bool) => Option.bind (g_AI (-213044) d.1 d.2) fun (d : Int × Bool) => c (x0, x1, d.1, IntKind.wrap IntKind.i64 (x3 + 1), d.2) else Option.bind (g_AE x1 x2 x4) fun (d : Int ×
 Bool) => Option.bind (g_AI 2959 d.1 d.2) fun (d : Int × Bool) => c (x0, x1, d.1, IntKind.wrap IntKind.i64 (x3 + 1), d.2) else none else x (x0, x1, x2, x3, decide (x3 < 5), x4)
section
open Go.Ab.Rdr
def Q_Z_1 := (st (cons (ar (rc (cptr (nat 0) (ok' (nat 0)) (nat 1)))) (cons aund (cons aund (cons aund (cons aund (cons (ar (rc (cf (fi .i64 hole)))) (cons (ar (rc (cptr (nat 1) (ok' (nat 0)) (nat 1)))) (cons aund (cons aund (cons aund (cons aund (cons aund (cons (ar (rc (cf (fi .i64 hole)))) (cons (ar (rc (csl (nat 2) (ok' (nat 0)) (szl (nat 5)) (nat 1) (bool true)))) (cons (ar (rc (cf (fi .i64 hole)))) (cons (ar (rc (cf (fi .i64 hole)))) (cons aund (cons aund (cons aund (cons aund (cons aund (cons aund (cons aund (cons aund (cons aund (cons aund (cons aund (cons aund (cons aund (cons aund (cons aund (cons aund (cons aund (cons aund (cons aund (cons aund (cons aund (cons aund (cons aund (cons aund (cons aund (cons aund (cons aund (cons aund (cons aund (cons aund (cons aund (cons aund (cons aund (cons aund (cons aund (cons aund (cons aund (cons aund (cons aund (cons aund (cons aund (cons aund (cons aund (cons aund (cons aund (cons aund (cons aund (cons aund (cons aund (cons aund (cons aund (cons aund (cons aund (cons aund (cons aund (cons aund (cons aund (cons aund (cons aund (cons aund (cons aund (cons aund (cons aund (cons aund (cons aund (cons aund (cons aund (cons aund (cons aund (cons aund (cons aund (cons aund (cons aund (cons aund (cons aund (cons aund (cons aund (cons aund (cons aund (cons aund (cons aund (cons aund (cons aund (cons aund (cons aund (cons aund (cons aund (cons aund nil)))))))))))))))))))))))))))))))))))))))))))))))))))))))))))))))))))))))))))))))))))))))))))))))))))))))) (cons (some' (cons (gc (cf (fb hole))) nil)) (cons (some' (cons (gc (cf (fb (bool false)))) nil)) (cons (some' (cons (gc (cf (fi .i64 (int 2959)))) (cons (gc (cf (fi .i64 (int (-213044))))) (cons (gc (cf (fi .i64 (int 8947849)))) (cons (gc (cf (fi .i64 (int (-178956971))))) (cons (gc (cf (fi .i64 (int 1073741824)))) nil)))))) nil))) (cons (nat 0) nil))
end
theorem q_Z_1 : ∀ b, (Q_Z_1).em b = St.mk [AV.r (RV.c (CV.ptr 0 (Off.k 0) 1)), un, un, un, un, rI b.1.c4.2.1, AV.r (RV.c (CV.ptr 1 (Off.k 0) 1)), un, un, un, un, un, rI b.1.c8.c4.1,
 AV.r (RV.c (CV.sl 2 (Off.k 0) (Sz.l 5) 1 true)), rI b.1.c8.c4.2.2.1, rI b.1.c8.c4.2.2.2.1, un, un, un, un, un, un, un, un, un, un, un, un, un,
 un, un, un, un, un, un, un, un, un, un, un, un, un, un, un, un, un, un, un, un, un, un, un, un, un, un, un, un, un, un, un, un, un, un, un, un, un, un,
 un, un, un, un, un, un, un, un, un, un, un, un, un, un, un, un, un, un, un, un, un, un, un, un, un, un, un, un, un, un, un, un, un, un, un, un, un] [some [sB b.2.1.1.1],
 some [sB false], some [sI 2959, sI (-213044), sI 8947849, sI (-178956971), sI 1073741824]] [0] := fun b => by kernel_rfl
def R_Z_1 (l : ∀ {ρ : Type}, (Int × Int × Int × Int × Bool) → ((Int × Int × Int × Int × Bool × Bool) → Option ρ) → Option ρ) {ρ : Type} (s : St) (K : AX → St → Option ρ) : Option ρ := ((Q_Z_1).rd s).bind fun b => l (b.1.c4.2.1, b.1.c8.c4.1, b.1.c8.c4.2.2.1, b.1.c8.c4.2.2.2.1,
 b.2.1.1.1) (fun d => K (AX.ex 2) (St.mk [AV.r (RV.c (CV.ptr 0 (Off.k 0) 1)), un, un, un, un, rI d.1, AV.r (RV.c (CV.ptr 1 (Off.k 0) 1)), un, un, un, un, un, rI d.2.1, AV.r (RV.c (CV.sl 2 (Off.k 0) (Sz.l 5) 1 true)),
 rI d.2.2.1, rI d.2.2.2.1, un, un, un, un, un, un, un, un, un, un, un, un, un, un, un, un, un, un, un, un, un, un, un, un, un, un,
 un, un, un, un, un, un, un, un, un, un, un, un, un, un, un, un, un, un, un, un, un, un, un, un, un, un, un, un, un, un, un, un, un, un, un, un, rI d.2.2.2.1,
 rB d.c4.1, un, un, un, un, un, un, un, un, un, un, un, un, un, un, un, un, un, un, un, un, un, un, un, un] [some [sB d.c4.2], some [sB false],
 some [sI 2959, sI (-213044), sI 8947849, sI (-178956971), sI 1073741824]] [0]))
theorem ms_Z_1 {ρ σ : Type} (g_AA : t8ES1) (g_AU : t9ES1) (g_AE : t17ES1) (g_AI : t17ES1) (g_AJ : t7ES1)   (q : ρ → Option σ) (x0 : Int) (x1 : Int) (x2 : Int) (x3 : Int) (x4 : Bool) (c : (Int × Int × Int × Int × Bool) → Option ρ) (x : (Int × Int × Int × Int × Bool × Bool) → Option ρ) : (S_Z_1 g_AA g_AU g_AE g_AI g_AJ  x0 x1 x2 x3 x4 c x).bind q = S_Z_1 g_AA g_AU g_AE g_AI g_AJ  x0 x1 x2 x3 x4 (fun d => (c d).bind q) (fun d => (x d).bind q) := by
  simp only [S_Z_1, bnd_cond, bnd_bind, bnd_none, bnd_sum]
def L_Z_1 {ρ : Type} (d : Int × Int × Int × Int × Bool) (k : (Int × Int × Int × Int × Bool × Bool) → Option ρ) : Option ρ := loopK (fun d c x => S_Z_1 f_AA f_AU f_AE f_AI f_AJ  d.1 d.2.1 d.2.2.1 d.2.2.2.1 d.c4 c x) 200 d k
theorem mL_Z_1 {ρ σ : Type} (q : ρ → Option σ) (d : Int × Int × Int × Int × Bool) (k : (Int × Int × Int × Int × Bool × Bool) → Option ρ) : (L_Z_1 d k).bind q = L_Z_1 d fun x => (k x).bind q := loopK_bind q (fun d c x => ms_Z_1 f_AA f_AU f_AE f_AI f_AJ q d.1 d.2.1 d.2.2.1 d.2.2.2.1 d.c4 c x) k _ d
theorem ds_Z_0 {ρ : Type} (g_AA : t8ES1) (g_AU : t9ES1) (g_AE : t17ES1) (g_AI : t17ES1) (g_AJ : t7ES1) (l_0 : ∀ {ρ : Type}, (Int × Int × Int × Int × Bool) → ((Int ×
 Int × Int × Int × Bool × Bool) → Option ρ) → Option ρ) (l_1 : ∀ {ρ : Type}, (Int × Int × Int × Int × Bool) → ((Int × Int × Int × Int × Bool × Bool) → Option ρ) → Option ρ) (x0 : Int) (x1 : Int) (x2 : Int) (x3 : Int) (x4 : Bool) (c : St → Option ρ) (K : AX → St → Option ρ) : runC Try.prog (envOf [(100,
 F_AA g_AA), (105, F_AU g_AU), (83, F_AE g_AE), (78, F_AI g_AI), (106, F_AJ g_AJ)]) ⟨[⟨15, u2ES1, []⟩, ⟨25, u3ES1, []⟩], [⟨15, 1, @R_Z_0 (@l_0)⟩,
 ⟨25, 1, @R_Z_1 (@l_1)⟩], [], [], (some ⟨0, u4ES1, []⟩)⟩ (tmpsOf Try.prog 81) 1 200 (loopIn Try.prog 81 15) (St.mk [AV.r (RV.c (CV.ptr 0 (Off.k 0) 1)), un, un, un, un, rI x0,
 AV.r (RV.c (CV.ptr 1 (Off.k 0) 1)), un, rI x1, AV.r (RV.c (CV.sl 2 (Off.k 0) (Sz.l 6) 1 true)), rI x2, rI x3, un, un, un, un, un, un, un, un, un, un, un,
 un, un, un, un, un, un, un, un, un, un, un, un, un, un, un, un, un, un, un, un, un, un, un, un, un, un, un, un, un, un, un, un, un, un, un, un, un, un,
 un, un, un, un, un, un, un, un, un, un, un, un, un, un, un, un, un, un, un, un, un, un, un, un, un, un, un, un, un, un, un, un, un, un, un, un, un, un,
 un, un, un, un, un] [some [sB x4], some [sB false], some [sI (-296), sI 26631, sI (-1491308), sI 44739243, sI (-536870912),
 sI 1073741824]] [0]) (next (fun t => t.head 1 ⟨[⟨15, u2ES1, []⟩, ⟨25, u3ES1, []⟩], [⟨15, 1, @R_Z_0 (@l_0)⟩, ⟨25,
 1, @R_Z_1 (@l_1)⟩], [], [], (some ⟨0, u4ES1, []⟩)⟩ (loopIn Try.prog 81 15)) c K) = S_Z_0 g_AA g_AU g_AE g_AI g_AJ x0 x1 x2 x3 x4 (fun d => c (St.mk [AV.r (RV.c (CV.ptr 0 (Off.k 0) 1)), un, un,
 un, un, rI d.1, AV.r (RV.c (CV.ptr 1 (Off.k 0) 1)), un, rI d.2.1, AV.r (RV.c (CV.sl 2 (Off.k 0) (Sz.l 6) 1 true)), rI d.2.2.1, rI d.2.2.2.1, un,
 un, un, un, un, un, un, un, un, un, un, un, un, un, un, un, un, un, un, un, un, un, un, un, un, un, un, un, un, un, un, un, un, un, un, un, un, un, un,
 un, un, un, un, un, un, un, un, un, un, un, un, un, un, un, un, un, un, un, un, un, un, un, un, un, un, un, un, un, un, un, un, un, un, un, un, un, un,
 un, un, un, un, un, un, un, un, un, un, un, un, un, un, un] [some [sB d.c4], some [sB false], some [sI (-296), sI 26631, sI (-1491308),
 sI 44739243, sI (-536870912), sI 1073741824]] [0])) (fun d => K (AX.ex 0) (St.mk [AV.r (RV.c (CV.ptr 0 (Off.k 0) 1)), un, un, un, un, rI d.1, AV.r (RV.c (CV.ptr 1 (Off.k 0) 1)),
 un, rI d.2.1, AV.r (RV.c (CV.sl 2 (Off.k 0) (Sz.l 6) 1 true)), rI d.2.2.1, rI d.2.2.2.1, un, un, un, un, un, un, un, un, un, un, un, un, un,
 un, un, un, un, un, un, un, un, un, un, un, un, un, un, un, un, un, un, un, un, un, rI d.2.2.2.1, rB d.c4.1, un, un, un, un, un, un,
 un, un, un, un, un, un, un, un, un, un, un, un, un, un, un, un, un, un, un, un, un, un, un, un, un, un, un, un, un, un, un, un, un, un, un, un, un, un,
 un, un, un, un, un, un, un, un, un, un, un, un] [some [sB d.c4.2], some [sB false], some [sI (-296), sI 26631, sI (-1491308), sI 44739243,
 sI (-536870912), sI 1073741824]] [0])) := by kernel_rfl
theorem it_Z_0 {ρ : Type} (x0 : Int) (x1 : Int) (x2 : Int) (x3 : Int) (x4 : Bool) (K : AX → St → Option ρ) : iter (fun t => t.head 1 ⟨[⟨15, u2ES1, []⟩, ⟨25, u3ES1, []⟩], [⟨15, 1, @R_Z_0 (@L_Z_0)⟩, ⟨25, 1, @R_Z_1 (@L_Z_1)⟩], [], [], (some ⟨0, u4ES1, []⟩)⟩ (loopIn Try.prog 81 15)) (runC Try.prog (envOf [(100, F_AA f_AA), (105, F_AU f_AU), (83, F_AE f_AE),
 (78, F_AI f_AI), (106, F_AJ f_AJ)]) ⟨[⟨15, u2ES1, []⟩, ⟨25, u3ES1, []⟩], [⟨15, 1, @R_Z_0 (@L_Z_0)⟩, ⟨25, 1, @R_Z_1 (@L_Z_1)⟩], [], [], (some ⟨0,
 u4ES1, []⟩)⟩ (tmpsOf Try.prog 81) 1 200 (loopIn Try.prog 81 15)) K 200 (St.mk [AV.r (RV.c (CV.ptr 0 (Off.k 0) 1)), un, un, un, un, rI x0, AV.r (RV.c (CV.ptr 1 (Off.k 0) 1)),
 un, rI x1, AV.r (RV.c (CV.sl 2 (Off.k 0) (Sz.l 6) 1 true)), rI x2, rI x3, un, un, un, un, un, un, un, un, un, un, un, un, un, un, un,
 un, un, un, un, un, un, un, un, un, un, un, un, un, un, un, un, un, un, un, un, un, un, un, un, un, un, un, un, un, un, un, un, un, un, un, un, un, un,
 un, un, un, un, un, un, un, un, un, un, un, un, un, un, un, un, un, un, un, un, un, un, un, un, un, un, un, un, un, un, un, un, un, un, un, un, un, un,
 un] [some [sB x4], some [sB false], some [sI (-296), sI 26631, sI (-1491308), sI 44739243, sI (-536870912), sI 1073741824]] [0]) = L_Z_0 (x0,
 x1, x2, x3, x4) (fun d => K (AX.ex 0) (St.mk [AV.r (RV.c (CV.ptr 0 (Off.k 0) 1)), un, un, un, un, rI d.1, AV.r (RV.c (CV.ptr 1 (Off.k 0) 1)), un, rI d.2.1, AV.r (RV.c (CV.sl 2 (Off.k 0) (Sz.l 6) 1 true)), rI d.2.2.1,
 rI d.2.2.2.1, un, un, un, un, un, un, un, un, un, un, un, un, un, un, un, un, un, un, un, un, un, un, un, un, un, un, un, un, un, un, un, un,
 un, un, rI d.2.2.2.1, rB d.c4.1, un, un, un, un, un, un, un, un, un, un, un, un, un, un, un, un, un, un, un, un, un, un, un, un, un,
 un, un, un, un, un, un, un, un, un, un, un, un, un, un, un, un, un, un, un, un, un, un, un, un, un, un, un, un, un, un, un] [some [sB d.c4.2], some [sB false],
 some [sI (-296), sI 26631, sI (-1491308), sI 44739243, sI (-536870912), sI 1073741824]] [0])) := iter_loopX (emb := fun (d : Int × Int ×
 Int × Int × Bool) => St.mk [AV.r (RV.c (CV.ptr 0 (Off.k 0) 1)), un, un, un, un, rI d.1, AV.r (RV.c (CV.ptr 1 (Off.k 0) 1)), un, rI d.2.1, AV.r (RV.c (CV.sl 2 (Off.k 0) (Sz.l 6) 1 true)), rI d.2.2.1,
 rI d.2.2.2.1, un, un, un, un, un, un, un, un, un, un, un, un, un, un, un, un, un, un, un, un, un, un, un, un, un, un, un, un, un, un, un, un,
 un, un, un, un, un, un, un, un, un, un, un, un, un, un, un, un, un, un, un, un, un, un, un, un, un, un, un, un, un, un, un, un, un, un, un, un, un, un,
 un, un, un, un, un, un, un, un, un, un, un, un, un, un, un, un, un, un, un, un, un, un] [some [sB d.c4], some [sB false], some [sI (-296), sI 26631,
 sI (-1491308), sI 44739243, sI (-536870912), sI 1073741824]] [0]) (step := fun d c x => S_Z_0 f_AA f_AU f_AE f_AI f_AJ d.1 d.2.1 d.2.2.1 d.2.2.2.1 d.c4 c x) (kx := (fun d => K (AX.ex 0) (St.mk [AV.r (RV.c (CV.ptr 0 (Off.k 0) 1)),
 un, un, un, un, rI d.1, AV.r (RV.c (CV.ptr 1 (Off.k 0) 1)), un, rI d.2.1, AV.r (RV.c (CV.sl 2 (Off.k 0) (Sz.l 6) 1 true)), rI d.2.2.1, rI d.2.2.2.1,
 un, un, un, un, un, un, un, un, un, un, un, un, un, un, un, un, un, un, un, un, un, un, un, un, un, un, un, un, un, un, un, un, un, un, rI d.2.2.2.1,
 rB d.c4.1, un, un, un, un, un, un, un, un, un, un, un, un, un, un, un, un, un, un, un, un, un, un, un, un, un, un, un, un, un, un, un, un, un,
 un, un, un, un, un, un, un, un, un, un, un, un, un, un, un, un, un, un, un, un, un, un, un] [some [sB d.c4.2], some [sB false], some [sI (-296),
 sI 26631, sI (-1491308), sI 44739243, sI (-536870912), sI 1073741824]] [0]))) (fun d c => ds_Z_0 f_AA f_AU f_AE f_AI f_AJ (@L_Z_0) (@L_Z_1) d.1 d.2.1 d.2.2.1 d.2.2.2.1 d.c4 c K) 200 (x0,
 x1, x2, x3, x4)
theorem so_Z_0 [Amb] : ∀ kk, SumOK Try.prog (envOf [(100, F_AA f_AA), (105, F_AU f_AU), (83, F_AE f_AE), (78, F_AI f_AI), (106, F_AJ f_AJ)]) ⟨[⟨15, u2ES1, []⟩, ⟨25, u3ES1, []⟩], [⟨15, 1, @R_Z_0 (@L_Z_0)⟩, ⟨25, 1, @R_Z_1 (@L_Z_1)⟩], [], [], (some ⟨0, u4ES1, []⟩)⟩ (tmpsOf Try.prog 81) kk 200 (loopIn Try.prog 81 15) := SumOK.of (id := 15) (k0 := 1) (run := @R_Z_0 (@L_Z_0)) (by kernel_rfl) fun s K r hr => by
    unfold R_Z_0 at hr
    obtain ⟨b, hb, hr1⟩ := Option.bind_eq_some_iff.1 hr
    have e := ((Q_Z_0).ok s b hb).trans (q_Z_0 b)
    subst e
    exact ⟨200, (it_Z_0 b.1.c4.2.1 b.1.c8.1 b.1.c8.2.2.1 b.1.c8.2.2.2.1 b.2.1.1.1 K).trans hr1⟩
theorem ds_Z_1 {ρ : Type} (g_AA : t8ES1) (g_AU : t9ES1) (g_AE : t17ES1) (g_AI : t17ES1) (g_AJ : t7ES1) (l_0 : ∀ {ρ : Type}, (Int × Int × Int × Int × Bool) → ((Int ×
 Int × Int × Int × Bool × Bool) → Option ρ) → Option ρ) (l_1 : ∀ {ρ : Type}, (Int × Int × Int × Int × Bool) → ((Int × Int × Int × Int × Bool × Bool) → Option ρ) → Option ρ) (x0 : Int) (x1 : Int) (x2 : Int) (x3 : Int) (x4 : Bool) (c : St → Option ρ) (K : AX → St → Option ρ) : runC Try.prog (envOf [(100,
 F_AA g_AA), (105, F_AU g_AU), (83, F_AE g_AE), (78, F_AI g_AI), (106, F_AJ g_AJ)]) ⟨[⟨15, u2ES1, []⟩, ⟨25, u3ES1, []⟩], [⟨15, 1, @R_Z_0 (@l_0)⟩,
 ⟨25, 1, @R_Z_1 (@l_1)⟩], [], [], (some ⟨0, u4ES1, []⟩)⟩ (tmpsOf Try.prog 81) 1 200 (loopIn Try.prog 81 25) (St.mk [AV.r (RV.c (CV.ptr 0 (Off.k 0) 1)), un, un, un, un, rI x0,
 AV.r (RV.c (CV.ptr 1 (Off.k 0) 1)), un, un, un, un, un, rI x1, AV.r (RV.c (CV.sl 2 (Off.k 0) (Sz.l 5) 1 true)), rI x2, rI x3, un, un, un, un, un, un, un,
 un, un, un, un, un, un, un, un, un, un, un, un, un, un, un, un, un, un, un, un, un, un, un, un, un, un, un, un, un, un, un, un, un, un, un, un, un, un,
 un, un, un, un, un, un, un, un, un, un, un, un, un, un, un, un, un, un, un, un, un, un, un, un, un, un, un, un, un, un, un, un, un, un, un, un, un, un,
 un, un, un, un, un] [some [sB x4], some [sB false], some [sI 2959, sI (-213044), sI 8947849, sI (-178956971), sI 1073741824]] [0]) (next (fun t => t.head 1 ⟨[⟨15,
 u2ES1, []⟩, ⟨25, u3ES1, []⟩], [⟨15, 1, @R_Z_0 (@l_0)⟩, ⟨25, 1, @R_Z_1 (@l_1)⟩], [], [], (some ⟨0, u4ES1, []⟩)⟩ (loopIn Try.prog 81 25)) c K) = S_Z_1 g_AA g_AU g_AE g_AI g_AJ x0 x1 x2 x3 x4 (fun d => c (St.mk [AV.r (RV.c (CV.ptr 0 (Off.k 0) 1)), un, un, un, un, rI d.1, AV.r (RV.c (CV.ptr 1 (Off.k 0) 1)),
 un, un, un, un, un, rI d.2.1, AV.r (RV.c (CV.sl 2 (Off.k 0) (Sz.l 5) 1 true)), rI d.2.2.1, rI d.2.2.2.1, un, un, un, un, un, un, un, un, un,
 un, un, un, un, un, un, un, un, un, un, un, un, un, un, un, un, un, un, un, un, un, un, un, un, un, un, un, un, un, un, un, un, un, un, un, un, un, un,
 un, un, un, un, un, un, un, un, un, un, un, un, un, un, un, un, un, un, un, un, un, un, un, un, un, un, un, un, un, un, un, un, un, un, un, un, un, un,
 un, un, un] [some [sB d.c4], some [sB false], some [sI 2959, sI (-213044), sI 8947849, sI (-178956971), sI 1073741824]] [0])) (fun d => K (AX.ex 2) (St.mk [AV.r (RV.c (CV.ptr 0 (Off.k 0) 1)),
 un, un, un, un, rI d.1, AV.r (RV.c (CV.ptr 1 (Off.k 0) 1)), un, un, un, un, un, rI d.2.1, AV.r (RV.c (CV.sl 2 (Off.k 0) (Sz.l 5) 1 true)), rI d.2.2.1, rI d.2.2.2.1,
 un, un, un, un, un, un, un, un, un, un, un, un, un, un, un, un, un, un, un, un, un, un, un, un, un, un, un, un, un, un, un, un, un, un, un, un, un, un,
 un, un, un, un, un, un, un, un, un, un, un, un, un, un, un, un, un, un, un, un, un, un, un, un, rI d.2.2.2.1, rB d.c4.1, un, un, un,
 un, un, un, un, un, un, un, un, un, un, un, un, un, un, un, un, un, un, un, un, un] [some [sB d.c4.2], some [sB false], some [sI 2959, sI (-213044),
 sI 8947849, sI (-178956971), sI 1073741824]] [0])) := by kernel_rfl
theorem it_Z_1 {ρ : Type} (x0 : Int) (x1 : Int) (x2 : Int) (x3 : Int) (x4 : Bool) (K : AX → St → Option ρ) : iter (fun t => t.head 1 ⟨[⟨15, u2ES1, []⟩, ⟨25, u3ES1, []⟩], [⟨15, 1, @R_Z_0 (@L_Z_0)⟩, ⟨25, 1, @R_Z_1 (@L_Z_1)⟩], [], [], (some ⟨0, u4ES1, []⟩)⟩ (loopIn Try.prog 81 25)) (runC Try.prog (envOf [(100, F_AA f_AA), (105, F_AU f_AU), (83, F_AE f_AE),
 (78, F_AI f_AI), (106, F_AJ f_AJ)]) ⟨[⟨15, u2ES1, []⟩, ⟨25, u3ES1, []⟩], [⟨15, 1, @R_Z_0 (@L_Z_0)⟩, ⟨25, 1, @R_Z_1 (@L_Z_1)⟩], [], [], (some ⟨0,
 u4ES1, []⟩)⟩ (tmpsOf Try.prog 81) 1 200 (loopIn Try.prog 81 25)) K 200 (St.mk [AV.r (RV.c (CV.ptr 0 (Off.k 0) 1)), un, un, un, un, rI x0, AV.r (RV.c (CV.ptr 1 (Off.k 0) 1)),
 un, un, un, un, un, rI x1, AV.r (RV.c (CV.sl 2 (Off.k 0) (Sz.l 5) 1 true)), rI x2, rI x3, un, un, un, un, un, un, un, un, un, un, un,
 un, un, un, un, un, un, un, un, un, un, un, un, un, un, un, un, un, un, un, un, un, un, un, un, un, un, un, un, un, un, un, un, un, un, un, un, un, un,
 un, un, un, un, un, un, un, un, un, un, un, un, un, un, un, un, un, un, un, un, un, un, un, un, un, un, un, un, un, un, un, un, un, un, un, un, un, un,
 un] [some [sB x4], some [sB false], some [sI 2959, sI (-213044), sI 8947849, sI (-178956971), sI 1073741824]] [0]) = L_Z_1 (x0,
 x1, x2, x3, x4) (fun d => K (AX.ex 2) (St.mk [AV.r (RV.c (CV.ptr 0 (Off.k 0) 1)), un, un, un, un, rI d.1, AV.r (RV.c (CV.ptr 1 (Off.k 0) 1)), un, un, un, un, un, rI d.2.1, AV.r (RV.c (CV.sl 2 (Off.k 0) (Sz.l 5) 1 true)),
 rI d.2.2.1, rI d.2.2.2.1, un, un, un, un, un, un, un, un, un, un, un, un, un, un, un, un, un, un, un, un, un, un, un, un, un, un,
 un, un, un, un, un, un, un, un, un, un, un, un, un, un, un, un, un, un, un, un, un, un, un, un, un, un, un, un, un, un, un, un, un, un, un, un, rI d.2.2.2.1,
 rB d.c4.1, un, un, un, un, un, un, un, un, un, un, un, un, un, un, un, un, un, un, un, un, un, un, un, un] [some [sB d.c4.2], some [sB false],
 some [sI 2959, sI (-213044), sI 8947849, sI (-178956971), sI 1073741824]] [0])) := iter_loopX (emb := fun (d : Int × Int × Int × Int × Bool) => St.mk [AV.r (RV.c (CV.ptr 0 (Off.k 0) 1)),
 un, un, un, un, rI d.1, AV.r (RV.c (CV.ptr 1 (Off.k 0) 1)), un, un, un, un, un, rI d.2.1, AV.r (RV.c (CV.sl 2 (Off.k 0) (Sz.l 5) 1 true)), rI d.2.2.1, rI d.2.2.2.1,
 un, un, un, un, un, un, un, un, un, un, un, un, un, un, un, un, un, un, un, un, un, un, un, un, un, un, un, un, un, un, un, un, un, un, un, un, un, un,
 un, un, un, un, un, un, un, un, un, un, un, un, un, un, un, un, un, un, un, un, un, un, un, un, un, un, un, un, un, un, un, un, un, un, un, un, un, un,
 un, un, un, un, un, un, un, un, un, un, un, un] [some [sB d.c4], some [sB false], some [sI 2959, sI (-213044), sI 8947849, sI (-178956971),
 sI 1073741824]] [0]) (step := fun d c x => S_Z_1 f_AA f_AU f_AE f_AI f_AJ d.1 d.2.1 d.2.2.1 d.2.2.2.1 d.c4 c x) (kx := (fun d => K (AX.ex 2) (St.mk [AV.r (RV.c (CV.ptr 0 (Off.k 0) 1)), un, un, un, un, rI d.1, AV.r (RV.c (CV.ptr 1 (Off.k 0) 1)),
 un, un, un, un, un, rI d.2.1, AV.r (RV.c (CV.sl 2 (Off.k 0) (Sz.l 5) 1 true)), rI d.2.2.1, rI d.2.2.2.1, un, un, un, un, un, un, un, un, un,
 un, un, un, un, un, un, un, un, un, un, un, un, un, un, un, un, un, un, un, un, un, un, un, un, un, un, un, un, un, un, un, un, un, un, un, un, un, un,
 un, un, un, un, un, un, un, un, un, un, un, un, un, un, un, rI d.2.2.2.1, rB d.c4.1, un, un, un, un, un, un, un, un, un, un, un, un,
 un, un, un, un, un, un, un, un, un, un, un, un] [some [sB d.c4.2], some [sB false], some [sI 2959, sI (-213044), sI 8947849, sI (-178956971),
 sI 1073741824]] [0]))) (fun d c => ds_Z_1 f_AA f_AU f_AE f_AI f_AJ (@L_Z_0) (@L_Z_1) d.1 d.2.1 d.2.2.1 d.2.2.2.1 d.c4 c K) 200 (x0, x1, x2, x3, x4)
theorem so_Z_1 [Amb] : ∀ kk, SumOK Try.prog (envOf [(100, F_AA f_AA), (105, F_AU f_AU), (83, F_AE f_AE), (78, F_AI f_AI), (106, F_AJ f_AJ)]) ⟨[⟨15, u2ES1, []⟩, ⟨25, u3ES1, []⟩], [⟨15, 1, @R_Z_0 (@L_Z_0)⟩, ⟨25, 1, @R_Z_1 (@L_Z_1)⟩], [], [], (some ⟨0, u4ES1, []⟩)⟩ (tmpsOf Try.prog 81) kk 200 (loopIn Try.prog 81 25) := SumOK.of (id := 25) (k0 := 1) (run := @R_Z_1 (@L_Z_1)) (by kernel_rfl) fun s K r hr => by
    unfold R_Z_1 at hr
    obtain ⟨b, hb, hr1⟩ := Option.bind_eq_some_iff.1 hr
    have e := ((Q_Z_1).ok s b hb).trans (q_Z_1 b)
    subst e
    exact ⟨200, (it_Z_1 b.1.c4.2.1 b.1.c8.c4.1 b.1.c8.c4.2.2.1 b.1.c8.c4.2.2.2.1 b.2.1.1.1 K).trans hr1⟩
def K_Z {ρ : Type} (g_AA : t8ES1) (g_AU : t9ES1) (g_AE : t17ES1) (g_AI : t17ES1) (g_AJ : t7ES1) (l_0 : ∀ {ρ : Type}, (Int × Int × Int × Int × Bool) → ((Int × Int ×
 Int × Int × Bool × Bool) → Option ρ) → Option ρ) (l_1 : ∀ {ρ : Type}, (Int × Int × Int × Int × Bool) → ((Int × Int × Int × Int × Bool × Bool) → Option ρ) → Option ρ) (x0 : Int) (x1 : Bool) (k : (Int × Bool) → Option ρ) : Option ρ := Option.bind (g_AA x0 x1) fun (d : Int × Bool) => Option.bind (g_AU d.1) fun (d_1 : Int) => bif decide (d_1 > 1686629713) then
 bif decide (IntKind.wrap IntKind.i64 (3373259426 - d_1) < 0) then bif decide (IntKind.wrap IntKind.i64 (0 - IntKind.wrap IntKind.i64 (3373259426 - d_1)) > 843314857) then Option.bind (g_AE (IntKind.wrap IntKind.i64 (1686629713 - IntKind.wrap IntKind.i64 (0 - IntKind.wrap IntKind.i64 (3373259426 - d_1)))) (IntKind.wrap IntKind.i64 (1686629713 - IntKind.wrap IntKind.i64 (0 - IntKind.wrap IntKind.i64 (3373259426 - d_1)))) d.2) fun (d : Int ×
 Bool) => l_0 (IntKind.wrap IntKind.i64 (3373259426 - d_1), d.1, 2, 0, d.2) fun (d : Int × Int × Int × Int × Bool × Bool) => bif decide (d.1 < 0) then Option.bind (g_AJ (IntKind.wrap IntKind.i64 (0 - d.2.2.1)) (-1073741824) 1073741824 false) fun (d_2 : Int × Bool) => k (d_2.1, d.c4.2) else Option.bind (g_AJ d.2.2.1 (-1073741824) 1073741824 false) fun (d_2 : Int ×
 Bool) => k (d_2.1, d.c4.2) else Option.bind (g_AE (IntKind.wrap IntKind.i64 (3373259426 - d_1)) (IntKind.wrap IntKind.i64 (3373259426 - d_1)) d.2) fun (d : Int × Bool) => l_1 (IntKind.wrap IntKind.i64 (3373259426 - d_1), d.1, -27, 0, d.2) fun (d : Int × Int × Int × Int × Bool × Bool) => Option.bind (g_AE d.1 d.2.2.1 d.c4.2) fun (d : Int ×
 Bool) => Option.bind (g_AJ d.1 (-1073741824) 1073741824 false) fun (d_2 : Int × Bool) => k (d_2.1, d.2) else bif decide (IntKind.wrap IntKind.i64 (3373259426 - d_1) > 843314857) then Option.bind (g_AE (IntKind.wrap IntKind.i64 (1686629713 - IntKind.wrap IntKind.i64 (3373259426 - d_1))) (IntKind.wrap IntKind.i64 (1686629713 - IntKind.wrap IntKind.i64 (3373259426 - d_1))) d.2) fun (d : Int ×
 Bool) => l_0 (IntKind.wrap IntKind.i64 (3373259426 - d_1), d.1, 2, 0, d.2) fun (d : Int × Int × Int × Int × Bool × Bool) => bif decide (d.1 < 0) then Option.bind (g_AJ (IntKind.wrap IntKind.i64 (0 - d.2.2.1)) (-1073741824) 1073741824 false) fun (d_2 : Int × Bool) => k (d_2.1, d.c4.2) else Option.bind (g_AJ d.2.2.1 (-1073741824) 1073741824 false) fun (d_2 : Int ×
 Bool) => k (d_2.1, d.c4.2) else Option.bind (g_AE (IntKind.wrap IntKind.i64 (3373259426 - d_1)) (IntKind.wrap IntKind.i64 (3373259426 - d_1)) d.2) fun (d : Int × Bool) => l_1 (IntKind.wrap IntKind.i64 (3373259426 - d_1), d.1, -27, 0, d.2) fun (d : Int × Int × Int × Int × Bool × Bool) => Option.bind (g_AE d.1 d.2.2.1 d.c4.2) fun (d : Int ×
 Bool) => Option.bind (g_AJ d.1 (-1073741824) 1073741824 false) fun (d_2 : Int × Bool) => k (d_2.1, d.2) else bif decide (d_1 < -1686629713) then bif decide (IntKind.wrap IntKind.i64 (-3373259426 - d_1) < 0) then bif decide (IntKind.wrap IntKind.i64 (0 - IntKind.wrap IntKind.i64 (-3373259426 - d_1)) > 843314857) then
 Option.bind (g_AE (IntKind.wrap IntKind.i64 (1686629713 - IntKind.wrap IntKind.i64 (0 - IntKind.wrap IntKind.i64 (-3373259426 - d_1)))) (IntKind.wrap IntKind.i64 (1686629713 - IntKind.wrap IntKind.i64 (0 - IntKind.wrap IntKind.i64 (-3373259426 - d_1)))) d.2) fun (d : Int × Bool) => l_0 (IntKind.wrap IntKind.i64 (-3373259426 - d_1),
 d.1, 2, 0, d.2) fun (d : Int × Int × Int × Int × Bool × Bool) => bif decide (d.1 < 0) then Option.bind (g_AJ (IntKind.wrap IntKind.i64 (0 - d.2.2.1)) (-1073741824) 1073741824 false) fun (d_2 : Int × Bool) => k (d_2.1, d.c4.2) else Option.bind (g_AJ d.2.2.1 (-1073741824) 1073741824 false) fun (d_2 : Int ×
 Bool) => k (d_2.1, d.c4.2) else Option.bind (g_AE (IntKind.wrap IntKind.i64 (-3373259426 - d_1)) (IntKind.wrap IntKind.i64 (-3373259426 - d_1)) d.2) fun (d : Int × Bool) => l_1 (IntKind.wrap IntKind.i64 (-3373259426 - d_1), d.1, -27, 0, d.2) fun (d : Int × Int × Int × Int × Bool × Bool) => Option.bind (g_AE d.1 d.2.2.1 d.c4.2) fun (d : Int ×
 Bool) => Option.bind (g_AJ d.1 (-1073741824) 1073741824 false) fun (d_2 : Int × Bool) => k (d_2.1, d.2) else bif decide (IntKind.wrap IntKind.i64 (-3373259426 - d_1) > 843314857) then Option.bind (g_AE (IntKind.wrap IntKind.i64 (1686629713 - IntKind.wrap IntKind.i64 (-3373259426 - d_1))) (IntKind.wrap IntKind.i64 (1686629713 - IntKind.wrap IntKind.i64 (-3373259426 - d_1))) d.2) fun (d : Int ×
 Bool) => l_0 (IntKind.wrap IntKind.i64 (-3373259426 - d_1), d.1, 2, 0, d.2) fun (d : Int × Int × Int × Int × Bool × Bool) => bif decide (d.1 < 0) then Option.bind (g_AJ (IntKind.wrap IntKind.i64 (0 - d.2.2.1)) (-1073741824) 1073741824 false) fun (d_2 : Int × Bool) => k (d_2.1, d.c4.2) else Option.bind (g_AJ d.2.2.1 (-1073741824) 1073741824 false) fun (d_2 : Int ×
 Bool) => k (d_2.1, d.c4.2) else Option.bind (g_AE (IntKind.wrap IntKind.i64 (-3373259426 - d_1)) (IntKind.wrap IntKind.i64 (-3373259426 - d_1)) d.2) fun (d : Int × Bool) => l_1 (IntKind.wrap IntKind.i64 (-3373259426 - d_1), d.1, -27, 0, d.2) fun (d : Int × Int × Int × Int × Bool × Bool) => Option.bind (g_AE d.1 d.2.2.1 d.c4.2) fun (d : Int ×
 Bool) => Option.bind (g_AJ d.1 (-1073741824) 1073741824 false) fun (d_2 : Int × Bool) => k (d_2.1, d.2) else bif decide (d_1 < 0) then bif decide (IntKind.wrap IntKind.i64 (0 - d_1) > 843314857) then Option.bind (g_AE (IntKind.wrap IntKind.i64 (1686629713 - IntKind.wrap IntKind.i64 (0 - d_1))) (IntKind.wrap IntKind.i64 (1686629713 - IntKind.wrap IntKind.i64 (0 - d_1))) d.2) fun (d : Int ×
 Bool) => l_0 (d_1, d.1, 2, 0, d.2) fun (d : Int × Int × Int × Int × Bool × Bool) => bif decide (d.1 < 0) then Option.bind (g_AJ (IntKind.wrap IntKind.i64 (0 - d.2.2.1)) (-1073741824) 1073741824 false) fun (d_2 : Int × Bool) => k (d_2.1, d.c4.2) else Option.bind (g_AJ d.2.2.1 (-1073741824) 1073741824 false) fun (d_2 : Int ×
 Bool) => k (d_2.1, d.c4.2) else Option.bind (g_AE d_1 d_1 d.2) fun (d : Int × Bool) => l_1 (d_1, d.1, -27, 0, d.2) fun (d : Int × Int × Int × Int × Bool × Bool) => Option.bind (g_AE d.1 d.2.2.1 d.c4.2) fun (d : Int × Bool) => Option.bind (g_AJ d.1 (-1073741824) 1073741824 false) fun (d_2 : Int ×
 Bool) => k (d_2.1, d.2) else bif decide (d_1 > 843314857) then Option.bind (g_AE (IntKind.wrap IntKind.i64 (1686629713 - d_1)) (IntKind.wrap IntKind.i64 (1686629713 - d_1)) d.2) fun (d : Int × Bool) => l_0 (d_1, d.1, 2, 0, d.2) fun (d : Int × Int × Int × Int × Bool × Bool) => bif decide (d.1 < 0) then
 Option.bind (g_AJ (IntKind.wrap IntKind.i64 (0 - d.2.2.1)) (-1073741824) 1073741824 false) fun (d_2 : Int × Bool) => k (d_2.1, d.c4.2) else Option.bind (g_AJ d.2.2.1 (-1073741824) 1073741824 false) fun (d_2 : Int × Bool) => k (d_2.1, d.c4.2) else Option.bind (g_AE d_1 d_1 d.2) fun (d : Int ×
 Bool) => l_1 (d_1, d.1, -27, 0, d.2) fun (d : Int × Int × Int × Int × Bool × Bool) => Option.bind (g_AE d.1 d.2.2.1 d.c4.2) fun (d : Int × Bool) => Option.bind (g_AJ d.1 (-1073741824) 1073741824 false) fun (d_2 : Int × Bool) => k (d_2.1, d.2)
def f_Z (x0 : Int) (x1 : Bool) : Option (Int × Bool) := K_Z f_AA f_AU f_AE f_AI f_AJ (@L_Z_0) (@L_Z_1) x0 x1 some
section
open Go.Ab.Rdr
def QA_Z := ((pair (cons (ar (rc (cptr (nat 0) (ok' (nat 0)) (nat 1)))) (cons (ar (rc (cf (fi .i64 hole)))) nil)) (cons (cons (gc (cf (fb hole))) nil) nil)) : Rdr (List AV × List Blk) _)
end
def F_Z (f : (Int) → (Bool) → Option (Int × Bool)) : Sem1 := fun args h => match (QA_Z).rd (args, h) with
  | some b => .opt (f b.1.2.1 b.2.1.1) fun (d : Int × Bool) => .leaf (Res.mk (rI d.1) [Ch.set [sB d.2]] [])
  | none => .fail
theorem d_Z (g_AA : t8ES1) (g_AU : t9ES1) (g_AE : t17ES1) (g_AI : t17ES1) (g_AJ : t7ES1) (l_0 : ∀ {ρ : Type}, (Int × Int × Int × Int × Bool) → ((Int × Int × Int ×
 Int × Bool × Bool) → Option ρ) → Option ρ) (l_1 : ∀ {ρ : Type}, (Int × Int × Int × Int × Bool) → ((Int × Int × Int × Int × Bool × Bool) → Option ρ) → Option ρ) (x0 : Int) (x1 : Bool) : den Try.prog (envOf [(100, F_AA g_AA), (105, F_AU g_AU), (83, F_AE g_AE), (78, F_AI g_AI), (106, F_AJ g_AJ)]) ⟨[⟨15,
 u2ES1, []⟩, ⟨25, u3ES1, []⟩], [⟨15, 1, @R_Z_0 (@l_0)⟩, ⟨25, 1, @R_Z_1 (@l_1)⟩], [], [], (some ⟨0, u4ES1, []⟩)⟩ 200 81 [.r (.c (.ptr 0 (.k 0) 1)), rI x0] [[.c (.f (.b x1))]] = K_Z g_AA g_AU g_AE g_AI g_AJ (@l_0) (@l_1) x0 x1 (fun (d : Int × Bool) => some (Res.mk (rI d.1) [Ch.set [sB d.2]] [])) := by kernel_rfl
theorem m_Z {ρ σ : Type} (q : ρ → Option σ) (g_AA : t8ES1) (g_AU : t9ES1) (g_AE : t17ES1) (g_AI : t17ES1) (g_AJ : t7ES1) (l_0 : ∀ {ρ : Type}, (Int × Int × Int × Int × Bool) → ((Int × Int × Int × Int × Bool × Bool) → Option ρ) → Option ρ) (l_1 : ∀ {ρ : Type}, (Int × Int × Int × Int × Bool) → ((Int × Int × Int × Int × Bool × Bool) → Option ρ) → Option ρ) (hl_0 : ∀ {ρ σ : Type} (q : ρ → Option σ) (d : Int × Int × Int × Int × Bool) (k : (Int × Int × Int × Int × Bool × Bool) → Option ρ), (l_0 d k).bind q = l_0 d fun x => (k x).bind q) (hl_1 : ∀ {ρ σ : Type} (q : ρ → Option σ) (d : Int × Int × Int × Int × Bool) (k : (Int × Int × Int × Int × Bool × Bool) → Option ρ), (l_1 d k).bind q = l_1 d fun x => (k x).bind q) (x0 : Int) (x1 : Bool) (k : (Int × Bool) → Option ρ) : (K_Z g_AA g_AU g_AE g_AI g_AJ (@l_0) (@l_1) x0 x1 k).bind q = K_Z g_AA g_AU g_AE g_AI g_AJ (@l_0) (@l_1) x0 x1 (fun d => (k d).bind q) := by
  simp only [K_Z, bnd_cond, bnd_bind, bnd_none, bnd_sum, hl_0, hl_1]
theorem qa_Z : ∀ b, (QA_Z).em b = ([.r (.c (.ptr 0 (.k 0) 1)), rI b.1.2.1], [[.c (.f (.b b.2.1.1))]]) := fun b => by kernel_rfl
theorem e_Z {f : (Int) → (Bool) → Option (Int × Bool)} {args : List AV} {h : List Blk} {r : Res} (hr : (F_Z f args h).eval = some r) : ∃ x0 x1, args = [.r (.c (.ptr 0 (.k 0) 1)), rI x0] ∧ h = [[.c (.f (.b x1))]] ∧ (f x0 x1).bind (fun (d : Int × Bool) => some (Res.mk (rI d.1) [Ch.set [sB d.2]] [])) = some r := by
  unfold F_Z at hr
  split at hr
  · rename_i b hb
    have e := ((QA_Z).ok _ _ hb).trans (qa_Z b)
    rw [opt_eval2] at hr
    exact ⟨b.1.2.1, b.2.1.1, (Prod.mk.inj e).1, (Prod.mk.inj e).2, hr⟩
  · cases hr
theorem n_Z {σ : Type} (q : (Int × Bool) → Option σ) (x0 : Int) (x1 : Bool) : (f_Z x0 x1).bind q = K_Z f_AA f_AU f_AE f_AI f_AJ (@L_Z_0) (@L_Z_1) x0 x1 q := by
  unfold f_Z
  exact m_Z q f_AA f_AU f_AE f_AI f_AJ (@L_Z_0) (@L_Z_1) (fun q d k => mL_Z_0 q d k) (fun q d k => mL_Z_1 q d k) x0 x1 some
theorem s_Z [Amb] : Sound Try.prog 81 (F_Z f_Z) := (inl_sums (l := [(100, F_AA f_AA), (105, F_AU f_AU), (83, F_AE f_AE), (78, F_AI f_AI), (106, F_AJ f_AJ)]) (.cons s_AA (.cons s_AU (.cons s_AE (.cons s_AI (.cons s_AJ (.nil _)))))) mixed (hs := ⟨[⟨15, u2ES1, []⟩, ⟨25, u3ES1, []⟩], [⟨15, 1, @R_Z_0 (@L_Z_0)⟩, ⟨25, 1, @R_Z_1 (@L_Z_1)⟩], [], [], (some ⟨0, u4ES1, []⟩)⟩) (lf := 200) (Sums.by (l := [loopIn Try.prog 81 15, loopIn Try.prog 81 25]) (lj := []) (by kernel_rfl) ⟨so_Z_0, ⟨so_Z_1, trivial⟩⟩ (by kernel_rfl) trivial) (by kernel_rfl)).by (F := F_Z f_Z) fun args b r hr => by
  obtain ⟨x0, x1, rfl, rfl, hr1⟩ := e_Z hr
  exact inl_eval ((d_Z f_AA f_AU f_AE f_AI f_AJ (@L_Z_0) (@L_Z_1) x0 x1).trans ((n_Z (fun (d : Int × Bool) => some (Res.mk (rI d.1) [Ch.set [sB d.2]] [])) x0 x1).symm.trans hr1))

def K_BX {ρ : Type} (g_AU : t9ES1) (g_Z : t8ES1) (x0 : Int) (x1 : Bool) (k : (Int × Bool) → Option ρ) : Option ρ := Option.bind (g_AU x0) fun (d : Int) => Option.bind (g_Z (IntKind.wrap IntKind.i64 (1686629713 + d)) x1) fun (d : Int × Bool) => k (d.1, d.2)
def f_BX (x0 : Int) (x1 : Bool) : Option (Int × Bool) := K_BX f_AU f_Z  x0 x1 some
section
open Go.Ab.Rdr
def QA_BX := ((pair (cons (ar (rc (cptr (nat 0) (ok' (nat 0)) (nat 1)))) (cons (ar (rc (cf (fi .i64 hole)))) nil)) (cons (cons (gc (cf (fb hole))) nil) nil)) : Rdr (List AV × List Blk) _)
end
def F_BX (f : (Int) → (Bool) → Option (Int × Bool)) : Sem1 := fun args h => match (QA_BX).rd (args, h) with
  | some b => .opt (f b.1.2.1 b.2.1.1) fun (d : Int × Bool) => .leaf (Res.mk (rI d.1) [Ch.set [sB d.2]] [])
  | none => .fail
theorem d_BX (g_AU : t9ES1) (g_Z : t8ES1) (x0 : Int) (x1 : Bool) : den Try.prog (envOf [(105, F_AU g_AU), (81, F_Z g_Z)]) ⟨[], [], [], [], none⟩ 200 82 [.r (.c (.ptr 0 (.k 0) 1)), rI x0] [[.c (.f (.b x1))]] = K_BX g_AU g_Z x0 x1 (fun (d : Int ×
 Bool) => some (Res.mk (rI d.1) [Ch.set [sB d.2]] [])) := by kernel_rfl
theorem m_BX {ρ σ : Type} (q : ρ → Option σ) (g_AU : t9ES1) (g_Z : t8ES1)   (x0 : Int) (x1 : Bool) (k : (Int × Bool) → Option ρ) : (K_BX g_AU g_Z  x0 x1 k).bind q = K_BX g_AU g_Z  x0 x1 (fun d => (k d).bind q) := by
  simp only [K_BX, bnd_cond, bnd_bind, bnd_none, bnd_sum]
theorem qa_BX : ∀ b, (QA_BX).em b = ([.r (.c (.ptr 0 (.k 0) 1)), rI b.1.2.1], [[.c (.f (.b b.2.1.1))]]) := fun b => by kernel_rfl
theorem e_BX {f : (Int) → (Bool) → Option (Int × Bool)} {args : List AV} {h : List Blk} {r : Res} (hr : (F_BX f args h).eval = some r) : ∃ x0 x1, args = [.r (.c (.ptr 0 (.k 0) 1)), rI x0] ∧ h = [[.c (.f (.b x1))]] ∧ (f x0 x1).bind (fun (d : Int × Bool) => some (Res.mk (rI d.1) [Ch.set [sB d.2]] [])) = some r := by
  unfold F_BX at hr
  split at hr
  · rename_i b hb
    have e := ((QA_BX).ok _ _ hb).trans (qa_BX b)
    rw [opt_eval2] at hr
    exact ⟨b.1.2.1, b.2.1.1, (Prod.mk.inj e).1, (Prod.mk.inj e).2, hr⟩
  · cases hr
theorem n_BX {σ : Type} (q : (Int × Bool) → Option σ) (x0 : Int) (x1 : Bool) : (f_BX x0 x1).bind q = K_BX f_AU f_Z  x0 x1 q := by
  unfold f_BX
  exact m_BX q f_AU f_Z   x0 x1 some
theorem s_BX [Amb] : Sound Try.prog 82 (F_BX f_BX) := (inl_sound (l := [(105, F_AU f_AU), (81, F_Z f_Z)]) (.cons s_AU (.cons s_Z (.nil _))) mixed [] [] 200 (by kernel_rfl)).by (F := F_BX f_BX) fun args b r hr => by
  obtain ⟨x0, x1, rfl, rfl, hr1⟩ := e_BX hr
  exact inl_eval ((d_BX f_AU f_Z  x0 x1).trans ((n_BX (fun (d : Int × Bool) => some (Res.mk (rI d.1) [Ch.set [sB d.2]] [])) x0 x1).symm.trans hr1))

def S_Ad_0 {ρ : Type} (g_Aj : t10ES1) (g_Am : t11ES1) (g_AM : t12ES1) (x0 : Int) (x1 : Int) (x2 : Int) (x3 : Int) (x4 : Bool) (c : (Int × Int × Int × Int × Bool) → Option ρ) (x : (Int ×
 Int × Bool × Int × Int × Bool) → Option ρ) : Option ρ := bif decide (x1 ≥ 0) then bif !decide (IntKind.wrap IntKind.u64 x1 < 0) then Option.bind (g_Aj (IntKind.wrap IntKind.u64 (Int.ofNat (BitVec.toNat (BitVec.ofInt 64 x0 ||| BitVec.ofInt 64 (IntKind.wrap IntKind.u64 (1 * 2 ^ min (Int.toNat (IntKind.wrap IntKind.u64 x1)) 64)))))) (IntKind.wrap IntKind.u64 (Int.ofNat (BitVec.toNat (BitVec.ofInt 64 x0 ||| BitVec.ofInt 64 (IntKind.wrap IntKind.u64 (1 * 2 ^ min (Int.toNat (IntKind.wrap IntKind.u64 x1)) 64))))))) fun (d : Int ×
 Int) => Option.bind (g_Am x2 x3 false d.1 d.2 false) fun (d : Bool) => bif !d then c (IntKind.wrap IntKind.u64 (Int.ofNat (BitVec.toNat (BitVec.ofInt 64 x0 ||| BitVec.ofInt 64 (IntKind.wrap IntKind.u64 (1 * 2 ^ min (Int.toNat (IntKind.wrap IntKind.u64 x1)) 64))))), IntKind.wrap IntKind.i64 (x1 - 1),
 x2, x3, x4) else c (x0, IntKind.wrap IntKind.i64 (x1 - 1), x2, x3, x4) else none else x (x0, x1, decide (x1 ≥ 0), x2, x3, x4)
section
open Go.Ab.Rdr
def Q_Ad_0 := (st (cons aund (cons (ar (rc (cptr (nat 0) (ok' (nat 0)) (nat 3)))) (cons (ar (rc (cptr (nat 1) (ok' (nat 0)) (nat 3)))) (cons (ar (rc (cf (fi .u64 hole)))) (cons (ar (rc (cf (fi .i64 hole)))) (cons aund (cons aund (cons aund (cons aund (cons aund (cons aund (cons aund (cons aund (cons aund (cons aund (cons aund (cons aund (cons aund (cons aund (cons aund (cons aund (cons aund (cons aund (cons aund (cons aund (cons aund (cons aund (cons aund (cons aund (cons aund (cons aund (cons aund (cons aund (cons aund (cons aund (cons aund (cons aund (cons aund (cons aund (cons aund (cons aund (cons aund (cons aund (cons aund (cons aund (cons aund (cons aund (cons aund (cons aund (cons aund (cons aund (cons aund (cons (atup nil) (cons (atup nil) (cons (atup nil) (cons (atup nil) (cons aund (cons aund (cons aund (cons aund (cons aund (cons aund (cons aund (cons aund nil)))))))))))))))))))))))))))))))))))))))))))))))))))))))))))))))) (cons (some' (cons (gc (cf (fi .u64 hole))) (cons (gc (cf (fi .u64 hole))) (cons (gc (cf (fb hole))) nil)))) (cons (some' (cons (gc (cf (fi .u64 (int 0)))) (cons (gc (cf (fi .u64 (int 0)))) (cons (gc (cf (fb (bool false)))) nil)))) nil)) nil)
end
theorem q_Ad_0 : ∀ b, (Q_Ad_0).em b = St.mk [un, AV.r (RV.c (CV.ptr 0 (Off.k 0) 3)), AV.r (RV.c (CV.ptr 1 (Off.k 0) 3)), rU b.1.2.2.2.1, rI b.1.c4.1, un, un, un, un, un, un, un, un, un,
 un, un, un, un, un, un, un, un, un, un, un, un, un, un, un, un, un, un, un, un, un, un, un, un, un, un, un, un, un, un, un, un, un, un, un, un, un, un,
 AV.tup [], AV.tup [], AV.tup [], AV.tup [], un, un, un, un, un, un, un, un] [some [sU b.2.1.1.1, sU b.2.1.1.2.1, sB b.2.1.1.2.2.1], some [sU 0, sU 0,
 sB false]] [] := fun b => by kernel_rfl
def R_Ad_0 (l : ∀ {ρ : Type}, (Int × Int × Int × Int × Bool) → ((Int × Int × Bool × Int × Int × Bool) → Option ρ) → Option ρ) {ρ : Type} (s : St) (K : AX → St → Option ρ) : Option ρ := ((Q_Ad_0).rd s).bind fun b => l (b.1.2.2.2.1, b.1.c4.1, b.2.1.1.1, b.2.1.1.2.1, b.2.1.1.2.2.1) (fun d => K (AX.ex 0) (St.mk [un,
 AV.r (RV.c (CV.ptr 0 (Off.k 0) 3)), AV.r (RV.c (CV.ptr 1 (Off.k 0) 3)), rU d.1, rI d.2.1, un, un, un, un, un, un, rI d.2.1, rB d.2.2.1, un, un,
 un, un, un, un, un, un, un, un, un, un, un, un, un, un, un, un, un, un, un, un, un, un, un, un, un, un, un, un, un, un, un, un, un, un, un, un, un, AV.tup [],
 AV.tup [], AV.tup [], AV.tup [], un, un, un, un, un, un, un, un] [some [sU d.2.2.2.1, sU d.c4.1, sB d.c4.2], some [sU 0, sU 0, sB false]] []))
theorem ms_Ad_0 {ρ σ : Type} (g_Aj : t10ES1) (g_Am : t11ES1) (g_AM : t12ES1)   (q : ρ → Option σ) (x0 : Int) (x1 : Int) (x2 : Int) (x3 : Int) (x4 : Bool) (c : (Int × Int × Int × Int × Bool) → Option ρ) (x : (Int × Int × Bool × Int × Int × Bool) → Option ρ) : (S_Ad_0 g_Aj g_Am g_AM  x0 x1 x2 x3 x4 c x).bind q = S_Ad_0 g_Aj g_Am g_AM  x0 x1 x2 x3 x4 (fun d => (c d).bind q) (fun d => (x d).bind q) := by
  simp only [S_Ad_0, bnd_cond, bnd_bind, bnd_none, bnd_sum]
def L_Ad_0 {ρ : Type} (d : Int × Int × Int × Int × Bool) (k : (Int × Int × Bool × Int × Int × Bool) → Option ρ) : Option ρ := loopK (fun d c x => S_Ad_0 f_Aj f_Am f_AM  d.1 d.2.1 d.2.2.1 d.2.2.2.1 d.c4 c x) 200 d k
theorem mL_Ad_0 {ρ σ : Type} (q : ρ → Option σ) (d : Int × Int × Int × Int × Bool) (k : (Int × Int × Bool × Int × Int × Bool) → Option ρ) : (L_Ad_0 d k).bind q = L_Ad_0 d fun x => (k x).bind q := loopK_bind q (fun d c x => ms_Ad_0 f_Aj f_Am f_AM q d.1 d.2.1 d.2.2.1 d.2.2.2.1 d.c4 c x) k _ d
theorem ds_Ad_0 {ρ : Type} (g_Aj : t10ES1) (g_Am : t11ES1) (g_AM : t12ES1) (l_0 : ∀ {ρ : Type}, (Int × Int × Int × Int × Bool) → ((Int × Int × Bool × Int × Int × Bool) → Option ρ) →
 Option ρ) (x0 : Int) (x1 : Int) (x2 : Int) (x3 : Int) (x4 : Bool) (c : St → Option ρ) (K : AX → St → Option ρ) : runC Try.prog (envOf [(115, F_Aj g_Aj), (117, F_Am g_Am), (116, F_AM g_AM)]) ⟨[⟨3, u5ES1, []⟩], [⟨3, 0, @R_Ad_0 (@l_0)⟩], [], [], (some ⟨0, u6ES1, []⟩)⟩ (tmpsOf Try.prog 107) 0 200 (loopIn Try.prog 107 3) (St.mk [un, AV.r (RV.c (CV.ptr 0 (Off.k 0) 3)), AV.r (RV.c (CV.ptr 1 (Off.k 0) 3)), rU x0, rI x1,
 un, un, un, un, un, un, un, un, un, un, un, un, un, un, un, un, un, un, un, un, un, un, un, un, un, un, un, un, un, un, un, un, un, un, un, un, un, un,
 un, un, un, un, un, un, un, un, un, AV.tup [], AV.tup [], AV.tup [], AV.tup [], un, un, un, un, un, un, un, un] [some [sU x2, sU x3, sB x4], some [sU 0,
 sU 0, sB false]] []) (next (fun t => t.head 0 ⟨[⟨3, u5ES1, []⟩], [⟨3, 0, @R_Ad_0 (@l_0)⟩], [], [], (some ⟨0, u6ES1, []⟩)⟩ (loopIn Try.prog 107 3)) c K) = S_Ad_0 g_Aj g_Am g_AM x0 x1 x2 x3 x4 (fun d => c (St.mk [un, AV.r (RV.c (CV.ptr 0 (Off.k 0) 3)), AV.r (RV.c (CV.ptr 1 (Off.k 0) 3)), rU d.1, rI d.2.1, un, un, un, un, un,
 un, un, un, un, un, un, un, un, un, un, un, un, un, un, un, un, un, un, un, un, un, un, un, un, un, un, un, un, un, un, un, un, un, un, un, un, un, un,
 un, un, un, un, AV.tup [], AV.tup [], AV.tup [], AV.tup [], un, un, un, un, un, un, un, un] [some [sU d.2.2.1, sU d.2.2.2.1, sB d.c4], some [sU 0, sU 0,
 sB false]] [])) (fun d => K (AX.ex 0) (St.mk [un, AV.r (RV.c (CV.ptr 0 (Off.k 0) 3)), AV.r (RV.c (CV.ptr 1 (Off.k 0) 3)), rU d.1, rI d.2.1, un, un, un, un, un, un, rI d.2.1,
 rB d.2.2.1, un, un, un, un, un, un, un, un, un, un, un, un, un, un, un, un, un, un, un, un, un, un, un, un, un, un, un, un, un, un, un, un, un, un,
 un, un, un, un, un, AV.tup [], AV.tup [], AV.tup [], AV.tup [], un, un, un, un, un, un, un, un] [some [sU d.2.2.2.1, sU d.c4.1, sB d.c4.2], some [sU 0,
 sU 0, sB false]] [])) := by kernel_rfl
theorem it_Ad_0 {ρ : Type} (x0 : Int) (x1 : Int) (x2 : Int) (x3 : Int) (x4 : Bool) (K : AX → St → Option ρ) : iter (fun t => t.head 0 ⟨[⟨3, u5ES1, []⟩], [⟨3, 0, @R_Ad_0 (@L_Ad_0)⟩], [], [], (some ⟨0, u6ES1, []⟩)⟩ (loopIn Try.prog 107 3)) (runC Try.prog (envOf [(115, F_Aj f_Aj), (117, F_Am f_Am), (116, F_AM f_AM)]) ⟨[⟨3, u5ES1, []⟩], [⟨3, 0, @R_Ad_0 (@L_Ad_0)⟩], [], [], (some ⟨0, u6ES1, []⟩)⟩ (tmpsOf Try.prog 107) 0 200 (loopIn Try.prog 107 3)) K 200 (St.mk [un, AV.r (RV.c (CV.ptr 0 (Off.k 0) 3)), AV.r (RV.c (CV.ptr 1 (Off.k 0) 3)), rU x0, rI x1,
 un, un, un, un, un, un, un, un, un, un, un, un, un, un, un, un, un, un, un, un, un, un, un, un, un, un, un, un, un, un, un, un, un, un, un, un, un, un,
 un, un, un, un, un, un, un, un, un, AV.tup [], AV.tup [], AV.tup [], AV.tup [], un, un, un, un, un, un, un, un] [some [sU x2, sU x3, sB x4], some [sU 0,
 sU 0, sB false]] []) = L_Ad_0 (x0, x1, x2, x3, x4) (fun d => K (AX.ex 0) (St.mk [un, AV.r (RV.c (CV.ptr 0 (Off.k 0) 3)), AV.r (RV.c (CV.ptr 1 (Off.k 0) 3)), rU d.1, rI d.2.1, un,
 un, un, un, un, un, rI d.2.1, rB d.2.2.1, un, un, un, un, un, un, un, un, un, un, un, un, un, un, un, un, un, un, un, un, un, un, un,
 un, un, un, un, un, un, un, un, un, un, un, un, un, un, un, un, AV.tup [], AV.tup [], AV.tup [], AV.tup [], un, un, un, un, un, un, un, un] [some [sU d.2.2.2.1, sU d.c4.1,
 sB d.c4.2], some [sU 0, sU 0, sB false]] [])) := iter_loopX (emb := fun (d : Int × Int × Int × Int × Bool) => St.mk [un, AV.r (RV.c (CV.ptr 0 (Off.k 0) 3)), AV.r (RV.c (CV.ptr 1 (Off.k 0) 3)), rU d.1,
 rI d.2.1, un, un, un, un, un, un, un, un, un, un, un, un, un, un, un, un, un, un, un, un, un, un, un, un, un, un, un, un, un, un, un, un,
 un, un, un, un, un, un, un, un, un, un, un, un, un, un, un, AV.tup [], AV.tup [], AV.tup [], AV.tup [], un, un, un, un, un, un, un, un] [some [sU d.2.2.1, sU d.2.2.2.1,
 sB d.c4], some [sU 0, sU 0, sB false]] []) (step := fun d c x => S_Ad_0 f_Aj f_Am f_AM d.1 d.2.1 d.2.2.1 d.2.2.2.1 d.c4 c x) (kx := (fun d => K (AX.ex 0) (St.mk [un, AV.r (RV.c (CV.ptr 0 (Off.k 0) 3)),
 AV.r (RV.c (CV.ptr 1 (Off.k 0) 3)), rU d.1, rI d.2.1, un, un, un, un, un, un, rI d.2.1, rB d.2.2.1, un, un, un, un, un, un, un,
 un, un, un, un, un, un, un, un, un, un, un, un, un, un, un, un, un, un, un, un, un, un, un, un, un, un, un, un, un, un, un, un, AV.tup [], AV.tup [], AV.tup [], AV.tup [], un,
 un, un, un, un, un, un, un] [some [sU d.2.2.2.1, sU d.c4.1, sB d.c4.2], some [sU 0, sU 0, sB false]] []))) (fun d c => ds_Ad_0 f_Aj f_Am f_AM (@L_Ad_0) d.1 d.2.1 d.2.2.1 d.2.2.2.1 d.c4 c K) 200 (x0,
 x1, x2, x3, x4)
theorem so_Ad_0 [Amb] : ∀ kk, SumOK Try.prog (envOf [(115, F_Aj f_Aj), (117, F_Am f_Am), (116, F_AM f_AM)]) ⟨[⟨3, u5ES1, []⟩], [⟨3, 0, @R_Ad_0 (@L_Ad_0)⟩], [], [], (some ⟨0, u6ES1, []⟩)⟩ (tmpsOf Try.prog 107) kk 200 (loopIn Try.prog 107 3) := SumOK.of (id := 3) (k0 := 0) (run := @R_Ad_0 (@L_Ad_0)) (by kernel_rfl) fun s K r hr => by
    unfold R_Ad_0 at hr
    obtain ⟨b, hb, hr1⟩ := Option.bind_eq_some_iff.1 hr
    have e := ((Q_Ad_0).ok s b hb).trans (q_Ad_0 b)
    subst e
    exact ⟨200, (it_Ad_0 b.1.2.2.2.1 b.1.c4.1 b.2.1.1.1 b.2.1.1.2.1 b.2.1.1.2.2.1 K).trans hr1⟩
def K_Ad {ρ : Type} (g_Aj : t10ES1) (g_Am : t11ES1) (g_AM : t12ES1) (l_0 : ∀ {ρ : Type}, (Int × Int × Int × Int × Bool) → ((Int × Int × Bool × Int × Int × Bool) → Option ρ) → Option ρ) (x0 : Int) (x1 : Int) (x2 : Bool) (k : (Int ×
 Int) → Option ρ) : Option ρ := l_0 (0, 63, x0, x1, x2) fun (d : Int × Int × Bool × Int × Int × Bool) => Option.bind (g_Aj d.1 d.1) fun (d_1 : Int × Int) => Option.bind (g_AM d.2.2.2.1 d.c4.1 d.c4.2 d_1.1 d_1.2 true) fun (d_2 : Int × Int × Bool) => bif decide (d_2.1 > 0) then bif IntKind.wrap IntKind.u64 (d.1 + 1) == 0 then
 k (1, 0) else k (0, IntKind.wrap IntKind.u64 (d.1 + 1)) else bif decide (d_2.2.1 > d.1) then bif IntKind.wrap IntKind.u64 (d.1 + 1) == 0 then k (1, 0) else k (0, IntKind.wrap IntKind.u64 (d.1 + 1)) else k (0, d.1)
def f_Ad (x0 : Int) (x1 : Int) (x2 : Bool) : Option (Int × Int) := K_Ad f_Aj f_Am f_AM (@L_Ad_0) x0 x1 x2 some
section
open Go.Ab.Rdr
def QA_Ad := ((pair (cons (ar (ra (cons (gc (cf (fi .u64 hole))) (cons (gc (cf (fi .u64 hole))) (cons (gc (cf (fb hole))) nil))))) nil) nil) : Rdr (List AV × List Blk) _)
end
def F_Ad (f : (Int) → (Int) → (Bool) → Option (Int × Int)) : Sem1 := fun args h => match (QA_Ad).rd (args, h) with
  | some b => .opt (f b.1.1.1 b.1.1.2.1 b.1.1.2.2.1) fun (d : Int × Int) => .leaf (Res.mk (AV.r (RV.agg [sU d.1, sU d.2, sB false])) [] [])
  | none => .fail
theorem d_Ad (g_Aj : t10ES1) (g_Am : t11ES1) (g_AM : t12ES1) (l_0 : ∀ {ρ : Type}, (Int × Int × Int × Int × Bool) → ((Int × Int × Bool × Int × Int × Bool) → Option ρ) → Option ρ) (x0 : Int) (x1 : Int) (x2 : Bool) : den Try.prog (envOf [(115,
 F_Aj g_Aj), (117, F_Am g_Am), (116, F_AM g_AM)]) ⟨[⟨3, u5ES1, []⟩], [⟨3, 0, @R_Ad_0 (@l_0)⟩],
 [], [], (some ⟨0, u6ES1, []⟩)⟩ 200 107 [.r (.agg [.c (.f (.i .u64 x0)),
 .c (.f (.i .u64 x1)), .c (.f (.b x2))])] [] = K_Ad g_Aj g_Am g_AM (@l_0) x0 x1 x2 (fun (d : Int × Int) => some (Res.mk (AV.r (RV.agg [sU d.1, sU d.2, sB false])) [] [])) := by kernel_rfl
theorem m_Ad {ρ σ : Type} (q : ρ → Option σ) (g_Aj : t10ES1) (g_Am : t11ES1) (g_AM : t12ES1) (l_0 : ∀ {ρ : Type}, (Int × Int × Int × Int × Bool) → ((Int × Int × Bool × Int × Int × Bool) → Option ρ) → Option ρ) (hl_0 : ∀ {ρ σ : Type} (q : ρ → Option σ) (d : Int × Int × Int × Int × Bool) (k : (Int × Int × Bool × Int × Int × Bool) → Option ρ), (l_0 d k).bind q = l_0 d fun x => (k x).bind q) (x0 : Int) (x1 : Int) (x2 : Bool) (k : (Int × Int) → Option ρ) : (K_Ad g_Aj g_Am g_AM (@l_0) x0 x1 x2 k).bind q = K_Ad g_Aj g_Am g_AM (@l_0) x0 x1 x2 (fun d => (k d).bind q) := by
  simp only [K_Ad, bnd_cond, bnd_bind, bnd_none, bnd_sum, hl_0]
theorem qa_Ad : ∀ b, (QA_Ad).em b = ([.r (.agg [.c (.f (.i .u64 b.1.1.1)), .c (.f (.i .u64 b.1.1.2.1)), .c (.f (.b b.1.1.2.2.1))])], []) := fun b => by kernel_rfl
theorem e_Ad {f : (Int) → (Int) → (Bool) → Option (Int × Int)} {args : List AV} {h : List Blk} {r : Res} (hr : (F_Ad f args h).eval = some r) : ∃ x0 x1 x2, args = [.r (.agg [.c (.f (.i .u64 x0)), .c (.f (.i .u64 x1)), .c (.f (.b x2))])] ∧ h = [] ∧ (f x0 x1 x2).bind (fun (d : Int × Int) => some (Res.mk (AV.r (RV.agg [sU d.1, sU d.2, sB false])) [] [])) = some r := by
  unfold F_Ad at hr
  split at hr
  · rename_i b hb
    have e := ((QA_Ad).ok _ _ hb).trans (qa_Ad b)
    rw [opt_eval2] at hr
    exact ⟨b.1.1.1, b.1.1.2.1, b.1.1.2.2.1, (Prod.mk.inj e).1, (Prod.mk.inj e).2, hr⟩
  · cases hr
theorem n_Ad {σ : Type} (q : (Int × Int) → Option σ) (x0 : Int) (x1 : Int) (x2 : Bool) : (f_Ad x0 x1 x2).bind q = K_Ad f_Aj f_Am f_AM (@L_Ad_0) x0 x1 x2 q := by
  unfold f_Ad
  exact m_Ad q f_Aj f_Am f_AM (@L_Ad_0) (fun q d k => mL_Ad_0 q d k) x0 x1 x2 some
theorem s_Ad [Amb] : Sound Try.prog 107 (F_Ad f_Ad) := (inl_sums (l := [(115, F_Aj f_Aj), (117, F_Am f_Am), (116, F_AM f_AM)]) (.cons s_Aj (.cons s_Am (.cons s_AM (.nil _)))) mixed (hs := ⟨[⟨3, u5ES1, []⟩], [⟨3, 0, @R_Ad_0 (@L_Ad_0)⟩], [], [], (some ⟨0, u6ES1, []⟩)⟩) (lf := 200) (Sums.by (l := [loopIn Try.prog 107 3]) (lj := []) (by kernel_rfl) ⟨so_Ad_0, trivial⟩ (by kernel_rfl) trivial) (by kernel_rfl)).by (F := F_Ad f_Ad) fun args b r hr => by
  obtain ⟨x0, x1, x2, rfl, rfl, hr1⟩ := e_Ad hr
  exact inl_eval ((d_Ad f_Aj f_Am f_AM (@L_Ad_0) x0 x1 x2).trans ((n_Ad (fun (d : Int × Int) => some (Res.mk (AV.r (RV.agg [sU d.1, sU d.2, sB false])) [] [])) x0 x1 x2).symm.trans hr1))

def K_BY {ρ : Type} (g_AA : t8ES1) (g_AT : t9ES1) (g_Ad : t19ES1) (g_Ac : t15ES1) (x0 : Int) (x1 : Bool) (k : (Int × Bool) → Option ρ) : Option ρ := Option.bind (g_AA x0 x1) fun (d : Int × Bool) => bif decide (d.1 < 0) then
 k (0, true) else Option.bind (g_AT d.1) fun (d_1 : Int) => Option.bind (g_Ad (Int.fdiv d_1 17179869184) (IntKind.wrap IntKind.u64 (d_1 * 1073741824)) false) fun (d_2 : Int × Int) => Option.bind (g_Ac d_2.1 d_2.2 false d.2) fun (d : Int × Bool) => k (d.1, d.2)
def f_BY (x0 : Int) (x1 : Bool) : Option (Int × Bool) := K_BY f_AA f_AT f_Ad f_Ac  x0 x1 some
section
open Go.Ab.Rdr
def QA_BY := ((pair (cons (ar (rc (cptr (nat 0) (ok' (nat 0)) (nat 1)))) (cons (ar (rc (cf (fi .i64 hole)))) nil)) (cons (cons (gc (cf (fb hole))) nil) nil)) : Rdr (List AV × List Blk) _)
end
def F_BY (f : (Int) → (Bool) → Option (Int × Bool)) : Sem1 := fun args h => match (QA_BY).rd (args, h) with
  | some b => .opt (f b.1.2.1 b.2.1.1) fun (d : Int × Bool) => .leaf (Res.mk (rI d.1) [Ch.set [sB d.2]] [])
  | none => .fail
theorem d_BY (g_AA : t8ES1) (g_AT : t9ES1) (g_Ad : t19ES1) (g_Ac : t15ES1) (x0 : Int) (x1 : Bool) : den Try.prog (envOf [(100, F_AA g_AA), (104, F_AT g_AT), (107, F_Ad g_Ad), (102, F_Ac g_Ac)]) ⟨[],
 [], [], [], none⟩ 200 84 [.r (.c (.ptr 0 (.k 0) 1)), rI x0] [[.c (.f (.b x1))]] = K_BY g_AA g_AT g_Ad g_Ac x0 x1 (fun (d : Int × Bool) => some (Res.mk (rI d.1) [Ch.set [sB d.2]] [])) := by kernel_rfl
theorem m_BY {ρ σ : Type} (q : ρ → Option σ) (g_AA : t8ES1) (g_AT : t9ES1) (g_Ad : t19ES1) (g_Ac : t15ES1)   (x0 : Int) (x1 : Bool) (k : (Int × Bool) → Option ρ) : (K_BY g_AA g_AT g_Ad g_Ac  x0 x1 k).bind q = K_BY g_AA g_AT g_Ad g_Ac  x0 x1 (fun d => (k d).bind q) := by
  simp only [K_BY, bnd_cond, bnd_bind, bnd_none, bnd_sum]
theorem qa_BY : ∀ b, (QA_BY).em b = ([.r (.c (.ptr 0 (.k 0) 1)), rI b.1.2.1], [[.c (.f (.b b.2.1.1))]]) := fun b => by kernel_rfl
theorem e_BY {f : (Int) → (Bool) → Option (Int × Bool)} {args : List AV} {h : List Blk} {r : Res} (hr : (F_BY f args h).eval = some r) : ∃ x0 x1, args = [.r (.c (.ptr 0 (.k 0) 1)), rI x0] ∧ h = [[.c (.f (.b x1))]] ∧ (f x0 x1).bind (fun (d : Int × Bool) => some (Res.mk (rI d.1) [Ch.set [sB d.2]] [])) = some r := by
  unfold F_BY at hr
  split at hr
  · rename_i b hb
    have e := ((QA_BY).ok _ _ hb).trans (qa_BY b)
    rw [opt_eval2] at hr
    exact ⟨b.1.2.1, b.2.1.1, (Prod.mk.inj e).1, (Prod.mk.inj e).2, hr⟩
  · cases hr
theorem n_BY {σ : Type} (q : (Int × Bool) → Option σ) (x0 : Int) (x1 : Bool) : (f_BY x0 x1).bind q = K_BY f_AA f_AT f_Ad f_Ac  x0 x1 q := by
  unfold f_BY
  exact m_BY q f_AA f_AT f_Ad f_Ac   x0 x1 some
theorem s_BY [Amb] : Sound Try.prog 84 (F_BY f_BY) := (inl_sound (l := [(100, F_AA f_AA), (104, F_AT f_AT), (107, F_Ad f_Ad), (102, F_Ac f_Ac)]) (.cons s_AA (.cons s_AT (.cons s_Ad (.cons s_Ac (.nil _))))) mixed [] [] 200 (by kernel_rfl)).by (F := F_BY f_BY) fun args b r hr => by
  obtain ⟨x0, x1, rfl, rfl, hr1⟩ := e_BY hr
  exact inl_eval ((d_BY f_AA f_AT f_Ad f_Ac  x0 x1).trans ((n_BY (fun (d : Int × Bool) => some (Res.mk (rI d.1) [Ch.set [sB d.2]] [])) x0 x1).symm.trans hr1))

def K_Ba {ρ : Type} (g_AA : t8ES1) (g_AT : t9ES1) (g_AN : t14ES1) (g_Ac : t15ES1) (x0 : Int) (x1 : Int) (x2 : Int) (x3 : Bool) (k : (Int × Bool) → Option ρ) : Option ρ := Option.bind (g_AA x0 x3) fun (d : Int ×
 Bool) => Option.bind (g_AA x1 d.2) fun (d_1 : Int × Bool) => bif d_1.1 == 0 then bif decide (d.1 > 0) then k (1152921504606846976, true) else bif decide (d.1 < 0) then k (-1152921504606846976, true) else k (0, true) else Option.bind (g_AT d.1) fun (d_2 : Int) => bif decide (x2 ≥ 64) then bif !decide (IntKind.wrap IntKind.u64 (IntKind.wrap IntKind.i64 (x2 - 64)) < 0) then
 Option.bind (g_AT d_1.1) fun (d_3 : Int) => Option.bind (g_AN (IntKind.wrap IntKind.u64 (d_2 * 2 ^ min (Int.toNat (IntKind.wrap IntKind.u64 (IntKind.wrap IntKind.i64 (x2 - 64)))) 64)) 0 (!decide (d.1 < 0) == decide (d_1.1 < 0)) d_3) fun (d : Int × Int × Bool) => Option.bind (g_Ac d.1 d.2.1 d.2.2 d_1.2) fun (d : Int ×
 Bool) => k (d.1, d.2) else none else bif decide (x2 > 0) then bif !decide (IntKind.wrap IntKind.u64 (IntKind.wrap IntKind.i64 (64 - x2)) < 0) then bif !decide (IntKind.wrap IntKind.u64 x2 < 0) then Option.bind (g_AT d_1.1) fun (d_3 : Int) => Option.bind (g_AN (Int.fdiv d_2 (2 ^ min (Int.toNat (IntKind.wrap IntKind.u64 (IntKind.wrap IntKind.i64 (64 - x2)))) 64)) (IntKind.wrap IntKind.u64 (d_2 * 2 ^ min (Int.toNat (IntKind.wrap IntKind.u64 x2)) 64)) (!decide (d.1 < 0) == decide (d_1.1 < 0)) d_3) fun (d : Int ×
 Int × Bool) => Option.bind (g_Ac d.1 d.2.1 d.2.2 d_1.2) fun (d : Int × Bool) => k (d.1, d.2) else none else none else Option.bind (g_AT d_1.1) fun (d_3 : Int) => Option.bind (g_AN 0 d_2 (!decide (d.1 < 0) == decide (d_1.1 < 0)) d_3) fun (d : Int × Int × Bool) => Option.bind (g_Ac d.1 d.2.1 d.2.2 d_1.2) fun (d : Int ×
 Bool) => k (d.1, d.2)
def f_Ba (x0 : Int) (x1 : Int) (x2 : Int) (x3 : Bool) : Option (Int × Bool) := K_Ba f_AA f_AT f_AN f_Ac  x0 x1 x2 x3 some
section
open Go.Ab.Rdr
def QA_Ba := ((pair (cons (ar (rc (cptr (nat 0) (ok' (nat 0)) (nat 1)))) (cons (ar (rc (cf (fi .i64 hole)))) (cons (ar (rc (cf (fi .i64 hole)))) (cons (ar (rc (cf (fi .i64 hole)))) nil)))) (cons (cons (gc (cf (fb hole))) nil) nil)) : Rdr (List AV × List Blk) _)
end
def F_Ba (f : (Int) → (Int) → (Int) → (Bool) → Option (Int × Bool)) : Sem1 := fun args h => match (QA_Ba).rd (args, h) with
  | some b => .opt (f b.1.2.1 b.1.2.2.1 b.1.2.2.2.1 b.2.1.1) fun (d : Int × Bool) => .leaf (Res.mk (rI d.1) [Ch.set [sB d.2]] [])
  | none => .fail
theorem d_Ba (g_AA : t8ES1) (g_AT : t9ES1) (g_AN : t14ES1) (g_Ac : t15ES1) (x0 : Int) (x1 : Int) (x2 : Int) (x3 : Bool) : den Try.prog (envOf [(100, F_AA g_AA), (104, F_AT g_AT), (103,
 F_AN g_AN), (102, F_Ac g_Ac)]) ⟨[], [], [], [], none⟩ 200 108 [.r (.c (.ptr 0 (.k 0) 1)), rI x0, rI x1, rI x2] [[.c (.f (.b x3))]] = K_Ba g_AA g_AT g_AN g_Ac x0 x1 x2 x3 (fun (d : Int × Bool) => some (Res.mk (rI d.1) [Ch.set [sB d.2]] [])) := by kernel_rfl
theorem m_Ba {ρ σ : Type} (q : ρ → Option σ) (g_AA : t8ES1) (g_AT : t9ES1) (g_AN : t14ES1) (g_Ac : t15ES1)   (x0 : Int) (x1 : Int) (x2 : Int) (x3 : Bool) (k : (Int × Bool) → Option ρ) : (K_Ba g_AA g_AT g_AN g_Ac  x0 x1 x2 x3 k).bind q = K_Ba g_AA g_AT g_AN g_Ac  x0 x1 x2 x3 (fun d => (k d).bind q) := by
  simp only [K_Ba, bnd_cond, bnd_bind, bnd_none, bnd_sum]
theorem qa_Ba : ∀ b, (QA_Ba).em b = ([.r (.c (.ptr 0 (.k 0) 1)), rI b.1.2.1, rI b.1.2.2.1, rI b.1.2.2.2.1], [[.c (.f (.b b.2.1.1))]]) := fun b => by kernel_rfl
theorem e_Ba {f : (Int) → (Int) → (Int) → (Bool) → Option (Int × Bool)} {args : List AV} {h : List Blk} {r : Res} (hr : (F_Ba f args h).eval = some r) : ∃ x0 x1 x2 x3, args = [.r (.c (.ptr 0 (.k 0) 1)), rI x0, rI x1, rI x2] ∧ h = [[.c (.f (.b x3))]] ∧ (f x0 x1 x2 x3).bind (fun (d : Int × Bool) => some (Res.mk (rI d.1) [Ch.set [sB d.2]] [])) = some r := by
  unfold F_Ba at hr
  split at hr
  · rename_i b hb
    have e := ((QA_Ba).ok _ _ hb).trans (qa_Ba b)
    rw [opt_eval2] at hr
    exact ⟨b.1.2.1, b.1.2.2.1, b.1.2.2.2.1, b.2.1.1, (Prod.mk.inj e).1, (Prod.mk.inj e).2, hr⟩
  · cases hr
theorem n_Ba {σ : Type} (q : (Int × Bool) → Option σ) (x0 : Int) (x1 : Int) (x2 : Int) (x3 : Bool) : (f_Ba x0 x1 x2 x3).bind q = K_Ba f_AA f_AT f_AN f_Ac  x0 x1 x2 x3 q := by
  unfold f_Ba
  exact m_Ba q f_AA f_AT f_AN f_Ac   x0 x1 x2 x3 some
theorem s_Ba [Amb] : Sound Try.prog 108 (F_Ba f_Ba) := (inl_sound (l := [(100, F_AA f_AA), (104, F_AT f_AT), (103, F_AN f_AN), (102, F_Ac f_Ac)]) (.cons s_AA (.cons s_AT (.cons s_AN (.cons s_Ac (.nil _))))) mixed [] [] 200 (by kernel_rfl)).by (F := F_Ba f_Ba) fun args b r hr => by
  obtain ⟨x0, x1, x2, x3, rfl, rfl, hr1⟩ := e_Ba hr
  exact inl_eval ((d_Ba f_AA f_AT f_AN f_Ac  x0 x1 x2 x3).trans ((n_Ba (fun (d : Int × Bool) => some (Res.mk (rI d.1) [Ch.set [sB d.2]] [])) x0 x1 x2 x3).symm.trans hr1))

def K_BO {ρ : Type} (g_Ba : t7ES1) (x0 : Int) (x1 : Int) (x2 : Bool) (k : (Int × Bool) → Option ρ) : Option ρ := Option.bind (g_Ba x0 x1 30 x2) fun (d : Int × Bool) => k (d.1, d.2)
def f_BO (x0 : Int) (x1 : Int) (x2 : Bool) : Option (Int × Bool) := K_BO f_Ba  x0 x1 x2 some
section
open Go.Ab.Rdr
def QA_BO := ((pair (cons (ar (rc (cptr (nat 0) (ok' (nat 0)) (nat 1)))) (cons (ar (rc (cf (fi .i64 hole)))) (cons (ar (rc (cf (fi .i64 hole)))) nil))) (cons (cons (gc (cf (fb hole))) nil) nil)) : Rdr (List AV × List Blk) _)
end
def F_BO (f : (Int) → (Int) → (Bool) → Option (Int × Bool)) : Sem1 := fun args h => match (QA_BO).rd (args, h) with
  | some b => .opt (f b.1.2.1 b.1.2.2.1 b.2.1.1) fun (d : Int × Bool) => .leaf (Res.mk (rI d.1) [Ch.set [sB d.2]] [])
  | none => .fail
theorem d_BO (g_Ba : t7ES1) (x0 : Int) (x1 : Int) (x2 : Bool) : den Try.prog (envOf [(108, F_Ba g_Ba)]) ⟨[], [], [], [], none⟩ 200 85 [.r (.c (.ptr 0 (.k 0) 1)), rI x0, rI x1] [[.c (.f (.b x2))]] = K_BO g_Ba x0 x1 x2 (fun (d : Int ×
 Bool) => some (Res.mk (rI d.1) [Ch.set [sB d.2]] [])) := by kernel_rfl
theorem m_BO {ρ σ : Type} (q : ρ → Option σ) (g_Ba : t7ES1)   (x0 : Int) (x1 : Int) (x2 : Bool) (k : (Int × Bool) → Option ρ) : (K_BO g_Ba  x0 x1 x2 k).bind q = K_BO g_Ba  x0 x1 x2 (fun d => (k d).bind q) := by
  simp only [K_BO, bnd_cond, bnd_bind, bnd_none, bnd_sum]
theorem qa_BO : ∀ b, (QA_BO).em b = ([.r (.c (.ptr 0 (.k 0) 1)), rI b.1.2.1, rI b.1.2.2.1], [[.c (.f (.b b.2.1.1))]]) := fun b => by kernel_rfl
theorem e_BO {f : (Int) → (Int) → (Bool) → Option (Int × Bool)} {args : List AV} {h : List Blk} {r : Res} (hr : (F_BO f args h).eval = some r) : ∃ x0 x1 x2, args = [.r (.c (.ptr 0 (.k 0) 1)), rI x0, rI x1] ∧ h = [[.c (.f (.b x2))]] ∧ (f x0 x1 x2).bind (fun (d : Int × Bool) => some (Res.mk (rI d.1) [Ch.set [sB d.2]] [])) = some r := by
  unfold F_BO at hr
  split at hr
  · rename_i b hb
    have e := ((QA_BO).ok _ _ hb).trans (qa_BO b)
    rw [opt_eval2] at hr
    exact ⟨b.1.2.1, b.1.2.2.1, b.2.1.1, (Prod.mk.inj e).1, (Prod.mk.inj e).2, hr⟩
  · cases hr
theorem n_BO {σ : Type} (q : (Int × Bool) → Option σ) (x0 : Int) (x1 : Int) (x2 : Bool) : (f_BO x0 x1 x2).bind q = K_BO f_Ba  x0 x1 x2 q := by
  unfold f_BO
  exact m_BO q f_Ba   x0 x1 x2 some
theorem s_BO [Amb] : Sound Try.prog 85 (F_BO f_BO) := (inl_sound (l := [(108, F_Ba f_Ba)]) (.cons s_Ba (.nil _)) mixed [] [] 200 (by kernel_rfl)).by (F := F_BO f_BO) fun args b r hr => by
  obtain ⟨x0, x1, x2, rfl, rfl, hr1⟩ := e_BO hr
  exact inl_eval ((d_BO f_Ba  x0 x1 x2).trans ((n_BO (fun (d : Int × Bool) => some (Res.mk (rI d.1) [Ch.set [sB d.2]] [])) x0 x1 x2).symm.trans hr1))

def K_AZ {ρ : Type} (g_AG : t7ES1) (g_Z : t8ES1) (g_BX : t8ES1) (g_AE : t17ES1) (g_BY : t8ES1) (g_BO : t17ES1) (x0 : Int) (k : (Int ×
 Int) → Option ρ) : Option ρ := Option.bind (g_AG x0 3373259426 1800000000 false) fun (d : Int × Bool) => Option.bind (g_Z d.1 d.2) fun (d_1 : Int × Bool) => Option.bind (g_BX d.1 d_1.2) fun (d : Int × Bool) => Option.bind (g_AE d_1.1 d_1.1 d.2) fun (d_2 : Int × Bool) => Option.bind (g_AE 7188036 d_2.1 d_2.2) fun (d_3 : Int ×
 Bool) => Option.bind (g_BY (IntKind.wrap IntKind.i64 (1073741824 - d_3.1)) d_3.2) fun (d_4 : Int × Bool) => Option.bind (g_BO 6531212288 d_4.1 d_4.2) fun (d_5 : Int × Bool) => Option.bind (g_AE 6531212288 1066553788 d_5.2) fun (d_6 : Int × Bool) => Option.bind (g_AE (IntKind.wrap IntKind.i64 (1073741824 - d_3.1)) d_4.1 d_6.2) fun (d_7 : Int ×
 Bool) => Option.bind (g_BO d_6.1 d_7.1 d_7.2) fun (d_8 : Int × Bool) => Option.bind (g_AG d_8.1 3373259426 1800000000 d_8.2) fun (d_9 : Int × Bool) => Option.bind (g_AE d_5.1 d.1 d_9.2) fun (d : Int × Bool) => Option.bind (g_AG d.1 3373259426 1800000000 d.2) fun (d : Int × Bool) => k (d_9.1, d.1)
def f_AZ (x0 : Int) : Option (Int × Int) := K_AZ f_AG f_Z f_BX f_AE f_BY f_BO  x0 some
section
open Go.Ab.Rdr
def QA_AZ := ((pair (cons (ar (rc (cf (fi .i64 hole)))) nil) nil) : Rdr (List AV × List Blk) _)
end
def F_AZ (f : (Int) → Option (Int × Int)) : Sem1 := fun args h => match (QA_AZ).rd (args, h) with
  | some b => .opt (f b.1.1) fun (d : Int × Int) => .leaf (Res.mk (AV.tup [RV.c (fI d.1), RV.c (fI d.2)]) [] [])
  | none => .fail
theorem d_AZ (g_AG : t7ES1) (g_Z : t8ES1) (g_BX : t8ES1) (g_AE : t17ES1) (g_BY : t8ES1) (g_BO : t17ES1) (x0 : Int) : den Try.prog (envOf [(79,
 F_AG g_AG), (81, F_Z g_Z), (82, F_BX g_BX), (83, F_AE g_AE), (84, F_BY g_BY), (85, F_BO g_BO)]) ⟨[], [], [], [], none⟩ 200 44 [rI x0] [] = K_AZ g_AG g_Z g_BX g_AE g_BY g_BO x0 (fun (d : Int × Int) => some (Res.mk (AV.tup [RV.c (fI d.1), RV.c (fI d.2)]) [] [])) := by kernel_rfl
theorem m_AZ {ρ σ : Type} (q : ρ → Option σ) (g_AG : t7ES1) (g_Z : t8ES1) (g_BX : t8ES1) (g_AE : t17ES1) (g_BY : t8ES1) (g_BO : t17ES1)   (x0 : Int) (k : (Int × Int) → Option ρ) : (K_AZ g_AG g_Z g_BX g_AE g_BY g_BO  x0 k).bind q = K_AZ g_AG g_Z g_BX g_AE g_BY g_BO  x0 (fun d => (k d).bind q) := by
  simp only [K_AZ, bnd_cond, bnd_bind, bnd_none, bnd_sum]
theorem qa_AZ : ∀ b, (QA_AZ).em b = ([rI b.1.1], []) := fun b => by kernel_rfl
theorem e_AZ {f : (Int) → Option (Int × Int)} {args : List AV} {h : List Blk} {r : Res} (hr : (F_AZ f args h).eval = some r) : ∃ x0, args = [rI x0] ∧ h = [] ∧ (f x0).bind (fun (d : Int × Int) => some (Res.mk (AV.tup [RV.c (fI d.1), RV.c (fI d.2)]) [] [])) = some r := by
  unfold F_AZ at hr
  split at hr
  · rename_i b hb
    have e := ((QA_AZ).ok _ _ hb).trans (qa_AZ b)
    rw [opt_eval2] at hr
    exact ⟨b.1.1, (Prod.mk.inj e).1, (Prod.mk.inj e).2, hr⟩
  · cases hr
theorem n_AZ {σ : Type} (q : (Int × Int) → Option σ) (x0 : Int) : (f_AZ x0).bind q = K_AZ f_AG f_Z f_BX f_AE f_BY f_BO  x0 q := by
  unfold f_AZ
  exact m_AZ q f_AG f_Z f_BX f_AE f_BY f_BO   x0 some
theorem s_AZ [Amb] : Sound Try.prog 44 (F_AZ f_AZ) := (inl_sound (l := [(79, F_AG f_AG), (81, F_Z f_Z), (82, F_BX f_BX), (83, F_AE f_AE), (84, F_BY f_BY), (85, F_BO f_BO)]) (.cons s_AG (.cons s_Z (.cons s_BX (.cons s_AE (.cons s_BY (.cons s_BO (.nil _))))))) mixed [] [] 200 (by kernel_rfl)).by (F := F_AZ f_AZ) fun args b r hr => by
  obtain ⟨x0, rfl, rfl, hr1⟩ := e_AZ hr
  exact inl_eval ((d_AZ f_AG f_Z f_BX f_AE f_BY f_BO  x0).trans ((n_AZ (fun (d : Int × Int) => some (Res.mk (AV.tup [RV.c (fI d.1), RV.c (fI d.2)]) [] [])) x0).symm.trans hr1))

end Go.Proofs.Ytcalippagaaikaa
