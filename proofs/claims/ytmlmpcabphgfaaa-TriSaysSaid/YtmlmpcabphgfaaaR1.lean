/-
  Contracts by plain functions: (*astrolaberef2.Acc).Clamp, (*astrolaberef2.Acc).Sat, astrolaberef2.size, astrolaberef2.product, astrolaberef2.mul, astrolaberef2.less, astrolaberef2.add, astrolaberef2.shifted, (*astrolaberef2.Acc).end, (*astrolaberef2.Acc).Mul, (*astrolaberef2.Acc).M, (*astrolaberef2.Acc).Dot
-/
import Derived.Test.YtmlmpcabphgfaaaWV
set_option maxRecDepth 100000
set_option maxHeartbeats 4000000
set_option linter.unusedVariables false
namespace Go.Proofs.Ytmlmpcabphgfaaa
open Go.Ab
def K___astrolaberef2_Acc__Clamp {ρ : Type}   (x0 : Int) (x1 : Int) (x2 : Int) (x3 : Bool) (k : (Int × Bool) → Option ρ) : Option ρ :=
  bif decide (x0 < x1) then bif x1 != x0 then k (x1, true) else bif decide (x1 > x2) then k (x1, true) else k (x1, x3)
  else
    bif decide (x1 > x2) then bif x1 != x0 then k (x1, true) else bif decide (x1 > x2) then k (x1, true) else k (x1, x3)
    else
      bif decide (x0 > x2) then bif x2 != x0 then k (x2, true) else bif decide (x1 > x2) then k (x2, true) else k (x2, x3)
      else bif x0 != x0 then k (x0, true) else bif decide (x1 > x2) then k (x0, true) else k (x0, x3)
def f___astrolaberef2_Acc__Clamp (x0 : Int) (x1 : Int) (x2 : Int) (x3 : Bool) : Option (Int × Bool) := K___astrolaberef2_Acc__Clamp   x0 x1 x2 x3 some
section
open Go.Ab.Rdr
def QA___astrolaberef2_Acc__Clamp := ((pair (cons (ar (rc (cptr (nat 0) (ok' (nat 0)) (nat 1)))) (cons (ar (rc (cf (fi .i64 hole)))) (cons (ar (rc (cf (fi .i64 hole)))) (cons (ar (rc (cf (fi .i64 hole)))) nil)))) (cons (cons (gc (cf (fb hole))) nil) nil)) : Rdr (List AV × List Blk) _)
end
def F___astrolaberef2_Acc__Clamp (f : (Int) → (Int) → (Int) → (Bool) → Option (Int × Bool)) : Sem1 := fun args h => match (QA___astrolaberef2_Acc__Clamp).rd (args, h) with
  | some b => .opt (f b.1.2.1 b.1.2.2.1 b.1.2.2.2.1 b.2.1.1) fun (d : Int × Bool) => .leaf (Res.mk (AV.r (RV.c (CV.f (FV.i IntKind.i64 d.1)))) [Ch.set [Sg.c (CV.f (FV.b d.2))]] [])
  | none => .fail
theorem d___astrolaberef2_Acc__Clamp   (x0 : Int) (x1 : Int) (x2 : Int) (x3 : Bool) : den Try.prog (envOf []) ⟨[], [], [0], [], none⟩ 200 65 [.r (.c (.ptr 0 (.k 0) 1)), .r (.c (.f (.i .i64 x0))), .r (.c (.f (.i .i64 x1))), .r (.c (.f (.i .i64 x2)))] [[.c (.f (.b x3))]] =
    K___astrolaberef2_Acc__Clamp   x0 x1 x2 x3 (fun (d : Int × Bool) => some (Res.mk (AV.r (RV.c (CV.f (FV.i IntKind.i64 d.1)))) [Ch.set [Sg.c (CV.f (FV.b d.2))]] [])) := by kernel_rfl
theorem m___astrolaberef2_Acc__Clamp {ρ σ : Type} (q : ρ → Option σ)    (x0 : Int) (x1 : Int) (x2 : Int) (x3 : Bool) (k : (Int × Bool) → Option ρ) : (K___astrolaberef2_Acc__Clamp   x0 x1 x2 x3 k).bind q = K___astrolaberef2_Acc__Clamp   x0 x1 x2 x3 (fun d => (k d).bind q) := by
  simp only [K___astrolaberef2_Acc__Clamp, bnd_cond, bnd_bind, bnd_none, bnd_sum]
theorem qa___astrolaberef2_Acc__Clamp : ∀ b, (QA___astrolaberef2_Acc__Clamp).em b = ([.r (.c (.ptr 0 (.k 0) 1)), .r (.c (.f (.i .i64 b.1.2.1))), .r (.c (.f (.i .i64 b.1.2.2.1))), .r (.c (.f (.i .i64 b.1.2.2.2.1)))], [[.c (.f (.b b.2.1.1))]]) := fun b => by kernel_rfl
theorem e___astrolaberef2_Acc__Clamp {f : (Int) → (Int) → (Int) → (Bool) → Option (Int × Bool)} {args : List AV} {h : List Blk} {r : Res} (hr : (F___astrolaberef2_Acc__Clamp f args h).eval = some r) : ∃ x0 x1 x2 x3, args = [.r (.c (.ptr 0 (.k 0) 1)), .r (.c (.f (.i .i64 x0))), .r (.c (.f (.i .i64 x1))), .r (.c (.f (.i .i64 x2)))] ∧ h = [[.c (.f (.b x3))]] ∧ (f x0 x1 x2 x3).bind (fun (d : Int × Bool) => some (Res.mk (AV.r (RV.c (CV.f (FV.i IntKind.i64 d.1)))) [Ch.set [Sg.c (CV.f (FV.b d.2))]] [])) = some r := by
  unfold F___astrolaberef2_Acc__Clamp at hr
  split at hr
  · rename_i b hb
    have e := ((QA___astrolaberef2_Acc__Clamp).ok _ _ hb).trans (qa___astrolaberef2_Acc__Clamp b)
    rw [opt_eval2] at hr
    exact ⟨b.1.2.1, b.1.2.2.1, b.1.2.2.2.1, b.2.1.1, (Prod.mk.inj e).1, (Prod.mk.inj e).2, hr⟩
  · cases hr
theorem n___astrolaberef2_Acc__Clamp {σ : Type} (q : (Int × Bool) → Option σ) (x0 : Int) (x1 : Int) (x2 : Int) (x3 : Bool) : (f___astrolaberef2_Acc__Clamp x0 x1 x2 x3).bind q = K___astrolaberef2_Acc__Clamp   x0 x1 x2 x3 q := by
  unfold f___astrolaberef2_Acc__Clamp
  exact m___astrolaberef2_Acc__Clamp q    x0 x1 x2 x3 some
theorem s___astrolaberef2_Acc__Clamp : Sound Try.prog 65 (F___astrolaberef2_Acc__Clamp f___astrolaberef2_Acc__Clamp) :=
  (inl_sound (l := []) (.nil _) mixed [] [0] 200 (by kernel_rfl)).by (F := F___astrolaberef2_Acc__Clamp f___astrolaberef2_Acc__Clamp) fun args b r hr => by
  obtain ⟨x0, x1, x2, x3, rfl, rfl, hr1⟩ := e___astrolaberef2_Acc__Clamp hr
  exact inl_eval ((d___astrolaberef2_Acc__Clamp   x0 x1 x2 x3).trans ((n___astrolaberef2_Acc__Clamp (fun (d : Int × Bool) => some (Res.mk (AV.r (RV.c (CV.f (FV.i IntKind.i64 d.1)))) [Ch.set [Sg.c (CV.f (FV.b d.2))]] [])) x0 x1 x2 x3).symm.trans hr1))

def K___astrolaberef2_Acc__Sat {ρ : Type} (g___astrolaberef2_Acc__Clamp : Int → Int → Int → Bool → Option (Int × Bool))  (x0 : Int) (x1 : Bool) (k : (Int × Bool) → Option ρ) : Option ρ :=
  Option.bind (g___astrolaberef2_Acc__Clamp x0 (-1152921504606846976) 1152921504606846976 x1) fun (d : Int × Bool) => k (d.1, d.2)
def f___astrolaberef2_Acc__Sat (x0 : Int) (x1 : Bool) : Option (Int × Bool) := K___astrolaberef2_Acc__Sat f___astrolaberef2_Acc__Clamp  x0 x1 some
section
open Go.Ab.Rdr
def QA___astrolaberef2_Acc__Sat := ((pair (cons (ar (rc (cptr (nat 0) (ok' (nat 0)) (nat 1)))) (cons (ar (rc (cf (fi .i64 hole)))) nil)) (cons (cons (gc (cf (fb hole))) nil) nil)) : Rdr (List AV × List Blk) _)
end
def F___astrolaberef2_Acc__Sat (f : (Int) → (Bool) → Option (Int × Bool)) : Sem1 := fun args h => match (QA___astrolaberef2_Acc__Sat).rd (args, h) with
  | some b => .opt (f b.1.2.1 b.2.1.1) fun (d : Int × Bool) => .leaf (Res.mk (AV.r (RV.c (CV.f (FV.i IntKind.i64 d.1)))) [Ch.set [Sg.c (CV.f (FV.b d.2))]] [])
  | none => .fail
theorem d___astrolaberef2_Acc__Sat (g___astrolaberef2_Acc__Clamp : Int → Int → Int → Bool → Option (Int × Bool))  (x0 : Int) (x1 : Bool) : den Try.prog (envOf [(65, F___astrolaberef2_Acc__Clamp g___astrolaberef2_Acc__Clamp)]) ⟨[], [], [], [], none⟩ 200 74 [.r (.c (.ptr 0 (.k 0) 1)), .r (.c (.f (.i .i64 x0)))] [[.c (.f (.b x1))]] =
    K___astrolaberef2_Acc__Sat g___astrolaberef2_Acc__Clamp  x0 x1 (fun (d : Int × Bool) => some (Res.mk (AV.r (RV.c (CV.f (FV.i IntKind.i64 d.1)))) [Ch.set [Sg.c (CV.f (FV.b d.2))]] [])) := by kernel_rfl
theorem m___astrolaberef2_Acc__Sat {ρ σ : Type} (q : ρ → Option σ) (g___astrolaberef2_Acc__Clamp : Int → Int → Int → Bool → Option (Int × Bool))   (x0 : Int) (x1 : Bool) (k : (Int × Bool) → Option ρ) : (K___astrolaberef2_Acc__Sat g___astrolaberef2_Acc__Clamp  x0 x1 k).bind q = K___astrolaberef2_Acc__Sat g___astrolaberef2_Acc__Clamp  x0 x1 (fun d => (k d).bind q) := by
  simp only [K___astrolaberef2_Acc__Sat, bnd_cond, bnd_bind, bnd_none, bnd_sum]
theorem qa___astrolaberef2_Acc__Sat : ∀ b, (QA___astrolaberef2_Acc__Sat).em b = ([.r (.c (.ptr 0 (.k 0) 1)), .r (.c (.f (.i .i64 b.1.2.1)))], [[.c (.f (.b b.2.1.1))]]) := fun b => by kernel_rfl
theorem e___astrolaberef2_Acc__Sat {f : (Int) → (Bool) → Option (Int × Bool)} {args : List AV} {h : List Blk} {r : Res} (hr : (F___astrolaberef2_Acc__Sat f args h).eval = some r) : ∃ x0 x1, args = [.r (.c (.ptr 0 (.k 0) 1)), .r (.c (.f (.i .i64 x0)))] ∧ h = [[.c (.f (.b x1))]] ∧ (f x0 x1).bind (fun (d : Int × Bool) => some (Res.mk (AV.r (RV.c (CV.f (FV.i IntKind.i64 d.1)))) [Ch.set [Sg.c (CV.f (FV.b d.2))]] [])) = some r := by
  unfold F___astrolaberef2_Acc__Sat at hr
  split at hr
  · rename_i b hb
    have e := ((QA___astrolaberef2_Acc__Sat).ok _ _ hb).trans (qa___astrolaberef2_Acc__Sat b)
    rw [opt_eval2] at hr
    exact ⟨b.1.2.1, b.2.1.1, (Prod.mk.inj e).1, (Prod.mk.inj e).2, hr⟩
  · cases hr
theorem n___astrolaberef2_Acc__Sat {σ : Type} (q : (Int × Bool) → Option σ) (x0 : Int) (x1 : Bool) : (f___astrolaberef2_Acc__Sat x0 x1).bind q = K___astrolaberef2_Acc__Sat f___astrolaberef2_Acc__Clamp  x0 x1 q := by
  unfold f___astrolaberef2_Acc__Sat
  exact m___astrolaberef2_Acc__Sat q f___astrolaberef2_Acc__Clamp   x0 x1 some
theorem s___astrolaberef2_Acc__Sat : Sound Try.prog 74 (F___astrolaberef2_Acc__Sat f___astrolaberef2_Acc__Sat) :=
  (inl_sound (l := [(65, F___astrolaberef2_Acc__Clamp f___astrolaberef2_Acc__Clamp)]) (.cons s___astrolaberef2_Acc__Clamp (.nil _)) mixed [] [] 200 (by kernel_rfl)).by (F := F___astrolaberef2_Acc__Sat f___astrolaberef2_Acc__Sat) fun args b r hr => by
  obtain ⟨x0, x1, rfl, rfl, hr1⟩ := e___astrolaberef2_Acc__Sat hr
  exact inl_eval ((d___astrolaberef2_Acc__Sat f___astrolaberef2_Acc__Clamp  x0 x1).trans ((n___astrolaberef2_Acc__Sat (fun (d : Int × Bool) => some (Res.mk (AV.r (RV.c (CV.f (FV.i IntKind.i64 d.1)))) [Ch.set [Sg.c (CV.f (FV.b d.2))]] [])) x0 x1).symm.trans hr1))

def K_astrolaberef2_size {ρ : Type}   (x0 : Int) (k : (Int) → Option ρ) : Option ρ :=
  bif decide (x0 < 0) then k (IntKind.wrap IntKind.u64 (IntKind.wrap IntKind.i64 (0 - x0))) else k (IntKind.wrap IntKind.u64 x0)
def f_astrolaberef2_size (x0 : Int) : Option (Int) := K_astrolaberef2_size   x0 some
section
open Go.Ab.Rdr
def QA_astrolaberef2_size := ((pair (cons (ar (rc (cf (fi .i64 hole)))) nil) nil) : Rdr (List AV × List Blk) _)
end
def F_astrolaberef2_size (f : (Int) → Option (Int)) : Sem1 := fun args h => match (QA_astrolaberef2_size).rd (args, h) with
  | some b => .opt (f b.1.1) fun (d : Int) => .leaf (Res.mk (AV.r (RV.c (CV.f (FV.i IntKind.u64 d)))) [] [])
  | none => .fail
theorem d_astrolaberef2_size   (x0 : Int) : den Try.prog (envOf []) ⟨[], [], [], [], none⟩ 200 86 [.r (.c (.f (.i .i64 x0)))] [] =
    K_astrolaberef2_size   x0 (fun (d : Int) => some (Res.mk (AV.r (RV.c (CV.f (FV.i IntKind.u64 d)))) [] [])) := by kernel_rfl
theorem m_astrolaberef2_size {ρ σ : Type} (q : ρ → Option σ)    (x0 : Int) (k : (Int) → Option ρ) : (K_astrolaberef2_size   x0 k).bind q = K_astrolaberef2_size   x0 (fun d => (k d).bind q) := by
  simp only [K_astrolaberef2_size, bnd_cond, bnd_bind, bnd_none, bnd_sum]
theorem qa_astrolaberef2_size : ∀ b, (QA_astrolaberef2_size).em b = ([.r (.c (.f (.i .i64 b.1.1)))], []) := fun b => by kernel_rfl
theorem e_astrolaberef2_size {f : (Int) → Option (Int)} {args : List AV} {h : List Blk} {r : Res} (hr : (F_astrolaberef2_size f args h).eval = some r) : ∃ x0, args = [.r (.c (.f (.i .i64 x0)))] ∧ h = [] ∧ (f x0).bind (fun (d : Int) => some (Res.mk (AV.r (RV.c (CV.f (FV.i IntKind.u64 d)))) [] [])) = some r := by
  unfold F_astrolaberef2_size at hr
  split at hr
  · rename_i b hb
    have e := ((QA_astrolaberef2_size).ok _ _ hb).trans (qa_astrolaberef2_size b)
    rw [opt_eval2] at hr
    exact ⟨b.1.1, (Prod.mk.inj e).1, (Prod.mk.inj e).2, hr⟩
  · cases hr
theorem n_astrolaberef2_size {σ : Type} (q : (Int) → Option σ) (x0 : Int) : (f_astrolaberef2_size x0).bind q = K_astrolaberef2_size   x0 q := by
  unfold f_astrolaberef2_size
  exact m_astrolaberef2_size q    x0 some
theorem s_astrolaberef2_size : Sound Try.prog 86 (F_astrolaberef2_size f_astrolaberef2_size) :=
  (inl_sound (l := []) (.nil _) mixed [] [] 200 (by kernel_rfl)).by (F := F_astrolaberef2_size f_astrolaberef2_size) fun args b r hr => by
  obtain ⟨x0, rfl, rfl, hr1⟩ := e_astrolaberef2_size hr
  exact inl_eval ((d_astrolaberef2_size   x0).trans ((n_astrolaberef2_size (fun (d : Int) => some (Res.mk (AV.r (RV.c (CV.f (FV.i IntKind.u64 d)))) [] [])) x0).symm.trans hr1))

def K_astrolaberef2_product {ρ : Type}   (x0 : Int) (x1 : Int) (k : (Int × Int) → Option ρ) : Option ρ :=
  k
    (IntKind.wrap IntKind.u64
        (IntKind.wrap IntKind.u64
            (IntKind.wrap IntKind.u64 (Int.fdiv x0 4294967296 * Int.fdiv x1 4294967296) +
              Int.fdiv
                (IntKind.wrap IntKind.u64
                  (IntKind.wrap IntKind.u64 (Int.fdiv x0 4294967296 * IntKind.wrap IntKind.u64 (Int.ofNat (BitVec.toNat (BitVec.ofInt 64 x1 &&& BitVec.ofInt 64 4294967295)))) +
                    Int.fdiv
                      (IntKind.wrap IntKind.u64
                        (IntKind.wrap IntKind.u64 (Int.ofNat (BitVec.toNat (BitVec.ofInt 64 x0 &&& BitVec.ofInt 64 4294967295))) *
                          IntKind.wrap IntKind.u64 (Int.ofNat (BitVec.toNat (BitVec.ofInt 64 x1 &&& BitVec.ofInt 64 4294967295)))))
                      4294967296))
                4294967296) +
          Int.fdiv
            (IntKind.wrap IntKind.u64
              (IntKind.wrap IntKind.u64 (IntKind.wrap IntKind.u64 (Int.ofNat (BitVec.toNat (BitVec.ofInt 64 x0 &&& BitVec.ofInt 64 4294967295))) * Int.fdiv x1 4294967296) +
                IntKind.wrap IntKind.u64
                  (Int.ofNat
                    (BitVec.toNat
                      (BitVec.ofInt 64
                          (IntKind.wrap IntKind.u64
                            (IntKind.wrap IntKind.u64 (Int.fdiv x0 4294967296 * IntKind.wrap IntKind.u64 (Int.ofNat (BitVec.toNat (BitVec.ofInt 64 x1 &&& BitVec.ofInt 64 4294967295)))) +
                              Int.fdiv
                                (IntKind.wrap IntKind.u64
                                  (IntKind.wrap IntKind.u64 (Int.ofNat (BitVec.toNat (BitVec.ofInt 64 x0 &&& BitVec.ofInt 64 4294967295))) *
                                    IntKind.wrap IntKind.u64 (Int.ofNat (BitVec.toNat (BitVec.ofInt 64 x1 &&& BitVec.ofInt 64 4294967295)))))
                                4294967296)) &&&
                        BitVec.ofInt 64 4294967295)))))
            4294967296),
      IntKind.wrap IntKind.u64
        (Int.ofNat
          (BitVec.toNat
            (BitVec.ofInt 64
                (IntKind.wrap IntKind.u64
                  (IntKind.wrap IntKind.u64
                      (IntKind.wrap IntKind.u64 (IntKind.wrap IntKind.u64 (Int.ofNat (BitVec.toNat (BitVec.ofInt 64 x0 &&& BitVec.ofInt 64 4294967295))) * Int.fdiv x1 4294967296) +
                        IntKind.wrap IntKind.u64
                          (Int.ofNat
                            (BitVec.toNat
                              (BitVec.ofInt 64
                                  (IntKind.wrap IntKind.u64
                                    (IntKind.wrap IntKind.u64 (Int.fdiv x0 4294967296 * IntKind.wrap IntKind.u64 (Int.ofNat (BitVec.toNat (BitVec.ofInt 64 x1 &&& BitVec.ofInt 64 4294967295)))) +
                                      Int.fdiv
                                        (IntKind.wrap IntKind.u64
                                          (IntKind.wrap IntKind.u64 (Int.ofNat (BitVec.toNat (BitVec.ofInt 64 x0 &&& BitVec.ofInt 64 4294967295))) *
                                            IntKind.wrap IntKind.u64 (Int.ofNat (BitVec.toNat (BitVec.ofInt 64 x1 &&& BitVec.ofInt 64 4294967295)))))
                                        4294967296)) &&&
                                BitVec.ofInt 64 4294967295)))) *
                    4294967296)) |||
              BitVec.ofInt 64
                (IntKind.wrap IntKind.u64
                  (Int.ofNat
                    (BitVec.toNat
                      (BitVec.ofInt 64
                          (IntKind.wrap IntKind.u64
                            (IntKind.wrap IntKind.u64 (Int.ofNat (BitVec.toNat (BitVec.ofInt 64 x0 &&& BitVec.ofInt 64 4294967295))) *
                              IntKind.wrap IntKind.u64 (Int.ofNat (BitVec.toNat (BitVec.ofInt 64 x1 &&& BitVec.ofInt 64 4294967295))))) &&&
                        BitVec.ofInt 64 4294967295))))))))
def f_astrolaberef2_product (x0 : Int) (x1 : Int) : Option (Int × Int) := K_astrolaberef2_product   x0 x1 some
section
open Go.Ab.Rdr
def QA_astrolaberef2_product := ((pair (cons (ar (rc (cf (fi .u64 hole)))) (cons (ar (rc (cf (fi .u64 hole)))) nil)) nil) : Rdr (List AV × List Blk) _)
end
def F_astrolaberef2_product (f : (Int) → (Int) → Option (Int × Int)) : Sem1 := fun args h => match (QA_astrolaberef2_product).rd (args, h) with
  | some b => .opt (f b.1.1 b.1.2.1) fun (d : Int × Int) => .leaf (Res.mk (AV.tup [RV.c (CV.f (FV.i IntKind.u64 d.1)), RV.c (CV.f (FV.i IntKind.u64 d.2))]) [] [])
  | none => .fail
theorem d_astrolaberef2_product   (x0 : Int) (x1 : Int) : den Try.prog (envOf []) ⟨[], [], [], [], none⟩ 200 85 [.r (.c (.f (.i .u64 x0))), .r (.c (.f (.i .u64 x1)))] [] =
    K_astrolaberef2_product   x0 x1 (fun (d : Int × Int) => some (Res.mk (AV.tup [RV.c (CV.f (FV.i IntKind.u64 d.1)), RV.c (CV.f (FV.i IntKind.u64 d.2))]) [] [])) := by kernel_rfl
theorem m_astrolaberef2_product {ρ σ : Type} (q : ρ → Option σ)    (x0 : Int) (x1 : Int) (k : (Int × Int) → Option ρ) : (K_astrolaberef2_product   x0 x1 k).bind q = K_astrolaberef2_product   x0 x1 (fun d => (k d).bind q) := by
  simp only [K_astrolaberef2_product, bnd_cond, bnd_bind, bnd_none, bnd_sum]
theorem qa_astrolaberef2_product : ∀ b, (QA_astrolaberef2_product).em b = ([.r (.c (.f (.i .u64 b.1.1))), .r (.c (.f (.i .u64 b.1.2.1)))], []) := fun b => by kernel_rfl
theorem e_astrolaberef2_product {f : (Int) → (Int) → Option (Int × Int)} {args : List AV} {h : List Blk} {r : Res} (hr : (F_astrolaberef2_product f args h).eval = some r) : ∃ x0 x1, args = [.r (.c (.f (.i .u64 x0))), .r (.c (.f (.i .u64 x1)))] ∧ h = [] ∧ (f x0 x1).bind (fun (d : Int × Int) => some (Res.mk (AV.tup [RV.c (CV.f (FV.i IntKind.u64 d.1)), RV.c (CV.f (FV.i IntKind.u64 d.2))]) [] [])) = some r := by
  unfold F_astrolaberef2_product at hr
  split at hr
  · rename_i b hb
    have e := ((QA_astrolaberef2_product).ok _ _ hb).trans (qa_astrolaberef2_product b)
    rw [opt_eval2] at hr
    exact ⟨b.1.1, b.1.2.1, (Prod.mk.inj e).1, (Prod.mk.inj e).2, hr⟩
  · cases hr
theorem n_astrolaberef2_product {σ : Type} (q : (Int × Int) → Option σ) (x0 : Int) (x1 : Int) : (f_astrolaberef2_product x0 x1).bind q = K_astrolaberef2_product   x0 x1 q := by
  unfold f_astrolaberef2_product
  exact m_astrolaberef2_product q    x0 x1 some
theorem s_astrolaberef2_product : Sound Try.prog 85 (F_astrolaberef2_product f_astrolaberef2_product) :=
  (inl_sound (l := []) (.nil _) mixed [] [] 200 (by kernel_rfl)).by (F := F_astrolaberef2_product f_astrolaberef2_product) fun args b r hr => by
  obtain ⟨x0, x1, rfl, rfl, hr1⟩ := e_astrolaberef2_product hr
  exact inl_eval ((d_astrolaberef2_product   x0 x1).trans ((n_astrolaberef2_product (fun (d : Int × Int) => some (Res.mk (AV.tup [RV.c (CV.f (FV.i IntKind.u64 d.1)), RV.c (CV.f (FV.i IntKind.u64 d.2))]) [] [])) x0 x1).symm.trans hr1))

def K_astrolaberef2_mul {ρ : Type} (g_astrolaberef2_size : Int → Option Int) (g_astrolaberef2_product : Int → Int → Option (Int × Int))  (x0 : Int) (x1 : Int) (k : (Int × Int × Bool) → Option ρ) : Option ρ :=
  Option.bind (g_astrolaberef2_size x0) fun (d : Int) =>
    Option.bind (g_astrolaberef2_size x1) fun (d_1 : Int) => Option.bind (g_astrolaberef2_product d d_1) fun (d : Int × Int) => k (d.1, d.2, !decide (x0 < 0) == decide (x1 < 0))
def f_astrolaberef2_mul (x0 : Int) (x1 : Int) : Option (Int × Int × Bool) := K_astrolaberef2_mul f_astrolaberef2_size f_astrolaberef2_product  x0 x1 some
section
open Go.Ab.Rdr
def QA_astrolaberef2_mul := ((pair (cons (ar (rc (cf (fi .i64 hole)))) (cons (ar (rc (cf (fi .i64 hole)))) nil)) nil) : Rdr (List AV × List Blk) _)
end
def F_astrolaberef2_mul (f : (Int) → (Int) → Option (Int × Int × Bool)) : Sem1 := fun args h => match (QA_astrolaberef2_mul).rd (args, h) with
  | some b => .opt (f b.1.1 b.1.2.1) fun (d : Int × Int × Bool) => .leaf (Res.mk (AV.r (RV.agg [Sg.c (CV.f (FV.i IntKind.u64 d.1)), Sg.c (CV.f (FV.i IntKind.u64 d.2.1)), Sg.c (CV.f (FV.b d.2.2))])) [] [])
  | none => .fail
theorem d_astrolaberef2_mul (g_astrolaberef2_size : Int → Option Int) (g_astrolaberef2_product : Int → Int → Option (Int × Int))  (x0 : Int) (x1 : Int) : den Try.prog (envOf [(86, F_astrolaberef2_size g_astrolaberef2_size), (85, F_astrolaberef2_product g_astrolaberef2_product)]) ⟨[], [], [], [], none⟩ 200 73 [.r (.c (.f (.i .i64 x0))), .r (.c (.f (.i .i64 x1)))] [] =
    K_astrolaberef2_mul g_astrolaberef2_size g_astrolaberef2_product  x0 x1 (fun (d : Int × Int × Bool) => some (Res.mk (AV.r (RV.agg [Sg.c (CV.f (FV.i IntKind.u64 d.1)), Sg.c (CV.f (FV.i IntKind.u64 d.2.1)), Sg.c (CV.f (FV.b d.2.2))])) [] [])) := by kernel_rfl
theorem m_astrolaberef2_mul {ρ σ : Type} (q : ρ → Option σ) (g_astrolaberef2_size : Int → Option Int) (g_astrolaberef2_product : Int → Int → Option (Int × Int))   (x0 : Int) (x1 : Int) (k : (Int × Int × Bool) → Option ρ) : (K_astrolaberef2_mul g_astrolaberef2_size g_astrolaberef2_product  x0 x1 k).bind q = K_astrolaberef2_mul g_astrolaberef2_size g_astrolaberef2_product  x0 x1 (fun d => (k d).bind q) := by
  simp only [K_astrolaberef2_mul, bnd_cond, bnd_bind, bnd_none, bnd_sum]
theorem qa_astrolaberef2_mul : ∀ b, (QA_astrolaberef2_mul).em b = ([.r (.c (.f (.i .i64 b.1.1))), .r (.c (.f (.i .i64 b.1.2.1)))], []) := fun b => by kernel_rfl
theorem e_astrolaberef2_mul {f : (Int) → (Int) → Option (Int × Int × Bool)} {args : List AV} {h : List Blk} {r : Res} (hr : (F_astrolaberef2_mul f args h).eval = some r) : ∃ x0 x1, args = [.r (.c (.f (.i .i64 x0))), .r (.c (.f (.i .i64 x1)))] ∧ h = [] ∧ (f x0 x1).bind (fun (d : Int × Int × Bool) => some (Res.mk (AV.r (RV.agg [Sg.c (CV.f (FV.i IntKind.u64 d.1)), Sg.c (CV.f (FV.i IntKind.u64 d.2.1)), Sg.c (CV.f (FV.b d.2.2))])) [] [])) = some r := by
  unfold F_astrolaberef2_mul at hr
  split at hr
  · rename_i b hb
    have e := ((QA_astrolaberef2_mul).ok _ _ hb).trans (qa_astrolaberef2_mul b)
    rw [opt_eval2] at hr
    exact ⟨b.1.1, b.1.2.1, (Prod.mk.inj e).1, (Prod.mk.inj e).2, hr⟩
  · cases hr
theorem n_astrolaberef2_mul {σ : Type} (q : (Int × Int × Bool) → Option σ) (x0 : Int) (x1 : Int) : (f_astrolaberef2_mul x0 x1).bind q = K_astrolaberef2_mul f_astrolaberef2_size f_astrolaberef2_product  x0 x1 q := by
  unfold f_astrolaberef2_mul
  exact m_astrolaberef2_mul q f_astrolaberef2_size f_astrolaberef2_product   x0 x1 some
theorem s_astrolaberef2_mul : Sound Try.prog 73 (F_astrolaberef2_mul f_astrolaberef2_mul) :=
  (inl_sound (l := [(86, F_astrolaberef2_size f_astrolaberef2_size), (85, F_astrolaberef2_product f_astrolaberef2_product)]) (.cons s_astrolaberef2_size (.cons s_astrolaberef2_product (.nil _))) mixed [] [] 200 (by kernel_rfl)).by (F := F_astrolaberef2_mul f_astrolaberef2_mul) fun args b r hr => by
  obtain ⟨x0, x1, rfl, rfl, hr1⟩ := e_astrolaberef2_mul hr
  exact inl_eval ((d_astrolaberef2_mul f_astrolaberef2_size f_astrolaberef2_product  x0 x1).trans ((n_astrolaberef2_mul (fun (d : Int × Int × Bool) => some (Res.mk (AV.r (RV.agg [Sg.c (CV.f (FV.i IntKind.u64 d.1)), Sg.c (CV.f (FV.i IntKind.u64 d.2.1)), Sg.c (CV.f (FV.b d.2.2))])) [] [])) x0 x1).symm.trans hr1))

def K_astrolaberef2_less {ρ : Type}   (x0 : Int) (x1 : Int) (x2 : Bool) (x3 : Int) (x4 : Int) (x5 : Bool) (k : (Bool) → Option ρ) : Option ρ :=
  bif decide (x0 < x3) then k true else bif x0 == x3 then k (decide (x1 < x4)) else k false
def f_astrolaberef2_less (x0 : Int) (x1 : Int) (x2 : Bool) (x3 : Int) (x4 : Int) (x5 : Bool) : Option (Bool) := K_astrolaberef2_less   x0 x1 x2 x3 x4 x5 some
section
open Go.Ab.Rdr
def QA_astrolaberef2_less := ((pair (cons (ar (ra (cons (gc (cf (fi .u64 hole))) (cons (gc (cf (fi .u64 hole))) (cons (gc (cf (fb hole))) nil))))) (cons (ar (ra (cons (gc (cf (fi .u64 hole))) (cons (gc (cf (fi .u64 hole))) (cons (gc (cf (fb hole))) nil))))) nil)) nil) : Rdr (List AV × List Blk) _)
end
def F_astrolaberef2_less (f : (Int) → (Int) → (Bool) → (Int) → (Int) → (Bool) → Option (Bool)) : Sem1 := fun args h => match (QA_astrolaberef2_less).rd (args, h) with
  | some b => .opt (f b.1.1.1 b.1.1.2.1 b.1.1.2.2.1 b.1.2.1.1 b.1.2.1.2.1 b.1.2.1.2.2.1) fun (d : Bool) => .leaf (Res.mk (AV.r (RV.c (CV.f (FV.b d)))) [] [])
  | none => .fail
theorem d_astrolaberef2_less   (x0 : Int) (x1 : Int) (x2 : Bool) (x3 : Int) (x4 : Int) (x5 : Bool) : den Try.prog (envOf []) ⟨[], [], [], [], none⟩ 200 84 [.r (.agg [.c (.f (.i .u64 x0)), .c (.f (.i .u64 x1)), .c (.f (.b x2))]), .r (.agg [.c (.f (.i .u64 x3)), .c (.f (.i .u64 x4)), .c (.f (.b x5))])] [] =
    K_astrolaberef2_less   x0 x1 x2 x3 x4 x5 (fun (d : Bool) => some (Res.mk (AV.r (RV.c (CV.f (FV.b d)))) [] [])) := by kernel_rfl
theorem m_astrolaberef2_less {ρ σ : Type} (q : ρ → Option σ)    (x0 : Int) (x1 : Int) (x2 : Bool) (x3 : Int) (x4 : Int) (x5 : Bool) (k : (Bool) → Option ρ) : (K_astrolaberef2_less   x0 x1 x2 x3 x4 x5 k).bind q = K_astrolaberef2_less   x0 x1 x2 x3 x4 x5 (fun d => (k d).bind q) := by
  simp only [K_astrolaberef2_less, bnd_cond, bnd_bind, bnd_none, bnd_sum]
theorem qa_astrolaberef2_less : ∀ b, (QA_astrolaberef2_less).em b = ([.r (.agg [.c (.f (.i .u64 b.1.1.1)), .c (.f (.i .u64 b.1.1.2.1)), .c (.f (.b b.1.1.2.2.1))]), .r (.agg [.c (.f (.i .u64 b.1.2.1.1)), .c (.f (.i .u64 b.1.2.1.2.1)), .c (.f (.b b.1.2.1.2.2.1))])], []) := fun b => by kernel_rfl
theorem e_astrolaberef2_less {f : (Int) → (Int) → (Bool) → (Int) → (Int) → (Bool) → Option (Bool)} {args : List AV} {h : List Blk} {r : Res} (hr : (F_astrolaberef2_less f args h).eval = some r) : ∃ x0 x1 x2 x3 x4 x5, args = [.r (.agg [.c (.f (.i .u64 x0)), .c (.f (.i .u64 x1)), .c (.f (.b x2))]), .r (.agg [.c (.f (.i .u64 x3)), .c (.f (.i .u64 x4)), .c (.f (.b x5))])] ∧ h = [] ∧ (f x0 x1 x2 x3 x4 x5).bind (fun (d : Bool) => some (Res.mk (AV.r (RV.c (CV.f (FV.b d)))) [] [])) = some r := by
  unfold F_astrolaberef2_less at hr
  split at hr
  · rename_i b hb
    have e := ((QA_astrolaberef2_less).ok _ _ hb).trans (qa_astrolaberef2_less b)
    rw [opt_eval2] at hr
    exact ⟨b.1.1.1, b.1.1.2.1, b.1.1.2.2.1, b.1.2.1.1, b.1.2.1.2.1, b.1.2.1.2.2.1, (Prod.mk.inj e).1, (Prod.mk.inj e).2, hr⟩
  · cases hr
theorem n_astrolaberef2_less {σ : Type} (q : (Bool) → Option σ) (x0 : Int) (x1 : Int) (x2 : Bool) (x3 : Int) (x4 : Int) (x5 : Bool) : (f_astrolaberef2_less x0 x1 x2 x3 x4 x5).bind q = K_astrolaberef2_less   x0 x1 x2 x3 x4 x5 q := by
  unfold f_astrolaberef2_less
  exact m_astrolaberef2_less q    x0 x1 x2 x3 x4 x5 some
theorem s_astrolaberef2_less : Sound Try.prog 84 (F_astrolaberef2_less f_astrolaberef2_less) :=
  (inl_sound (l := []) (.nil _) mixed [] [] 200 (by kernel_rfl)).by (F := F_astrolaberef2_less f_astrolaberef2_less) fun args b r hr => by
  obtain ⟨x0, x1, x2, x3, x4, x5, rfl, rfl, hr1⟩ := e_astrolaberef2_less hr
  exact inl_eval ((d_astrolaberef2_less   x0 x1 x2 x3 x4 x5).trans ((n_astrolaberef2_less (fun (d : Bool) => some (Res.mk (AV.r (RV.c (CV.f (FV.b d)))) [] [])) x0 x1 x2 x3 x4 x5).symm.trans hr1))

def K_astrolaberef2_add {ρ : Type} (g_astrolaberef2_less : Int → Int → Bool → Int → Int → Bool → Option Bool)  (x0 : Int) (x1 : Int) (x2 : Bool) (x3 : Int) (x4 : Int) (x5 : Bool) (k : (Int × Int × Bool) → Option ρ) : Option ρ :=
  bif x2 == x5 then
    bif decide (IntKind.wrap IntKind.u64 (x1 + x4) < x1) then k (IntKind.wrap IntKind.u64 (IntKind.wrap IntKind.u64 (x0 + x3) + 1), IntKind.wrap IntKind.u64 (x1 + x4), x2)
    else k (IntKind.wrap IntKind.u64 (x0 + x3), IntKind.wrap IntKind.u64 (x1 + x4), x2)
  else
    Option.bind (g_astrolaberef2_less x0 x1 x2 x3 x4 x5) fun (d : Bool) =>
      bif d then
        bif decide (x4 < x1) then k (IntKind.wrap IntKind.u64 (IntKind.wrap IntKind.u64 (x3 - x0) - 1), IntKind.wrap IntKind.u64 (x4 - x1), x5)
        else k (IntKind.wrap IntKind.u64 (x3 - x0), IntKind.wrap IntKind.u64 (x4 - x1), x5)
      else
        bif decide (x1 < x4) then k (IntKind.wrap IntKind.u64 (IntKind.wrap IntKind.u64 (x0 - x3) - 1), IntKind.wrap IntKind.u64 (x1 - x4), x2)
        else k (IntKind.wrap IntKind.u64 (x0 - x3), IntKind.wrap IntKind.u64 (x1 - x4), x2)
def f_astrolaberef2_add (x0 : Int) (x1 : Int) (x2 : Bool) (x3 : Int) (x4 : Int) (x5 : Bool) : Option (Int × Int × Bool) := K_astrolaberef2_add f_astrolaberef2_less  x0 x1 x2 x3 x4 x5 some
section
open Go.Ab.Rdr
def QA_astrolaberef2_add := ((pair (cons (ar (ra (cons (gc (cf (fi .u64 hole))) (cons (gc (cf (fi .u64 hole))) (cons (gc (cf (fb hole))) nil))))) (cons (ar (ra (cons (gc (cf (fi .u64 hole))) (cons (gc (cf (fi .u64 hole))) (cons (gc (cf (fb hole))) nil))))) nil)) nil) : Rdr (List AV × List Blk) _)
end
def F_astrolaberef2_add (f : (Int) → (Int) → (Bool) → (Int) → (Int) → (Bool) → Option (Int × Int × Bool)) : Sem1 := fun args h => match (QA_astrolaberef2_add).rd (args, h) with
  | some b => .opt (f b.1.1.1 b.1.1.2.1 b.1.1.2.2.1 b.1.2.1.1 b.1.2.1.2.1 b.1.2.1.2.2.1) fun (d : Int × Int × Bool) => .leaf (Res.mk (AV.r (RV.agg [Sg.c (CV.f (FV.i IntKind.u64 d.1)), Sg.c (CV.f (FV.i IntKind.u64 d.2.1)), Sg.c (CV.f (FV.b d.2.2))])) [] [])
  | none => .fail
theorem d_astrolaberef2_add (g_astrolaberef2_less : Int → Int → Bool → Int → Int → Bool → Option Bool)  (x0 : Int) (x1 : Int) (x2 : Bool) (x3 : Int) (x4 : Int) (x5 : Bool) : den Try.prog (envOf [(84, F_astrolaberef2_less g_astrolaberef2_less)]) ⟨[], [], [], [], none⟩ 200 72 [.r (.agg [.c (.f (.i .u64 x0)), .c (.f (.i .u64 x1)), .c (.f (.b x2))]), .r (.agg [.c (.f (.i .u64 x3)), .c (.f (.i .u64 x4)), .c (.f (.b x5))])] [] =
    K_astrolaberef2_add g_astrolaberef2_less  x0 x1 x2 x3 x4 x5 (fun (d : Int × Int × Bool) => some (Res.mk (AV.r (RV.agg [Sg.c (CV.f (FV.i IntKind.u64 d.1)), Sg.c (CV.f (FV.i IntKind.u64 d.2.1)), Sg.c (CV.f (FV.b d.2.2))])) [] [])) := by kernel_rfl
theorem m_astrolaberef2_add {ρ σ : Type} (q : ρ → Option σ) (g_astrolaberef2_less : Int → Int → Bool → Int → Int → Bool → Option Bool)   (x0 : Int) (x1 : Int) (x2 : Bool) (x3 : Int) (x4 : Int) (x5 : Bool) (k : (Int × Int × Bool) → Option ρ) : (K_astrolaberef2_add g_astrolaberef2_less  x0 x1 x2 x3 x4 x5 k).bind q = K_astrolaberef2_add g_astrolaberef2_less  x0 x1 x2 x3 x4 x5 (fun d => (k d).bind q) := by
  simp only [K_astrolaberef2_add, bnd_cond, bnd_bind, bnd_none, bnd_sum]
theorem qa_astrolaberef2_add : ∀ b, (QA_astrolaberef2_add).em b = ([.r (.agg [.c (.f (.i .u64 b.1.1.1)), .c (.f (.i .u64 b.1.1.2.1)), .c (.f (.b b.1.1.2.2.1))]), .r (.agg [.c (.f (.i .u64 b.1.2.1.1)), .c (.f (.i .u64 b.1.2.1.2.1)), .c (.f (.b b.1.2.1.2.2.1))])], []) := fun b => by kernel_rfl
theorem e_astrolaberef2_add {f : (Int) → (Int) → (Bool) → (Int) → (Int) → (Bool) → Option (Int × Int × Bool)} {args : List AV} {h : List Blk} {r : Res} (hr : (F_astrolaberef2_add f args h).eval = some r) : ∃ x0 x1 x2 x3 x4 x5, args = [.r (.agg [.c (.f (.i .u64 x0)), .c (.f (.i .u64 x1)), .c (.f (.b x2))]), .r (.agg [.c (.f (.i .u64 x3)), .c (.f (.i .u64 x4)), .c (.f (.b x5))])] ∧ h = [] ∧ (f x0 x1 x2 x3 x4 x5).bind (fun (d : Int × Int × Bool) => some (Res.mk (AV.r (RV.agg [Sg.c (CV.f (FV.i IntKind.u64 d.1)), Sg.c (CV.f (FV.i IntKind.u64 d.2.1)), Sg.c (CV.f (FV.b d.2.2))])) [] [])) = some r := by
  unfold F_astrolaberef2_add at hr
  split at hr
  · rename_i b hb
    have e := ((QA_astrolaberef2_add).ok _ _ hb).trans (qa_astrolaberef2_add b)
    rw [opt_eval2] at hr
    exact ⟨b.1.1.1, b.1.1.2.1, b.1.1.2.2.1, b.1.2.1.1, b.1.2.1.2.1, b.1.2.1.2.2.1, (Prod.mk.inj e).1, (Prod.mk.inj e).2, hr⟩
  · cases hr
theorem n_astrolaberef2_add {σ : Type} (q : (Int × Int × Bool) → Option σ) (x0 : Int) (x1 : Int) (x2 : Bool) (x3 : Int) (x4 : Int) (x5 : Bool) : (f_astrolaberef2_add x0 x1 x2 x3 x4 x5).bind q = K_astrolaberef2_add f_astrolaberef2_less  x0 x1 x2 x3 x4 x5 q := by
  unfold f_astrolaberef2_add
  exact m_astrolaberef2_add q f_astrolaberef2_less   x0 x1 x2 x3 x4 x5 some
theorem s_astrolaberef2_add : Sound Try.prog 72 (F_astrolaberef2_add f_astrolaberef2_add) :=
  (inl_sound (l := [(84, F_astrolaberef2_less f_astrolaberef2_less)]) (.cons s_astrolaberef2_less (.nil _)) mixed [] [] 200 (by kernel_rfl)).by (F := F_astrolaberef2_add f_astrolaberef2_add) fun args b r hr => by
  obtain ⟨x0, x1, x2, x3, x4, x5, rfl, rfl, hr1⟩ := e_astrolaberef2_add hr
  exact inl_eval ((d_astrolaberef2_add f_astrolaberef2_less  x0 x1 x2 x3 x4 x5).trans ((n_astrolaberef2_add (fun (d : Int × Int × Bool) => some (Res.mk (AV.r (RV.agg [Sg.c (CV.f (FV.i IntKind.u64 d.1)), Sg.c (CV.f (FV.i IntKind.u64 d.2.1)), Sg.c (CV.f (FV.b d.2.2))])) [] [])) x0 x1 x2 x3 x4 x5).symm.trans hr1))

def K_astrolaberef2_shifted {ρ : Type} (g_astrolaberef2_add : Int → Int → Bool → Int → Int → Bool → Option (Int × Int × Bool))  (x0 : Int) (x1 : Int) (x2 : Bool) (x3 : Int) (k : (Int × Int × Bool) → Option ρ) : Option ρ :=
  bif x3 == 0 then k (x0, x1, x2)
  else
    bif decide (IntKind.wrap IntKind.i64 (x3 - 1) ≥ 64) then
      bif !decide (IntKind.wrap IntKind.u64 (IntKind.wrap IntKind.i64 (x3 - 65)) < 0) then
        Option.bind (g_astrolaberef2_add x0 x1 x2 (IntKind.wrap IntKind.u64 (1 * 2 ^ min (Int.toNat (IntKind.wrap IntKind.u64 (IntKind.wrap IntKind.i64 (x3 - 65)))) 64)) 0 x2)
          fun (d : Int × Int × Bool) =>
          bif decide (x3 ≥ 64) then
            bif !decide (IntKind.wrap IntKind.u64 (IntKind.wrap IntKind.i64 (x3 - 64)) < 0) then
              k (0, Int.fdiv d.1 (2 ^ min (Int.toNat (IntKind.wrap IntKind.u64 (IntKind.wrap IntKind.i64 (x3 - 64)))) 64), d.2.2)
            else none
          else
            bif !decide (IntKind.wrap IntKind.u64 x3 < 0) then
              bif !decide (IntKind.wrap IntKind.u64 x3 < 0) then
                bif !decide (IntKind.wrap IntKind.u64 (IntKind.wrap IntKind.i64 (64 - x3)) < 0) then
                  k
                    (Int.fdiv d.1 (2 ^ min (Int.toNat (IntKind.wrap IntKind.u64 x3)) 64),
                      IntKind.wrap IntKind.u64
                        (Int.ofNat
                          (BitVec.toNat
                            (BitVec.ofInt 64 (Int.fdiv d.2.1 (2 ^ min (Int.toNat (IntKind.wrap IntKind.u64 x3)) 64)) |||
                              BitVec.ofInt 64 (IntKind.wrap IntKind.u64 (d.1 * 2 ^ min (Int.toNat (IntKind.wrap IntKind.u64 (IntKind.wrap IntKind.i64 (64 - x3)))) 64))))),
                      d.2.2)
                else none
              else none
            else none
      else none
    else
      bif !decide (IntKind.wrap IntKind.u64 (IntKind.wrap IntKind.i64 (x3 - 1)) < 0) then
        Option.bind (g_astrolaberef2_add x0 x1 x2 0 (IntKind.wrap IntKind.u64 (1 * 2 ^ min (Int.toNat (IntKind.wrap IntKind.u64 (IntKind.wrap IntKind.i64 (x3 - 1)))) 64)) x2)
          fun (d : Int × Int × Bool) =>
          bif decide (x3 ≥ 64) then
            bif !decide (IntKind.wrap IntKind.u64 (IntKind.wrap IntKind.i64 (x3 - 64)) < 0) then
              k (0, Int.fdiv d.1 (2 ^ min (Int.toNat (IntKind.wrap IntKind.u64 (IntKind.wrap IntKind.i64 (x3 - 64)))) 64), d.2.2)
            else none
          else
            bif !decide (IntKind.wrap IntKind.u64 x3 < 0) then
              bif !decide (IntKind.wrap IntKind.u64 x3 < 0) then
                bif !decide (IntKind.wrap IntKind.u64 (IntKind.wrap IntKind.i64 (64 - x3)) < 0) then
                  k
                    (Int.fdiv d.1 (2 ^ min (Int.toNat (IntKind.wrap IntKind.u64 x3)) 64),
                      IntKind.wrap IntKind.u64
                        (Int.ofNat
                          (BitVec.toNat
                            (BitVec.ofInt 64 (Int.fdiv d.2.1 (2 ^ min (Int.toNat (IntKind.wrap IntKind.u64 x3)) 64)) |||
                              BitVec.ofInt 64 (IntKind.wrap IntKind.u64 (d.1 * 2 ^ min (Int.toNat (IntKind.wrap IntKind.u64 (IntKind.wrap IntKind.i64 (64 - x3)))) 64))))),
                      d.2.2)
                else none
              else none
            else none
      else none
def f_astrolaberef2_shifted (x0 : Int) (x1 : Int) (x2 : Bool) (x3 : Int) : Option (Int × Int × Bool) := K_astrolaberef2_shifted f_astrolaberef2_add  x0 x1 x2 x3 some
section
open Go.Ab.Rdr
def QA_astrolaberef2_shifted := ((pair (cons (ar (ra (cons (gc (cf (fi .u64 hole))) (cons (gc (cf (fi .u64 hole))) (cons (gc (cf (fb hole))) nil))))) (cons (ar (rc (cf (fi .i64 hole)))) nil)) nil) : Rdr (List AV × List Blk) _)
end
def F_astrolaberef2_shifted (f : (Int) → (Int) → (Bool) → (Int) → Option (Int × Int × Bool)) : Sem1 := fun args h => match (QA_astrolaberef2_shifted).rd (args, h) with
  | some b => .opt (f b.1.1.1 b.1.1.2.1 b.1.1.2.2.1 b.1.2.1) fun (d : Int × Int × Bool) => .leaf (Res.mk (AV.r (RV.agg [Sg.c (CV.f (FV.i IntKind.u64 d.1)), Sg.c (CV.f (FV.i IntKind.u64 d.2.1)), Sg.c (CV.f (FV.b d.2.2))])) [] [])
  | none => .fail
theorem d_astrolaberef2_shifted (g_astrolaberef2_add : Int → Int → Bool → Int → Int → Bool → Option (Int × Int × Bool))  (x0 : Int) (x1 : Int) (x2 : Bool) (x3 : Int) : den Try.prog (envOf [(72, F_astrolaberef2_add g_astrolaberef2_add)]) ⟨[], [], [], [], none⟩ 200 76 [.r (.agg [.c (.f (.i .u64 x0)), .c (.f (.i .u64 x1)), .c (.f (.b x2))]), .r (.c (.f (.i .i64 x3)))] [] =
    K_astrolaberef2_shifted g_astrolaberef2_add  x0 x1 x2 x3 (fun (d : Int × Int × Bool) => some (Res.mk (AV.r (RV.agg [Sg.c (CV.f (FV.i IntKind.u64 d.1)), Sg.c (CV.f (FV.i IntKind.u64 d.2.1)), Sg.c (CV.f (FV.b d.2.2))])) [] [])) := by kernel_rfl
theorem m_astrolaberef2_shifted {ρ σ : Type} (q : ρ → Option σ) (g_astrolaberef2_add : Int → Int → Bool → Int → Int → Bool → Option (Int × Int × Bool))   (x0 : Int) (x1 : Int) (x2 : Bool) (x3 : Int) (k : (Int × Int × Bool) → Option ρ) : (K_astrolaberef2_shifted g_astrolaberef2_add  x0 x1 x2 x3 k).bind q = K_astrolaberef2_shifted g_astrolaberef2_add  x0 x1 x2 x3 (fun d => (k d).bind q) := by
  simp only [K_astrolaberef2_shifted, bnd_cond, bnd_bind, bnd_none, bnd_sum]
theorem qa_astrolaberef2_shifted : ∀ b, (QA_astrolaberef2_shifted).em b = ([.r (.agg [.c (.f (.i .u64 b.1.1.1)), .c (.f (.i .u64 b.1.1.2.1)), .c (.f (.b b.1.1.2.2.1))]), .r (.c (.f (.i .i64 b.1.2.1)))], []) := fun b => by kernel_rfl
theorem e_astrolaberef2_shifted {f : (Int) → (Int) → (Bool) → (Int) → Option (Int × Int × Bool)} {args : List AV} {h : List Blk} {r : Res} (hr : (F_astrolaberef2_shifted f args h).eval = some r) : ∃ x0 x1 x2 x3, args = [.r (.agg [.c (.f (.i .u64 x0)), .c (.f (.i .u64 x1)), .c (.f (.b x2))]), .r (.c (.f (.i .i64 x3)))] ∧ h = [] ∧ (f x0 x1 x2 x3).bind (fun (d : Int × Int × Bool) => some (Res.mk (AV.r (RV.agg [Sg.c (CV.f (FV.i IntKind.u64 d.1)), Sg.c (CV.f (FV.i IntKind.u64 d.2.1)), Sg.c (CV.f (FV.b d.2.2))])) [] [])) = some r := by
  unfold F_astrolaberef2_shifted at hr
  split at hr
  · rename_i b hb
    have e := ((QA_astrolaberef2_shifted).ok _ _ hb).trans (qa_astrolaberef2_shifted b)
    rw [opt_eval2] at hr
    exact ⟨b.1.1.1, b.1.1.2.1, b.1.1.2.2.1, b.1.2.1, (Prod.mk.inj e).1, (Prod.mk.inj e).2, hr⟩
  · cases hr
theorem n_astrolaberef2_shifted {σ : Type} (q : (Int × Int × Bool) → Option σ) (x0 : Int) (x1 : Int) (x2 : Bool) (x3 : Int) : (f_astrolaberef2_shifted x0 x1 x2 x3).bind q = K_astrolaberef2_shifted f_astrolaberef2_add  x0 x1 x2 x3 q := by
  unfold f_astrolaberef2_shifted
  exact m_astrolaberef2_shifted q f_astrolaberef2_add   x0 x1 x2 x3 some
theorem s_astrolaberef2_shifted : Sound Try.prog 76 (F_astrolaberef2_shifted f_astrolaberef2_shifted) :=
  (inl_sound (l := [(72, F_astrolaberef2_add f_astrolaberef2_add)]) (.cons s_astrolaberef2_add (.nil _)) mixed [] [] 200 (by kernel_rfl)).by (F := F_astrolaberef2_shifted f_astrolaberef2_shifted) fun args b r hr => by
  obtain ⟨x0, x1, x2, x3, rfl, rfl, hr1⟩ := e_astrolaberef2_shifted hr
  exact inl_eval ((d_astrolaberef2_shifted f_astrolaberef2_add  x0 x1 x2 x3).trans ((n_astrolaberef2_shifted (fun (d : Int × Int × Bool) => some (Res.mk (AV.r (RV.agg [Sg.c (CV.f (FV.i IntKind.u64 d.1)), Sg.c (CV.f (FV.i IntKind.u64 d.2.1)), Sg.c (CV.f (FV.b d.2.2))])) [] [])) x0 x1 x2 x3).symm.trans hr1))

def K___astrolaberef2_Acc__end {ρ : Type}   (x0 : Int) (x1 : Int) (x2 : Bool) (x3 : Bool) (k : (Int × Bool) → Option ρ) : Option ρ :=
  bif decide (x0 > 0) then bif x2 then k (-1152921504606846976, true) else k (1152921504606846976, true)
  else
    bif decide (x1 > 1152921504606846976) then bif x2 then k (-1152921504606846976, true) else k (1152921504606846976, true)
    else bif x2 then k (IntKind.wrap IntKind.i64 (0 - IntKind.wrap IntKind.i64 x1), x3) else k (IntKind.wrap IntKind.i64 x1, x3)
def f___astrolaberef2_Acc__end (x0 : Int) (x1 : Int) (x2 : Bool) (x3 : Bool) : Option (Int × Bool) := K___astrolaberef2_Acc__end   x0 x1 x2 x3 some
section
open Go.Ab.Rdr
def QA___astrolaberef2_Acc__end := ((pair (cons (ar (rc (cptr (nat 0) (ok' (nat 0)) (nat 1)))) (cons (ar (ra (cons (gc (cf (fi .u64 hole))) (cons (gc (cf (fi .u64 hole))) (cons (gc (cf (fb hole))) nil))))) nil)) (cons (cons (gc (cf (fb hole))) nil) nil)) : Rdr (List AV × List Blk) _)
end
def F___astrolaberef2_Acc__end (f : (Int) → (Int) → (Bool) → (Bool) → Option (Int × Bool)) : Sem1 := fun args h => match (QA___astrolaberef2_Acc__end).rd (args, h) with
  | some b => .opt (f b.1.2.1.1 b.1.2.1.2.1 b.1.2.1.2.2.1 b.2.1.1) fun (d : Int × Bool) => .leaf (Res.mk (AV.r (RV.c (CV.f (FV.i IntKind.i64 d.1)))) [Ch.set [Sg.c (CV.f (FV.b d.2))]] [])
  | none => .fail
theorem d___astrolaberef2_Acc__end   (x0 : Int) (x1 : Int) (x2 : Bool) (x3 : Bool) : den Try.prog (envOf []) ⟨[], [], [0], [], none⟩ 200 75 [.r (.c (.ptr 0 (.k 0) 1)), .r (.agg [.c (.f (.i .u64 x0)), .c (.f (.i .u64 x1)), .c (.f (.b x2))])] [[.c (.f (.b x3))]] =
    K___astrolaberef2_Acc__end   x0 x1 x2 x3 (fun (d : Int × Bool) => some (Res.mk (AV.r (RV.c (CV.f (FV.i IntKind.i64 d.1)))) [Ch.set [Sg.c (CV.f (FV.b d.2))]] [])) := by kernel_rfl
theorem m___astrolaberef2_Acc__end {ρ σ : Type} (q : ρ → Option σ)    (x0 : Int) (x1 : Int) (x2 : Bool) (x3 : Bool) (k : (Int × Bool) → Option ρ) : (K___astrolaberef2_Acc__end   x0 x1 x2 x3 k).bind q = K___astrolaberef2_Acc__end   x0 x1 x2 x3 (fun d => (k d).bind q) := by
  simp only [K___astrolaberef2_Acc__end, bnd_cond, bnd_bind, bnd_none, bnd_sum]
theorem qa___astrolaberef2_Acc__end : ∀ b, (QA___astrolaberef2_Acc__end).em b = ([.r (.c (.ptr 0 (.k 0) 1)), .r (.agg [.c (.f (.i .u64 b.1.2.1.1)), .c (.f (.i .u64 b.1.2.1.2.1)), .c (.f (.b b.1.2.1.2.2.1))])], [[.c (.f (.b b.2.1.1))]]) := fun b => by kernel_rfl
theorem e___astrolaberef2_Acc__end {f : (Int) → (Int) → (Bool) → (Bool) → Option (Int × Bool)} {args : List AV} {h : List Blk} {r : Res} (hr : (F___astrolaberef2_Acc__end f args h).eval = some r) : ∃ x0 x1 x2 x3, args = [.r (.c (.ptr 0 (.k 0) 1)), .r (.agg [.c (.f (.i .u64 x0)), .c (.f (.i .u64 x1)), .c (.f (.b x2))])] ∧ h = [[.c (.f (.b x3))]] ∧ (f x0 x1 x2 x3).bind (fun (d : Int × Bool) => some (Res.mk (AV.r (RV.c (CV.f (FV.i IntKind.i64 d.1)))) [Ch.set [Sg.c (CV.f (FV.b d.2))]] [])) = some r := by
  unfold F___astrolaberef2_Acc__end at hr
  split at hr
  · rename_i b hb
    have e := ((QA___astrolaberef2_Acc__end).ok _ _ hb).trans (qa___astrolaberef2_Acc__end b)
    rw [opt_eval2] at hr
    exact ⟨b.1.2.1.1, b.1.2.1.2.1, b.1.2.1.2.2.1, b.2.1.1, (Prod.mk.inj e).1, (Prod.mk.inj e).2, hr⟩
  · cases hr
theorem n___astrolaberef2_Acc__end {σ : Type} (q : (Int × Bool) → Option σ) (x0 : Int) (x1 : Int) (x2 : Bool) (x3 : Bool) : (f___astrolaberef2_Acc__end x0 x1 x2 x3).bind q = K___astrolaberef2_Acc__end   x0 x1 x2 x3 q := by
  unfold f___astrolaberef2_Acc__end
  exact m___astrolaberef2_Acc__end q    x0 x1 x2 x3 some
theorem s___astrolaberef2_Acc__end : Sound Try.prog 75 (F___astrolaberef2_Acc__end f___astrolaberef2_Acc__end) :=
  (inl_sound (l := []) (.nil _) mixed [] [0] 200 (by kernel_rfl)).by (F := F___astrolaberef2_Acc__end f___astrolaberef2_Acc__end) fun args b r hr => by
  obtain ⟨x0, x1, x2, x3, rfl, rfl, hr1⟩ := e___astrolaberef2_Acc__end hr
  exact inl_eval ((d___astrolaberef2_Acc__end   x0 x1 x2 x3).trans ((n___astrolaberef2_Acc__end (fun (d : Int × Bool) => some (Res.mk (AV.r (RV.c (CV.f (FV.i IntKind.i64 d.1)))) [Ch.set [Sg.c (CV.f (FV.b d.2))]] [])) x0 x1 x2 x3).symm.trans hr1))

def K___astrolaberef2_Acc__Mul {ρ : Type} (g___astrolaberef2_Acc__Sat : Int → Bool → Option (Int × Bool)) (g_astrolaberef2_mul : Int → Int → Option (Int × Int × Bool)) (g_astrolaberef2_shifted : Int → Int → Bool → Int → Option (Int × Int × Bool)) (g___astrolaberef2_Acc__end : Int → Int → Bool → Bool → Option (Int × Bool))  (x0 : Int) (x1 : Int) (x2 : Int) (x3 : Bool) (k : (Int × Bool) → Option ρ) : Option ρ :=
  Option.bind (g___astrolaberef2_Acc__Sat x0 x3) fun (d : Int × Bool) =>
    Option.bind (g___astrolaberef2_Acc__Sat x1 d.2) fun (d_1 : Int × Bool) =>
      Option.bind (g_astrolaberef2_mul d.1 d_1.1) fun (d : Int × Int × Bool) =>
        Option.bind (g_astrolaberef2_shifted d.1 d.2.1 d.2.2 x2) fun (d : Int × Int × Bool) =>
          Option.bind (g___astrolaberef2_Acc__end d.1 d.2.1 d.2.2 d_1.2) fun (d : Int × Bool) => k (d.1, d.2)
def f___astrolaberef2_Acc__Mul (x0 : Int) (x1 : Int) (x2 : Int) (x3 : Bool) : Option (Int × Bool) := K___astrolaberef2_Acc__Mul f___astrolaberef2_Acc__Sat f_astrolaberef2_mul f_astrolaberef2_shifted f___astrolaberef2_Acc__end  x0 x1 x2 x3 some
section
open Go.Ab.Rdr
def QA___astrolaberef2_Acc__Mul := ((pair (cons (ar (rc (cptr (nat 0) (ok' (nat 0)) (nat 1)))) (cons (ar (rc (cf (fi .i64 hole)))) (cons (ar (rc (cf (fi .i64 hole)))) (cons (ar (rc (cf (fi .i64 hole)))) nil)))) (cons (cons (gc (cf (fb hole))) nil) nil)) : Rdr (List AV × List Blk) _)
end
def F___astrolaberef2_Acc__Mul (f : (Int) → (Int) → (Int) → (Bool) → Option (Int × Bool)) : Sem1 := fun args h => match (QA___astrolaberef2_Acc__Mul).rd (args, h) with
  | some b => .opt (f b.1.2.1 b.1.2.2.1 b.1.2.2.2.1 b.2.1.1) fun (d : Int × Bool) => .leaf (Res.mk (AV.r (RV.c (CV.f (FV.i IntKind.i64 d.1)))) [Ch.set [Sg.c (CV.f (FV.b d.2))]] [])
  | none => .fail
theorem d___astrolaberef2_Acc__Mul (g___astrolaberef2_Acc__Sat : Int → Bool → Option (Int × Bool)) (g_astrolaberef2_mul : Int → Int → Option (Int × Int × Bool)) (g_astrolaberef2_shifted : Int → Int → Bool → Int → Option (Int × Int × Bool)) (g___astrolaberef2_Acc__end : Int → Int → Bool → Bool → Option (Int × Bool))  (x0 : Int) (x1 : Int) (x2 : Int) (x3 : Bool) : den Try.prog (envOf [(74, F___astrolaberef2_Acc__Sat g___astrolaberef2_Acc__Sat), (73, F_astrolaberef2_mul g_astrolaberef2_mul), (76, F_astrolaberef2_shifted g_astrolaberef2_shifted), (75, F___astrolaberef2_Acc__end g___astrolaberef2_Acc__end)]) ⟨[], [], [], [], none⟩ 200 71 [.r (.c (.ptr 0 (.k 0) 1)), .r (.c (.f (.i .i64 x0))), .r (.c (.f (.i .i64 x1))), .r (.c (.f (.i .i64 x2)))] [[.c (.f (.b x3))]] =
    K___astrolaberef2_Acc__Mul g___astrolaberef2_Acc__Sat g_astrolaberef2_mul g_astrolaberef2_shifted g___astrolaberef2_Acc__end  x0 x1 x2 x3 (fun (d : Int × Bool) => some (Res.mk (AV.r (RV.c (CV.f (FV.i IntKind.i64 d.1)))) [Ch.set [Sg.c (CV.f (FV.b d.2))]] [])) := by kernel_rfl
theorem m___astrolaberef2_Acc__Mul {ρ σ : Type} (q : ρ → Option σ) (g___astrolaberef2_Acc__Sat : Int → Bool → Option (Int × Bool)) (g_astrolaberef2_mul : Int → Int → Option (Int × Int × Bool)) (g_astrolaberef2_shifted : Int → Int → Bool → Int → Option (Int × Int × Bool)) (g___astrolaberef2_Acc__end : Int → Int → Bool → Bool → Option (Int × Bool))   (x0 : Int) (x1 : Int) (x2 : Int) (x3 : Bool) (k : (Int × Bool) → Option ρ) : (K___astrolaberef2_Acc__Mul g___astrolaberef2_Acc__Sat g_astrolaberef2_mul g_astrolaberef2_shifted g___astrolaberef2_Acc__end  x0 x1 x2 x3 k).bind q = K___astrolaberef2_Acc__Mul g___astrolaberef2_Acc__Sat g_astrolaberef2_mul g_astrolaberef2_shifted g___astrolaberef2_Acc__end  x0 x1 x2 x3 (fun d => (k d).bind q) := by
  simp only [K___astrolaberef2_Acc__Mul, bnd_cond, bnd_bind, bnd_none, bnd_sum]
theorem qa___astrolaberef2_Acc__Mul : ∀ b, (QA___astrolaberef2_Acc__Mul).em b = ([.r (.c (.ptr 0 (.k 0) 1)), .r (.c (.f (.i .i64 b.1.2.1))), .r (.c (.f (.i .i64 b.1.2.2.1))), .r (.c (.f (.i .i64 b.1.2.2.2.1)))], [[.c (.f (.b b.2.1.1))]]) := fun b => by kernel_rfl
theorem e___astrolaberef2_Acc__Mul {f : (Int) → (Int) → (Int) → (Bool) → Option (Int × Bool)} {args : List AV} {h : List Blk} {r : Res} (hr : (F___astrolaberef2_Acc__Mul f args h).eval = some r) : ∃ x0 x1 x2 x3, args = [.r (.c (.ptr 0 (.k 0) 1)), .r (.c (.f (.i .i64 x0))), .r (.c (.f (.i .i64 x1))), .r (.c (.f (.i .i64 x2)))] ∧ h = [[.c (.f (.b x3))]] ∧ (f x0 x1 x2 x3).bind (fun (d : Int × Bool) => some (Res.mk (AV.r (RV.c (CV.f (FV.i IntKind.i64 d.1)))) [Ch.set [Sg.c (CV.f (FV.b d.2))]] [])) = some r := by
  unfold F___astrolaberef2_Acc__Mul at hr
  split at hr
  · rename_i b hb
    have e := ((QA___astrolaberef2_Acc__Mul).ok _ _ hb).trans (qa___astrolaberef2_Acc__Mul b)
    rw [opt_eval2] at hr
    exact ⟨b.1.2.1, b.1.2.2.1, b.1.2.2.2.1, b.2.1.1, (Prod.mk.inj e).1, (Prod.mk.inj e).2, hr⟩
  · cases hr
theorem n___astrolaberef2_Acc__Mul {σ : Type} (q : (Int × Bool) → Option σ) (x0 : Int) (x1 : Int) (x2 : Int) (x3 : Bool) : (f___astrolaberef2_Acc__Mul x0 x1 x2 x3).bind q = K___astrolaberef2_Acc__Mul f___astrolaberef2_Acc__Sat f_astrolaberef2_mul f_astrolaberef2_shifted f___astrolaberef2_Acc__end  x0 x1 x2 x3 q := by
  unfold f___astrolaberef2_Acc__Mul
  exact m___astrolaberef2_Acc__Mul q f___astrolaberef2_Acc__Sat f_astrolaberef2_mul f_astrolaberef2_shifted f___astrolaberef2_Acc__end   x0 x1 x2 x3 some
theorem s___astrolaberef2_Acc__Mul : Sound Try.prog 71 (F___astrolaberef2_Acc__Mul f___astrolaberef2_Acc__Mul) :=
  (inl_sound (l := [(74, F___astrolaberef2_Acc__Sat f___astrolaberef2_Acc__Sat), (73, F_astrolaberef2_mul f_astrolaberef2_mul), (76, F_astrolaberef2_shifted f_astrolaberef2_shifted), (75, F___astrolaberef2_Acc__end f___astrolaberef2_Acc__end)]) (.cons s___astrolaberef2_Acc__Sat (.cons s_astrolaberef2_mul (.cons s_astrolaberef2_shifted (.cons s___astrolaberef2_Acc__end (.nil _))))) mixed [] [] 200 (by kernel_rfl)).by (F := F___astrolaberef2_Acc__Mul f___astrolaberef2_Acc__Mul) fun args b r hr => by
  obtain ⟨x0, x1, x2, x3, rfl, rfl, hr1⟩ := e___astrolaberef2_Acc__Mul hr
  exact inl_eval ((d___astrolaberef2_Acc__Mul f___astrolaberef2_Acc__Sat f_astrolaberef2_mul f_astrolaberef2_shifted f___astrolaberef2_Acc__end  x0 x1 x2 x3).trans ((n___astrolaberef2_Acc__Mul (fun (d : Int × Bool) => some (Res.mk (AV.r (RV.c (CV.f (FV.i IntKind.i64 d.1)))) [Ch.set [Sg.c (CV.f (FV.b d.2))]] [])) x0 x1 x2 x3).symm.trans hr1))

def K___astrolaberef2_Acc__M {ρ : Type} (g___astrolaberef2_Acc__Mul : Int → Int → Int → Bool → Option (Int × Bool))  (x0 : Int) (x1 : Int) (x2 : Bool) (k : (Int × Bool) → Option ρ) : Option ρ :=
  Option.bind (g___astrolaberef2_Acc__Mul x0 x1 30 x2) fun (d : Int × Bool) => k (d.1, d.2)
def f___astrolaberef2_Acc__M (x0 : Int) (x1 : Int) (x2 : Bool) : Option (Int × Bool) := K___astrolaberef2_Acc__M f___astrolaberef2_Acc__Mul  x0 x1 x2 some
section
open Go.Ab.Rdr
def QA___astrolaberef2_Acc__M := ((pair (cons (ar (rc (cptr (nat 0) (ok' (nat 0)) (nat 1)))) (cons (ar (rc (cf (fi .i64 hole)))) (cons (ar (rc (cf (fi .i64 hole)))) nil))) (cons (cons (gc (cf (fb hole))) nil) nil)) : Rdr (List AV × List Blk) _)
end
def F___astrolaberef2_Acc__M (f : (Int) → (Int) → (Bool) → Option (Int × Bool)) : Sem1 := fun args h => match (QA___astrolaberef2_Acc__M).rd (args, h) with
  | some b => .opt (f b.1.2.1 b.1.2.2.1 b.2.1.1) fun (d : Int × Bool) => .leaf (Res.mk (AV.r (RV.c (CV.f (FV.i IntKind.i64 d.1)))) [Ch.set [Sg.c (CV.f (FV.b d.2))]] [])
  | none => .fail
theorem d___astrolaberef2_Acc__M (g___astrolaberef2_Acc__Mul : Int → Int → Int → Bool → Option (Int × Bool))  (x0 : Int) (x1 : Int) (x2 : Bool) : den Try.prog (envOf [(71, F___astrolaberef2_Acc__Mul g___astrolaberef2_Acc__Mul)]) ⟨[], [], [], [], none⟩ 200 62 [.r (.c (.ptr 0 (.k 0) 1)), .r (.c (.f (.i .i64 x0))), .r (.c (.f (.i .i64 x1)))] [[.c (.f (.b x2))]] =
    K___astrolaberef2_Acc__M g___astrolaberef2_Acc__Mul  x0 x1 x2 (fun (d : Int × Bool) => some (Res.mk (AV.r (RV.c (CV.f (FV.i IntKind.i64 d.1)))) [Ch.set [Sg.c (CV.f (FV.b d.2))]] [])) := by kernel_rfl
theorem m___astrolaberef2_Acc__M {ρ σ : Type} (q : ρ → Option σ) (g___astrolaberef2_Acc__Mul : Int → Int → Int → Bool → Option (Int × Bool))   (x0 : Int) (x1 : Int) (x2 : Bool) (k : (Int × Bool) → Option ρ) : (K___astrolaberef2_Acc__M g___astrolaberef2_Acc__Mul  x0 x1 x2 k).bind q = K___astrolaberef2_Acc__M g___astrolaberef2_Acc__Mul  x0 x1 x2 (fun d => (k d).bind q) := by
  simp only [K___astrolaberef2_Acc__M, bnd_cond, bnd_bind, bnd_none, bnd_sum]
theorem qa___astrolaberef2_Acc__M : ∀ b, (QA___astrolaberef2_Acc__M).em b = ([.r (.c (.ptr 0 (.k 0) 1)), .r (.c (.f (.i .i64 b.1.2.1))), .r (.c (.f (.i .i64 b.1.2.2.1)))], [[.c (.f (.b b.2.1.1))]]) := fun b => by kernel_rfl
theorem e___astrolaberef2_Acc__M {f : (Int) → (Int) → (Bool) → Option (Int × Bool)} {args : List AV} {h : List Blk} {r : Res} (hr : (F___astrolaberef2_Acc__M f args h).eval = some r) : ∃ x0 x1 x2, args = [.r (.c (.ptr 0 (.k 0) 1)), .r (.c (.f (.i .i64 x0))), .r (.c (.f (.i .i64 x1)))] ∧ h = [[.c (.f (.b x2))]] ∧ (f x0 x1 x2).bind (fun (d : Int × Bool) => some (Res.mk (AV.r (RV.c (CV.f (FV.i IntKind.i64 d.1)))) [Ch.set [Sg.c (CV.f (FV.b d.2))]] [])) = some r := by
  unfold F___astrolaberef2_Acc__M at hr
  split at hr
  · rename_i b hb
    have e := ((QA___astrolaberef2_Acc__M).ok _ _ hb).trans (qa___astrolaberef2_Acc__M b)
    rw [opt_eval2] at hr
    exact ⟨b.1.2.1, b.1.2.2.1, b.2.1.1, (Prod.mk.inj e).1, (Prod.mk.inj e).2, hr⟩
  · cases hr
theorem n___astrolaberef2_Acc__M {σ : Type} (q : (Int × Bool) → Option σ) (x0 : Int) (x1 : Int) (x2 : Bool) : (f___astrolaberef2_Acc__M x0 x1 x2).bind q = K___astrolaberef2_Acc__M f___astrolaberef2_Acc__Mul  x0 x1 x2 q := by
  unfold f___astrolaberef2_Acc__M
  exact m___astrolaberef2_Acc__M q f___astrolaberef2_Acc__Mul   x0 x1 x2 some
theorem s___astrolaberef2_Acc__M : Sound Try.prog 62 (F___astrolaberef2_Acc__M f___astrolaberef2_Acc__M) :=
  (inl_sound (l := [(71, F___astrolaberef2_Acc__Mul f___astrolaberef2_Acc__Mul)]) (.cons s___astrolaberef2_Acc__Mul (.nil _)) mixed [] [] 200 (by kernel_rfl)).by (F := F___astrolaberef2_Acc__M f___astrolaberef2_Acc__M) fun args b r hr => by
  obtain ⟨x0, x1, x2, rfl, rfl, hr1⟩ := e___astrolaberef2_Acc__M hr
  exact inl_eval ((d___astrolaberef2_Acc__M f___astrolaberef2_Acc__Mul  x0 x1 x2).trans ((n___astrolaberef2_Acc__M (fun (d : Int × Bool) => some (Res.mk (AV.r (RV.c (CV.f (FV.i IntKind.i64 d.1)))) [Ch.set [Sg.c (CV.f (FV.b d.2))]] [])) x0 x1 x2).symm.trans hr1))

def S___astrolaberef2_Acc__Dot_0 {ρ : Type} (g___astrolaberef2_Acc__Sat : Int → Bool → Option (Int × Bool)) (g_astrolaberef2_mul : Int → Int → Option (Int × Int × Bool)) (g_astrolaberef2_add : Int → Int → Bool → Int → Int → Bool → Option (Int × Int × Bool)) (g_astrolaberef2_shifted : Int → Int → Bool → Int → Option (Int × Int × Bool)) (g___astrolaberef2_Acc__end : Int → Int → Bool → Bool → Option (Int × Bool))  (x0 : Int) (x1 : Nat) (x2 : Bool) (x3 : Nat) (x4 : Bool) (x5 : Int) (x6 : Bool) (x7 : Nat) (x8 : Nat → Int) (x9 : Nat) (x10 : Nat → Int) (x11 : Int) (x12 : Int) (x13 : Bool) (c : (Int × Nat × Bool × Nat × Bool × Int × Bool × Nat × (Nat → Int) × Nat × (Nat → Int) × Int × Int × Bool) → Option ρ) (x : (Int × Nat × Bool × Nat × Bool × Int × Int × Bool × Int × Bool × Bool × Bool × Nat × (Nat → Int) × Nat × (Nat → Int) × Int × Int × Bool ⊕
  Int × Nat × Bool × Nat × Bool × Int × Int × Bool × Int × Bool × Bool × Nat × (Nat → Int) × Nat × (Nat → Int) × Int × Int × Bool ⊕
    Int × Nat × Bool × Nat × Bool × Int × Int × Bool × Bool × Nat × (Nat → Int) × Nat × (Nat → Int) × Int × Int × Bool) → Option ρ) : Option ρ :=
  bif decide (x5 < Int.ofNat x1) then
    bif decide (x5 < Int.ofNat x3) then
      bif decide (x5 < 100) then
        bif inR x5 x1 then
          Option.bind (g___astrolaberef2_Acc__Sat (x8 (Int.toNat x5)) x6) fun (d : Int × Bool) =>
            bif inR x5 x3 then
              Option.bind (g___astrolaberef2_Acc__Sat (x10 (Int.toNat x5)) d.2) fun (d_1 : Int × Bool) =>
                Option.bind (g_astrolaberef2_mul d.1 d_1.1) fun (d : Int × Int × Bool) =>
                  Option.bind (g_astrolaberef2_add x11 x12 x13 d.1 d.2.1 d.2.2) fun (d : Int × Int × Bool) =>
                    c (x0, x1, x2, x3, x4, IntKind.wrap IntKind.i64 (x5 + 1), d_1.2, x7, x8, x9, x10, d.1, d.2.1, d.2.2)
            else none
        else none
      else x (Sum.inl (x0, x1, x2, x3, x4, x5, Int.ofNat x1, decide (x5 < Int.ofNat x1), Int.ofNat x3, decide (x5 < Int.ofNat x3), decide (x5 < 100), x6, x7, x8, x9, x10, x11, x12, x13))
    else x (Sum.inr (Sum.inl (x0, x1, x2, x3, x4, x5, Int.ofNat x1, decide (x5 < Int.ofNat x1), Int.ofNat x3, decide (x5 < Int.ofNat x3), x6, x7, x8, x9, x10, x11, x12, x13)))
  else x (Sum.inr (Sum.inr (x0, x1, x2, x3, x4, x5, Int.ofNat x1, decide (x5 < Int.ofNat x1), x6, x7, x8, x9, x10, x11, x12, x13)))
section
open Go.Ab.Rdr
def Q___astrolaberef2_Acc__Dot_0 := (st (cons (ar (rc (cptr (nat 0) (ok' (nat 0)) (nat 1)))) (cons (ar (rc (cf (fi .i64 hole)))) (cons (ar (rc (csl (nat 1) (ok' (nat 0)) (szs hole) (nat 1) hole))) (cons (ar (rc (csl (nat 2) (ok' (nat 0)) (szs hole) (nat 1) hole))) (cons (atup nil) (cons aund (cons aund (cons aund (cons aund (cons (ar (rc (cptr (nat 3) (ok' (nat 0)) (nat 3)))) (cons (ar (rc (cf (fi .i64 hole)))) (cons aund (cons aund (cons aund (cons aund (cons aund (cons aund (cons aund (cons aund (cons aund (cons aund (cons aund (cons aund (cons aund (cons aund (cons aund (cons aund (cons aund (cons aund (cons aund (cons aund (cons aund (cons aund (cons aund (cons aund (cons aund (cons aund (cons aund (cons aund (cons aund (cons aund (cons aund (cons aund (cons aund (cons aund (cons aund (cons aund (cons aund nil)))))))))))))))))))))))))))))))))))))))))))))))) (cons (some' (cons (gc (cf (fb hole))) nil)) (cons (some' (cons (ga (szs hole) (cons (ki .i64 hole) nil)) nil)) (cons (some' (cons (ga (szs hole) (cons (ki .i64 hole) nil)) nil)) (cons (some' (cons (gc (cf (fi .u64 hole))) (cons (gc (cf (fi .u64 hole))) (cons (gc (cf (fb hole))) nil)))) nil)))) (cons (nat 0) nil))
end
theorem q___astrolaberef2_Acc__Dot_0 : ∀ b, (Q___astrolaberef2_Acc__Dot_0).em b = St.mk
    [AV.r (RV.c (CV.ptr 0 (Off.k 0) 1)), AV.r (RV.c (CV.f (FV.i IntKind.i64 b.1.2.1))), AV.r (RV.c (CV.sl 1 (Off.k 0) (Sz.s b.1.2.2.1.2.2.1) 1 b.1.2.2.1.2.2.2.2)), AV.r (RV.c (CV.sl 2 (Off.k 0) (Sz.s b.1.2.2.2.1.2.2.1) 1 b.1.2.2.2.1.2.2.2.2)), AV.tup [], AV.und,
      AV.und, AV.und, AV.und, AV.r (RV.c (CV.ptr 3 (Off.k 0) 3)), AV.r (RV.c (CV.f (FV.i IntKind.i64 b.1.2.2.2.2.2.2.2.2.2.2.1))), AV.und, AV.und, AV.und, AV.und, AV.und, AV.und, AV.und, AV.und, AV.und, AV.und, AV.und,
      AV.und, AV.und, AV.und, AV.und, AV.und, AV.und, AV.und, AV.und, AV.und, AV.und, AV.und, AV.und, AV.und, AV.und, AV.und, AV.und, AV.und, AV.und, AV.und, AV.und, AV.und, AV.und, AV.und, AV.und,
      AV.und, AV.und]
    [some [Sg.c (CV.f (FV.b b.2.1.1.1))], some [Sg.a (Sz.s b.2.1.2.1.1.1) [Col.i IntKind.i64 b.2.1.2.1.1.2.1]], some [Sg.a (Sz.s b.2.1.2.2.1.1.1) [Col.i IntKind.i64 b.2.1.2.2.1.1.2.1]],
      some [Sg.c (CV.f (FV.i IntKind.u64 b.2.1.2.2.2.1.1)), Sg.c (CV.f (FV.i IntKind.u64 b.2.1.2.2.2.1.2.1)), Sg.c (CV.f (FV.b b.2.1.2.2.2.1.2.2.1))]]
    [0] := fun b => by kernel_rfl
def R___astrolaberef2_Acc__Dot_0 (l : ∀ {ρ : Type}, (Int × Nat × Bool × Nat × Bool × Int × Bool × Nat × (Nat → Int) × Nat × (Nat → Int) × Int × Int × Bool) → ((Int × Nat × Bool × Nat × Bool × Int × Int × Bool × Int × Bool × Bool × Bool × Nat × (Nat → Int) × Nat × (Nat → Int) × Int × Int × Bool ⊕
  Int × Nat × Bool × Nat × Bool × Int × Int × Bool × Int × Bool × Bool × Nat × (Nat → Int) × Nat × (Nat → Int) × Int × Int × Bool ⊕
    Int × Nat × Bool × Nat × Bool × Int × Int × Bool × Bool × Nat × (Nat → Int) × Nat × (Nat → Int) × Int × Int × Bool) → Option ρ) → Option ρ) {ρ : Type} (s : St) (K : AX → St → Option ρ) : Option ρ := ((Q___astrolaberef2_Acc__Dot_0).rd s).bind fun b => l (b.1.2.1, b.1.2.2.1.2.2.1, b.1.2.2.1.2.2.2.2, b.1.2.2.2.1.2.2.1, b.1.2.2.2.1.2.2.2.2, b.1.2.2.2.2.2.2.2.2.2.2.1, b.2.1.1.1, b.2.1.2.1.1.1, b.2.1.2.1.1.2.1, b.2.1.2.2.1.1.1, b.2.1.2.2.1.1.2.1, b.2.1.2.2.2.1.1, b.2.1.2.2.2.1.2.1, b.2.1.2.2.2.1.2.2.1) (Sum.elim (fun d => K (AX.ex 0) (St.mk
  [AV.r (RV.c (CV.ptr 0 (Off.k 0) 1)), AV.r (RV.c (CV.f (FV.i IntKind.i64 d.1))), AV.r (RV.c (CV.sl 1 (Off.k 0) (Sz.s d.2.1) 1 d.2.2.1)),
    AV.r (RV.c (CV.sl 2 (Off.k 0) (Sz.s d.2.2.2.1) 1 d.2.2.2.2.1)), AV.tup [], AV.und, AV.und, AV.und, AV.und, AV.r (RV.c (CV.ptr 3 (Off.k 0) 3)),
    AV.r (RV.c (CV.f (FV.i IntKind.i64 d.2.2.2.2.2.1))), AV.und, AV.r (RV.c (CV.f (FV.i IntKind.i64 d.2.2.2.2.2.1))),
    AV.r (RV.c (CV.sl 1 (Off.k 0) (Sz.s d.2.1) 1 d.2.2.1)), AV.r (RV.c (CV.f (FV.i IntKind.i64 d.2.2.2.2.2.2.1))), AV.r (RV.c (CV.f (FV.b d.2.2.2.2.2.2.2.1))),
    AV.r (RV.c (CV.f (FV.b true))), AV.r (RV.c (CV.f (FV.i IntKind.i64 d.2.2.2.2.2.1))), AV.r (RV.c (CV.sl 2 (Off.k 0) (Sz.s d.2.2.2.1) 1 d.2.2.2.2.1)),
    AV.r (RV.c (CV.f (FV.i IntKind.i64 d.2.2.2.2.2.2.2.2.1))), AV.r (RV.c (CV.f (FV.b d.2.2.2.2.2.2.2.2.2.1))),
    AV.r (RV.c (CV.f (FV.b d.2.2.2.2.2.2.2.2.2.1))), AV.r (RV.c (CV.f (FV.b true))), AV.r (RV.c (CV.f (FV.i IntKind.i64 d.2.2.2.2.2.1))),
    AV.r (RV.c (CV.f (FV.b d.2.2.2.2.2.2.2.2.2.2.1))), AV.r (RV.c (CV.f (FV.b d.2.2.2.2.2.2.2.2.2.2.1))), AV.und, AV.und, AV.und, AV.und, AV.und, AV.und,
    AV.und, AV.und, AV.und, AV.und, AV.und, AV.und, AV.und, AV.und, AV.und, AV.und, AV.und, AV.und, AV.und, AV.und, AV.und, AV.und]
  [some [Sg.c (CV.f (FV.b d.2.2.2.2.2.2.2.2.2.2.2.1))],
    some [Sg.a (Sz.s d.2.2.2.2.2.2.2.2.2.2.2.2.1) [Col.i IntKind.i64 d.2.2.2.2.2.2.2.2.2.2.2.2.2.1]],
    some [Sg.a (Sz.s d.2.2.2.2.2.2.2.2.2.2.2.2.2.2.1) [Col.i IntKind.i64 d.2.2.2.2.2.2.2.2.2.2.2.2.2.2.2.1]],
    some
      [Sg.c (CV.f (FV.i IntKind.u64 d.2.2.2.2.2.2.2.2.2.2.2.2.2.2.2.2.1)),
        Sg.c (CV.f (FV.i IntKind.u64 d.2.2.2.2.2.2.2.2.2.2.2.2.2.2.2.2.2.1)),
        Sg.c (CV.f (FV.b d.2.2.2.2.2.2.2.2.2.2.2.2.2.2.2.2.2.2))]]
  [0])) (Sum.elim (fun d => K (AX.ex 0) (St.mk
  [AV.r (RV.c (CV.ptr 0 (Off.k 0) 1)), AV.r (RV.c (CV.f (FV.i IntKind.i64 d.1))), AV.r (RV.c (CV.sl 1 (Off.k 0) (Sz.s d.2.1) 1 d.2.2.1)),
    AV.r (RV.c (CV.sl 2 (Off.k 0) (Sz.s d.2.2.2.1) 1 d.2.2.2.2.1)), AV.tup [], AV.und, AV.und, AV.und, AV.und, AV.r (RV.c (CV.ptr 3 (Off.k 0) 3)),
    AV.r (RV.c (CV.f (FV.i IntKind.i64 d.2.2.2.2.2.1))), AV.und, AV.r (RV.c (CV.f (FV.i IntKind.i64 d.2.2.2.2.2.1))),
    AV.r (RV.c (CV.sl 1 (Off.k 0) (Sz.s d.2.1) 1 d.2.2.1)), AV.r (RV.c (CV.f (FV.i IntKind.i64 d.2.2.2.2.2.2.1))), AV.r (RV.c (CV.f (FV.b d.2.2.2.2.2.2.2.1))),
    AV.r (RV.c (CV.f (FV.b true))), AV.r (RV.c (CV.f (FV.i IntKind.i64 d.2.2.2.2.2.1))), AV.r (RV.c (CV.sl 2 (Off.k 0) (Sz.s d.2.2.2.1) 1 d.2.2.2.2.1)),
    AV.r (RV.c (CV.f (FV.i IntKind.i64 d.2.2.2.2.2.2.2.2.1))), AV.r (RV.c (CV.f (FV.b d.2.2.2.2.2.2.2.2.2.1))),
    AV.r (RV.c (CV.f (FV.b d.2.2.2.2.2.2.2.2.2.1))), AV.r (RV.c (CV.f (FV.b false))), AV.tup [], AV.tup [], AV.r (RV.c (CV.f (FV.b false))), AV.und, AV.und, AV.und, AV.und, AV.und,
    AV.und, AV.und, AV.und, AV.und, AV.und, AV.und, AV.und, AV.und, AV.und, AV.und, AV.und, AV.und, AV.und, AV.und, AV.und, AV.und, AV.und]
  [some [Sg.c (CV.f (FV.b d.2.2.2.2.2.2.2.2.2.2.1))],
    some [Sg.a (Sz.s d.2.2.2.2.2.2.2.2.2.2.2.1) [Col.i IntKind.i64 d.2.2.2.2.2.2.2.2.2.2.2.2.1]],
    some [Sg.a (Sz.s d.2.2.2.2.2.2.2.2.2.2.2.2.2.1) [Col.i IntKind.i64 d.2.2.2.2.2.2.2.2.2.2.2.2.2.2.1]],
    some
      [Sg.c (CV.f (FV.i IntKind.u64 d.2.2.2.2.2.2.2.2.2.2.2.2.2.2.2.1)),
        Sg.c (CV.f (FV.i IntKind.u64 d.2.2.2.2.2.2.2.2.2.2.2.2.2.2.2.2.1)), Sg.c (CV.f (FV.b d.2.2.2.2.2.2.2.2.2.2.2.2.2.2.2.2.2))]]
  [0])) (fun d => K (AX.ex 0) (St.mk
  [AV.r (RV.c (CV.ptr 0 (Off.k 0) 1)), AV.r (RV.c (CV.f (FV.i IntKind.i64 d.1))), AV.r (RV.c (CV.sl 1 (Off.k 0) (Sz.s d.2.1) 1 d.2.2.1)),
    AV.r (RV.c (CV.sl 2 (Off.k 0) (Sz.s d.2.2.2.1) 1 d.2.2.2.2.1)), AV.tup [], AV.und, AV.und, AV.und, AV.und, AV.r (RV.c (CV.ptr 3 (Off.k 0) 3)),
    AV.r (RV.c (CV.f (FV.i IntKind.i64 d.2.2.2.2.2.1))), AV.und, AV.r (RV.c (CV.f (FV.i IntKind.i64 d.2.2.2.2.2.1))),
    AV.r (RV.c (CV.sl 1 (Off.k 0) (Sz.s d.2.1) 1 d.2.2.1)), AV.r (RV.c (CV.f (FV.i IntKind.i64 d.2.2.2.2.2.2.1))), AV.r (RV.c (CV.f (FV.b d.2.2.2.2.2.2.2.1))),
    AV.r (RV.c (CV.f (FV.b false))), AV.tup [], AV.tup [], AV.tup [], AV.tup [], AV.r (RV.c (CV.f (FV.b false))), AV.r (RV.c (CV.f (FV.b false))), AV.tup [], AV.tup [],
    AV.r (RV.c (CV.f (FV.b false))), AV.und, AV.und, AV.und, AV.und, AV.und, AV.und, AV.und, AV.und, AV.und, AV.und, AV.und, AV.und, AV.und, AV.und, AV.und, AV.und, AV.und, AV.und, AV.und, AV.und,
    AV.und, AV.und]
  [some [Sg.c (CV.f (FV.b d.2.2.2.2.2.2.2.2.1))], some [Sg.a (Sz.s d.2.2.2.2.2.2.2.2.2.1) [Col.i IntKind.i64 d.2.2.2.2.2.2.2.2.2.2.1]],
    some [Sg.a (Sz.s d.2.2.2.2.2.2.2.2.2.2.2.1) [Col.i IntKind.i64 d.2.2.2.2.2.2.2.2.2.2.2.2.1]],
    some
      [Sg.c (CV.f (FV.i IntKind.u64 d.2.2.2.2.2.2.2.2.2.2.2.2.2.1)), Sg.c (CV.f (FV.i IntKind.u64 d.2.2.2.2.2.2.2.2.2.2.2.2.2.2.1)),
        Sg.c (CV.f (FV.b d.2.2.2.2.2.2.2.2.2.2.2.2.2.2.2))]]
  [0]))))
theorem ms___astrolaberef2_Acc__Dot_0 {ρ σ : Type} (g___astrolaberef2_Acc__Sat : Int → Bool → Option (Int × Bool)) (g_astrolaberef2_mul : Int → Int → Option (Int × Int × Bool)) (g_astrolaberef2_add : Int → Int → Bool → Int → Int → Bool → Option (Int × Int × Bool)) (g_astrolaberef2_shifted : Int → Int → Bool → Int → Option (Int × Int × Bool)) (g___astrolaberef2_Acc__end : Int → Int → Bool → Bool → Option (Int × Bool))   (q : ρ → Option σ) (x0 : Int) (x1 : Nat) (x2 : Bool) (x3 : Nat) (x4 : Bool) (x5 : Int) (x6 : Bool) (x7 : Nat) (x8 : Nat → Int) (x9 : Nat) (x10 : Nat → Int) (x11 : Int) (x12 : Int) (x13 : Bool) (c : (Int × Nat × Bool × Nat × Bool × Int × Bool × Nat × (Nat → Int) × Nat × (Nat → Int) × Int × Int × Bool) → Option ρ) (x : (Int × Nat × Bool × Nat × Bool × Int × Int × Bool × Int × Bool × Bool × Bool × Nat × (Nat → Int) × Nat × (Nat → Int) × Int × Int × Bool ⊕
  Int × Nat × Bool × Nat × Bool × Int × Int × Bool × Int × Bool × Bool × Nat × (Nat → Int) × Nat × (Nat → Int) × Int × Int × Bool ⊕
    Int × Nat × Bool × Nat × Bool × Int × Int × Bool × Bool × Nat × (Nat → Int) × Nat × (Nat → Int) × Int × Int × Bool) → Option ρ) : (S___astrolaberef2_Acc__Dot_0 g___astrolaberef2_Acc__Sat g_astrolaberef2_mul g_astrolaberef2_add g_astrolaberef2_shifted g___astrolaberef2_Acc__end  x0 x1 x2 x3 x4 x5 x6 x7 x8 x9 x10 x11 x12 x13 c x).bind q = S___astrolaberef2_Acc__Dot_0 g___astrolaberef2_Acc__Sat g_astrolaberef2_mul g_astrolaberef2_add g_astrolaberef2_shifted g___astrolaberef2_Acc__end  x0 x1 x2 x3 x4 x5 x6 x7 x8 x9 x10 x11 x12 x13 (fun d => (c d).bind q) (fun d => (x d).bind q) := by
  simp only [S___astrolaberef2_Acc__Dot_0, bnd_cond, bnd_bind, bnd_none, bnd_sum]
def L___astrolaberef2_Acc__Dot_0 {ρ : Type} (d : Int × Nat × Bool × Nat × Bool × Int × Bool × Nat × (Nat → Int) × Nat × (Nat → Int) × Int × Int × Bool) (k : (Int × Nat × Bool × Nat × Bool × Int × Int × Bool × Int × Bool × Bool × Bool × Nat × (Nat → Int) × Nat × (Nat → Int) × Int × Int × Bool ⊕
  Int × Nat × Bool × Nat × Bool × Int × Int × Bool × Int × Bool × Bool × Nat × (Nat → Int) × Nat × (Nat → Int) × Int × Int × Bool ⊕
    Int × Nat × Bool × Nat × Bool × Int × Int × Bool × Bool × Nat × (Nat → Int) × Nat × (Nat → Int) × Int × Int × Bool) → Option ρ) : Option ρ := loopK (fun d c x => S___astrolaberef2_Acc__Dot_0 f___astrolaberef2_Acc__Sat f_astrolaberef2_mul f_astrolaberef2_add f_astrolaberef2_shifted f___astrolaberef2_Acc__end  d.1 d.2.1 d.2.2.1 d.2.2.2.1 d.2.2.2.2.1 d.2.2.2.2.2.1 d.2.2.2.2.2.2.1 d.2.2.2.2.2.2.2.1 d.2.2.2.2.2.2.2.2.1 d.2.2.2.2.2.2.2.2.2.1 d.2.2.2.2.2.2.2.2.2.2.1 d.2.2.2.2.2.2.2.2.2.2.2.1 d.2.2.2.2.2.2.2.2.2.2.2.2.1 d.2.2.2.2.2.2.2.2.2.2.2.2.2 c x) 200 d k
theorem mL___astrolaberef2_Acc__Dot_0 {ρ σ : Type} (q : ρ → Option σ) (d : Int × Nat × Bool × Nat × Bool × Int × Bool × Nat × (Nat → Int) × Nat × (Nat → Int) × Int × Int × Bool) (k : (Int × Nat × Bool × Nat × Bool × Int × Int × Bool × Int × Bool × Bool × Bool × Nat × (Nat → Int) × Nat × (Nat → Int) × Int × Int × Bool ⊕
  Int × Nat × Bool × Nat × Bool × Int × Int × Bool × Int × Bool × Bool × Nat × (Nat → Int) × Nat × (Nat → Int) × Int × Int × Bool ⊕
    Int × Nat × Bool × Nat × Bool × Int × Int × Bool × Bool × Nat × (Nat → Int) × Nat × (Nat → Int) × Int × Int × Bool) → Option ρ) : (L___astrolaberef2_Acc__Dot_0 d k).bind q = L___astrolaberef2_Acc__Dot_0 d fun x => (k x).bind q :=
  loopK_bind q (fun d c x => ms___astrolaberef2_Acc__Dot_0 f___astrolaberef2_Acc__Sat f_astrolaberef2_mul f_astrolaberef2_add f_astrolaberef2_shifted f___astrolaberef2_Acc__end   q d.1 d.2.1 d.2.2.1 d.2.2.2.1 d.2.2.2.2.1 d.2.2.2.2.2.1 d.2.2.2.2.2.2.1 d.2.2.2.2.2.2.2.1 d.2.2.2.2.2.2.2.2.1 d.2.2.2.2.2.2.2.2.2.1 d.2.2.2.2.2.2.2.2.2.2.1 d.2.2.2.2.2.2.2.2.2.2.2.1 d.2.2.2.2.2.2.2.2.2.2.2.2.1 d.2.2.2.2.2.2.2.2.2.2.2.2.2 c x) k _ d
theorem ds___astrolaberef2_Acc__Dot_0 {ρ : Type} (g___astrolaberef2_Acc__Sat : Int → Bool → Option (Int × Bool)) (g_astrolaberef2_mul : Int → Int → Option (Int × Int × Bool)) (g_astrolaberef2_add : Int → Int → Bool → Int → Int → Bool → Option (Int × Int × Bool)) (g_astrolaberef2_shifted : Int → Int → Bool → Int → Option (Int × Int × Bool)) (g___astrolaberef2_Acc__end : Int → Int → Bool → Bool → Option (Int × Bool)) (l_0 : ∀ {ρ : Type}, (Int × Nat × Bool × Nat × Bool × Int × Bool × Nat × (Nat → Int) × Nat × (Nat → Int) × Int × Int × Bool) → ((Int × Nat × Bool × Nat × Bool × Int × Int × Bool × Int × Bool × Bool × Bool × Nat × (Nat → Int) × Nat × (Nat → Int) × Int × Int × Bool ⊕
  Int × Nat × Bool × Nat × Bool × Int × Int × Bool × Int × Bool × Bool × Nat × (Nat → Int) × Nat × (Nat → Int) × Int × Int × Bool ⊕
    Int × Nat × Bool × Nat × Bool × Int × Int × Bool × Bool × Nat × (Nat → Int) × Nat × (Nat → Int) × Int × Int × Bool) → Option ρ) → Option ρ) (x0 : Int) (x1 : Nat) (x2 : Bool) (x3 : Nat) (x4 : Bool) (x5 : Int) (x6 : Bool) (x7 : Nat) (x8 : Nat → Int) (x9 : Nat) (x10 : Nat → Int) (x11 : Int) (x12 : Int) (x13 : Bool) (c : St → Option ρ) (K : AX → St → Option ρ) :
    runC Try.prog (envOf [(74, F___astrolaberef2_Acc__Sat g___astrolaberef2_Acc__Sat), (73, F_astrolaberef2_mul g_astrolaberef2_mul), (72, F_astrolaberef2_add g_astrolaberef2_add), (76, F_astrolaberef2_shifted g_astrolaberef2_shifted), (75, F___astrolaberef2_Acc__end g___astrolaberef2_Acc__end)]) ⟨[⟨3, [5, 6, 7, 8, 11, 12, 13, 14, 15, 16, 21, 22, 25, 26, 27, 28, 29, 30, 31, 32, 33, 34, 35, 36, 37, 38, 39, 40, 41, 42, 43, 44, 45, 46, 47, 17, 18, 19, 20, 23, 24], []⟩], [⟨3, 3, @R___astrolaberef2_Acc__Dot_0 (@l_0)⟩], [0], [], (some ⟨0, [0, 1, 2, 3, 4, 5, 6, 7, 9, 10, 11, 12, 13, 14, 15, 16, 17, 18, 19, 20, 21, 22, 23, 24, 25, 26, 27, 28, 29, 30, 31, 32, 33, 34, 35, 36, 37, 38, 39, 40, 41, 42, 43, 44, 45, 46, 47], []⟩)⟩ (tmpsOf Try.prog 63) 3 200 (loopIn Try.prog 63 3)
      (St.mk
    [AV.r (RV.c (CV.ptr 0 (Off.k 0) 1)), AV.r (RV.c (CV.f (FV.i IntKind.i64 x0))), AV.r (RV.c (CV.sl 1 (Off.k 0) (Sz.s x1) 1 x2)), AV.r (RV.c (CV.sl 2 (Off.k 0) (Sz.s x3) 1 x4)), AV.tup [], AV.und,
      AV.und, AV.und, AV.und, AV.r (RV.c (CV.ptr 3 (Off.k 0) 3)), AV.r (RV.c (CV.f (FV.i IntKind.i64 x5))), AV.und, AV.und, AV.und, AV.und, AV.und, AV.und, AV.und, AV.und, AV.und, AV.und, AV.und,
      AV.und, AV.und, AV.und, AV.und, AV.und, AV.und, AV.und, AV.und, AV.und, AV.und, AV.und, AV.und, AV.und, AV.und, AV.und, AV.und, AV.und, AV.und, AV.und, AV.und, AV.und, AV.und, AV.und, AV.und,
      AV.und, AV.und]
    [some [Sg.c (CV.f (FV.b x6))], some [Sg.a (Sz.s x7) [Col.i IntKind.i64 x8]], some [Sg.a (Sz.s x9) [Col.i IntKind.i64 x10]],
      some [Sg.c (CV.f (FV.i IntKind.u64 x11)), Sg.c (CV.f (FV.i IntKind.u64 x12)), Sg.c (CV.f (FV.b x13))]]
    [0])
      (next (fun t => t.head 3 ⟨[⟨3, [5, 6, 7, 8, 11, 12, 13, 14, 15, 16, 21, 22, 25, 26, 27, 28, 29, 30, 31, 32, 33, 34, 35, 36, 37, 38, 39, 40, 41, 42, 43, 44, 45, 46, 47, 17, 18, 19, 20, 23, 24], []⟩], [⟨3, 3, @R___astrolaberef2_Acc__Dot_0 (@l_0)⟩], [0], [], (some ⟨0, [0, 1, 2, 3, 4, 5, 6, 7, 9, 10, 11, 12, 13, 14, 15, 16, 17, 18, 19, 20, 21, 22, 23, 24, 25, 26, 27, 28, 29, 30, 31, 32, 33, 34, 35, 36, 37, 38, 39, 40, 41, 42, 43, 44, 45, 46, 47], []⟩)⟩ (loopIn Try.prog 63 3)) c K) =
    S___astrolaberef2_Acc__Dot_0 g___astrolaberef2_Acc__Sat g_astrolaberef2_mul g_astrolaberef2_add g_astrolaberef2_shifted g___astrolaberef2_Acc__end  x0 x1 x2 x3 x4 x5 x6 x7 x8 x9 x10 x11 x12 x13 (fun d => c (St.mk
  [AV.r (RV.c (CV.ptr 0 (Off.k 0) 1)), AV.r (RV.c (CV.f (FV.i IntKind.i64 d.1))), AV.r (RV.c (CV.sl 1 (Off.k 0) (Sz.s d.2.1) 1 d.2.2.1)),
    AV.r (RV.c (CV.sl 2 (Off.k 0) (Sz.s d.2.2.2.1) 1 d.2.2.2.2.1)), AV.tup [], AV.und, AV.und, AV.und, AV.und, AV.r (RV.c (CV.ptr 3 (Off.k 0) 3)),
    AV.r (RV.c (CV.f (FV.i IntKind.i64 d.2.2.2.2.2.1))), AV.und, AV.und, AV.und, AV.und, AV.und, AV.und, AV.und, AV.und, AV.und, AV.und, AV.und, AV.und, AV.und, AV.und, AV.und, AV.und,
    AV.und, AV.und, AV.und, AV.und, AV.und, AV.und, AV.und, AV.und, AV.und, AV.und, AV.und, AV.und, AV.und, AV.und, AV.und, AV.und, AV.und, AV.und, AV.und, AV.und, AV.und]
  [some [Sg.c (CV.f (FV.b d.2.2.2.2.2.2.1))], some [Sg.a (Sz.s d.2.2.2.2.2.2.2.1) [Col.i IntKind.i64 d.2.2.2.2.2.2.2.2.1]],
    some [Sg.a (Sz.s d.2.2.2.2.2.2.2.2.2.1) [Col.i IntKind.i64 d.2.2.2.2.2.2.2.2.2.2.1]],
    some
      [Sg.c (CV.f (FV.i IntKind.u64 d.2.2.2.2.2.2.2.2.2.2.2.1)), Sg.c (CV.f (FV.i IntKind.u64 d.2.2.2.2.2.2.2.2.2.2.2.2.1)),
        Sg.c (CV.f (FV.b d.2.2.2.2.2.2.2.2.2.2.2.2.2))]]
  [0])) (Sum.elim (fun d => K (AX.ex 0) (St.mk
  [AV.r (RV.c (CV.ptr 0 (Off.k 0) 1)), AV.r (RV.c (CV.f (FV.i IntKind.i64 d.1))), AV.r (RV.c (CV.sl 1 (Off.k 0) (Sz.s d.2.1) 1 d.2.2.1)),
    AV.r (RV.c (CV.sl 2 (Off.k 0) (Sz.s d.2.2.2.1) 1 d.2.2.2.2.1)), AV.tup [], AV.und, AV.und, AV.und, AV.und, AV.r (RV.c (CV.ptr 3 (Off.k 0) 3)),
    AV.r (RV.c (CV.f (FV.i IntKind.i64 d.2.2.2.2.2.1))), AV.und, AV.r (RV.c (CV.f (FV.i IntKind.i64 d.2.2.2.2.2.1))),
    AV.r (RV.c (CV.sl 1 (Off.k 0) (Sz.s d.2.1) 1 d.2.2.1)), AV.r (RV.c (CV.f (FV.i IntKind.i64 d.2.2.2.2.2.2.1))), AV.r (RV.c (CV.f (FV.b d.2.2.2.2.2.2.2.1))),
    AV.r (RV.c (CV.f (FV.b true))), AV.r (RV.c (CV.f (FV.i IntKind.i64 d.2.2.2.2.2.1))), AV.r (RV.c (CV.sl 2 (Off.k 0) (Sz.s d.2.2.2.1) 1 d.2.2.2.2.1)),
    AV.r (RV.c (CV.f (FV.i IntKind.i64 d.2.2.2.2.2.2.2.2.1))), AV.r (RV.c (CV.f (FV.b d.2.2.2.2.2.2.2.2.2.1))),
    AV.r (RV.c (CV.f (FV.b d.2.2.2.2.2.2.2.2.2.1))), AV.r (RV.c (CV.f (FV.b true))), AV.r (RV.c (CV.f (FV.i IntKind.i64 d.2.2.2.2.2.1))),
    AV.r (RV.c (CV.f (FV.b d.2.2.2.2.2.2.2.2.2.2.1))), AV.r (RV.c (CV.f (FV.b d.2.2.2.2.2.2.2.2.2.2.1))), AV.und, AV.und, AV.und, AV.und, AV.und, AV.und,
    AV.und, AV.und, AV.und, AV.und, AV.und, AV.und, AV.und, AV.und, AV.und, AV.und, AV.und, AV.und, AV.und, AV.und, AV.und, AV.und]
  [some [Sg.c (CV.f (FV.b d.2.2.2.2.2.2.2.2.2.2.2.1))],
    some [Sg.a (Sz.s d.2.2.2.2.2.2.2.2.2.2.2.2.1) [Col.i IntKind.i64 d.2.2.2.2.2.2.2.2.2.2.2.2.2.1]],
    some [Sg.a (Sz.s d.2.2.2.2.2.2.2.2.2.2.2.2.2.2.1) [Col.i IntKind.i64 d.2.2.2.2.2.2.2.2.2.2.2.2.2.2.2.1]],
    some
      [Sg.c (CV.f (FV.i IntKind.u64 d.2.2.2.2.2.2.2.2.2.2.2.2.2.2.2.2.1)),
        Sg.c (CV.f (FV.i IntKind.u64 d.2.2.2.2.2.2.2.2.2.2.2.2.2.2.2.2.2.1)),
        Sg.c (CV.f (FV.b d.2.2.2.2.2.2.2.2.2.2.2.2.2.2.2.2.2.2))]]
  [0])) (Sum.elim (fun d => K (AX.ex 0) (St.mk
  [AV.r (RV.c (CV.ptr 0 (Off.k 0) 1)), AV.r (RV.c (CV.f (FV.i IntKind.i64 d.1))), AV.r (RV.c (CV.sl 1 (Off.k 0) (Sz.s d.2.1) 1 d.2.2.1)),
    AV.r (RV.c (CV.sl 2 (Off.k 0) (Sz.s d.2.2.2.1) 1 d.2.2.2.2.1)), AV.tup [], AV.und, AV.und, AV.und, AV.und, AV.r (RV.c (CV.ptr 3 (Off.k 0) 3)),
    AV.r (RV.c (CV.f (FV.i IntKind.i64 d.2.2.2.2.2.1))), AV.und, AV.r (RV.c (CV.f (FV.i IntKind.i64 d.2.2.2.2.2.1))),
    AV.r (RV.c (CV.sl 1 (Off.k 0) (Sz.s d.2.1) 1 d.2.2.1)), AV.r (RV.c (CV.f (FV.i IntKind.i64 d.2.2.2.2.2.2.1))), AV.r (RV.c (CV.f (FV.b d.2.2.2.2.2.2.2.1))),
    AV.r (RV.c (CV.f (FV.b true))), AV.r (RV.c (CV.f (FV.i IntKind.i64 d.2.2.2.2.2.1))), AV.r (RV.c (CV.sl 2 (Off.k 0) (Sz.s d.2.2.2.1) 1 d.2.2.2.2.1)),
    AV.r (RV.c (CV.f (FV.i IntKind.i64 d.2.2.2.2.2.2.2.2.1))), AV.r (RV.c (CV.f (FV.b d.2.2.2.2.2.2.2.2.2.1))),
    AV.r (RV.c (CV.f (FV.b d.2.2.2.2.2.2.2.2.2.1))), AV.r (RV.c (CV.f (FV.b false))), AV.tup [], AV.tup [], AV.r (RV.c (CV.f (FV.b false))), AV.und, AV.und, AV.und, AV.und, AV.und,
    AV.und, AV.und, AV.und, AV.und, AV.und, AV.und, AV.und, AV.und, AV.und, AV.und, AV.und, AV.und, AV.und, AV.und, AV.und, AV.und, AV.und]
  [some [Sg.c (CV.f (FV.b d.2.2.2.2.2.2.2.2.2.2.1))],
    some [Sg.a (Sz.s d.2.2.2.2.2.2.2.2.2.2.2.1) [Col.i IntKind.i64 d.2.2.2.2.2.2.2.2.2.2.2.2.1]],
    some [Sg.a (Sz.s d.2.2.2.2.2.2.2.2.2.2.2.2.2.1) [Col.i IntKind.i64 d.2.2.2.2.2.2.2.2.2.2.2.2.2.2.1]],
    some
      [Sg.c (CV.f (FV.i IntKind.u64 d.2.2.2.2.2.2.2.2.2.2.2.2.2.2.2.1)),
        Sg.c (CV.f (FV.i IntKind.u64 d.2.2.2.2.2.2.2.2.2.2.2.2.2.2.2.2.1)), Sg.c (CV.f (FV.b d.2.2.2.2.2.2.2.2.2.2.2.2.2.2.2.2.2))]]
  [0])) (fun d => K (AX.ex 0) (St.mk
  [AV.r (RV.c (CV.ptr 0 (Off.k 0) 1)), AV.r (RV.c (CV.f (FV.i IntKind.i64 d.1))), AV.r (RV.c (CV.sl 1 (Off.k 0) (Sz.s d.2.1) 1 d.2.2.1)),
    AV.r (RV.c (CV.sl 2 (Off.k 0) (Sz.s d.2.2.2.1) 1 d.2.2.2.2.1)), AV.tup [], AV.und, AV.und, AV.und, AV.und, AV.r (RV.c (CV.ptr 3 (Off.k 0) 3)),
    AV.r (RV.c (CV.f (FV.i IntKind.i64 d.2.2.2.2.2.1))), AV.und, AV.r (RV.c (CV.f (FV.i IntKind.i64 d.2.2.2.2.2.1))),
    AV.r (RV.c (CV.sl 1 (Off.k 0) (Sz.s d.2.1) 1 d.2.2.1)), AV.r (RV.c (CV.f (FV.i IntKind.i64 d.2.2.2.2.2.2.1))), AV.r (RV.c (CV.f (FV.b d.2.2.2.2.2.2.2.1))),
    AV.r (RV.c (CV.f (FV.b false))), AV.tup [], AV.tup [], AV.tup [], AV.tup [], AV.r (RV.c (CV.f (FV.b false))), AV.r (RV.c (CV.f (FV.b false))), AV.tup [], AV.tup [],
    AV.r (RV.c (CV.f (FV.b false))), AV.und, AV.und, AV.und, AV.und, AV.und, AV.und, AV.und, AV.und, AV.und, AV.und, AV.und, AV.und, AV.und, AV.und, AV.und, AV.und, AV.und, AV.und, AV.und, AV.und,
    AV.und, AV.und]
  [some [Sg.c (CV.f (FV.b d.2.2.2.2.2.2.2.2.1))], some [Sg.a (Sz.s d.2.2.2.2.2.2.2.2.2.1) [Col.i IntKind.i64 d.2.2.2.2.2.2.2.2.2.2.1]],
    some [Sg.a (Sz.s d.2.2.2.2.2.2.2.2.2.2.2.1) [Col.i IntKind.i64 d.2.2.2.2.2.2.2.2.2.2.2.2.1]],
    some
      [Sg.c (CV.f (FV.i IntKind.u64 d.2.2.2.2.2.2.2.2.2.2.2.2.2.1)), Sg.c (CV.f (FV.i IntKind.u64 d.2.2.2.2.2.2.2.2.2.2.2.2.2.2.1)),
        Sg.c (CV.f (FV.b d.2.2.2.2.2.2.2.2.2.2.2.2.2.2.2))]]
  [0])))) := by kernel_rfl
theorem it___astrolaberef2_Acc__Dot_0 {ρ : Type} (x0 : Int) (x1 : Nat) (x2 : Bool) (x3 : Nat) (x4 : Bool) (x5 : Int) (x6 : Bool) (x7 : Nat) (x8 : Nat → Int) (x9 : Nat) (x10 : Nat → Int) (x11 : Int) (x12 : Int) (x13 : Bool) (K : AX → St → Option ρ) :
    iter (fun t => t.head 3 ⟨[⟨3, [5, 6, 7, 8, 11, 12, 13, 14, 15, 16, 21, 22, 25, 26, 27, 28, 29, 30, 31, 32, 33, 34, 35, 36, 37, 38, 39, 40, 41, 42, 43, 44, 45, 46, 47, 17, 18, 19, 20, 23, 24], []⟩], [⟨3, 3, @R___astrolaberef2_Acc__Dot_0 (@L___astrolaberef2_Acc__Dot_0)⟩], [0], [], (some ⟨0, [0, 1, 2, 3, 4, 5, 6, 7, 9, 10, 11, 12, 13, 14, 15, 16, 17, 18, 19, 20, 21, 22, 23, 24, 25, 26, 27, 28, 29, 30, 31, 32, 33, 34, 35, 36, 37, 38, 39, 40, 41, 42, 43, 44, 45, 46, 47], []⟩)⟩ (loopIn Try.prog 63 3)) (runC Try.prog (envOf [(74, F___astrolaberef2_Acc__Sat f___astrolaberef2_Acc__Sat), (73, F_astrolaberef2_mul f_astrolaberef2_mul), (72, F_astrolaberef2_add f_astrolaberef2_add), (76, F_astrolaberef2_shifted f_astrolaberef2_shifted), (75, F___astrolaberef2_Acc__end f___astrolaberef2_Acc__end)]) ⟨[⟨3, [5, 6, 7, 8, 11, 12, 13, 14, 15, 16, 21, 22, 25, 26, 27, 28, 29, 30, 31, 32, 33, 34, 35, 36, 37, 38, 39, 40, 41, 42, 43, 44, 45, 46, 47, 17, 18, 19, 20, 23, 24], []⟩], [⟨3, 3, @R___astrolaberef2_Acc__Dot_0 (@L___astrolaberef2_Acc__Dot_0)⟩], [0], [], (some ⟨0, [0, 1, 2, 3, 4, 5, 6, 7, 9, 10, 11, 12, 13, 14, 15, 16, 17, 18, 19, 20, 21, 22, 23, 24, 25, 26, 27, 28, 29, 30, 31, 32, 33, 34, 35, 36, 37, 38, 39, 40, 41, 42, 43, 44, 45, 46, 47], []⟩)⟩ (tmpsOf Try.prog 63) 3 200 (loopIn Try.prog 63 3)) K 200
      (St.mk
    [AV.r (RV.c (CV.ptr 0 (Off.k 0) 1)), AV.r (RV.c (CV.f (FV.i IntKind.i64 x0))), AV.r (RV.c (CV.sl 1 (Off.k 0) (Sz.s x1) 1 x2)), AV.r (RV.c (CV.sl 2 (Off.k 0) (Sz.s x3) 1 x4)), AV.tup [], AV.und,
      AV.und, AV.und, AV.und, AV.r (RV.c (CV.ptr 3 (Off.k 0) 3)), AV.r (RV.c (CV.f (FV.i IntKind.i64 x5))), AV.und, AV.und, AV.und, AV.und, AV.und, AV.und, AV.und, AV.und, AV.und, AV.und, AV.und,
      AV.und, AV.und, AV.und, AV.und, AV.und, AV.und, AV.und, AV.und, AV.und, AV.und, AV.und, AV.und, AV.und, AV.und, AV.und, AV.und, AV.und, AV.und, AV.und, AV.und, AV.und, AV.und, AV.und, AV.und,
      AV.und, AV.und]
    [some [Sg.c (CV.f (FV.b x6))], some [Sg.a (Sz.s x7) [Col.i IntKind.i64 x8]], some [Sg.a (Sz.s x9) [Col.i IntKind.i64 x10]],
      some [Sg.c (CV.f (FV.i IntKind.u64 x11)), Sg.c (CV.f (FV.i IntKind.u64 x12)), Sg.c (CV.f (FV.b x13))]]
    [0]) = L___astrolaberef2_Acc__Dot_0 (x0, x1, x2, x3, x4, x5, x6, x7, x8, x9, x10, x11, x12, x13) (Sum.elim (fun d => K (AX.ex 0) (St.mk
  [AV.r (RV.c (CV.ptr 0 (Off.k 0) 1)), AV.r (RV.c (CV.f (FV.i IntKind.i64 d.1))), AV.r (RV.c (CV.sl 1 (Off.k 0) (Sz.s d.2.1) 1 d.2.2.1)),
    AV.r (RV.c (CV.sl 2 (Off.k 0) (Sz.s d.2.2.2.1) 1 d.2.2.2.2.1)), AV.tup [], AV.und, AV.und, AV.und, AV.und, AV.r (RV.c (CV.ptr 3 (Off.k 0) 3)),
    AV.r (RV.c (CV.f (FV.i IntKind.i64 d.2.2.2.2.2.1))), AV.und, AV.r (RV.c (CV.f (FV.i IntKind.i64 d.2.2.2.2.2.1))),
    AV.r (RV.c (CV.sl 1 (Off.k 0) (Sz.s d.2.1) 1 d.2.2.1)), AV.r (RV.c (CV.f (FV.i IntKind.i64 d.2.2.2.2.2.2.1))), AV.r (RV.c (CV.f (FV.b d.2.2.2.2.2.2.2.1))),
    AV.r (RV.c (CV.f (FV.b true))), AV.r (RV.c (CV.f (FV.i IntKind.i64 d.2.2.2.2.2.1))), AV.r (RV.c (CV.sl 2 (Off.k 0) (Sz.s d.2.2.2.1) 1 d.2.2.2.2.1)),
    AV.r (RV.c (CV.f (FV.i IntKind.i64 d.2.2.2.2.2.2.2.2.1))), AV.r (RV.c (CV.f (FV.b d.2.2.2.2.2.2.2.2.2.1))),
    AV.r (RV.c (CV.f (FV.b d.2.2.2.2.2.2.2.2.2.1))), AV.r (RV.c (CV.f (FV.b true))), AV.r (RV.c (CV.f (FV.i IntKind.i64 d.2.2.2.2.2.1))),
    AV.r (RV.c (CV.f (FV.b d.2.2.2.2.2.2.2.2.2.2.1))), AV.r (RV.c (CV.f (FV.b d.2.2.2.2.2.2.2.2.2.2.1))), AV.und, AV.und, AV.und, AV.und, AV.und, AV.und,
    AV.und, AV.und, AV.und, AV.und, AV.und, AV.und, AV.und, AV.und, AV.und, AV.und, AV.und, AV.und, AV.und, AV.und, AV.und, AV.und]
  [some [Sg.c (CV.f (FV.b d.2.2.2.2.2.2.2.2.2.2.2.1))],
    some [Sg.a (Sz.s d.2.2.2.2.2.2.2.2.2.2.2.2.1) [Col.i IntKind.i64 d.2.2.2.2.2.2.2.2.2.2.2.2.2.1]],
    some [Sg.a (Sz.s d.2.2.2.2.2.2.2.2.2.2.2.2.2.2.1) [Col.i IntKind.i64 d.2.2.2.2.2.2.2.2.2.2.2.2.2.2.2.1]],
    some
      [Sg.c (CV.f (FV.i IntKind.u64 d.2.2.2.2.2.2.2.2.2.2.2.2.2.2.2.2.1)),
        Sg.c (CV.f (FV.i IntKind.u64 d.2.2.2.2.2.2.2.2.2.2.2.2.2.2.2.2.2.1)),
        Sg.c (CV.f (FV.b d.2.2.2.2.2.2.2.2.2.2.2.2.2.2.2.2.2.2))]]
  [0])) (Sum.elim (fun d => K (AX.ex 0) (St.mk
  [AV.r (RV.c (CV.ptr 0 (Off.k 0) 1)), AV.r (RV.c (CV.f (FV.i IntKind.i64 d.1))), AV.r (RV.c (CV.sl 1 (Off.k 0) (Sz.s d.2.1) 1 d.2.2.1)),
    AV.r (RV.c (CV.sl 2 (Off.k 0) (Sz.s d.2.2.2.1) 1 d.2.2.2.2.1)), AV.tup [], AV.und, AV.und, AV.und, AV.und, AV.r (RV.c (CV.ptr 3 (Off.k 0) 3)),
    AV.r (RV.c (CV.f (FV.i IntKind.i64 d.2.2.2.2.2.1))), AV.und, AV.r (RV.c (CV.f (FV.i IntKind.i64 d.2.2.2.2.2.1))),
    AV.r (RV.c (CV.sl 1 (Off.k 0) (Sz.s d.2.1) 1 d.2.2.1)), AV.r (RV.c (CV.f (FV.i IntKind.i64 d.2.2.2.2.2.2.1))), AV.r (RV.c (CV.f (FV.b d.2.2.2.2.2.2.2.1))),
    AV.r (RV.c (CV.f (FV.b true))), AV.r (RV.c (CV.f (FV.i IntKind.i64 d.2.2.2.2.2.1))), AV.r (RV.c (CV.sl 2 (Off.k 0) (Sz.s d.2.2.2.1) 1 d.2.2.2.2.1)),
    AV.r (RV.c (CV.f (FV.i IntKind.i64 d.2.2.2.2.2.2.2.2.1))), AV.r (RV.c (CV.f (FV.b d.2.2.2.2.2.2.2.2.2.1))),
    AV.r (RV.c (CV.f (FV.b d.2.2.2.2.2.2.2.2.2.1))), AV.r (RV.c (CV.f (FV.b false))), AV.tup [], AV.tup [], AV.r (RV.c (CV.f (FV.b false))), AV.und, AV.und, AV.und, AV.und, AV.und,
    AV.und, AV.und, AV.und, AV.und, AV.und, AV.und, AV.und, AV.und, AV.und, AV.und, AV.und, AV.und, AV.und, AV.und, AV.und, AV.und, AV.und]
  [some [Sg.c (CV.f (FV.b d.2.2.2.2.2.2.2.2.2.2.1))],
    some [Sg.a (Sz.s d.2.2.2.2.2.2.2.2.2.2.2.1) [Col.i IntKind.i64 d.2.2.2.2.2.2.2.2.2.2.2.2.1]],
    some [Sg.a (Sz.s d.2.2.2.2.2.2.2.2.2.2.2.2.2.1) [Col.i IntKind.i64 d.2.2.2.2.2.2.2.2.2.2.2.2.2.2.1]],
    some
      [Sg.c (CV.f (FV.i IntKind.u64 d.2.2.2.2.2.2.2.2.2.2.2.2.2.2.2.1)),
        Sg.c (CV.f (FV.i IntKind.u64 d.2.2.2.2.2.2.2.2.2.2.2.2.2.2.2.2.1)), Sg.c (CV.f (FV.b d.2.2.2.2.2.2.2.2.2.2.2.2.2.2.2.2.2))]]
  [0])) (fun d => K (AX.ex 0) (St.mk
  [AV.r (RV.c (CV.ptr 0 (Off.k 0) 1)), AV.r (RV.c (CV.f (FV.i IntKind.i64 d.1))), AV.r (RV.c (CV.sl 1 (Off.k 0) (Sz.s d.2.1) 1 d.2.2.1)),
    AV.r (RV.c (CV.sl 2 (Off.k 0) (Sz.s d.2.2.2.1) 1 d.2.2.2.2.1)), AV.tup [], AV.und, AV.und, AV.und, AV.und, AV.r (RV.c (CV.ptr 3 (Off.k 0) 3)),
    AV.r (RV.c (CV.f (FV.i IntKind.i64 d.2.2.2.2.2.1))), AV.und, AV.r (RV.c (CV.f (FV.i IntKind.i64 d.2.2.2.2.2.1))),
    AV.r (RV.c (CV.sl 1 (Off.k 0) (Sz.s d.2.1) 1 d.2.2.1)), AV.r (RV.c (CV.f (FV.i IntKind.i64 d.2.2.2.2.2.2.1))), AV.r (RV.c (CV.f (FV.b d.2.2.2.2.2.2.2.1))),
    AV.r (RV.c (CV.f (FV.b false))), AV.tup [], AV.tup [], AV.tup [], AV.tup [], AV.r (RV.c (CV.f (FV.b false))), AV.r (RV.c (CV.f (FV.b false))), AV.tup [], AV.tup [],
    AV.r (RV.c (CV.f (FV.b false))), AV.und, AV.und, AV.und, AV.und, AV.und, AV.und, AV.und, AV.und, AV.und, AV.und, AV.und, AV.und, AV.und, AV.und, AV.und, AV.und, AV.und, AV.und, AV.und, AV.und,
    AV.und, AV.und]
  [some [Sg.c (CV.f (FV.b d.2.2.2.2.2.2.2.2.1))], some [Sg.a (Sz.s d.2.2.2.2.2.2.2.2.2.1) [Col.i IntKind.i64 d.2.2.2.2.2.2.2.2.2.2.1]],
    some [Sg.a (Sz.s d.2.2.2.2.2.2.2.2.2.2.2.1) [Col.i IntKind.i64 d.2.2.2.2.2.2.2.2.2.2.2.2.1]],
    some
      [Sg.c (CV.f (FV.i IntKind.u64 d.2.2.2.2.2.2.2.2.2.2.2.2.2.1)), Sg.c (CV.f (FV.i IntKind.u64 d.2.2.2.2.2.2.2.2.2.2.2.2.2.2.1)),
        Sg.c (CV.f (FV.b d.2.2.2.2.2.2.2.2.2.2.2.2.2.2.2))]]
  [0])))) :=
  iter_loopX (emb := fun (d : Int × Nat × Bool × Nat × Bool × Int × Bool × Nat × (Nat → Int) × Nat × (Nat → Int) × Int × Int × Bool) => St.mk
  [AV.r (RV.c (CV.ptr 0 (Off.k 0) 1)), AV.r (RV.c (CV.f (FV.i IntKind.i64 d.1))), AV.r (RV.c (CV.sl 1 (Off.k 0) (Sz.s d.2.1) 1 d.2.2.1)),
    AV.r (RV.c (CV.sl 2 (Off.k 0) (Sz.s d.2.2.2.1) 1 d.2.2.2.2.1)), AV.tup [], AV.und, AV.und, AV.und, AV.und, AV.r (RV.c (CV.ptr 3 (Off.k 0) 3)),
    AV.r (RV.c (CV.f (FV.i IntKind.i64 d.2.2.2.2.2.1))), AV.und, AV.und, AV.und, AV.und, AV.und, AV.und, AV.und, AV.und, AV.und, AV.und, AV.und, AV.und, AV.und, AV.und, AV.und, AV.und,
    AV.und, AV.und, AV.und, AV.und, AV.und, AV.und, AV.und, AV.und, AV.und, AV.und, AV.und, AV.und, AV.und, AV.und, AV.und, AV.und, AV.und, AV.und, AV.und, AV.und, AV.und]
  [some [Sg.c (CV.f (FV.b d.2.2.2.2.2.2.1))], some [Sg.a (Sz.s d.2.2.2.2.2.2.2.1) [Col.i IntKind.i64 d.2.2.2.2.2.2.2.2.1]],
    some [Sg.a (Sz.s d.2.2.2.2.2.2.2.2.2.1) [Col.i IntKind.i64 d.2.2.2.2.2.2.2.2.2.2.1]],
    some
      [Sg.c (CV.f (FV.i IntKind.u64 d.2.2.2.2.2.2.2.2.2.2.2.1)), Sg.c (CV.f (FV.i IntKind.u64 d.2.2.2.2.2.2.2.2.2.2.2.2.1)),
        Sg.c (CV.f (FV.b d.2.2.2.2.2.2.2.2.2.2.2.2.2))]]
  [0]) (step := fun d c x => S___astrolaberef2_Acc__Dot_0 f___astrolaberef2_Acc__Sat f_astrolaberef2_mul f_astrolaberef2_add f_astrolaberef2_shifted f___astrolaberef2_Acc__end  d.1 d.2.1 d.2.2.1 d.2.2.2.1 d.2.2.2.2.1 d.2.2.2.2.2.1 d.2.2.2.2.2.2.1 d.2.2.2.2.2.2.2.1 d.2.2.2.2.2.2.2.2.1 d.2.2.2.2.2.2.2.2.2.1 d.2.2.2.2.2.2.2.2.2.2.1 d.2.2.2.2.2.2.2.2.2.2.2.1 d.2.2.2.2.2.2.2.2.2.2.2.2.1 d.2.2.2.2.2.2.2.2.2.2.2.2.2 c x) (kx := (Sum.elim (fun d => K (AX.ex 0) (St.mk
  [AV.r (RV.c (CV.ptr 0 (Off.k 0) 1)), AV.r (RV.c (CV.f (FV.i IntKind.i64 d.1))), AV.r (RV.c (CV.sl 1 (Off.k 0) (Sz.s d.2.1) 1 d.2.2.1)),
    AV.r (RV.c (CV.sl 2 (Off.k 0) (Sz.s d.2.2.2.1) 1 d.2.2.2.2.1)), AV.tup [], AV.und, AV.und, AV.und, AV.und, AV.r (RV.c (CV.ptr 3 (Off.k 0) 3)),
    AV.r (RV.c (CV.f (FV.i IntKind.i64 d.2.2.2.2.2.1))), AV.und, AV.r (RV.c (CV.f (FV.i IntKind.i64 d.2.2.2.2.2.1))),
    AV.r (RV.c (CV.sl 1 (Off.k 0) (Sz.s d.2.1) 1 d.2.2.1)), AV.r (RV.c (CV.f (FV.i IntKind.i64 d.2.2.2.2.2.2.1))), AV.r (RV.c (CV.f (FV.b d.2.2.2.2.2.2.2.1))),
    AV.r (RV.c (CV.f (FV.b true))), AV.r (RV.c (CV.f (FV.i IntKind.i64 d.2.2.2.2.2.1))), AV.r (RV.c (CV.sl 2 (Off.k 0) (Sz.s d.2.2.2.1) 1 d.2.2.2.2.1)),
    AV.r (RV.c (CV.f (FV.i IntKind.i64 d.2.2.2.2.2.2.2.2.1))), AV.r (RV.c (CV.f (FV.b d.2.2.2.2.2.2.2.2.2.1))),
    AV.r (RV.c (CV.f (FV.b d.2.2.2.2.2.2.2.2.2.1))), AV.r (RV.c (CV.f (FV.b true))), AV.r (RV.c (CV.f (FV.i IntKind.i64 d.2.2.2.2.2.1))),
    AV.r (RV.c (CV.f (FV.b d.2.2.2.2.2.2.2.2.2.2.1))), AV.r (RV.c (CV.f (FV.b d.2.2.2.2.2.2.2.2.2.2.1))), AV.und, AV.und, AV.und, AV.und, AV.und, AV.und,
    AV.und, AV.und, AV.und, AV.und, AV.und, AV.und, AV.und, AV.und, AV.und, AV.und, AV.und, AV.und, AV.und, AV.und, AV.und, AV.und]
  [some [Sg.c (CV.f (FV.b d.2.2.2.2.2.2.2.2.2.2.2.1))],
    some [Sg.a (Sz.s d.2.2.2.2.2.2.2.2.2.2.2.2.1) [Col.i IntKind.i64 d.2.2.2.2.2.2.2.2.2.2.2.2.2.1]],
    some [Sg.a (Sz.s d.2.2.2.2.2.2.2.2.2.2.2.2.2.2.1) [Col.i IntKind.i64 d.2.2.2.2.2.2.2.2.2.2.2.2.2.2.2.1]],
    some
      [Sg.c (CV.f (FV.i IntKind.u64 d.2.2.2.2.2.2.2.2.2.2.2.2.2.2.2.2.1)),
        Sg.c (CV.f (FV.i IntKind.u64 d.2.2.2.2.2.2.2.2.2.2.2.2.2.2.2.2.2.1)),
        Sg.c (CV.f (FV.b d.2.2.2.2.2.2.2.2.2.2.2.2.2.2.2.2.2.2))]]
  [0])) (Sum.elim (fun d => K (AX.ex 0) (St.mk
  [AV.r (RV.c (CV.ptr 0 (Off.k 0) 1)), AV.r (RV.c (CV.f (FV.i IntKind.i64 d.1))), AV.r (RV.c (CV.sl 1 (Off.k 0) (Sz.s d.2.1) 1 d.2.2.1)),
    AV.r (RV.c (CV.sl 2 (Off.k 0) (Sz.s d.2.2.2.1) 1 d.2.2.2.2.1)), AV.tup [], AV.und, AV.und, AV.und, AV.und, AV.r (RV.c (CV.ptr 3 (Off.k 0) 3)),
    AV.r (RV.c (CV.f (FV.i IntKind.i64 d.2.2.2.2.2.1))), AV.und, AV.r (RV.c (CV.f (FV.i IntKind.i64 d.2.2.2.2.2.1))),
    AV.r (RV.c (CV.sl 1 (Off.k 0) (Sz.s d.2.1) 1 d.2.2.1)), AV.r (RV.c (CV.f (FV.i IntKind.i64 d.2.2.2.2.2.2.1))), AV.r (RV.c (CV.f (FV.b d.2.2.2.2.2.2.2.1))),
    AV.r (RV.c (CV.f (FV.b true))), AV.r (RV.c (CV.f (FV.i IntKind.i64 d.2.2.2.2.2.1))), AV.r (RV.c (CV.sl 2 (Off.k 0) (Sz.s d.2.2.2.1) 1 d.2.2.2.2.1)),
    AV.r (RV.c (CV.f (FV.i IntKind.i64 d.2.2.2.2.2.2.2.2.1))), AV.r (RV.c (CV.f (FV.b d.2.2.2.2.2.2.2.2.2.1))),
    AV.r (RV.c (CV.f (FV.b d.2.2.2.2.2.2.2.2.2.1))), AV.r (RV.c (CV.f (FV.b false))), AV.tup [], AV.tup [], AV.r (RV.c (CV.f (FV.b false))), AV.und, AV.und, AV.und, AV.und, AV.und,
    AV.und, AV.und, AV.und, AV.und, AV.und, AV.und, AV.und, AV.und, AV.und, AV.und, AV.und, AV.und, AV.und, AV.und, AV.und, AV.und, AV.und]
  [some [Sg.c (CV.f (FV.b d.2.2.2.2.2.2.2.2.2.2.1))],
    some [Sg.a (Sz.s d.2.2.2.2.2.2.2.2.2.2.2.1) [Col.i IntKind.i64 d.2.2.2.2.2.2.2.2.2.2.2.2.1]],
    some [Sg.a (Sz.s d.2.2.2.2.2.2.2.2.2.2.2.2.2.1) [Col.i IntKind.i64 d.2.2.2.2.2.2.2.2.2.2.2.2.2.2.1]],
    some
      [Sg.c (CV.f (FV.i IntKind.u64 d.2.2.2.2.2.2.2.2.2.2.2.2.2.2.2.1)),
        Sg.c (CV.f (FV.i IntKind.u64 d.2.2.2.2.2.2.2.2.2.2.2.2.2.2.2.2.1)), Sg.c (CV.f (FV.b d.2.2.2.2.2.2.2.2.2.2.2.2.2.2.2.2.2))]]
  [0])) (fun d => K (AX.ex 0) (St.mk
  [AV.r (RV.c (CV.ptr 0 (Off.k 0) 1)), AV.r (RV.c (CV.f (FV.i IntKind.i64 d.1))), AV.r (RV.c (CV.sl 1 (Off.k 0) (Sz.s d.2.1) 1 d.2.2.1)),
    AV.r (RV.c (CV.sl 2 (Off.k 0) (Sz.s d.2.2.2.1) 1 d.2.2.2.2.1)), AV.tup [], AV.und, AV.und, AV.und, AV.und, AV.r (RV.c (CV.ptr 3 (Off.k 0) 3)),
    AV.r (RV.c (CV.f (FV.i IntKind.i64 d.2.2.2.2.2.1))), AV.und, AV.r (RV.c (CV.f (FV.i IntKind.i64 d.2.2.2.2.2.1))),
    AV.r (RV.c (CV.sl 1 (Off.k 0) (Sz.s d.2.1) 1 d.2.2.1)), AV.r (RV.c (CV.f (FV.i IntKind.i64 d.2.2.2.2.2.2.1))), AV.r (RV.c (CV.f (FV.b d.2.2.2.2.2.2.2.1))),
    AV.r (RV.c (CV.f (FV.b false))), AV.tup [], AV.tup [], AV.tup [], AV.tup [], AV.r (RV.c (CV.f (FV.b false))), AV.r (RV.c (CV.f (FV.b false))), AV.tup [], AV.tup [],
    AV.r (RV.c (CV.f (FV.b false))), AV.und, AV.und, AV.und, AV.und, AV.und, AV.und, AV.und, AV.und, AV.und, AV.und, AV.und, AV.und, AV.und, AV.und, AV.und, AV.und, AV.und, AV.und, AV.und, AV.und,
    AV.und, AV.und]
  [some [Sg.c (CV.f (FV.b d.2.2.2.2.2.2.2.2.1))], some [Sg.a (Sz.s d.2.2.2.2.2.2.2.2.2.1) [Col.i IntKind.i64 d.2.2.2.2.2.2.2.2.2.2.1]],
    some [Sg.a (Sz.s d.2.2.2.2.2.2.2.2.2.2.2.1) [Col.i IntKind.i64 d.2.2.2.2.2.2.2.2.2.2.2.2.1]],
    some
      [Sg.c (CV.f (FV.i IntKind.u64 d.2.2.2.2.2.2.2.2.2.2.2.2.2.1)), Sg.c (CV.f (FV.i IntKind.u64 d.2.2.2.2.2.2.2.2.2.2.2.2.2.2.1)),
        Sg.c (CV.f (FV.b d.2.2.2.2.2.2.2.2.2.2.2.2.2.2.2))]]
  [0])))))
    (fun d c => ds___astrolaberef2_Acc__Dot_0 f___astrolaberef2_Acc__Sat f_astrolaberef2_mul f_astrolaberef2_add f_astrolaberef2_shifted f___astrolaberef2_Acc__end (@L___astrolaberef2_Acc__Dot_0) d.1 d.2.1 d.2.2.1 d.2.2.2.1 d.2.2.2.2.1 d.2.2.2.2.2.1 d.2.2.2.2.2.2.1 d.2.2.2.2.2.2.2.1 d.2.2.2.2.2.2.2.2.1 d.2.2.2.2.2.2.2.2.2.1 d.2.2.2.2.2.2.2.2.2.2.1 d.2.2.2.2.2.2.2.2.2.2.2.1 d.2.2.2.2.2.2.2.2.2.2.2.2.1 d.2.2.2.2.2.2.2.2.2.2.2.2.2 c K) 200 (x0, x1, x2, x3, x4, x5, x6, x7, x8, x9, x10, x11, x12, x13)
theorem so___astrolaberef2_Acc__Dot_0 : ∀ kk, SumOK Try.prog (envOf [(74, F___astrolaberef2_Acc__Sat f___astrolaberef2_Acc__Sat), (73, F_astrolaberef2_mul f_astrolaberef2_mul), (72, F_astrolaberef2_add f_astrolaberef2_add), (76, F_astrolaberef2_shifted f_astrolaberef2_shifted), (75, F___astrolaberef2_Acc__end f___astrolaberef2_Acc__end)]) ⟨[⟨3, [5, 6, 7, 8, 11, 12, 13, 14, 15, 16, 21, 22, 25, 26, 27, 28, 29, 30, 31, 32, 33, 34, 35, 36, 37, 38, 39, 40, 41, 42, 43, 44, 45, 46, 47, 17, 18, 19, 20, 23, 24], []⟩], [⟨3, 3, @R___astrolaberef2_Acc__Dot_0 (@L___astrolaberef2_Acc__Dot_0)⟩], [0], [], (some ⟨0, [0, 1, 2, 3, 4, 5, 6, 7, 9, 10, 11, 12, 13, 14, 15, 16, 17, 18, 19, 20, 21, 22, 23, 24, 25, 26, 27, 28, 29, 30, 31, 32, 33, 34, 35, 36, 37, 38, 39, 40, 41, 42, 43, 44, 45, 46, 47], []⟩)⟩ (tmpsOf Try.prog 63) kk 200 (loopIn Try.prog 63 3) :=
  SumOK.of (id := 3) (k0 := 3) (run := @R___astrolaberef2_Acc__Dot_0 (@L___astrolaberef2_Acc__Dot_0)) (by kernel_rfl) fun s K r hr => by
    unfold R___astrolaberef2_Acc__Dot_0 at hr
    obtain ⟨b, hb, hr1⟩ := Option.bind_eq_some_iff.1 hr
    have e := ((Q___astrolaberef2_Acc__Dot_0).ok s b hb).trans (q___astrolaberef2_Acc__Dot_0 b)
    subst e
    exact ⟨200, (it___astrolaberef2_Acc__Dot_0 b.1.2.1 b.1.2.2.1.2.2.1 b.1.2.2.1.2.2.2.2 b.1.2.2.2.1.2.2.1 b.1.2.2.2.1.2.2.2.2 b.1.2.2.2.2.2.2.2.2.2.2.1 b.2.1.1.1 b.2.1.2.1.1.1 b.2.1.2.1.1.2.1 b.2.1.2.2.1.1.1 b.2.1.2.2.1.1.2.1 b.2.1.2.2.2.1.1 b.2.1.2.2.2.1.2.1 b.2.1.2.2.2.1.2.2.1 K).trans hr1⟩
def K___astrolaberef2_Acc__Dot {ρ : Type} (g___astrolaberef2_Acc__Sat : Int → Bool → Option (Int × Bool)) (g_astrolaberef2_mul : Int → Int → Option (Int × Int × Bool)) (g_astrolaberef2_add : Int → Int → Bool → Int → Int → Bool → Option (Int × Int × Bool)) (g_astrolaberef2_shifted : Int → Int → Bool → Int → Option (Int × Int × Bool)) (g___astrolaberef2_Acc__end : Int → Int → Bool → Bool → Option (Int × Bool)) (l_0 : ∀ {ρ : Type}, (Int × Nat × Bool × Nat × Bool × Int × Bool × Nat × (Nat → Int) × Nat × (Nat → Int) × Int × Int × Bool) → ((Int × Nat × Bool × Nat × Bool × Int × Int × Bool × Int × Bool × Bool × Bool × Nat × (Nat → Int) × Nat × (Nat → Int) × Int × Int × Bool ⊕
  Int × Nat × Bool × Nat × Bool × Int × Int × Bool × Int × Bool × Bool × Nat × (Nat → Int) × Nat × (Nat → Int) × Int × Int × Bool ⊕
    Int × Nat × Bool × Nat × Bool × Int × Int × Bool × Bool × Nat × (Nat → Int) × Nat × (Nat → Int) × Int × Int × Bool) → Option ρ) → Option ρ) (x0 : Int) (x1 : Nat) (x2 : Nat) (x3 : Bool) (x4 : Nat → Int) (x5 : Nat → Int) (w0 : Bool) (w1 : Bool) (k : (Int × Bool) → Option ρ) : Option ρ :=
  l_0 (x0, x1, w0, x2, w1, 0, x3, x1, x4, x2, x5, 0, 0, false)
    (Sum.elim
      (fun (d : Int × Nat × Bool × Nat × Bool × Int × Int × Bool × Int × Bool × Bool × Bool × Nat × (Nat → Int) × Nat × (Nat → Int) × Int × Int × Bool) =>
        Option.bind
          (g_astrolaberef2_shifted d.2.2.2.2.2.2.2.2.2.2.2.2.2.2.2.2.1 d.2.2.2.2.2.2.2.2.2.2.2.2.2.2.2.2.2.1
            d.2.2.2.2.2.2.2.2.2.2.2.2.2.2.2.2.2.2 d.1)
          fun (d_1 : Int × Int × Bool) =>
          Option.bind (g___astrolaberef2_Acc__end d_1.1 d_1.2.1 d_1.2.2 d.2.2.2.2.2.2.2.2.2.2.2.1) fun (d : Int × Bool) => k (d.1, d.2))
      (Sum.elim
        (fun (d : Int × Nat × Bool × Nat × Bool × Int × Int × Bool × Int × Bool × Bool × Nat × (Nat → Int) × Nat × (Nat → Int) × Int × Int × Bool) =>
          Option.bind
            (g_astrolaberef2_shifted d.2.2.2.2.2.2.2.2.2.2.2.2.2.2.2.1 d.2.2.2.2.2.2.2.2.2.2.2.2.2.2.2.2.1
              d.2.2.2.2.2.2.2.2.2.2.2.2.2.2.2.2.2 d.1)
            fun (d_1 : Int × Int × Bool) =>
            Option.bind (g___astrolaberef2_Acc__end d_1.1 d_1.2.1 d_1.2.2 d.2.2.2.2.2.2.2.2.2.2.1) fun (d : Int × Bool) => k (d.1, d.2))
        fun (d : Int × Nat × Bool × Nat × Bool × Int × Int × Bool × Bool × Nat × (Nat → Int) × Nat × (Nat → Int) × Int × Int × Bool) =>
        Option.bind
          (g_astrolaberef2_shifted d.2.2.2.2.2.2.2.2.2.2.2.2.2.1 d.2.2.2.2.2.2.2.2.2.2.2.2.2.2.1
            d.2.2.2.2.2.2.2.2.2.2.2.2.2.2.2 d.1)
          fun (d_1 : Int × Int × Bool) => Option.bind (g___astrolaberef2_Acc__end d_1.1 d_1.2.1 d_1.2.2 d.2.2.2.2.2.2.2.2.1) fun (d : Int × Bool) => k (d.1, d.2)))
def f___astrolaberef2_Acc__Dot (x0 : Int) (x1 : Nat) (x2 : Nat) (x3 : Bool) (x4 : Nat → Int) (x5 : Nat → Int) (w0 : Bool) (w1 : Bool) : Option (Int × Bool) := K___astrolaberef2_Acc__Dot f___astrolaberef2_Acc__Sat f_astrolaberef2_mul f_astrolaberef2_add f_astrolaberef2_shifted f___astrolaberef2_Acc__end (@L___astrolaberef2_Acc__Dot_0) x0 x1 x2 x3 x4 x5 w0 w1 some
section
open Go.Ab.Rdr
def QA___astrolaberef2_Acc__Dot := ((pair (cons (ar (rc (cptr (nat 0) (ok' (nat 0)) (nat 1)))) (cons (ar (rc (cf (fi .i64 hole)))) (cons (ar (rc (csl (nat 1) (ok' (nat 0)) (szs hole) (nat 1) hole))) (cons (ar (rc (csl (nat 2) (ok' (nat 0)) (szs hole) (nat 1) hole))) nil)))) (cons (cons (gc (cf (fb hole))) nil) (cons (cons (ga (szs hole) (cons (ki .i64 hole) nil)) nil) (cons (cons (ga (szs hole) (cons (ki .i64 hole) nil)) nil) nil)))) : Rdr (List AV × List Blk) _)
end
def F0___astrolaberef2_Acc__Dot (f : (Int) → (Nat) → (Nat) → (Bool) → (Nat → Int) → (Nat → Int) → (Bool) → (Bool) → Option (Int × Bool)) : Sem1 := fun args h => match (QA___astrolaberef2_Acc__Dot).rd (args, h) with
  | some b => .test (Nat.beq b.2.2.1.1.1 b.1.2.2.1.2.2.1) (.test (Nat.beq b.2.2.2.1.1.1 b.1.2.2.2.1.2.2.1) (.opt (f b.1.2.1 b.1.2.2.1.2.2.1 b.1.2.2.2.1.2.2.1 b.2.1.1 b.2.2.1.1.2.1 b.2.2.2.1.1.2.1 b.1.2.2.1.2.2.2.2 b.1.2.2.2.1.2.2.2.2) fun (d : Int × Bool) => .leaf (Res.mk (AV.r (RV.c (CV.f (FV.i IntKind.i64 d.1)))) [Ch.set [Sg.c (CV.f (FV.b d.2))], Ch.keep, Ch.keep] [])) .fail) .fail
  | none => .fail
def F___astrolaberef2_Acc__Dot (f : (Int) → (Nat) → (Nat) → (Bool) → (Nat → Int) → (Nat → Int) → (Bool) → (Bool) → Option (Int × Bool)) : Sem1 := (nilF 3 [.i .i64] (nilF 2 [.i .i64] (F0___astrolaberef2_Acc__Dot f)))
theorem d___astrolaberef2_Acc__Dot (g___astrolaberef2_Acc__Sat : Int → Bool → Option (Int × Bool)) (g_astrolaberef2_mul : Int → Int → Option (Int × Int × Bool)) (g_astrolaberef2_add : Int → Int → Bool → Int → Int → Bool → Option (Int × Int × Bool)) (g_astrolaberef2_shifted : Int → Int → Bool → Int → Option (Int × Int × Bool)) (g___astrolaberef2_Acc__end : Int → Int → Bool → Bool → Option (Int × Bool)) (l_0 : ∀ {ρ : Type}, (Int × Nat × Bool × Nat × Bool × Int × Bool × Nat × (Nat → Int) × Nat × (Nat → Int) × Int × Int × Bool) → ((Int × Nat × Bool × Nat × Bool × Int × Int × Bool × Int × Bool × Bool × Bool × Nat × (Nat → Int) × Nat × (Nat → Int) × Int × Int × Bool ⊕
  Int × Nat × Bool × Nat × Bool × Int × Int × Bool × Int × Bool × Bool × Nat × (Nat → Int) × Nat × (Nat → Int) × Int × Int × Bool ⊕
    Int × Nat × Bool × Nat × Bool × Int × Int × Bool × Bool × Nat × (Nat → Int) × Nat × (Nat → Int) × Int × Int × Bool) → Option ρ) → Option ρ) (x0 : Int) (x1 : Nat) (x2 : Nat) (x3 : Bool) (x4 : Nat → Int) (x5 : Nat → Int) (w0 : Bool) (w1 : Bool) : den Try.prog (envOf [(74, F___astrolaberef2_Acc__Sat g___astrolaberef2_Acc__Sat), (73, F_astrolaberef2_mul g_astrolaberef2_mul), (72, F_astrolaberef2_add g_astrolaberef2_add), (76, F_astrolaberef2_shifted g_astrolaberef2_shifted), (75, F___astrolaberef2_Acc__end g___astrolaberef2_Acc__end)]) ⟨[⟨3, [5, 6, 7, 8, 11, 12, 13, 14, 15, 16, 21, 22, 25, 26, 27, 28, 29, 30, 31, 32, 33, 34, 35, 36, 37, 38, 39, 40, 41, 42, 43, 44, 45, 46, 47, 17, 18, 19, 20, 23, 24], []⟩], [⟨3, 3, @R___astrolaberef2_Acc__Dot_0 (@l_0)⟩], [0], [], (some ⟨0, [0, 1, 2, 3, 4, 5, 6, 7, 9, 10, 11, 12, 13, 14, 15, 16, 17, 18, 19, 20, 21, 22, 23, 24, 25, 26, 27, 28, 29, 30, 31, 32, 33, 34, 35, 36, 37, 38, 39, 40, 41, 42, 43, 44, 45, 46, 47], []⟩)⟩ 200 63 [.r (.c (.ptr 0 (.k 0) 1)), .r (.c (.f (.i .i64 x0))), .r (.c (.sl 1 (.k 0) (.s x1) 1 w0)), .r (.c (.sl 2 (.k 0) (.s x2) 1 w1))] [[.c (.f (.b x3))], [.a (.s x1) [.i .i64 x4]], [.a (.s x2) [.i .i64 x5]]] =
    K___astrolaberef2_Acc__Dot g___astrolaberef2_Acc__Sat g_astrolaberef2_mul g_astrolaberef2_add g_astrolaberef2_shifted g___astrolaberef2_Acc__end (@l_0) x0 x1 x2 x3 x4 x5 w0 w1 (fun (d : Int × Bool) => some (Res.mk (AV.r (RV.c (CV.f (FV.i IntKind.i64 d.1)))) [Ch.set [Sg.c (CV.f (FV.b d.2))], Ch.keep, Ch.keep] [])) := by kernel_rfl
theorem m___astrolaberef2_Acc__Dot {ρ σ : Type} (q : ρ → Option σ) (g___astrolaberef2_Acc__Sat : Int → Bool → Option (Int × Bool)) (g_astrolaberef2_mul : Int → Int → Option (Int × Int × Bool)) (g_astrolaberef2_add : Int → Int → Bool → Int → Int → Bool → Option (Int × Int × Bool)) (g_astrolaberef2_shifted : Int → Int → Bool → Int → Option (Int × Int × Bool)) (g___astrolaberef2_Acc__end : Int → Int → Bool → Bool → Option (Int × Bool)) (l_0 : ∀ {ρ : Type}, (Int × Nat × Bool × Nat × Bool × Int × Bool × Nat × (Nat → Int) × Nat × (Nat → Int) × Int × Int × Bool) → ((Int × Nat × Bool × Nat × Bool × Int × Int × Bool × Int × Bool × Bool × Bool × Nat × (Nat → Int) × Nat × (Nat → Int) × Int × Int × Bool ⊕
  Int × Nat × Bool × Nat × Bool × Int × Int × Bool × Int × Bool × Bool × Nat × (Nat → Int) × Nat × (Nat → Int) × Int × Int × Bool ⊕
    Int × Nat × Bool × Nat × Bool × Int × Int × Bool × Bool × Nat × (Nat → Int) × Nat × (Nat → Int) × Int × Int × Bool) → Option ρ) → Option ρ) (hl_0 : ∀ {ρ σ : Type} (q : ρ → Option σ) (d : Int × Nat × Bool × Nat × Bool × Int × Bool × Nat × (Nat → Int) × Nat × (Nat → Int) × Int × Int × Bool) (k : (Int × Nat × Bool × Nat × Bool × Int × Int × Bool × Int × Bool × Bool × Bool × Nat × (Nat → Int) × Nat × (Nat → Int) × Int × Int × Bool ⊕
  Int × Nat × Bool × Nat × Bool × Int × Int × Bool × Int × Bool × Bool × Nat × (Nat → Int) × Nat × (Nat → Int) × Int × Int × Bool ⊕
    Int × Nat × Bool × Nat × Bool × Int × Int × Bool × Bool × Nat × (Nat → Int) × Nat × (Nat → Int) × Int × Int × Bool) → Option ρ), (l_0 d k).bind q = l_0 d fun x => (k x).bind q) (x0 : Int) (x1 : Nat) (x2 : Nat) (x3 : Bool) (x4 : Nat → Int) (x5 : Nat → Int) (w0 : Bool) (w1 : Bool) (k : (Int × Bool) → Option ρ) : (K___astrolaberef2_Acc__Dot g___astrolaberef2_Acc__Sat g_astrolaberef2_mul g_astrolaberef2_add g_astrolaberef2_shifted g___astrolaberef2_Acc__end (@l_0) x0 x1 x2 x3 x4 x5 w0 w1 k).bind q = K___astrolaberef2_Acc__Dot g___astrolaberef2_Acc__Sat g_astrolaberef2_mul g_astrolaberef2_add g_astrolaberef2_shifted g___astrolaberef2_Acc__end (@l_0) x0 x1 x2 x3 x4 x5 w0 w1 (fun d => (k d).bind q) := by
  simp only [K___astrolaberef2_Acc__Dot, bnd_cond, bnd_bind, bnd_none, bnd_sum, hl_0]
theorem qa___astrolaberef2_Acc__Dot : ∀ b, (QA___astrolaberef2_Acc__Dot).em b = ([.r (.c (.ptr 0 (.k 0) 1)), .r (.c (.f (.i .i64 b.1.2.1))), .r (.c (.sl 1 (.k 0) (.s b.1.2.2.1.2.2.1) 1 b.1.2.2.1.2.2.2.2)), .r (.c (.sl 2 (.k 0) (.s b.1.2.2.2.1.2.2.1) 1 b.1.2.2.2.1.2.2.2.2))], [[.c (.f (.b b.2.1.1))], [.a (.s b.2.2.1.1.1) [.i .i64 b.2.2.1.1.2.1]], [.a (.s b.2.2.2.1.1.1) [.i .i64 b.2.2.2.1.1.2.1]]]) := fun b => by kernel_rfl
theorem e___astrolaberef2_Acc__Dot {f : (Int) → (Nat) → (Nat) → (Bool) → (Nat → Int) → (Nat → Int) → (Bool) → (Bool) → Option (Int × Bool)} {args : List AV} {h : List Blk} {r : Res} (hr : (F0___astrolaberef2_Acc__Dot f args h).eval = some r) : ∃ x0 x1 x2 x3 x4 x5 w0 w1, args = [.r (.c (.ptr 0 (.k 0) 1)), .r (.c (.f (.i .i64 x0))), .r (.c (.sl 1 (.k 0) (.s x1) 1 w0)), .r (.c (.sl 2 (.k 0) (.s x2) 1 w1))] ∧ h = [[.c (.f (.b x3))], [.a (.s x1) [.i .i64 x4]], [.a (.s x2) [.i .i64 x5]]] ∧ (f x0 x1 x2 x3 x4 x5 w0 w1).bind (fun (d : Int × Bool) => some (Res.mk (AV.r (RV.c (CV.f (FV.i IntKind.i64 d.1)))) [Ch.set [Sg.c (CV.f (FV.b d.2))], Ch.keep, Ch.keep] [])) = some r := by
  unfold F0___astrolaberef2_Acc__Dot at hr
  split at hr
  · rename_i b hb
    have e := ((QA___astrolaberef2_Acc__Dot).ok _ _ hb).trans (qa___astrolaberef2_Acc__Dot b)
    obtain ⟨he, hr1⟩ := test_eval hr
    clear hr
    have hr := hr1
    clear hr1
    rw [Nat.eq_of_beq_eq_true he] at e
    clear he
    obtain ⟨he, hr1⟩ := test_eval hr
    clear hr
    have hr := hr1
    clear hr1
    rw [Nat.eq_of_beq_eq_true he] at e
    clear he
    rw [opt_eval2] at hr
    exact ⟨b.1.2.1, b.1.2.2.1.2.2.1, b.1.2.2.2.1.2.2.1, b.2.1.1, b.2.2.1.1.2.1, b.2.2.2.1.1.2.1, b.1.2.2.1.2.2.2.2, b.1.2.2.2.1.2.2.2.2, (Prod.mk.inj e).1, (Prod.mk.inj e).2, hr⟩
  · cases hr
theorem n___astrolaberef2_Acc__Dot {σ : Type} (q : (Int × Bool) → Option σ) (x0 : Int) (x1 : Nat) (x2 : Nat) (x3 : Bool) (x4 : Nat → Int) (x5 : Nat → Int) (w0 : Bool) (w1 : Bool) : (f___astrolaberef2_Acc__Dot x0 x1 x2 x3 x4 x5 w0 w1).bind q = K___astrolaberef2_Acc__Dot f___astrolaberef2_Acc__Sat f_astrolaberef2_mul f_astrolaberef2_add f_astrolaberef2_shifted f___astrolaberef2_Acc__end (@L___astrolaberef2_Acc__Dot_0) x0 x1 x2 x3 x4 x5 w0 w1 q := by
  unfold f___astrolaberef2_Acc__Dot
  exact m___astrolaberef2_Acc__Dot q f___astrolaberef2_Acc__Sat f_astrolaberef2_mul f_astrolaberef2_add f_astrolaberef2_shifted f___astrolaberef2_Acc__end (@L___astrolaberef2_Acc__Dot_0) (fun q d k => mL___astrolaberef2_Acc__Dot_0 q d k) x0 x1 x2 x3 x4 x5 w0 w1 some
theorem s___astrolaberef2_Acc__Dot : Sound Try.prog 63 (F___astrolaberef2_Acc__Dot f___astrolaberef2_Acc__Dot) :=
  Sound.nil 3 [.i .i64] <| Sound.nil 2 [.i .i64] <| (inl_sums (l := [(74, F___astrolaberef2_Acc__Sat f___astrolaberef2_Acc__Sat), (73, F_astrolaberef2_mul f_astrolaberef2_mul), (72, F_astrolaberef2_add f_astrolaberef2_add), (76, F_astrolaberef2_shifted f_astrolaberef2_shifted), (75, F___astrolaberef2_Acc__end f___astrolaberef2_Acc__end)]) (.cons s___astrolaberef2_Acc__Sat (.cons s_astrolaberef2_mul (.cons s_astrolaberef2_add (.cons s_astrolaberef2_shifted (.cons s___astrolaberef2_Acc__end (.nil _)))))) mixed (hs := ⟨[⟨3, [5, 6, 7, 8, 11, 12, 13, 14, 15, 16, 21, 22, 25, 26, 27, 28, 29, 30, 31, 32, 33, 34, 35, 36, 37, 38, 39, 40, 41, 42, 43, 44, 45, 46, 47, 17, 18, 19, 20, 23, 24], []⟩], [⟨3, 3, @R___astrolaberef2_Acc__Dot_0 (@L___astrolaberef2_Acc__Dot_0)⟩], [0], [], (some ⟨0, [0, 1, 2, 3, 4, 5, 6, 7, 9, 10, 11, 12, 13, 14, 15, 16, 17, 18, 19, 20, 21, 22, 23, 24, 25, 26, 27, 28, 29, 30, 31, 32, 33, 34, 35, 36, 37, 38, 39, 40, 41, 42, 43, 44, 45, 46, 47], []⟩)⟩) (lf := 200) (Sums.by (l := [loopIn Try.prog 63 3]) (lj := []) (by kernel_rfl) ⟨so___astrolaberef2_Acc__Dot_0, trivial⟩ (by kernel_rfl) trivial) (by kernel_rfl)).by (F := F0___astrolaberef2_Acc__Dot f___astrolaberef2_Acc__Dot) fun args b r hr => by
  obtain ⟨x0, x1, x2, x3, x4, x5, w0, w1, rfl, rfl, hr1⟩ := e___astrolaberef2_Acc__Dot hr
  exact inl_eval ((d___astrolaberef2_Acc__Dot f___astrolaberef2_Acc__Sat f_astrolaberef2_mul f_astrolaberef2_add f_astrolaberef2_shifted f___astrolaberef2_Acc__end (@L___astrolaberef2_Acc__Dot_0) x0 x1 x2 x3 x4 x5 w0 w1).trans ((n___astrolaberef2_Acc__Dot (fun (d : Int × Bool) => some (Res.mk (AV.r (RV.c (CV.f (FV.i IntKind.i64 d.1)))) [Ch.set [Sg.c (CV.f (FV.b d.2))], Ch.keep, Ch.keep] [])) x0 x1 x2 x3 x4 x5 w0 w1).symm.trans hr1))

end Go.Proofs.Ytmlmpcabphgfaaa
