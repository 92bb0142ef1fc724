/-
  Contracts by plain functions: wide.abs64, math/bits.Mul64, wide.signed, wide.Mul, (*fx.Acc).round, (*fx.Acc).Mul
-/
import Derived.Test.YtcalippagaaikaaW1
set_option maxRecDepth 100000
set_option maxHeartbeats 4000000
set_option linter.unusedVariables false
namespace Go.Proofs.Ytcalippagaaikaa
open Go.Ab
def K_wide_abs64 {ρ : Type}   (x0 : Int) (k : (Int) → Option ρ) : Option ρ :=
  bif decide (x0 < 0) then k (IntKind.wrap IntKind.u64 (0 - IntKind.wrap IntKind.u64 x0)) else k (IntKind.wrap IntKind.u64 x0)
def f_wide_abs64 (x0 : Int) : Option (Int) := K_wide_abs64   x0 some
section
open Go.Ab.Rdr
def QA_wide_abs64 := ((pair (cons (ar (rc (cf (fi .i64 hole)))) nil) nil) : Rdr (List AV × List Blk) _)
end
def F_wide_abs64 (f : (Int) → Option (Int)) : Sem1 := fun args h => match (QA_wide_abs64).rd (args, h) with
  | some b => .opt (f b.1.1) fun (d : Int) => .leaf (Res.mk (AV.r (RV.c (CV.f (FV.i IntKind.u64 d)))) [] [])
  | none => .fail
theorem d_wide_abs64   (x0 : Int) : den Try.prog (envOf []) ⟨[], [], [], [], none⟩ 200 53 [.r (.c (.f (.i .i64 x0)))] [] =
    K_wide_abs64   x0 (fun (d : Int) => some (Res.mk (AV.r (RV.c (CV.f (FV.i IntKind.u64 d)))) [] [])) := by kernel_rfl
theorem m_wide_abs64 {ρ σ : Type} (q : ρ → Option σ)    (x0 : Int) (k : (Int) → Option ρ) : (K_wide_abs64   x0 k).bind q = K_wide_abs64   x0 (fun d => (k d).bind q) := by
  simp only [K_wide_abs64, bnd_cond, bnd_bind, bnd_none, bnd_sum]
theorem qa_wide_abs64 : ∀ b, (QA_wide_abs64).em b = ([.r (.c (.f (.i .i64 b.1.1)))], []) := fun b => by kernel_rfl
theorem e_wide_abs64 {f : (Int) → Option (Int)} {args : List AV} {h : List Blk} {r : Res} (hr : (F_wide_abs64 f args h).eval = some r) : ∃ x0, args = [.r (.c (.f (.i .i64 x0)))] ∧ h = [] ∧ (f x0).bind (fun (d : Int) => some (Res.mk (AV.r (RV.c (CV.f (FV.i IntKind.u64 d)))) [] [])) = some r := by
  unfold F_wide_abs64 at hr
  split at hr
  · rename_i b hb
    have e := ((QA_wide_abs64).ok _ _ hb).trans (qa_wide_abs64 b)
    rw [opt_eval2] at hr
    exact ⟨b.1.1, (Prod.mk.inj e).1, (Prod.mk.inj e).2, hr⟩
  · cases hr
theorem n_wide_abs64 {σ : Type} (q : (Int) → Option σ) (x0 : Int) : (f_wide_abs64 x0).bind q = K_wide_abs64   x0 q := by
  unfold f_wide_abs64
  exact m_wide_abs64 q    x0 some
theorem s_wide_abs64 : Sound Try.prog 53 (F_wide_abs64 f_wide_abs64) :=
  (inl_sound (l := []) (.nil _) mixed [] [] 200 (by kernel_rfl)).by (F := F_wide_abs64 f_wide_abs64) fun args b r hr => by
  obtain ⟨x0, rfl, rfl, hr1⟩ := e_wide_abs64 hr
  exact inl_eval ((d_wide_abs64   x0).trans ((n_wide_abs64 (fun (d : Int) => some (Res.mk (AV.r (RV.c (CV.f (FV.i IntKind.u64 d)))) [] [])) x0).symm.trans hr1))

def K_math_bits_Mul64 {ρ : Type}   (x0 : Int) (x1 : Int) (k : (Int × Int) → Option ρ) : Option ρ :=
  k
    (IntKind.wrap IntKind.u64
        (IntKind.wrap IntKind.u64
            (IntKind.wrap IntKind.u64 (Int.fdiv x0 4294967296 * Int.fdiv x1 4294967296) +
              Int.fdiv
                (IntKind.wrap IntKind.u64
                  (IntKind.wrap IntKind.u64 (Int.fdiv x0 4294967296 * IntKind.wrap IntKind.u64 (Int.ofNat (BitVec.toNat (BitVec.ofInt 64 x1 &&& BitVec.ofInt 64 4294967295)))) +
                    Int.fdiv
                      (IntKind.wrap IntKind.u64
                        (IntKind.wrap IntKind.u64 (Int.ofNat (BitVec.toNat (BitVec.ofInt 64 x0 &&& BitVec.ofInt 64 4294967295))) *
                          IntKind.wrap IntKind.u64 (Int.ofNat (BitVec.toNat (BitVec.ofInt 64 x1 &&& BitVec.ofInt 64 4294967295)))))
                      4294967296))
                4294967296) +
          Int.fdiv
            (IntKind.wrap IntKind.u64
              (IntKind.wrap IntKind.u64
                  (Int.ofNat
                    (BitVec.toNat
                      (BitVec.ofInt 64
                          (IntKind.wrap IntKind.u64
                            (IntKind.wrap IntKind.u64 (Int.fdiv x0 4294967296 * IntKind.wrap IntKind.u64 (Int.ofNat (BitVec.toNat (BitVec.ofInt 64 x1 &&& BitVec.ofInt 64 4294967295)))) +
                              Int.fdiv
                                (IntKind.wrap IntKind.u64
                                  (IntKind.wrap IntKind.u64 (Int.ofNat (BitVec.toNat (BitVec.ofInt 64 x0 &&& BitVec.ofInt 64 4294967295))) *
                                    IntKind.wrap IntKind.u64 (Int.ofNat (BitVec.toNat (BitVec.ofInt 64 x1 &&& BitVec.ofInt 64 4294967295)))))
                                4294967296)) &&&
                        BitVec.ofInt 64 4294967295))) +
                IntKind.wrap IntKind.u64 (IntKind.wrap IntKind.u64 (Int.ofNat (BitVec.toNat (BitVec.ofInt 64 x0 &&& BitVec.ofInt 64 4294967295))) * Int.fdiv x1 4294967296)))
            4294967296),
      IntKind.wrap IntKind.u64 (x0 * x1))
def f_math_bits_Mul64 (x0 : Int) (x1 : Int) : Option (Int × Int) := K_math_bits_Mul64   x0 x1 some
section
open Go.Ab.Rdr
def QA_math_bits_Mul64 := ((pair (cons (ar (rc (cf (fi .u64 hole)))) (cons (ar (rc (cf (fi .u64 hole)))) nil)) nil) : Rdr (List AV × List Blk) _)
end
def F_math_bits_Mul64 (f : (Int) → (Int) → Option (Int × Int)) : Sem1 := fun args h => match (QA_math_bits_Mul64).rd (args, h) with
  | some b => .opt (f b.1.1 b.1.2.1) fun (d : Int × Int) => .leaf (Res.mk (AV.tup [RV.c (CV.f (FV.i IntKind.u64 d.fst)), RV.c (CV.f (FV.i IntKind.u64 d.snd))]) [] [])
  | none => .fail
theorem d_math_bits_Mul64   (x0 : Int) (x1 : Int) : den Try.prog (envOf []) ⟨[], [], [], [], none⟩ 200 59 [.r (.c (.f (.i .u64 x0))), .r (.c (.f (.i .u64 x1)))] [] =
    K_math_bits_Mul64   x0 x1 (fun (d : Int × Int) => some (Res.mk (AV.tup [RV.c (CV.f (FV.i IntKind.u64 d.fst)), RV.c (CV.f (FV.i IntKind.u64 d.snd))]) [] [])) := by kernel_rfl
theorem m_math_bits_Mul64 {ρ σ : Type} (q : ρ → Option σ)    (x0 : Int) (x1 : Int) (k : (Int × Int) → Option ρ) : (K_math_bits_Mul64   x0 x1 k).bind q = K_math_bits_Mul64   x0 x1 (fun d => (k d).bind q) := by
  simp only [K_math_bits_Mul64, bnd_cond, bnd_bind, bnd_none, bnd_sum]
theorem qa_math_bits_Mul64 : ∀ b, (QA_math_bits_Mul64).em b = ([.r (.c (.f (.i .u64 b.1.1))), .r (.c (.f (.i .u64 b.1.2.1)))], []) := fun b => by kernel_rfl
theorem e_math_bits_Mul64 {f : (Int) → (Int) → Option (Int × Int)} {args : List AV} {h : List Blk} {r : Res} (hr : (F_math_bits_Mul64 f args h).eval = some r) : ∃ x0 x1, args = [.r (.c (.f (.i .u64 x0))), .r (.c (.f (.i .u64 x1)))] ∧ h = [] ∧ (f x0 x1).bind (fun (d : Int × Int) => some (Res.mk (AV.tup [RV.c (CV.f (FV.i IntKind.u64 d.fst)), RV.c (CV.f (FV.i IntKind.u64 d.snd))]) [] [])) = some r := by
  unfold F_math_bits_Mul64 at hr
  split at hr
  · rename_i b hb
    have e := ((QA_math_bits_Mul64).ok _ _ hb).trans (qa_math_bits_Mul64 b)
    rw [opt_eval2] at hr
    exact ⟨b.1.1, b.1.2.1, (Prod.mk.inj e).1, (Prod.mk.inj e).2, hr⟩
  · cases hr
theorem n_math_bits_Mul64 {σ : Type} (q : (Int × Int) → Option σ) (x0 : Int) (x1 : Int) : (f_math_bits_Mul64 x0 x1).bind q = K_math_bits_Mul64   x0 x1 q := by
  unfold f_math_bits_Mul64
  exact m_math_bits_Mul64 q    x0 x1 some
theorem s_math_bits_Mul64 : Sound Try.prog 59 (F_math_bits_Mul64 f_math_bits_Mul64) :=
  (inl_sound (l := []) (.nil _) mixed [] [] 200 (by kernel_rfl)).by (F := F_math_bits_Mul64 f_math_bits_Mul64) fun args b r hr => by
  obtain ⟨x0, x1, rfl, rfl, hr1⟩ := e_math_bits_Mul64 hr
  exact inl_eval ((d_math_bits_Mul64   x0 x1).trans ((n_math_bits_Mul64 (fun (d : Int × Int) => some (Res.mk (AV.tup [RV.c (CV.f (FV.i IntKind.u64 d.fst)), RV.c (CV.f (FV.i IntKind.u64 d.snd))]) [] [])) x0 x1).symm.trans hr1))

def K_wide_signed {ρ : Type} (g_Add64 : C3)  (x0 : Int) (x1 : Int) (x2 : Bool) (k : (Int × Int × Bool) → Option ρ) : Option ρ :=
  bif !x2 then k (IntKind.wrap IntKind.i64 x0, x1, Int.fdiv x0 9223372036854775808 == 0)
  else
    Option.bind (g_Add64 (IntKind.wrap IntKind.u64 (Int.ofNat (BitVec.toNat (BitVec.ofInt 64 18446744073709551615 ^^^ BitVec.ofInt 64 x1)))) 1 0) fun (d : Int × Int) =>
      bif
          decide
            (IntKind.wrap IntKind.i64 (IntKind.wrap IntKind.u64 (IntKind.wrap IntKind.u64 (Int.ofNat (BitVec.toNat (BitVec.ofInt 64 18446744073709551615 ^^^ BitVec.ofInt 64 x0))) + d.snd)) < 0) then
        k (IntKind.wrap IntKind.i64 (IntKind.wrap IntKind.u64 (IntKind.wrap IntKind.u64 (Int.ofNat (BitVec.toNat (BitVec.ofInt 64 18446744073709551615 ^^^ BitVec.ofInt 64 x0))) + d.snd)), d.fst, true)
      else
        k
          (IntKind.wrap IntKind.i64 (IntKind.wrap IntKind.u64 (IntKind.wrap IntKind.u64 (Int.ofNat (BitVec.toNat (BitVec.ofInt 64 18446744073709551615 ^^^ BitVec.ofInt 64 x0))) + d.snd)), d.fst,
            x0 == 0 && (x1 == 0 && true))
def f_wide_signed (x0 : Int) (x1 : Int) (x2 : Bool) : Option (Int × Int × Bool) := K_wide_signed f_Add64  x0 x1 x2 some
section
open Go.Ab.Rdr
def QA_wide_signed := ((pair (cons (ar (ra (cons (gc (cf (fi .u64 hole))) (cons (gc (cf (fi .u64 hole))) nil)))) (cons (ar (rc (cf (fb hole)))) nil)) nil) : Rdr (List AV × List Blk) _)
end
def F_wide_signed (f : (Int) → (Int) → (Bool) → Option (Int × Int × Bool)) : Sem1 := fun args h => match (QA_wide_signed).rd (args, h) with
  | some b => .opt (f b.1.1.1 b.1.1.2.1 b.1.2.1) fun (d : Int × Int × Bool) => .leaf (Res.mk (AV.tup [RV.agg [Sg.c (CV.f (FV.i IntKind.i64 d.fst)), Sg.c (CV.f (FV.i IntKind.u64 d.snd.fst))], RV.c (CV.f (FV.b d.snd.snd))]) [] [])
  | none => .fail
theorem d_wide_signed (g_Add64 : C3)  (x0 : Int) (x1 : Int) (x2 : Bool) : den Try.prog (envOf [(87, F_carry g_Add64)]) ⟨[], [], [], [], none⟩ 200 55 [.r (.agg [.c (.f (.i .u64 x0)), .c (.f (.i .u64 x1))]), .r (.c (.f (.b x2)))] [] =
    K_wide_signed g_Add64  x0 x1 x2 (fun (d : Int × Int × Bool) => some (Res.mk (AV.tup [RV.agg [Sg.c (CV.f (FV.i IntKind.i64 d.fst)), Sg.c (CV.f (FV.i IntKind.u64 d.snd.fst))], RV.c (CV.f (FV.b d.snd.snd))]) [] [])) := by kernel_rfl
theorem m_wide_signed {ρ σ : Type} (q : ρ → Option σ) (g_Add64 : C3)   (x0 : Int) (x1 : Int) (x2 : Bool) (k : (Int × Int × Bool) → Option ρ) : (K_wide_signed g_Add64  x0 x1 x2 k).bind q = K_wide_signed g_Add64  x0 x1 x2 (fun d => (k d).bind q) := by
  simp only [K_wide_signed, bnd_cond, bnd_bind, bnd_none, bnd_sum]
theorem qa_wide_signed : ∀ b, (QA_wide_signed).em b = ([.r (.agg [.c (.f (.i .u64 b.1.1.1)), .c (.f (.i .u64 b.1.1.2.1))]), .r (.c (.f (.b b.1.2.1)))], []) := fun b => by kernel_rfl
theorem e_wide_signed {f : (Int) → (Int) → (Bool) → Option (Int × Int × Bool)} {args : List AV} {h : List Blk} {r : Res} (hr : (F_wide_signed f args h).eval = some r) : ∃ x0 x1 x2, args = [.r (.agg [.c (.f (.i .u64 x0)), .c (.f (.i .u64 x1))]), .r (.c (.f (.b x2)))] ∧ h = [] ∧ (f x0 x1 x2).bind (fun (d : Int × Int × Bool) => some (Res.mk (AV.tup [RV.agg [Sg.c (CV.f (FV.i IntKind.i64 d.fst)), Sg.c (CV.f (FV.i IntKind.u64 d.snd.fst))], RV.c (CV.f (FV.b d.snd.snd))]) [] [])) = some r := by
  unfold F_wide_signed at hr
  split at hr
  · rename_i b hb
    have e := ((QA_wide_signed).ok _ _ hb).trans (qa_wide_signed b)
    rw [opt_eval2] at hr
    exact ⟨b.1.1.1, b.1.1.2.1, b.1.2.1, (Prod.mk.inj e).1, (Prod.mk.inj e).2, hr⟩
  · cases hr
theorem n_wide_signed {σ : Type} (q : (Int × Int × Bool) → Option σ) (x0 : Int) (x1 : Int) (x2 : Bool) : (f_wide_signed x0 x1 x2).bind q = K_wide_signed f_Add64  x0 x1 x2 q := by
  unfold f_wide_signed
  exact m_wide_signed q f_Add64   x0 x1 x2 some
theorem s_wide_signed : Sound Try.prog 55 (F_wide_signed f_wide_signed) :=
  (inl_sound (l := [(87, F_carry f_Add64)]) (.cons s_Add64 (.nil _)) mixed [] [] 200 (by kernel_rfl)).by (F := F_wide_signed f_wide_signed) fun args b r hr => by
  obtain ⟨x0, x1, x2, rfl, rfl, hr1⟩ := e_wide_signed hr
  exact inl_eval ((d_wide_signed f_Add64  x0 x1 x2).trans ((n_wide_signed (fun (d : Int × Int × Bool) => some (Res.mk (AV.tup [RV.agg [Sg.c (CV.f (FV.i IntKind.i64 d.fst)), Sg.c (CV.f (FV.i IntKind.u64 d.snd.fst))], RV.c (CV.f (FV.b d.snd.snd))]) [] [])) x0 x1 x2).symm.trans hr1))

def K_wide_Mul {ρ : Type} (g_wide_abs64 : Int → Option Int) (g_math_bits_Mul64 : Int → Int → Option (Int × Int)) (g_wide_signed : Int → Int → Bool → Option (Int × Int × Bool))  (x0 : Int) (x1 : Int) (k : (Int × Int) → Option ρ) : Option ρ :=
  Option.bind (g_wide_abs64 x0) fun (d : Int) =>
    Option.bind (g_wide_abs64 x1) fun (d_1 : Int) =>
      Option.bind (g_math_bits_Mul64 d d_1) fun (d : Int × Int) => Option.bind (g_wide_signed d.fst d.snd !decide (x0 < 0) == decide (x1 < 0)) fun (d : Int × Int × Bool) => k (d.fst, d.snd.fst)
def f_wide_Mul (x0 : Int) (x1 : Int) : Option (Int × Int) := K_wide_Mul f_wide_abs64 f_math_bits_Mul64 f_wide_signed  x0 x1 some
section
open Go.Ab.Rdr
def QA_wide_Mul := ((pair (cons (ar (rc (cf (fi .i64 hole)))) (cons (ar (rc (cf (fi .i64 hole)))) nil)) nil) : Rdr (List AV × List Blk) _)
end
def F_wide_Mul (f : (Int) → (Int) → Option (Int × Int)) : Sem1 := fun args h => match (QA_wide_Mul).rd (args, h) with
  | some b => .opt (f b.1.1 b.1.2.1) fun (d : Int × Int) => .leaf (Res.mk (AV.r (RV.agg [Sg.c (CV.f (FV.i IntKind.i64 d.fst)), Sg.c (CV.f (FV.i IntKind.u64 d.snd))])) [] [])
  | none => .fail
theorem d_wide_Mul (g_wide_abs64 : Int → Option Int) (g_math_bits_Mul64 : Int → Int → Option (Int × Int)) (g_wide_signed : Int → Int → Bool → Option (Int × Int × Bool))  (x0 : Int) (x1 : Int) : den Try.prog (envOf [(53, F_wide_abs64 g_wide_abs64), (59, F_math_bits_Mul64 g_math_bits_Mul64), (55, F_wide_signed g_wide_signed)]) ⟨[], [], [], [], none⟩ 200 23 [.r (.c (.f (.i .i64 x0))), .r (.c (.f (.i .i64 x1)))] [] =
    K_wide_Mul g_wide_abs64 g_math_bits_Mul64 g_wide_signed  x0 x1 (fun (d : Int × Int) => some (Res.mk (AV.r (RV.agg [Sg.c (CV.f (FV.i IntKind.i64 d.fst)), Sg.c (CV.f (FV.i IntKind.u64 d.snd))])) [] [])) := by kernel_rfl
theorem m_wide_Mul {ρ σ : Type} (q : ρ → Option σ) (g_wide_abs64 : Int → Option Int) (g_math_bits_Mul64 : Int → Int → Option (Int × Int)) (g_wide_signed : Int → Int → Bool → Option (Int × Int × Bool))   (x0 : Int) (x1 : Int) (k : (Int × Int) → Option ρ) : (K_wide_Mul g_wide_abs64 g_math_bits_Mul64 g_wide_signed  x0 x1 k).bind q = K_wide_Mul g_wide_abs64 g_math_bits_Mul64 g_wide_signed  x0 x1 (fun d => (k d).bind q) := by
  simp only [K_wide_Mul, bnd_cond, bnd_bind, bnd_none, bnd_sum]
theorem qa_wide_Mul : ∀ b, (QA_wide_Mul).em b = ([.r (.c (.f (.i .i64 b.1.1))), .r (.c (.f (.i .i64 b.1.2.1)))], []) := fun b => by kernel_rfl
theorem e_wide_Mul {f : (Int) → (Int) → Option (Int × Int)} {args : List AV} {h : List Blk} {r : Res} (hr : (F_wide_Mul f args h).eval = some r) : ∃ x0 x1, args = [.r (.c (.f (.i .i64 x0))), .r (.c (.f (.i .i64 x1)))] ∧ h = [] ∧ (f x0 x1).bind (fun (d : Int × Int) => some (Res.mk (AV.r (RV.agg [Sg.c (CV.f (FV.i IntKind.i64 d.fst)), Sg.c (CV.f (FV.i IntKind.u64 d.snd))])) [] [])) = some r := by
  unfold F_wide_Mul at hr
  split at hr
  · rename_i b hb
    have e := ((QA_wide_Mul).ok _ _ hb).trans (qa_wide_Mul b)
    rw [opt_eval2] at hr
    exact ⟨b.1.1, b.1.2.1, (Prod.mk.inj e).1, (Prod.mk.inj e).2, hr⟩
  · cases hr
theorem n_wide_Mul {σ : Type} (q : (Int × Int) → Option σ) (x0 : Int) (x1 : Int) : (f_wide_Mul x0 x1).bind q = K_wide_Mul f_wide_abs64 f_math_bits_Mul64 f_wide_signed  x0 x1 q := by
  unfold f_wide_Mul
  exact m_wide_Mul q f_wide_abs64 f_math_bits_Mul64 f_wide_signed   x0 x1 some
theorem s_wide_Mul : Sound Try.prog 23 (F_wide_Mul f_wide_Mul) :=
  (inl_sound (l := [(53, F_wide_abs64 f_wide_abs64), (59, F_math_bits_Mul64 f_math_bits_Mul64), (55, F_wide_signed f_wide_signed)]) (.cons s_wide_abs64 (.cons s_math_bits_Mul64 (.cons s_wide_signed (.nil _)))) mixed [] [] 200 (by kernel_rfl)).by (F := F_wide_Mul f_wide_Mul) fun args b r hr => by
  obtain ⟨x0, x1, rfl, rfl, hr1⟩ := e_wide_Mul hr
  exact inl_eval ((d_wide_Mul f_wide_abs64 f_math_bits_Mul64 f_wide_signed  x0 x1).trans ((n_wide_Mul (fun (d : Int × Int) => some (Res.mk (AV.r (RV.agg [Sg.c (CV.f (FV.i IntKind.i64 d.fst)), Sg.c (CV.f (FV.i IntKind.u64 d.snd))])) [] [])) x0 x1).symm.trans hr1))

def K___fx_Acc__round {ρ : Type} (g_wide_Round : Int → Int → Int → Option (Int × Bool)) (g___fx_Acc__end : Int → Bool → Bool → Bool → Option (Int × Bool))  (x0 : Int) (x1 : Int) (x2 : Int) (x3 : Bool) (k : (Int × Bool) → Option ρ) : Option ρ :=
  bif decide (x2 < 0) then k (0, true)
  else
    bif decide (x2 > 120) then k (0, true)
    else Option.bind (g_wide_Round x0 x1 x2) fun (d : Int × Bool) => Option.bind (g___fx_Acc__end d.fst d.snd (decide (x0 < 0)) x3) fun (d : Int × Bool) => k (d.fst, d.snd)
def f___fx_Acc__round (x0 : Int) (x1 : Int) (x2 : Int) (x3 : Bool) : Option (Int × Bool) := K___fx_Acc__round f_wide_Round f___fx_Acc__end  x0 x1 x2 x3 some
section
open Go.Ab.Rdr
def QA___fx_Acc__round := ((pair (cons (ar (rc (cptr (nat 0) (ok' (nat 0)) (nat 1)))) (cons (ar (ra (cons (gc (cf (fi .i64 hole))) (cons (gc (cf (fi .u64 hole))) nil)))) (cons (ar (rc (cf (fi .i64 hole)))) nil))) (cons (cons (gc (cf (fb hole))) nil) nil)) : Rdr (List AV × List Blk) _)
end
def F___fx_Acc__round (f : (Int) → (Int) → (Int) → (Bool) → Option (Int × Bool)) : Sem1 := fun args h => match (QA___fx_Acc__round).rd (args, h) with
  | some b => .opt (f b.1.2.1.1 b.1.2.1.2.1 b.1.2.2.1 b.2.1.1) fun (d : Int × Bool) => .leaf (Res.mk (AV.r (RV.c (CV.f (FV.i IntKind.i64 d.fst)))) [Ch.set [Sg.c (CV.f (FV.b d.snd))]] [])
  | none => .fail
theorem d___fx_Acc__round (g_wide_Round : Int → Int → Int → Option (Int × Bool)) (g___fx_Acc__end : Int → Bool → Bool → Bool → Option (Int × Bool))  (x0 : Int) (x1 : Int) (x2 : Int) (x3 : Bool) : den Try.prog (envOf [(17, F_wide_Round g_wide_Round), (112, F___fx_Acc__end g___fx_Acc__end)]) ⟨[], [], [], [], none⟩ 200 92 [.r (.c (.ptr 0 (.k 0) 1)), .r (.agg [.c (.f (.i .i64 x0)), .c (.f (.i .u64 x1))]), .r (.c (.f (.i .i64 x2)))] [[.c (.f (.b x3))]] =
    K___fx_Acc__round g_wide_Round g___fx_Acc__end  x0 x1 x2 x3 (fun (d : Int × Bool) => some (Res.mk (AV.r (RV.c (CV.f (FV.i IntKind.i64 d.fst)))) [Ch.set [Sg.c (CV.f (FV.b d.snd))]] [])) := by kernel_rfl
theorem m___fx_Acc__round {ρ σ : Type} (q : ρ → Option σ) (g_wide_Round : Int → Int → Int → Option (Int × Bool)) (g___fx_Acc__end : Int → Bool → Bool → Bool → Option (Int × Bool))   (x0 : Int) (x1 : Int) (x2 : Int) (x3 : Bool) (k : (Int × Bool) → Option ρ) : (K___fx_Acc__round g_wide_Round g___fx_Acc__end  x0 x1 x2 x3 k).bind q = K___fx_Acc__round g_wide_Round g___fx_Acc__end  x0 x1 x2 x3 (fun d => (k d).bind q) := by
  simp only [K___fx_Acc__round, bnd_cond, bnd_bind, bnd_none, bnd_sum]
theorem qa___fx_Acc__round : ∀ b, (QA___fx_Acc__round).em b = ([.r (.c (.ptr 0 (.k 0) 1)), .r (.agg [.c (.f (.i .i64 b.1.2.1.1)), .c (.f (.i .u64 b.1.2.1.2.1))]), .r (.c (.f (.i .i64 b.1.2.2.1)))], [[.c (.f (.b b.2.1.1))]]) := fun b => by kernel_rfl
theorem e___fx_Acc__round {f : (Int) → (Int) → (Int) → (Bool) → Option (Int × Bool)} {args : List AV} {h : List Blk} {r : Res} (hr : (F___fx_Acc__round f args h).eval = some r) : ∃ x0 x1 x2 x3, args = [.r (.c (.ptr 0 (.k 0) 1)), .r (.agg [.c (.f (.i .i64 x0)), .c (.f (.i .u64 x1))]), .r (.c (.f (.i .i64 x2)))] ∧ h = [[.c (.f (.b x3))]] ∧ (f x0 x1 x2 x3).bind (fun (d : Int × Bool) => some (Res.mk (AV.r (RV.c (CV.f (FV.i IntKind.i64 d.fst)))) [Ch.set [Sg.c (CV.f (FV.b d.snd))]] [])) = some r := by
  unfold F___fx_Acc__round at hr
  split at hr
  · rename_i b hb
    have e := ((QA___fx_Acc__round).ok _ _ hb).trans (qa___fx_Acc__round b)
    rw [opt_eval2] at hr
    exact ⟨b.1.2.1.1, b.1.2.1.2.1, b.1.2.2.1, b.2.1.1, (Prod.mk.inj e).1, (Prod.mk.inj e).2, hr⟩
  · cases hr
theorem n___fx_Acc__round {σ : Type} (q : (Int × Bool) → Option σ) (x0 : Int) (x1 : Int) (x2 : Int) (x3 : Bool) : (f___fx_Acc__round x0 x1 x2 x3).bind q = K___fx_Acc__round f_wide_Round f___fx_Acc__end  x0 x1 x2 x3 q := by
  unfold f___fx_Acc__round
  exact m___fx_Acc__round q f_wide_Round f___fx_Acc__end   x0 x1 x2 x3 some
theorem s___fx_Acc__round : Sound Try.prog 92 (F___fx_Acc__round f___fx_Acc__round) :=
  (inl_sound (l := [(17, F_wide_Round f_wide_Round), (112, F___fx_Acc__end f___fx_Acc__end)]) (.cons s_wide_Round (.cons s___fx_Acc__end (.nil _))) mixed [] [] 200 (by kernel_rfl)).by (F := F___fx_Acc__round f___fx_Acc__round) fun args b r hr => by
  obtain ⟨x0, x1, x2, x3, rfl, rfl, hr1⟩ := e___fx_Acc__round hr
  exact inl_eval ((d___fx_Acc__round f_wide_Round f___fx_Acc__end  x0 x1 x2 x3).trans ((n___fx_Acc__round (fun (d : Int × Bool) => some (Res.mk (AV.r (RV.c (CV.f (FV.i IntKind.i64 d.fst)))) [Ch.set [Sg.c (CV.f (FV.b d.snd))]] [])) x0 x1 x2 x3).symm.trans hr1))

def K___fx_Acc__Mul {ρ : Type} (g___fx_Acc__Sat : Int → Bool → Option (Int × Bool)) (g_wide_Mul : Int → Int → Option (Int × Int)) (g___fx_Acc__round : Int → Int → Int → Bool → Option (Int × Bool))  (x0 : Int) (x1 : Int) (x2 : Int) (x3 : Bool) (k : (Int × Bool) → Option ρ) : Option ρ :=
  Option.bind (g___fx_Acc__Sat x0 x3) fun (d : Int × Bool) =>
    Option.bind (g___fx_Acc__Sat x1 d.snd) fun (d_1 : Int × Bool) =>
      Option.bind (g_wide_Mul d.fst d_1.fst) fun (d : Int × Int) => Option.bind (g___fx_Acc__round d.fst d.snd x2 d_1.snd) fun (d : Int × Bool) => k (d.fst, d.snd)
def f___fx_Acc__Mul (x0 : Int) (x1 : Int) (x2 : Int) (x3 : Bool) : Option (Int × Bool) := K___fx_Acc__Mul f___fx_Acc__Sat f_wide_Mul f___fx_Acc__round  x0 x1 x2 x3 some
section
open Go.Ab.Rdr
def QA___fx_Acc__Mul := ((pair (cons (ar (rc (cptr (nat 0) (ok' (nat 0)) (nat 1)))) (cons (ar (rc (cf (fi .i64 hole)))) (cons (ar (rc (cf (fi .i64 hole)))) (cons (ar (rc (cf (fi .i64 hole)))) nil)))) (cons (cons (gc (cf (fb hole))) nil) nil)) : Rdr (List AV × List Blk) _)
end
def F___fx_Acc__Mul (f : (Int) → (Int) → (Int) → (Bool) → Option (Int × Bool)) : Sem1 := fun args h => match (QA___fx_Acc__Mul).rd (args, h) with
  | some b => .opt (f b.1.2.1 b.1.2.2.1 b.1.2.2.2.1 b.2.1.1) fun (d : Int × Bool) => .leaf (Res.mk (AV.r (RV.c (CV.f (FV.i IntKind.i64 d.fst)))) [Ch.set [Sg.c (CV.f (FV.b d.snd))]] [])
  | none => .fail
theorem d___fx_Acc__Mul (g___fx_Acc__Sat : Int → Bool → Option (Int × Bool)) (g_wide_Mul : Int → Int → Option (Int × Int)) (g___fx_Acc__round : Int → Int → Int → Bool → Option (Int × Bool))  (x0 : Int) (x1 : Int) (x2 : Int) (x3 : Bool) : den Try.prog (envOf [(91, F___fx_Acc__Sat g___fx_Acc__Sat), (23, F_wide_Mul g_wide_Mul), (92, F___fx_Acc__round g___fx_Acc__round)]) ⟨[], [], [], [], none⟩ 200 67 [.r (.c (.ptr 0 (.k 0) 1)), .r (.c (.f (.i .i64 x0))), .r (.c (.f (.i .i64 x1))), .r (.c (.f (.i .i64 x2)))] [[.c (.f (.b x3))]] =
    K___fx_Acc__Mul g___fx_Acc__Sat g_wide_Mul g___fx_Acc__round  x0 x1 x2 x3 (fun (d : Int × Bool) => some (Res.mk (AV.r (RV.c (CV.f (FV.i IntKind.i64 d.fst)))) [Ch.set [Sg.c (CV.f (FV.b d.snd))]] [])) := by kernel_rfl
theorem m___fx_Acc__Mul {ρ σ : Type} (q : ρ → Option σ) (g___fx_Acc__Sat : Int → Bool → Option (Int × Bool)) (g_wide_Mul : Int → Int → Option (Int × Int)) (g___fx_Acc__round : Int → Int → Int → Bool → Option (Int × Bool))   (x0 : Int) (x1 : Int) (x2 : Int) (x3 : Bool) (k : (Int × Bool) → Option ρ) : (K___fx_Acc__Mul g___fx_Acc__Sat g_wide_Mul g___fx_Acc__round  x0 x1 x2 x3 k).bind q = K___fx_Acc__Mul g___fx_Acc__Sat g_wide_Mul g___fx_Acc__round  x0 x1 x2 x3 (fun d => (k d).bind q) := by
  simp only [K___fx_Acc__Mul, bnd_cond, bnd_bind, bnd_none, bnd_sum]
theorem qa___fx_Acc__Mul : ∀ b, (QA___fx_Acc__Mul).em b = ([.r (.c (.ptr 0 (.k 0) 1)), .r (.c (.f (.i .i64 b.1.2.1))), .r (.c (.f (.i .i64 b.1.2.2.1))), .r (.c (.f (.i .i64 b.1.2.2.2.1)))], [[.c (.f (.b b.2.1.1))]]) := fun b => by kernel_rfl
theorem e___fx_Acc__Mul {f : (Int) → (Int) → (Int) → (Bool) → Option (Int × Bool)} {args : List AV} {h : List Blk} {r : Res} (hr : (F___fx_Acc__Mul f args h).eval = some r) : ∃ x0 x1 x2 x3, args = [.r (.c (.ptr 0 (.k 0) 1)), .r (.c (.f (.i .i64 x0))), .r (.c (.f (.i .i64 x1))), .r (.c (.f (.i .i64 x2)))] ∧ h = [[.c (.f (.b x3))]] ∧ (f x0 x1 x2 x3).bind (fun (d : Int × Bool) => some (Res.mk (AV.r (RV.c (CV.f (FV.i IntKind.i64 d.fst)))) [Ch.set [Sg.c (CV.f (FV.b d.snd))]] [])) = some r := by
  unfold F___fx_Acc__Mul at hr
  split at hr
  · rename_i b hb
    have e := ((QA___fx_Acc__Mul).ok _ _ hb).trans (qa___fx_Acc__Mul b)
    rw [opt_eval2] at hr
    exact ⟨b.1.2.1, b.1.2.2.1, b.1.2.2.2.1, b.2.1.1, (Prod.mk.inj e).1, (Prod.mk.inj e).2, hr⟩
  · cases hr
theorem n___fx_Acc__Mul {σ : Type} (q : (Int × Bool) → Option σ) (x0 : Int) (x1 : Int) (x2 : Int) (x3 : Bool) : (f___fx_Acc__Mul x0 x1 x2 x3).bind q = K___fx_Acc__Mul f___fx_Acc__Sat f_wide_Mul f___fx_Acc__round  x0 x1 x2 x3 q := by
  unfold f___fx_Acc__Mul
  exact m___fx_Acc__Mul q f___fx_Acc__Sat f_wide_Mul f___fx_Acc__round   x0 x1 x2 x3 some
theorem s___fx_Acc__Mul : Sound Try.prog 67 (F___fx_Acc__Mul f___fx_Acc__Mul) :=
  (inl_sound (l := [(91, F___fx_Acc__Sat f___fx_Acc__Sat), (23, F_wide_Mul f_wide_Mul), (92, F___fx_Acc__round f___fx_Acc__round)]) (.cons s___fx_Acc__Sat (.cons s_wide_Mul (.cons s___fx_Acc__round (.nil _)))) mixed [] [] 200 (by kernel_rfl)).by (F := F___fx_Acc__Mul f___fx_Acc__Mul) fun args b r hr => by
  obtain ⟨x0, x1, x2, x3, rfl, rfl, hr1⟩ := e___fx_Acc__Mul hr
  exact inl_eval ((d___fx_Acc__Mul f___fx_Acc__Sat f_wide_Mul f___fx_Acc__round  x0 x1 x2 x3).trans ((n___fx_Acc__Mul (fun (d : Int × Bool) => some (Res.mk (AV.r (RV.c (CV.f (FV.i IntKind.i64 d.fst)))) [Ch.set [Sg.c (CV.f (FV.b d.snd))]] [])) x0 x1 x2 x3).symm.trans hr1))

end Go.Proofs.Ytcalippagaaikaa
