/-
  Contracts by plain functions: astrolabelaw24.HealthKnown, astrolabelaw24.HealthWatches
-/
import Derived.Test.YtmlmpcabphgfaaaH2
set_option maxRecDepth 100000
set_option maxHeartbeats 4000000
set_option linter.unusedVariables false
namespace Go.Proofs.Ytmlmpcabphgfaaa
open Go.Ab
def K_astrolabelaw24_HealthKnown {ρ : Type} (g_astrolabelaw24_awake : Option Bool) (g_health_New : Int → Nat → (Nat → Int) → Bool → Option (Unit ⊕ (Nat → Int) × (Nat → Int) × (Nat → Bool) × (Nat → Int) × (Nat → Int) × (Nat → Int))) (g___health_Monitor__Sensor : Int → (Nat → Int) → (Nat → Int) → (Nat → Bool) → (Nat → Int) → (Nat → Int) → (Nat → Int) → Int → Option (Int × Int × Bool × Int × Int × Int)) (g___health_Monitor__Usable : Int → Int → (Nat → Int) → (Nat → Int) → (Nat → Bool) → (Nat → Int) → (Nat → Int) → (Nat → Int) → Int → Option Bool) (g___health_Monitor__Faults : Int → (Nat → Int) → (Nat → Int) → (Nat → Bool) → (Nat → Int) → (Nat → Int) → (Nat → Int) → Int → Option Int) (g___health_Monitor__Bad : (Nat → Int) → (Nat → Int) → (Nat → Bool) → (Nat → Int) → (Nat → Int) → (Nat → Int) → Int → Option Bool)   (k : (Bool) → Option ρ) : Option ρ :=
  Option.bind g_astrolabelaw24_awake fun (d : Bool) =>
    bif !d then k false
    else
      Option.bind (g_health_New 3 5 (fun (j : Nat) => bif Nat.beq j 4 then 1 else bif Nat.beq j 3 then 1 else bif Nat.beq j 2 then 1 else bif Nat.beq j 1 then 1 else bif Nat.beq j 0 then 1 else 1) true)
        fun (d : Unit ⊕ (Nat → Int) × (Nat → Int) × (Nat → Bool) × (Nat → Int) × (Nat → Int) × (Nat → Int)) =>
        bif
            match d with
            | Sum.inl val => true
            | Sum.inr val => false then
          Option.bind
            (match d with
            | Sum.inl a => some a
            | Sum.inr val => none)
            fun (d : Unit) =>
            Option.bind
              (g_health_New 101 6
                (fun (j : Nat) =>
                  bif Nat.beq j 5 then 1 else bif Nat.beq j 4 then 1 else bif Nat.beq j 3 then 1 else bif Nat.beq j 2 then 1 else bif Nat.beq j 1 then 1 else bif Nat.beq j 0 then 1 else 1)
                true)
              fun (d : Unit ⊕ (Nat → Int) × (Nat → Int) × (Nat → Bool) × (Nat → Int) × (Nat → Int) × (Nat → Int)) =>
              bif
                  match d with
                  | Sum.inl val => true
                  | Sum.inr val => false then
                Option.bind
                  (match d with
                  | Sum.inl a => some a
                  | Sum.inr val => none)
                  fun (d : Unit) =>
                  Option.bind
                    (g_health_New 0 6
                      (fun (j : Nat) =>
                        bif Nat.beq j 5 then 1 else bif Nat.beq j 4 then 1 else bif Nat.beq j 3 then 1 else bif Nat.beq j 2 then 1 else bif Nat.beq j 1 then 1 else bif Nat.beq j 0 then 1 else 1)
                      true)
                    fun (d : Unit ⊕ (Nat → Int) × (Nat → Int) × (Nat → Bool) × (Nat → Int) × (Nat → Int) × (Nat → Int)) =>
                    bif
                        match d with
                        | Sum.inl val => true
                        | Sum.inr val => false then
                      Option.bind
                        (match d with
                        | Sum.inl a => some a
                        | Sum.inr val => none)
                        fun (d : Unit) => none
                    else
                      Option.bind
                        (match d with
                        | Sum.inr b => some b
                        | Sum.inl val => none)
                        fun (d : (Nat → Int) × (Nat → Int) × (Nat → Bool) × (Nat → Int) × (Nat → Int) × (Nat → Int)) =>
                        Option.bind (g___health_Monitor__Sensor 6 d.1 d.snd.1 d.snd.snd.1 d.snd.snd.snd.1 d.snd.snd.snd.snd.1 d.snd.snd.snd.snd.2 0) fun (d_1 : Int × Int × Bool × Int × Int × Int) =>
                          Option.bind (g___health_Monitor__Usable 0 0 d.1 d.snd.1 d.snd.snd.1 d.snd.snd.snd.1 d.snd.snd.snd.snd.1 d.snd.snd.snd.snd.2 0) fun (d_2 : Bool) =>
                            bif !d_2 then
                              Option.bind (g___health_Monitor__Usable (-1) 0 d.1 d.snd.1 d.snd.snd.1 d.snd.snd.snd.1 d.snd.snd.snd.snd.1 d.snd.snd.snd.snd.2 0) fun (d_3 : Bool) =>
                                bif !d_3 then
                                  Option.bind (g___health_Monitor__Faults 99 d.1 d.snd.1 d.snd.snd.1 d.snd.snd.snd.1 d.snd.snd.snd.snd.1 d.snd.snd.snd.snd.2 0) fun (d_4 : Int) =>
                                    bif d_4 == 0 then
                                      Option.bind (g___health_Monitor__Bad d.1 d.snd.1 d.snd.snd.1 d.snd.snd.snd.1 d.snd.snd.snd.snd.1 d.snd.snd.snd.snd.2 0) fun (d_5 : Bool) =>
                                        bif !d_5 then
                                          bif
                                              d_1.fst == 0 && (d_1.snd.fst == 0 && (d_1.snd.snd.fst == false && true)) &&
                                                (d_1.snd.snd.snd.fst == 0 && (d_1.snd.snd.snd.snd.fst == 0 && (d_1.snd.snd.snd.snd.snd == 0 && true))) then
                                            Option.bind (g___health_Monitor__Sensor 5 d.1 d.snd.1 d.snd.snd.1 d.snd.snd.snd.1 d.snd.snd.snd.snd.1 d.snd.snd.snd.snd.2 0)
                                              fun (d : Int × Int × Bool × Int × Int × Int) => k (d.snd.snd.snd.fst == 5)
                                          else k false
                                        else k false
                                    else k false
                                else k false
                            else k false
              else
                Option.bind
                  (match d with
                  | Sum.inr b => some b
                  | Sum.inl val => none)
                  fun (d : (Nat → Int) × (Nat → Int) × (Nat → Bool) × (Nat → Int) × (Nat → Int) × (Nat → Int)) =>
                  Option.bind
                    (g_health_New 0 6
                      (fun (j : Nat) =>
                        bif Nat.beq j 5 then 1 else bif Nat.beq j 4 then 1 else bif Nat.beq j 3 then 1 else bif Nat.beq j 2 then 1 else bif Nat.beq j 1 then 1 else bif Nat.beq j 0 then 1 else 1)
                      true)
                    fun (d : Unit ⊕ (Nat → Int) × (Nat → Int) × (Nat → Bool) × (Nat → Int) × (Nat → Int) × (Nat → Int)) =>
                    bif
                        match d with
                        | Sum.inl val => true
                        | Sum.inr val => false then
                      Option.bind
                        (match d with
                        | Sum.inl a => some a
                        | Sum.inr val => none)
                        fun (d : Unit) => none
                    else
                      Option.bind
                        (match d with
                        | Sum.inr b => some b
                        | Sum.inl val => none)
                        fun (d : (Nat → Int) × (Nat → Int) × (Nat → Bool) × (Nat → Int) × (Nat → Int) × (Nat → Int)) =>
                        Option.bind (g___health_Monitor__Sensor 6 d.1 d.snd.1 d.snd.snd.1 d.snd.snd.snd.1 d.snd.snd.snd.snd.1 d.snd.snd.snd.snd.2 0) fun (d : Int × Int × Bool × Int × Int × Int) =>
                          k false
        else
          Option.bind
            (match d with
            | Sum.inr b => some b
            | Sum.inl val => none)
            fun (d : (Nat → Int) × (Nat → Int) × (Nat → Bool) × (Nat → Int) × (Nat → Int) × (Nat → Int)) =>
            Option.bind
              (g_health_New 101 6
                (fun (j : Nat) =>
                  bif Nat.beq j 5 then 1 else bif Nat.beq j 4 then 1 else bif Nat.beq j 3 then 1 else bif Nat.beq j 2 then 1 else bif Nat.beq j 1 then 1 else bif Nat.beq j 0 then 1 else 1)
                true)
              fun (d : Unit ⊕ (Nat → Int) × (Nat → Int) × (Nat → Bool) × (Nat → Int) × (Nat → Int) × (Nat → Int)) =>
              bif
                  match d with
                  | Sum.inl val => true
                  | Sum.inr val => false then
                Option.bind
                  (match d with
                  | Sum.inl a => some a
                  | Sum.inr val => none)
                  fun (d : Unit) =>
                  Option.bind
                    (g_health_New 0 6
                      (fun (j : Nat) =>
                        bif Nat.beq j 5 then 1 else bif Nat.beq j 4 then 1 else bif Nat.beq j 3 then 1 else bif Nat.beq j 2 then 1 else bif Nat.beq j 1 then 1 else bif Nat.beq j 0 then 1 else 1)
                      true)
                    fun (d : Unit ⊕ (Nat → Int) × (Nat → Int) × (Nat → Bool) × (Nat → Int) × (Nat → Int) × (Nat → Int)) =>
                    bif
                        match d with
                        | Sum.inl val => true
                        | Sum.inr val => false then
                      Option.bind
                        (match d with
                        | Sum.inl a => some a
                        | Sum.inr val => none)
                        fun (d : Unit) => none
                    else
                      Option.bind
                        (match d with
                        | Sum.inr b => some b
                        | Sum.inl val => none)
                        fun (d : (Nat → Int) × (Nat → Int) × (Nat → Bool) × (Nat → Int) × (Nat → Int) × (Nat → Int)) =>
                        Option.bind (g___health_Monitor__Sensor 6 d.1 d.snd.1 d.snd.snd.1 d.snd.snd.snd.1 d.snd.snd.snd.snd.1 d.snd.snd.snd.snd.2 0) fun (d : Int × Int × Bool × Int × Int × Int) =>
                          k false
              else
                Option.bind
                  (match d with
                  | Sum.inr b => some b
                  | Sum.inl val => none)
                  fun (d : (Nat → Int) × (Nat → Int) × (Nat → Bool) × (Nat → Int) × (Nat → Int) × (Nat → Int)) =>
                  Option.bind
                    (g_health_New 0 6
                      (fun (j : Nat) =>
                        bif Nat.beq j 5 then 1 else bif Nat.beq j 4 then 1 else bif Nat.beq j 3 then 1 else bif Nat.beq j 2 then 1 else bif Nat.beq j 1 then 1 else bif Nat.beq j 0 then 1 else 1)
                      true)
                    fun (d : Unit ⊕ (Nat → Int) × (Nat → Int) × (Nat → Bool) × (Nat → Int) × (Nat → Int) × (Nat → Int)) =>
                    bif
                        match d with
                        | Sum.inl val => true
                        | Sum.inr val => false then
                      Option.bind
                        (match d with
                        | Sum.inl a => some a
                        | Sum.inr val => none)
                        fun (d : Unit) => none
                    else
                      Option.bind
                        (match d with
                        | Sum.inr b => some b
                        | Sum.inl val => none)
                        fun (d : (Nat → Int) × (Nat → Int) × (Nat → Bool) × (Nat → Int) × (Nat → Int) × (Nat → Int)) =>
                        Option.bind (g___health_Monitor__Sensor 6 d.1 d.snd.1 d.snd.snd.1 d.snd.snd.snd.1 d.snd.snd.snd.snd.1 d.snd.snd.snd.snd.2 0) fun (d : Int × Int × Bool × Int × Int × Int) =>
                          k false
def f_astrolabelaw24_HealthKnown  : Option (Bool) := K_astrolabelaw24_HealthKnown f_astrolabelaw24_awake f_health_New f___health_Monitor__Sensor f___health_Monitor__Usable f___health_Monitor__Faults f___health_Monitor__Bad   some
section
open Go.Ab.Rdr
def QA_astrolabelaw24_HealthKnown := ((pair nil nil) : Rdr (List AV × List Blk) _)
end
def F_astrolabelaw24_HealthKnown (f : Option (Bool)) : Sem1 := fun args h => match (QA_astrolabelaw24_HealthKnown).rd (args, h) with
  | some b => .opt (f ) fun (d : Bool) => .leaf (Res.mk (AV.r (RV.c (CV.f (FV.b d)))) [] [])
  | none => .fail
theorem d_astrolabelaw24_HealthKnown (g_astrolabelaw24_awake : Option Bool) (g_health_New : Int → Nat → (Nat → Int) → Bool → Option (Unit ⊕ (Nat → Int) × (Nat → Int) × (Nat → Bool) × (Nat → Int) × (Nat → Int) × (Nat → Int))) (g___health_Monitor__Sensor : Int → (Nat → Int) → (Nat → Int) → (Nat → Bool) → (Nat → Int) → (Nat → Int) → (Nat → Int) → Int → Option (Int × Int × Bool × Int × Int × Int)) (g___health_Monitor__Usable : Int → Int → (Nat → Int) → (Nat → Int) → (Nat → Bool) → (Nat → Int) → (Nat → Int) → (Nat → Int) → Int → Option Bool) (g___health_Monitor__Faults : Int → (Nat → Int) → (Nat → Int) → (Nat → Bool) → (Nat → Int) → (Nat → Int) → (Nat → Int) → Int → Option Int) (g___health_Monitor__Bad : (Nat → Int) → (Nat → Int) → (Nat → Bool) → (Nat → Int) → (Nat → Int) → (Nat → Int) → Int → Option Bool)   : den Try.prog (envOf [(15, F_astrolabelaw24_awake g_astrolabelaw24_awake), (16, F_health_New g_health_New), (17, F___health_Monitor__Sensor g___health_Monitor__Sensor), (18, F___health_Monitor__Usable g___health_Monitor__Usable), (19, F___health_Monitor__Faults g___health_Monitor__Faults), (20, F___health_Monitor__Bad g___health_Monitor__Bad)]) ⟨[], [], []⟩ 200 3 [] [] =
    K_astrolabelaw24_HealthKnown g_astrolabelaw24_awake g_health_New g___health_Monitor__Sensor g___health_Monitor__Usable g___health_Monitor__Faults g___health_Monitor__Bad   (fun (d : Bool) => some (Res.mk (AV.r (RV.c (CV.f (FV.b d)))) [] [])) := by kernel_rfl
theorem m_astrolabelaw24_HealthKnown {ρ σ : Type} (q : ρ → Option σ) (g_astrolabelaw24_awake : Option Bool) (g_health_New : Int → Nat → (Nat → Int) → Bool → Option (Unit ⊕ (Nat → Int) × (Nat → Int) × (Nat → Bool) × (Nat → Int) × (Nat → Int) × (Nat → Int))) (g___health_Monitor__Sensor : Int → (Nat → Int) → (Nat → Int) → (Nat → Bool) → (Nat → Int) → (Nat → Int) → (Nat → Int) → Int → Option (Int × Int × Bool × Int × Int × Int)) (g___health_Monitor__Usable : Int → Int → (Nat → Int) → (Nat → Int) → (Nat → Bool) → (Nat → Int) → (Nat → Int) → (Nat → Int) → Int → Option Bool) (g___health_Monitor__Faults : Int → (Nat → Int) → (Nat → Int) → (Nat → Bool) → (Nat → Int) → (Nat → Int) → (Nat → Int) → Int → Option Int) (g___health_Monitor__Bad : (Nat → Int) → (Nat → Int) → (Nat → Bool) → (Nat → Int) → (Nat → Int) → (Nat → Int) → Int → Option Bool)    (k : (Bool) → Option ρ) : (K_astrolabelaw24_HealthKnown g_astrolabelaw24_awake g_health_New g___health_Monitor__Sensor g___health_Monitor__Usable g___health_Monitor__Faults g___health_Monitor__Bad   k).bind q = K_astrolabelaw24_HealthKnown g_astrolabelaw24_awake g_health_New g___health_Monitor__Sensor g___health_Monitor__Usable g___health_Monitor__Faults g___health_Monitor__Bad   (fun d => (k d).bind q) := by
  simp only [K_astrolabelaw24_HealthKnown, bnd_cond, bnd_bind, bnd_none, bnd_sum]
theorem qa_astrolabelaw24_HealthKnown : ∀ b, (QA_astrolabelaw24_HealthKnown).em b = ([], []) := fun b => by kernel_rfl
theorem e_astrolabelaw24_HealthKnown {f : Option (Bool)} {args : List AV} {h : List Blk} {r : Res} (hr : (F_astrolabelaw24_HealthKnown f args h).eval = some r) : args = [] ∧ h = [] ∧ (f ).bind (fun (d : Bool) => some (Res.mk (AV.r (RV.c (CV.f (FV.b d)))) [] [])) = some r := by
  unfold F_astrolabelaw24_HealthKnown at hr
  split at hr
  · rename_i b hb
    have e := ((QA_astrolabelaw24_HealthKnown).ok _ _ hb).trans (qa_astrolabelaw24_HealthKnown b)
    rw [opt_eval2] at hr
    exact ⟨(Prod.mk.inj e).1, (Prod.mk.inj e).2, hr⟩
  · cases hr
theorem n_astrolabelaw24_HealthKnown {σ : Type} (q : (Bool) → Option σ)  : (f_astrolabelaw24_HealthKnown ).bind q = K_astrolabelaw24_HealthKnown f_astrolabelaw24_awake f_health_New f___health_Monitor__Sensor f___health_Monitor__Usable f___health_Monitor__Faults f___health_Monitor__Bad   q := by
  unfold f_astrolabelaw24_HealthKnown
  exact m_astrolabelaw24_HealthKnown q f_astrolabelaw24_awake f_health_New f___health_Monitor__Sensor f___health_Monitor__Usable f___health_Monitor__Faults f___health_Monitor__Bad    some
theorem s_astrolabelaw24_HealthKnown : Sound Try.prog 3 (F_astrolabelaw24_HealthKnown f_astrolabelaw24_HealthKnown) :=
  (inl_sound (l := [(15, F_astrolabelaw24_awake f_astrolabelaw24_awake), (16, F_health_New f_health_New), (17, F___health_Monitor__Sensor f___health_Monitor__Sensor), (18, F___health_Monitor__Usable f___health_Monitor__Usable), (19, F___health_Monitor__Faults f___health_Monitor__Faults), (20, F___health_Monitor__Bad f___health_Monitor__Bad)]) (.cons s_astrolabelaw24_awake (.cons s_health_New (.cons s___health_Monitor__Sensor (.cons s___health_Monitor__Usable (.cons s___health_Monitor__Faults (.cons s___health_Monitor__Bad (.nil _))))))) mixed [] [] 200 (by kernel_rfl)).by fun args b r hr => by
  obtain ⟨rfl, rfl, hr1⟩ := e_astrolabelaw24_HealthKnown hr
  exact inl_eval ((d_astrolabelaw24_HealthKnown f_astrolabelaw24_awake f_health_New f___health_Monitor__Sensor f___health_Monitor__Usable f___health_Monitor__Faults f___health_Monitor__Bad  ).trans ((n_astrolabelaw24_HealthKnown (fun (d : Bool) => some (Res.mk (AV.r (RV.c (CV.f (FV.b d)))) [] [])) ).symm.trans hr1))

def S_astrolabelaw24_HealthWatches_0 {ρ : Type} (g_astrolabelaw24_awake : Option Bool) (g___health_Watch__Miss : Int → Int → Bool → Option (Int × Int × Bool)) (g_astrolaberef25_Miss : Int → Int → Bool → Option (Int × Int × Bool)) (g___health_Watch__Mark : Int → Int → Int → Bool → Option Int) (g_astrolaberef25_Mark : Int → Int → Bool → Int → Option Int) (g_astrolaberef25_Fresh : Int → Int → Bool → Int → Int → Option Bool) (g___health_Watch__Fresh : Int → Int → Int → Int → Bool → Option Bool) (g___health_Sensor__Usable : Int → Int → Int → Bool → Int → Int → Int → Option Bool)  (x0 : Nat) (x1 : Bool) (x2 : Int) (x3 : Int) (x4 : Int) (x5 : Int) (x6 : Bool) (x7 : Int) (x8 : Nat) (x9 : Nat → Int) (x10 : Int) (x11 : Int) (x12 : Bool) (x13 : Int) (x14 : Int) (x15 : Int) (x16 : Int) (x17 : Bool) (c : (Nat × Bool × Int × Int × Int × Int × Bool × Int × Nat × (Nat → Int) × Int × Int × Bool × Int × Int × Int × Int × Bool) → Option ρ) (x : (Nat × Bool × Int × Int × Int × Int × Bool × Int × Int × Bool × Nat × Int × Bool × Int × Int × Bool × Int × Int × Bool × Int × Bool × Nat × (Nat → Int) × Int × Bool × Int × Int ⊕
  Nat × Bool × Int × Int × Int × Int × Bool × Int × Int × Bool × Nat × Int × Bool × Int × Int × Bool × Int × Int × Bool × Int × Bool × Int × Bool × Nat × (Nat → Int) × Bool × Int × Int ⊕
    Nat × Bool × Int × Int × Int × Int × Bool × Int × Int × Bool × Nat × Int × Bool × Int × Int × Bool × Int × Int × Bool × Int × Bool × Int × Bool × Bool × Bool × Nat × (Nat → Int) × Int × Int ⊕
      Nat × Bool × Int × Int × Int × Int × Bool × Int × Int × Bool × Nat × Int × Bool × Int × Int × Bool × Int × Int × Bool × Nat × (Nat → Int) × Int × Int ⊕
        Nat × Bool × Int × Int × Int × Int × Bool × Int × Int × Bool × Nat × (Nat → Int) × Int × Int × Bool × Int × Int × Int × Int × Bool) → Option ρ) : Option ρ :=
  bif decide (x5 < Int.ofNat x0) then
    bif inR x5 x0 then
      bif decide (x9 (Int.toNat x5) < 0) then
        Option.bind (g___health_Watch__Miss x10 x11 x12) fun (d : Int × Int × Bool) =>
          Option.bind (g_astrolaberef25_Miss x15 x16 x17) fun (d_1 : Int × Int × Bool) =>
            bif d.fst != d_1.fst then
              x
                (Sum.inl
                  (x0, x1, x2, x3, x4, x5, x6, x7, Int.ofNat x0, decide (x5 < Int.ofNat x0), Int.toNat x5, x9 (Int.toNat x5), decide (x9 (Int.toNat x5) < 0), x15, x16, x17, d_1.fst, d_1.snd.fst,
                    d_1.snd.snd, d.fst, d.fst != d_1.fst, x8, x9, d.snd.fst, d.snd.snd, x13, x14))
            else
              bif d.snd.fst != d_1.snd.fst then
                x
                  (Sum.inr
                    (Sum.inl
                      (x0, x1, x2, x3, x4, x5, x6, x7, Int.ofNat x0, decide (x5 < Int.ofNat x0), Int.toNat x5, x9 (Int.toNat x5), decide (x9 (Int.toNat x5) < 0), x15, x16, x17, d_1.fst, d_1.snd.fst,
                        d_1.snd.snd, d.fst, d.fst != d_1.fst, d.snd.fst, d.snd.fst != d_1.snd.fst, x8, x9, d.snd.snd, x13, x14)))
              else
                bif !d.snd.snd == d_1.snd.snd then
                  x
                    (Sum.inr
                      (Sum.inr
                        (Sum.inl
                          (x0, x1, x2, x3, x4, x5, x6, x7, Int.ofNat x0, decide (x5 < Int.ofNat x0), Int.toNat x5, x9 (Int.toNat x5), decide (x9 (Int.toNat x5) < 0), x15, x16, x17, d_1.fst, d_1.snd.fst,
                            d_1.snd.snd, d.fst, d.fst != d_1.fst, d.snd.fst, d.snd.fst != d_1.snd.fst, d.snd.snd, !d.snd.snd == d_1.snd.snd, x8, x9, x13, x14))))
                else c (x0, x1, x2, x3, x4, IntKind.wrap IntKind.i64 (x5 + 1), x6, x7, x8, x9, d.fst, d.snd.fst, d.snd.snd, x13, x14, d_1.fst, d_1.snd.fst, d_1.snd.snd)
      else
        bif inR x5 x0 then
          Option.bind (g___health_Watch__Mark (x9 (Int.toNat x5)) x10 x11 x12) fun (d : Int) =>
            bif inR x5 x0 then
              Option.bind (g_astrolaberef25_Mark x15 x16 x17 (x9 (Int.toNat x5))) fun (d_1 : Int) =>
                bif d != d_1 then
                  x
                    (Sum.inr
                      (Sum.inr
                        (Sum.inr
                          (Sum.inl
                            (x0, x1, x2, x3, x4, x5, x6, x7, Int.ofNat x0, decide (x5 < Int.ofNat x0), Int.toNat x5, x9 (Int.toNat x5), decide (x9 (Int.toNat x5) < 0), x15, x16, x17, d_1, d, d != d_1,
                              x8, x9, x13, x14)))))
                else c (x0, x1, x2, x3, x4, IntKind.wrap IntKind.i64 (x5 + 1), x6, x7, x8, x9, d, 0, true, x13, x14, d_1, 0, true)
            else none
        else none
    else none
  else x (Sum.inr (Sum.inr (Sum.inr (Sum.inr (x0, x1, x2, x3, x4, x5, x6, x7, Int.ofNat x0, decide (x5 < Int.ofNat x0), x8, x9, x10, x11, x12, x13, x14, x15, x16, x17)))))
section
open Go.Ab.Rdr
def Q_astrolabelaw24_HealthWatches_0 := (st (cons (ar (rc (csl (nat 0) (ok' (nat 0)) (szs hole) (nat 1) hole))) (cons (ar (rc (cf (fi .i64 hole)))) (cons (ar (rc (cf (fi .i64 hole)))) (cons (ar (rc (cf (fi .i64 hole)))) (cons aund (cons aund (cons aund (cons aund (cons (ar (rc (cf (fb (bool false))))) (cons (ar (rc (cptr (nat 1) (ok' (nat 0)) (nat 6)))) (cons (ar (rc (cptr (nat 2) (ok' (nat 0)) (nat 3)))) (cons (ar (rc (cf (fi .i64 hole)))) (cons aund (cons (ar (rc (cf (fb hole)))) (cons aund (cons aund (cons aund (cons aund (cons (ar (rc (cf (fi .i64 hole)))) (cons aund (cons aund (cons aund (cons aund (cons aund (cons aund (cons aund (cons aund (cons aund (cons aund (cons aund (cons aund (cons aund (cons aund (cons aund (cons aund (cons aund (cons aund (cons aund (cons aund (cons aund (cons aund (cons aund (cons aund (cons aund (cons aund (cons aund (cons aund (cons aund (cons aund (cons aund (cons aund (cons aund (cons aund (cons aund (cons aund (cons aund (cons aund (cons aund (cons aund (cons aund (cons aund (cons aund (cons aund (cons aund (cons aund (cons aund (cons aund (cons aund (cons aund (cons aund (cons aund (cons aund (cons aund (cons aund (cons aund (cons aund (cons aund (cons aund (cons aund (cons aund (cons aund (cons aund (cons aund (cons aund (cons aund (cons aund (cons aund (cons aund (cons aund (cons aund (cons aund (cons aund (cons aund (cons aund (cons aund (cons (atup nil) (cons (atup nil) (cons (atup nil) (cons (atup nil) (cons (atup nil) (cons (atup nil) (cons (atup nil) (cons (atup nil) (cons (atup nil) (cons (atup nil) (cons (atup nil) (cons aund nil))))))))))))))))))))))))))))))))))))))))))))))))))))))))))))))))))))))))))))))))))))))))))))))))))))))))))) (cons (some' (cons (ga (szs hole) (cons (ki .i64 hole) nil)) nil)) (cons (some' (cons (gc (cf (fi .i64 hole))) (cons (gc (cf (fi .i64 hole))) (cons (gc (cf (fb hole))) (cons (gc (cf (fi .i64 (int 0)))) (cons (gc (cf (fi .i64 hole))) (cons (gc (cf (fi .i64 hole))) nil))))))) (cons (some' (cons (gc (cf (fi .i64 hole))) (cons (gc (cf (fi .i64 hole))) (cons (gc (cf (fb hole))) nil)))) nil))) nil)
end
theorem q_astrolabelaw24_HealthWatches_0 : ∀ b, (Q_astrolabelaw24_HealthWatches_0).em b = St.mk
    [AV.r (RV.c (CV.sl 0 (Off.k 0) (Sz.s b.1.1.2.2.1) 1 b.1.1.2.2.2.2)), AV.r (RV.c (CV.f (FV.i IntKind.i64 b.1.2.1))), AV.r (RV.c (CV.f (FV.i IntKind.i64 b.1.2.2.1))), AV.r (RV.c (CV.f (FV.i IntKind.i64 b.1.2.2.2.1))), AV.und, AV.und, AV.und,
      AV.und, AV.r (RV.c (CV.f (FV.b false))), AV.r (RV.c (CV.ptr 1 (Off.k 0) 6)), AV.r (RV.c (CV.ptr 2 (Off.k 0) 3)), AV.r (RV.c (CV.f (FV.i IntKind.i64 b.1.2.2.2.2.2.2.2.2.2.2.2.1))), AV.und, AV.r (RV.c (CV.f (FV.b b.1.2.2.2.2.2.2.2.2.2.2.2.2.2.1))),
      AV.und, AV.und, AV.und, AV.und, AV.r (RV.c (CV.f (FV.i IntKind.i64 b.1.2.2.2.2.2.2.2.2.2.2.2.2.2.2.2.2.2.2.1))), AV.und, AV.und, AV.und, AV.und, AV.und, AV.und, AV.und, AV.und, AV.und, AV.und, AV.und, AV.und, AV.und, AV.und, AV.und,
      AV.und, AV.und, AV.und, AV.und, AV.und, AV.und, AV.und, AV.und, AV.und, AV.und, AV.und, AV.und, AV.und, AV.und, AV.und, AV.und, AV.und, AV.und, AV.und, AV.und, AV.und, AV.und, AV.und, AV.und,
      AV.und, AV.und, AV.und, AV.und, AV.und, AV.und, AV.und, AV.und, AV.und, AV.und, AV.und, AV.und, AV.und, AV.und, AV.und, AV.und, AV.und, AV.und, AV.und, AV.und, AV.und, AV.und, AV.und, AV.und,
      AV.und, AV.und, AV.und, AV.und, AV.und, AV.und, AV.und, AV.und, AV.und, AV.und, AV.und, AV.und, AV.und, AV.tup [], AV.tup [], AV.tup [], AV.tup [], AV.tup [], AV.tup [], AV.tup [], AV.tup [],
      AV.tup [], AV.tup [], AV.tup [], AV.und]
    [some [Sg.a (Sz.s b.2.1.1.1.1) [Col.i IntKind.i64 b.2.1.1.1.2.1]],
      some
        [Sg.c (CV.f (FV.i IntKind.i64 b.2.1.2.1.1)), Sg.c (CV.f (FV.i IntKind.i64 b.2.1.2.1.2.1)), Sg.c (CV.f (FV.b b.2.1.2.1.2.2.1)), Sg.c (CV.f (FV.i IntKind.i64 0)), Sg.c (CV.f (FV.i IntKind.i64 b.2.1.2.1.2.2.2.2.1)),
          Sg.c (CV.f (FV.i IntKind.i64 b.2.1.2.1.2.2.2.2.2.1))],
      some [Sg.c (CV.f (FV.i IntKind.i64 b.2.1.2.2.1.1)), Sg.c (CV.f (FV.i IntKind.i64 b.2.1.2.2.1.2.1)), Sg.c (CV.f (FV.b b.2.1.2.2.1.2.2.1))]]
    [] := fun b => by kernel_rfl
def R_astrolabelaw24_HealthWatches_0 (l : ∀ {ρ : Type}, (Nat × Bool × Int × Int × Int × Int × Bool × Int × Nat × (Nat → Int) × Int × Int × Bool × Int × Int × Int × Int × Bool) → ((Nat × Bool × Int × Int × Int × Int × Bool × Int × Int × Bool × Nat × Int × Bool × Int × Int × Bool × Int × Int × Bool × Int × Bool × Nat × (Nat → Int) × Int × Bool × Int × Int ⊕
  Nat × Bool × Int × Int × Int × Int × Bool × Int × Int × Bool × Nat × Int × Bool × Int × Int × Bool × Int × Int × Bool × Int × Bool × Int × Bool × Nat × (Nat → Int) × Bool × Int × Int ⊕
    Nat × Bool × Int × Int × Int × Int × Bool × Int × Int × Bool × Nat × Int × Bool × Int × Int × Bool × Int × Int × Bool × Int × Bool × Int × Bool × Bool × Bool × Nat × (Nat → Int) × Int × Int ⊕
      Nat × Bool × Int × Int × Int × Int × Bool × Int × Int × Bool × Nat × Int × Bool × Int × Int × Bool × Int × Int × Bool × Nat × (Nat → Int) × Int × Int ⊕
        Nat × Bool × Int × Int × Int × Int × Bool × Int × Int × Bool × Nat × (Nat → Int) × Int × Int × Bool × Int × Int × Int × Int × Bool) → Option ρ) → Option ρ) {ρ : Type} (s : St) (K : AX → St → Option ρ) : Option ρ := ((Q_astrolabelaw24_HealthWatches_0).rd s).bind fun b => l (b.1.1.2.2.1, b.1.1.2.2.2.2, b.1.2.1, b.1.2.2.1, b.1.2.2.2.1, b.1.2.2.2.2.2.2.2.2.2.2.2.1, b.1.2.2.2.2.2.2.2.2.2.2.2.2.2.1, b.1.2.2.2.2.2.2.2.2.2.2.2.2.2.2.2.2.2.2.1, b.2.1.1.1.1, b.2.1.1.1.2.1, b.2.1.2.1.1, b.2.1.2.1.2.1, b.2.1.2.1.2.2.1, b.2.1.2.1.2.2.2.2.1, b.2.1.2.1.2.2.2.2.2.1, b.2.1.2.2.1.1, b.2.1.2.2.1.2.1, b.2.1.2.2.1.2.2.1) (Sum.elim (fun d => K (AX.ret) (St.mk
  [AV.r (RV.c (CV.sl 0 (Off.k 0) (Sz.s d.fst) 1 d.snd.fst)), AV.r (RV.c (CV.f (FV.i IntKind.i64 d.snd.snd.fst))), AV.r (RV.c (CV.f (FV.i IntKind.i64 d.snd.snd.snd.fst))),
    AV.r (RV.c (CV.f (FV.i IntKind.i64 d.snd.snd.snd.snd.fst))), AV.und, AV.und, AV.und, AV.und, AV.r (RV.c (CV.f (FV.b false))), AV.r (RV.c (CV.ptr 1 (Off.k 0) 6)),
    AV.r (RV.c (CV.ptr 2 (Off.k 0) 3)), AV.r (RV.c (CV.f (FV.i IntKind.i64 d.snd.snd.snd.snd.snd.fst))), AV.und, AV.r (RV.c (CV.f (FV.b d.snd.snd.snd.snd.snd.snd.fst))), AV.und, AV.und, AV.und,
    AV.und, AV.r (RV.c (CV.f (FV.i IntKind.i64 d.snd.snd.snd.snd.snd.snd.snd.fst))), AV.und, AV.und, AV.und, AV.und, AV.r (RV.c (CV.f (FV.i IntKind.i64 d.snd.snd.snd.snd.snd.fst))),
    AV.r (RV.c (CV.sl 0 (Off.k 0) (Sz.s d.fst) 1 d.snd.fst)), AV.r (RV.c (CV.f (FV.i IntKind.i64 d.snd.snd.snd.snd.snd.snd.snd.snd.fst))),
    AV.r (RV.c (CV.f (FV.b d.snd.snd.snd.snd.snd.snd.snd.snd.snd.fst))), AV.und, AV.und, AV.r (RV.c (CV.sl 0 (Off.k 0) (Sz.s d.fst) 1 d.snd.fst)),
    AV.r (RV.c (CV.f (FV.i IntKind.i64 d.snd.snd.snd.snd.snd.fst))), AV.r (RV.c (CV.ptr 0 (Off.x 0 d.snd.snd.snd.snd.snd.snd.snd.snd.snd.snd.fst 1) 1)),
    AV.r (RV.c (CV.f (FV.i IntKind.i64 d.snd.snd.snd.snd.snd.snd.snd.snd.snd.snd.snd.fst))), AV.r (RV.c (CV.f (FV.b d.snd.snd.snd.snd.snd.snd.snd.snd.snd.snd.snd.snd.fst))),
    AV.r (RV.c (CV.ptr 1 (Off.k 0) 6)), AV.r (RV.c (CV.ptr 1 (Off.k 0) 6)), AV.r (RV.c (CV.ptr 1 (Off.k 0) 3)), AV.tup [],
    AV.r
      (RV.agg
        [Sg.c (CV.f (FV.i IntKind.i64 d.snd.snd.snd.snd.snd.snd.snd.snd.snd.snd.snd.snd.snd.fst)), Sg.c (CV.f (FV.i IntKind.i64 d.snd.snd.snd.snd.snd.snd.snd.snd.snd.snd.snd.snd.snd.snd.fst)),
          Sg.c (CV.f (FV.b d.snd.snd.snd.snd.snd.snd.snd.snd.snd.snd.snd.snd.snd.snd.snd.fst))]),
    AV.r
      (RV.agg
        [Sg.c (CV.f (FV.i IntKind.i64 d.snd.snd.snd.snd.snd.snd.snd.snd.snd.snd.snd.snd.snd.snd.snd.snd.fst)),
          Sg.c (CV.f (FV.i IntKind.i64 d.snd.snd.snd.snd.snd.snd.snd.snd.snd.snd.snd.snd.snd.snd.snd.snd.snd.fst)),
          Sg.c (CV.f (FV.b d.snd.snd.snd.snd.snd.snd.snd.snd.snd.snd.snd.snd.snd.snd.snd.snd.snd.snd.fst))]),
    AV.und, AV.und, AV.und, AV.und, AV.und, AV.und, AV.und, AV.und, AV.und, AV.und, AV.und, AV.und, AV.und, AV.und, AV.r (RV.c (CV.ptr 1 (Off.k 0) 6)), AV.r (RV.c (CV.ptr 1 (Off.k 0) 6)),
    AV.r (RV.c (CV.ptr 1 (Off.k 0) 3)), AV.r (RV.c (CV.ptr 1 (Off.k 0) 1)), AV.r (RV.c (CV.f (FV.i IntKind.i64 d.snd.snd.snd.snd.snd.snd.snd.snd.snd.snd.snd.snd.snd.snd.snd.snd.snd.snd.snd.fst))),
    AV.r (RV.c (CV.ptr 2 (Off.k 0) 1)), AV.r (RV.c (CV.f (FV.i IntKind.i64 d.snd.snd.snd.snd.snd.snd.snd.snd.snd.snd.snd.snd.snd.snd.snd.snd.fst))),
    AV.r (RV.c (CV.f (FV.b d.snd.snd.snd.snd.snd.snd.snd.snd.snd.snd.snd.snd.snd.snd.snd.snd.snd.snd.snd.snd.fst))), AV.r (RV.c (CV.f (FV.b true))), AV.tup [], AV.tup [], AV.tup [], AV.tup [],
    AV.tup [], AV.tup [], AV.tup [], AV.tup [], AV.r (RV.c (CV.f (FV.b true))), AV.r (RV.c (CV.f (FV.b true))), AV.tup [], AV.tup [], AV.tup [], AV.tup [], AV.tup [], AV.tup [], AV.tup [], AV.tup [],
    AV.r (RV.c (CV.f (FV.b true))), AV.und, AV.und, AV.und, AV.und, AV.und, AV.und, AV.und, AV.und, AV.und, AV.und, AV.und, AV.und, AV.und, AV.tup [], AV.tup [], AV.tup [], AV.tup [], AV.tup [],
    AV.tup [], AV.tup [], AV.tup [], AV.tup [], AV.tup [], AV.tup [], AV.und]
  [some
      [Sg.a (Sz.s d.snd.snd.snd.snd.snd.snd.snd.snd.snd.snd.snd.snd.snd.snd.snd.snd.snd.snd.snd.snd.snd.fst)
          [Col.i IntKind.i64 d.snd.snd.snd.snd.snd.snd.snd.snd.snd.snd.snd.snd.snd.snd.snd.snd.snd.snd.snd.snd.snd.snd.fst]],
    some
      [Sg.c (CV.f (FV.i IntKind.i64 d.snd.snd.snd.snd.snd.snd.snd.snd.snd.snd.snd.snd.snd.snd.snd.snd.snd.snd.snd.fst)),
        Sg.c (CV.f (FV.i IntKind.i64 d.snd.snd.snd.snd.snd.snd.snd.snd.snd.snd.snd.snd.snd.snd.snd.snd.snd.snd.snd.snd.snd.snd.snd.fst)),
        Sg.c (CV.f (FV.b d.snd.snd.snd.snd.snd.snd.snd.snd.snd.snd.snd.snd.snd.snd.snd.snd.snd.snd.snd.snd.snd.snd.snd.snd.fst)), Sg.c (CV.f (FV.i IntKind.i64 0)),
        Sg.c (CV.f (FV.i IntKind.i64 d.snd.snd.snd.snd.snd.snd.snd.snd.snd.snd.snd.snd.snd.snd.snd.snd.snd.snd.snd.snd.snd.snd.snd.snd.snd.fst)),
        Sg.c (CV.f (FV.i IntKind.i64 d.snd.snd.snd.snd.snd.snd.snd.snd.snd.snd.snd.snd.snd.snd.snd.snd.snd.snd.snd.snd.snd.snd.snd.snd.snd.snd))],
    some
      [Sg.c (CV.f (FV.i IntKind.i64 d.snd.snd.snd.snd.snd.snd.snd.snd.snd.snd.snd.snd.snd.snd.snd.snd.fst)),
        Sg.c (CV.f (FV.i IntKind.i64 d.snd.snd.snd.snd.snd.snd.snd.snd.snd.snd.snd.snd.snd.snd.snd.snd.snd.fst)),
        Sg.c (CV.f (FV.b d.snd.snd.snd.snd.snd.snd.snd.snd.snd.snd.snd.snd.snd.snd.snd.snd.snd.snd.fst))]]
  [])) (Sum.elim (fun d => K (AX.ret) (St.mk
  [AV.r (RV.c (CV.sl 0 (Off.k 0) (Sz.s d.fst) 1 d.snd.fst)), AV.r (RV.c (CV.f (FV.i IntKind.i64 d.snd.snd.fst))), AV.r (RV.c (CV.f (FV.i IntKind.i64 d.snd.snd.snd.fst))),
    AV.r (RV.c (CV.f (FV.i IntKind.i64 d.snd.snd.snd.snd.fst))), AV.und, AV.und, AV.und, AV.und, AV.r (RV.c (CV.f (FV.b false))), AV.r (RV.c (CV.ptr 1 (Off.k 0) 6)),
    AV.r (RV.c (CV.ptr 2 (Off.k 0) 3)), AV.r (RV.c (CV.f (FV.i IntKind.i64 d.snd.snd.snd.snd.snd.fst))), AV.und, AV.r (RV.c (CV.f (FV.b d.snd.snd.snd.snd.snd.snd.fst))), AV.und, AV.und, AV.und,
    AV.und, AV.r (RV.c (CV.f (FV.i IntKind.i64 d.snd.snd.snd.snd.snd.snd.snd.fst))), AV.und, AV.und, AV.und, AV.und, AV.r (RV.c (CV.f (FV.i IntKind.i64 d.snd.snd.snd.snd.snd.fst))),
    AV.r (RV.c (CV.sl 0 (Off.k 0) (Sz.s d.fst) 1 d.snd.fst)), AV.r (RV.c (CV.f (FV.i IntKind.i64 d.snd.snd.snd.snd.snd.snd.snd.snd.fst))),
    AV.r (RV.c (CV.f (FV.b d.snd.snd.snd.snd.snd.snd.snd.snd.snd.fst))), AV.und, AV.und, AV.r (RV.c (CV.sl 0 (Off.k 0) (Sz.s d.fst) 1 d.snd.fst)),
    AV.r (RV.c (CV.f (FV.i IntKind.i64 d.snd.snd.snd.snd.snd.fst))), AV.r (RV.c (CV.ptr 0 (Off.x 0 d.snd.snd.snd.snd.snd.snd.snd.snd.snd.snd.fst 1) 1)),
    AV.r (RV.c (CV.f (FV.i IntKind.i64 d.snd.snd.snd.snd.snd.snd.snd.snd.snd.snd.snd.fst))), AV.r (RV.c (CV.f (FV.b d.snd.snd.snd.snd.snd.snd.snd.snd.snd.snd.snd.snd.fst))),
    AV.r (RV.c (CV.ptr 1 (Off.k 0) 6)), AV.r (RV.c (CV.ptr 1 (Off.k 0) 6)), AV.r (RV.c (CV.ptr 1 (Off.k 0) 3)), AV.tup [],
    AV.r
      (RV.agg
        [Sg.c (CV.f (FV.i IntKind.i64 d.snd.snd.snd.snd.snd.snd.snd.snd.snd.snd.snd.snd.snd.fst)), Sg.c (CV.f (FV.i IntKind.i64 d.snd.snd.snd.snd.snd.snd.snd.snd.snd.snd.snd.snd.snd.snd.fst)),
          Sg.c (CV.f (FV.b d.snd.snd.snd.snd.snd.snd.snd.snd.snd.snd.snd.snd.snd.snd.snd.fst))]),
    AV.r
      (RV.agg
        [Sg.c (CV.f (FV.i IntKind.i64 d.snd.snd.snd.snd.snd.snd.snd.snd.snd.snd.snd.snd.snd.snd.snd.snd.fst)),
          Sg.c (CV.f (FV.i IntKind.i64 d.snd.snd.snd.snd.snd.snd.snd.snd.snd.snd.snd.snd.snd.snd.snd.snd.snd.fst)),
          Sg.c (CV.f (FV.b d.snd.snd.snd.snd.snd.snd.snd.snd.snd.snd.snd.snd.snd.snd.snd.snd.snd.snd.fst))]),
    AV.und, AV.und, AV.und, AV.und, AV.und, AV.und, AV.und, AV.und, AV.und, AV.und, AV.und, AV.und, AV.und, AV.und, AV.r (RV.c (CV.ptr 1 (Off.k 0) 6)), AV.r (RV.c (CV.ptr 1 (Off.k 0) 6)),
    AV.r (RV.c (CV.ptr 1 (Off.k 0) 3)), AV.r (RV.c (CV.ptr 1 (Off.k 0) 1)), AV.r (RV.c (CV.f (FV.i IntKind.i64 d.snd.snd.snd.snd.snd.snd.snd.snd.snd.snd.snd.snd.snd.snd.snd.snd.snd.snd.snd.fst))),
    AV.r (RV.c (CV.ptr 2 (Off.k 0) 1)), AV.r (RV.c (CV.f (FV.i IntKind.i64 d.snd.snd.snd.snd.snd.snd.snd.snd.snd.snd.snd.snd.snd.snd.snd.snd.fst))),
    AV.r (RV.c (CV.f (FV.b d.snd.snd.snd.snd.snd.snd.snd.snd.snd.snd.snd.snd.snd.snd.snd.snd.snd.snd.snd.snd.fst))), AV.r (RV.c (CV.f (FV.b false))), AV.r (RV.c (CV.ptr 1 (Off.k 0) 6)),
    AV.r (RV.c (CV.ptr 1 (Off.k 0) 6)), AV.r (RV.c (CV.ptr 1 (Off.k 0) 3)), AV.r (RV.c (CV.ptr 1 (Off.k 1) 1)),
    AV.r (RV.c (CV.f (FV.i IntKind.i64 d.snd.snd.snd.snd.snd.snd.snd.snd.snd.snd.snd.snd.snd.snd.snd.snd.snd.snd.snd.snd.snd.fst))), AV.r (RV.c (CV.ptr 2 (Off.k 1) 1)),
    AV.r (RV.c (CV.f (FV.i IntKind.i64 d.snd.snd.snd.snd.snd.snd.snd.snd.snd.snd.snd.snd.snd.snd.snd.snd.snd.fst))),
    AV.r (RV.c (CV.f (FV.b d.snd.snd.snd.snd.snd.snd.snd.snd.snd.snd.snd.snd.snd.snd.snd.snd.snd.snd.snd.snd.snd.snd.fst))),
    AV.r (RV.c (CV.f (FV.b d.snd.snd.snd.snd.snd.snd.snd.snd.snd.snd.snd.snd.snd.snd.snd.snd.snd.snd.snd.snd.snd.snd.fst))), AV.r (RV.c (CV.f (FV.b true))), AV.tup [], AV.tup [], AV.tup [], AV.tup [],
    AV.tup [], AV.tup [], AV.tup [], AV.tup [], AV.r (RV.c (CV.f (FV.b true))), AV.und, AV.und, AV.und, AV.und, AV.und, AV.und, AV.und, AV.und, AV.und, AV.und, AV.und, AV.und, AV.und, AV.tup [],
    AV.tup [], AV.tup [], AV.tup [], AV.tup [], AV.tup [], AV.tup [], AV.tup [], AV.tup [], AV.tup [], AV.tup [], AV.und]
  [some
      [Sg.a (Sz.s d.snd.snd.snd.snd.snd.snd.snd.snd.snd.snd.snd.snd.snd.snd.snd.snd.snd.snd.snd.snd.snd.snd.snd.fst)
          [Col.i IntKind.i64 d.snd.snd.snd.snd.snd.snd.snd.snd.snd.snd.snd.snd.snd.snd.snd.snd.snd.snd.snd.snd.snd.snd.snd.snd.fst]],
    some
      [Sg.c (CV.f (FV.i IntKind.i64 d.snd.snd.snd.snd.snd.snd.snd.snd.snd.snd.snd.snd.snd.snd.snd.snd.snd.snd.snd.fst)),
        Sg.c (CV.f (FV.i IntKind.i64 d.snd.snd.snd.snd.snd.snd.snd.snd.snd.snd.snd.snd.snd.snd.snd.snd.snd.snd.snd.snd.snd.fst)),
        Sg.c (CV.f (FV.b d.snd.snd.snd.snd.snd.snd.snd.snd.snd.snd.snd.snd.snd.snd.snd.snd.snd.snd.snd.snd.snd.snd.snd.snd.snd.fst)), Sg.c (CV.f (FV.i IntKind.i64 0)),
        Sg.c (CV.f (FV.i IntKind.i64 d.snd.snd.snd.snd.snd.snd.snd.snd.snd.snd.snd.snd.snd.snd.snd.snd.snd.snd.snd.snd.snd.snd.snd.snd.snd.snd.fst)),
        Sg.c (CV.f (FV.i IntKind.i64 d.snd.snd.snd.snd.snd.snd.snd.snd.snd.snd.snd.snd.snd.snd.snd.snd.snd.snd.snd.snd.snd.snd.snd.snd.snd.snd.snd))],
    some
      [Sg.c (CV.f (FV.i IntKind.i64 d.snd.snd.snd.snd.snd.snd.snd.snd.snd.snd.snd.snd.snd.snd.snd.snd.fst)),
        Sg.c (CV.f (FV.i IntKind.i64 d.snd.snd.snd.snd.snd.snd.snd.snd.snd.snd.snd.snd.snd.snd.snd.snd.snd.fst)),
        Sg.c (CV.f (FV.b d.snd.snd.snd.snd.snd.snd.snd.snd.snd.snd.snd.snd.snd.snd.snd.snd.snd.snd.fst))]]
  [])) (Sum.elim (fun d => K (AX.ret) (St.mk
  [AV.r (RV.c (CV.sl 0 (Off.k 0) (Sz.s d.fst) 1 d.snd.fst)), AV.r (RV.c (CV.f (FV.i IntKind.i64 d.snd.snd.fst))), AV.r (RV.c (CV.f (FV.i IntKind.i64 d.snd.snd.snd.fst))),
    AV.r (RV.c (CV.f (FV.i IntKind.i64 d.snd.snd.snd.snd.fst))), AV.und, AV.und, AV.und, AV.und, AV.r (RV.c (CV.f (FV.b false))), AV.r (RV.c (CV.ptr 1 (Off.k 0) 6)),
    AV.r (RV.c (CV.ptr 2 (Off.k 0) 3)), AV.r (RV.c (CV.f (FV.i IntKind.i64 d.snd.snd.snd.snd.snd.fst))), AV.und, AV.r (RV.c (CV.f (FV.b d.snd.snd.snd.snd.snd.snd.fst))), AV.und, AV.und, AV.und,
    AV.und, AV.r (RV.c (CV.f (FV.i IntKind.i64 d.snd.snd.snd.snd.snd.snd.snd.fst))), AV.und, AV.und, AV.und, AV.und, AV.r (RV.c (CV.f (FV.i IntKind.i64 d.snd.snd.snd.snd.snd.fst))),
    AV.r (RV.c (CV.sl 0 (Off.k 0) (Sz.s d.fst) 1 d.snd.fst)), AV.r (RV.c (CV.f (FV.i IntKind.i64 d.snd.snd.snd.snd.snd.snd.snd.snd.fst))),
    AV.r (RV.c (CV.f (FV.b d.snd.snd.snd.snd.snd.snd.snd.snd.snd.fst))), AV.und, AV.und, AV.r (RV.c (CV.sl 0 (Off.k 0) (Sz.s d.fst) 1 d.snd.fst)),
    AV.r (RV.c (CV.f (FV.i IntKind.i64 d.snd.snd.snd.snd.snd.fst))), AV.r (RV.c (CV.ptr 0 (Off.x 0 d.snd.snd.snd.snd.snd.snd.snd.snd.snd.snd.fst 1) 1)),
    AV.r (RV.c (CV.f (FV.i IntKind.i64 d.snd.snd.snd.snd.snd.snd.snd.snd.snd.snd.snd.fst))), AV.r (RV.c (CV.f (FV.b d.snd.snd.snd.snd.snd.snd.snd.snd.snd.snd.snd.snd.fst))),
    AV.r (RV.c (CV.ptr 1 (Off.k 0) 6)), AV.r (RV.c (CV.ptr 1 (Off.k 0) 6)), AV.r (RV.c (CV.ptr 1 (Off.k 0) 3)), AV.tup [],
    AV.r
      (RV.agg
        [Sg.c (CV.f (FV.i IntKind.i64 d.snd.snd.snd.snd.snd.snd.snd.snd.snd.snd.snd.snd.snd.fst)), Sg.c (CV.f (FV.i IntKind.i64 d.snd.snd.snd.snd.snd.snd.snd.snd.snd.snd.snd.snd.snd.snd.fst)),
          Sg.c (CV.f (FV.b d.snd.snd.snd.snd.snd.snd.snd.snd.snd.snd.snd.snd.snd.snd.snd.fst))]),
    AV.r
      (RV.agg
        [Sg.c (CV.f (FV.i IntKind.i64 d.snd.snd.snd.snd.snd.snd.snd.snd.snd.snd.snd.snd.snd.snd.snd.snd.fst)),
          Sg.c (CV.f (FV.i IntKind.i64 d.snd.snd.snd.snd.snd.snd.snd.snd.snd.snd.snd.snd.snd.snd.snd.snd.snd.fst)),
          Sg.c (CV.f (FV.b d.snd.snd.snd.snd.snd.snd.snd.snd.snd.snd.snd.snd.snd.snd.snd.snd.snd.snd.fst))]),
    AV.und, AV.und, AV.und, AV.und, AV.und, AV.und, AV.und, AV.und, AV.und, AV.und, AV.und, AV.und, AV.und, AV.und, AV.r (RV.c (CV.ptr 1 (Off.k 0) 6)), AV.r (RV.c (CV.ptr 1 (Off.k 0) 6)),
    AV.r (RV.c (CV.ptr 1 (Off.k 0) 3)), AV.r (RV.c (CV.ptr 1 (Off.k 0) 1)), AV.r (RV.c (CV.f (FV.i IntKind.i64 d.snd.snd.snd.snd.snd.snd.snd.snd.snd.snd.snd.snd.snd.snd.snd.snd.snd.snd.snd.fst))),
    AV.r (RV.c (CV.ptr 2 (Off.k 0) 1)), AV.r (RV.c (CV.f (FV.i IntKind.i64 d.snd.snd.snd.snd.snd.snd.snd.snd.snd.snd.snd.snd.snd.snd.snd.snd.fst))),
    AV.r (RV.c (CV.f (FV.b d.snd.snd.snd.snd.snd.snd.snd.snd.snd.snd.snd.snd.snd.snd.snd.snd.snd.snd.snd.snd.fst))), AV.r (RV.c (CV.f (FV.b false))), AV.r (RV.c (CV.ptr 1 (Off.k 0) 6)),
    AV.r (RV.c (CV.ptr 1 (Off.k 0) 6)), AV.r (RV.c (CV.ptr 1 (Off.k 0) 3)), AV.r (RV.c (CV.ptr 1 (Off.k 1) 1)),
    AV.r (RV.c (CV.f (FV.i IntKind.i64 d.snd.snd.snd.snd.snd.snd.snd.snd.snd.snd.snd.snd.snd.snd.snd.snd.snd.snd.snd.snd.snd.fst))), AV.r (RV.c (CV.ptr 2 (Off.k 1) 1)),
    AV.r (RV.c (CV.f (FV.i IntKind.i64 d.snd.snd.snd.snd.snd.snd.snd.snd.snd.snd.snd.snd.snd.snd.snd.snd.snd.fst))),
    AV.r (RV.c (CV.f (FV.b d.snd.snd.snd.snd.snd.snd.snd.snd.snd.snd.snd.snd.snd.snd.snd.snd.snd.snd.snd.snd.snd.snd.fst))),
    AV.r (RV.c (CV.f (FV.b d.snd.snd.snd.snd.snd.snd.snd.snd.snd.snd.snd.snd.snd.snd.snd.snd.snd.snd.snd.snd.snd.snd.fst))), AV.r (RV.c (CV.f (FV.b false))), AV.r (RV.c (CV.ptr 1 (Off.k 0) 6)),
    AV.r (RV.c (CV.ptr 1 (Off.k 0) 6)), AV.r (RV.c (CV.ptr 1 (Off.k 0) 3)), AV.r (RV.c (CV.ptr 1 (Off.k 2) 1)),
    AV.r (RV.c (CV.f (FV.b d.snd.snd.snd.snd.snd.snd.snd.snd.snd.snd.snd.snd.snd.snd.snd.snd.snd.snd.snd.snd.snd.snd.snd.fst))), AV.r (RV.c (CV.ptr 2 (Off.k 2) 1)),
    AV.r (RV.c (CV.f (FV.b d.snd.snd.snd.snd.snd.snd.snd.snd.snd.snd.snd.snd.snd.snd.snd.snd.snd.snd.fst))),
    AV.r (RV.c (CV.f (FV.b d.snd.snd.snd.snd.snd.snd.snd.snd.snd.snd.snd.snd.snd.snd.snd.snd.snd.snd.snd.snd.snd.snd.snd.snd.fst))),
    AV.r (RV.c (CV.f (FV.b d.snd.snd.snd.snd.snd.snd.snd.snd.snd.snd.snd.snd.snd.snd.snd.snd.snd.snd.snd.snd.snd.snd.snd.snd.fst))), AV.und, AV.und, AV.und, AV.und, AV.und, AV.und, AV.und, AV.und,
    AV.und, AV.und, AV.und, AV.und, AV.und, AV.tup [], AV.tup [], AV.tup [], AV.tup [], AV.tup [], AV.tup [], AV.tup [], AV.tup [], AV.tup [], AV.tup [], AV.tup [], AV.und]
  [some
      [Sg.a (Sz.s d.snd.snd.snd.snd.snd.snd.snd.snd.snd.snd.snd.snd.snd.snd.snd.snd.snd.snd.snd.snd.snd.snd.snd.snd.snd.fst)
          [Col.i IntKind.i64 d.snd.snd.snd.snd.snd.snd.snd.snd.snd.snd.snd.snd.snd.snd.snd.snd.snd.snd.snd.snd.snd.snd.snd.snd.snd.snd.fst]],
    some
      [Sg.c (CV.f (FV.i IntKind.i64 d.snd.snd.snd.snd.snd.snd.snd.snd.snd.snd.snd.snd.snd.snd.snd.snd.snd.snd.snd.fst)),
        Sg.c (CV.f (FV.i IntKind.i64 d.snd.snd.snd.snd.snd.snd.snd.snd.snd.snd.snd.snd.snd.snd.snd.snd.snd.snd.snd.snd.snd.fst)),
        Sg.c (CV.f (FV.b d.snd.snd.snd.snd.snd.snd.snd.snd.snd.snd.snd.snd.snd.snd.snd.snd.snd.snd.snd.snd.snd.snd.snd.fst)), Sg.c (CV.f (FV.i IntKind.i64 0)),
        Sg.c (CV.f (FV.i IntKind.i64 d.snd.snd.snd.snd.snd.snd.snd.snd.snd.snd.snd.snd.snd.snd.snd.snd.snd.snd.snd.snd.snd.snd.snd.snd.snd.snd.snd.fst)),
        Sg.c (CV.f (FV.i IntKind.i64 d.snd.snd.snd.snd.snd.snd.snd.snd.snd.snd.snd.snd.snd.snd.snd.snd.snd.snd.snd.snd.snd.snd.snd.snd.snd.snd.snd.snd))],
    some
      [Sg.c (CV.f (FV.i IntKind.i64 d.snd.snd.snd.snd.snd.snd.snd.snd.snd.snd.snd.snd.snd.snd.snd.snd.fst)),
        Sg.c (CV.f (FV.i IntKind.i64 d.snd.snd.snd.snd.snd.snd.snd.snd.snd.snd.snd.snd.snd.snd.snd.snd.snd.fst)),
        Sg.c (CV.f (FV.b d.snd.snd.snd.snd.snd.snd.snd.snd.snd.snd.snd.snd.snd.snd.snd.snd.snd.snd.fst))]]
  [])) (Sum.elim (fun d => K (AX.ret) (St.mk
  [AV.r (RV.c (CV.sl 0 (Off.k 0) (Sz.s d.fst) 1 d.snd.fst)), AV.r (RV.c (CV.f (FV.i IntKind.i64 d.snd.snd.fst))), AV.r (RV.c (CV.f (FV.i IntKind.i64 d.snd.snd.snd.fst))),
    AV.r (RV.c (CV.f (FV.i IntKind.i64 d.snd.snd.snd.snd.fst))), AV.und, AV.und, AV.und, AV.und, AV.r (RV.c (CV.f (FV.b false))), AV.r (RV.c (CV.ptr 1 (Off.k 0) 6)),
    AV.r (RV.c (CV.ptr 2 (Off.k 0) 3)), AV.r (RV.c (CV.f (FV.i IntKind.i64 d.snd.snd.snd.snd.snd.fst))), AV.und, AV.r (RV.c (CV.f (FV.b d.snd.snd.snd.snd.snd.snd.fst))), AV.und, AV.und, AV.und,
    AV.und, AV.r (RV.c (CV.f (FV.i IntKind.i64 d.snd.snd.snd.snd.snd.snd.snd.fst))), AV.und, AV.und, AV.und, AV.und, AV.r (RV.c (CV.f (FV.i IntKind.i64 d.snd.snd.snd.snd.snd.fst))),
    AV.r (RV.c (CV.sl 0 (Off.k 0) (Sz.s d.fst) 1 d.snd.fst)), AV.r (RV.c (CV.f (FV.i IntKind.i64 d.snd.snd.snd.snd.snd.snd.snd.snd.fst))),
    AV.r (RV.c (CV.f (FV.b d.snd.snd.snd.snd.snd.snd.snd.snd.snd.fst))), AV.und, AV.und, AV.r (RV.c (CV.sl 0 (Off.k 0) (Sz.s d.fst) 1 d.snd.fst)),
    AV.r (RV.c (CV.f (FV.i IntKind.i64 d.snd.snd.snd.snd.snd.fst))), AV.r (RV.c (CV.ptr 0 (Off.x 0 d.snd.snd.snd.snd.snd.snd.snd.snd.snd.snd.fst 1) 1)),
    AV.r (RV.c (CV.f (FV.i IntKind.i64 d.snd.snd.snd.snd.snd.snd.snd.snd.snd.snd.snd.fst))), AV.r (RV.c (CV.f (FV.b d.snd.snd.snd.snd.snd.snd.snd.snd.snd.snd.snd.snd.fst))), AV.und, AV.und, AV.und,
    AV.und, AV.und, AV.und, AV.r (RV.c (CV.ptr 1 (Off.k 0) 6)), AV.r (RV.c (CV.ptr 1 (Off.k 0) 6)), AV.r (RV.c (CV.ptr 1 (Off.k 0) 3)), AV.r (RV.c (CV.sl 0 (Off.k 0) (Sz.s d.fst) 1 d.snd.fst)),
    AV.r (RV.c (CV.f (FV.i IntKind.i64 d.snd.snd.snd.snd.snd.fst))), AV.r (RV.c (CV.ptr 0 (Off.x 0 d.snd.snd.snd.snd.snd.snd.snd.snd.snd.snd.fst 1) 1)),
    AV.r (RV.c (CV.f (FV.i IntKind.i64 d.snd.snd.snd.snd.snd.snd.snd.snd.snd.snd.snd.fst))), AV.tup [],
    AV.r
      (RV.agg
        [Sg.c (CV.f (FV.i IntKind.i64 d.snd.snd.snd.snd.snd.snd.snd.snd.snd.snd.snd.snd.snd.fst)), Sg.c (CV.f (FV.i IntKind.i64 d.snd.snd.snd.snd.snd.snd.snd.snd.snd.snd.snd.snd.snd.snd.fst)),
          Sg.c (CV.f (FV.b d.snd.snd.snd.snd.snd.snd.snd.snd.snd.snd.snd.snd.snd.snd.snd.fst))]),
    AV.r (RV.c (CV.sl 0 (Off.k 0) (Sz.s d.fst) 1 d.snd.fst)), AV.r (RV.c (CV.f (FV.i IntKind.i64 d.snd.snd.snd.snd.snd.fst))),
    AV.r (RV.c (CV.ptr 0 (Off.x 0 d.snd.snd.snd.snd.snd.snd.snd.snd.snd.snd.fst 1) 1)), AV.r (RV.c (CV.f (FV.i IntKind.i64 d.snd.snd.snd.snd.snd.snd.snd.snd.snd.snd.snd.fst))),
    AV.r (RV.agg [Sg.c (CV.f (FV.i IntKind.i64 d.snd.snd.snd.snd.snd.snd.snd.snd.snd.snd.snd.snd.snd.snd.snd.snd.fst)), Sg.c (CV.f (FV.i IntKind.i64 0)), Sg.c (CV.f (FV.b true))]),
    AV.r (RV.c (CV.ptr 1 (Off.k 0) 6)), AV.r (RV.c (CV.ptr 1 (Off.k 0) 6)), AV.r (RV.c (CV.ptr 1 (Off.k 0) 3)), AV.r (RV.c (CV.ptr 1 (Off.k 0) 1)),
    AV.r (RV.c (CV.f (FV.i IntKind.i64 d.snd.snd.snd.snd.snd.snd.snd.snd.snd.snd.snd.snd.snd.snd.snd.snd.snd.fst))), AV.r (RV.c (CV.ptr 2 (Off.k 0) 1)),
    AV.r (RV.c (CV.f (FV.i IntKind.i64 d.snd.snd.snd.snd.snd.snd.snd.snd.snd.snd.snd.snd.snd.snd.snd.snd.fst))),
    AV.r (RV.c (CV.f (FV.b d.snd.snd.snd.snd.snd.snd.snd.snd.snd.snd.snd.snd.snd.snd.snd.snd.snd.snd.fst))), AV.r (RV.c (CV.f (FV.b true))), AV.tup [], AV.tup [], AV.tup [], AV.tup [], AV.tup [],
    AV.tup [], AV.tup [], AV.tup [], AV.r (RV.c (CV.f (FV.b true))), AV.r (RV.c (CV.f (FV.b true))), AV.tup [], AV.tup [], AV.tup [], AV.tup [], AV.tup [], AV.tup [], AV.tup [], AV.tup [],
    AV.r (RV.c (CV.f (FV.b true))), AV.und, AV.und, AV.und, AV.und, AV.und, AV.und, AV.und, AV.und, AV.und, AV.und, AV.und, AV.und, AV.und, AV.tup [], AV.tup [], AV.tup [], AV.tup [], AV.tup [],
    AV.tup [], AV.tup [], AV.tup [], AV.tup [], AV.tup [], AV.tup [], AV.und]
  [some
      [Sg.a (Sz.s d.snd.snd.snd.snd.snd.snd.snd.snd.snd.snd.snd.snd.snd.snd.snd.snd.snd.snd.snd.fst)
          [Col.i IntKind.i64 d.snd.snd.snd.snd.snd.snd.snd.snd.snd.snd.snd.snd.snd.snd.snd.snd.snd.snd.snd.snd.fst]],
    some
      [Sg.c (CV.f (FV.i IntKind.i64 d.snd.snd.snd.snd.snd.snd.snd.snd.snd.snd.snd.snd.snd.snd.snd.snd.snd.fst)), Sg.c (CV.f (FV.i IntKind.i64 0)), Sg.c (CV.f (FV.b true)),
        Sg.c (CV.f (FV.i IntKind.i64 0)), Sg.c (CV.f (FV.i IntKind.i64 d.snd.snd.snd.snd.snd.snd.snd.snd.snd.snd.snd.snd.snd.snd.snd.snd.snd.snd.snd.snd.snd.fst)),
        Sg.c (CV.f (FV.i IntKind.i64 d.snd.snd.snd.snd.snd.snd.snd.snd.snd.snd.snd.snd.snd.snd.snd.snd.snd.snd.snd.snd.snd.snd))],
    some [Sg.c (CV.f (FV.i IntKind.i64 d.snd.snd.snd.snd.snd.snd.snd.snd.snd.snd.snd.snd.snd.snd.snd.snd.fst)), Sg.c (CV.f (FV.i IntKind.i64 0)), Sg.c (CV.f (FV.b true))]]
  [])) (fun d => K (AX.ex 0) (St.mk
  [AV.r (RV.c (CV.sl 0 (Off.k 0) (Sz.s d.fst) 1 d.snd.fst)), AV.r (RV.c (CV.f (FV.i IntKind.i64 d.snd.snd.fst))), AV.r (RV.c (CV.f (FV.i IntKind.i64 d.snd.snd.snd.fst))),
    AV.r (RV.c (CV.f (FV.i IntKind.i64 d.snd.snd.snd.snd.fst))), AV.und, AV.und, AV.und, AV.und, AV.r (RV.c (CV.f (FV.b false))), AV.r (RV.c (CV.ptr 1 (Off.k 0) 6)),
    AV.r (RV.c (CV.ptr 2 (Off.k 0) 3)), AV.r (RV.c (CV.f (FV.i IntKind.i64 d.snd.snd.snd.snd.snd.fst))), AV.und, AV.r (RV.c (CV.f (FV.b d.snd.snd.snd.snd.snd.snd.fst))), AV.und, AV.und, AV.und,
    AV.und, AV.r (RV.c (CV.f (FV.i IntKind.i64 d.snd.snd.snd.snd.snd.snd.snd.fst))), AV.und, AV.und, AV.und, AV.und, AV.r (RV.c (CV.f (FV.i IntKind.i64 d.snd.snd.snd.snd.snd.fst))),
    AV.r (RV.c (CV.sl 0 (Off.k 0) (Sz.s d.fst) 1 d.snd.fst)), AV.r (RV.c (CV.f (FV.i IntKind.i64 d.snd.snd.snd.snd.snd.snd.snd.snd.fst))),
    AV.r (RV.c (CV.f (FV.b d.snd.snd.snd.snd.snd.snd.snd.snd.snd.fst))), AV.und, AV.und, AV.und, AV.und, AV.und, AV.und, AV.und, AV.und, AV.und, AV.und, AV.und, AV.und, AV.und, AV.und, AV.und, AV.und,
    AV.und, AV.und, AV.und, AV.und, AV.und, AV.und, AV.und, AV.und, AV.und, AV.und, AV.und, AV.und, AV.und, AV.und, AV.und, AV.und, AV.und, AV.und, AV.und, AV.und, AV.und, AV.und, AV.und, AV.und,
    AV.und, AV.und, AV.und, AV.und, AV.und, AV.und, AV.und, AV.und, AV.und, AV.und, AV.und, AV.und, AV.und, AV.und, AV.und, AV.und, AV.und, AV.und, AV.und, AV.und, AV.und, AV.und, AV.und, AV.und,
    AV.und, AV.und, AV.und, AV.und, AV.tup [], AV.tup [], AV.tup [], AV.tup [], AV.tup [], AV.tup [], AV.tup [], AV.tup [], AV.tup [], AV.tup [], AV.tup [], AV.und]
  [some [Sg.a (Sz.s d.snd.snd.snd.snd.snd.snd.snd.snd.snd.snd.fst) [Col.i IntKind.i64 d.snd.snd.snd.snd.snd.snd.snd.snd.snd.snd.snd.fst]],
    some
      [Sg.c (CV.f (FV.i IntKind.i64 d.snd.snd.snd.snd.snd.snd.snd.snd.snd.snd.snd.snd.fst)), Sg.c (CV.f (FV.i IntKind.i64 d.snd.snd.snd.snd.snd.snd.snd.snd.snd.snd.snd.snd.snd.fst)),
        Sg.c (CV.f (FV.b d.snd.snd.snd.snd.snd.snd.snd.snd.snd.snd.snd.snd.snd.snd.fst)), Sg.c (CV.f (FV.i IntKind.i64 0)),
        Sg.c (CV.f (FV.i IntKind.i64 d.snd.snd.snd.snd.snd.snd.snd.snd.snd.snd.snd.snd.snd.snd.snd.fst)),
        Sg.c (CV.f (FV.i IntKind.i64 d.snd.snd.snd.snd.snd.snd.snd.snd.snd.snd.snd.snd.snd.snd.snd.snd.fst))],
    some
      [Sg.c (CV.f (FV.i IntKind.i64 d.snd.snd.snd.snd.snd.snd.snd.snd.snd.snd.snd.snd.snd.snd.snd.snd.snd.fst)),
        Sg.c (CV.f (FV.i IntKind.i64 d.snd.snd.snd.snd.snd.snd.snd.snd.snd.snd.snd.snd.snd.snd.snd.snd.snd.snd.fst)),
        Sg.c (CV.f (FV.b d.snd.snd.snd.snd.snd.snd.snd.snd.snd.snd.snd.snd.snd.snd.snd.snd.snd.snd.snd))]]
  []))))))
theorem ms_astrolabelaw24_HealthWatches_0 {ρ σ : Type} (g_astrolabelaw24_awake : Option Bool) (g___health_Watch__Miss : Int → Int → Bool → Option (Int × Int × Bool)) (g_astrolaberef25_Miss : Int → Int → Bool → Option (Int × Int × Bool)) (g___health_Watch__Mark : Int → Int → Int → Bool → Option Int) (g_astrolaberef25_Mark : Int → Int → Bool → Int → Option Int) (g_astrolaberef25_Fresh : Int → Int → Bool → Int → Int → Option Bool) (g___health_Watch__Fresh : Int → Int → Int → Int → Bool → Option Bool) (g___health_Sensor__Usable : Int → Int → Int → Bool → Int → Int → Int → Option Bool)   (q : ρ → Option σ) (x0 : Nat) (x1 : Bool) (x2 : Int) (x3 : Int) (x4 : Int) (x5 : Int) (x6 : Bool) (x7 : Int) (x8 : Nat) (x9 : Nat → Int) (x10 : Int) (x11 : Int) (x12 : Bool) (x13 : Int) (x14 : Int) (x15 : Int) (x16 : Int) (x17 : Bool) (c : (Nat × Bool × Int × Int × Int × Int × Bool × Int × Nat × (Nat → Int) × Int × Int × Bool × Int × Int × Int × Int × Bool) → Option ρ) (x : (Nat × Bool × Int × Int × Int × Int × Bool × Int × Int × Bool × Nat × Int × Bool × Int × Int × Bool × Int × Int × Bool × Int × Bool × Nat × (Nat → Int) × Int × Bool × Int × Int ⊕
  Nat × Bool × Int × Int × Int × Int × Bool × Int × Int × Bool × Nat × Int × Bool × Int × Int × Bool × Int × Int × Bool × Int × Bool × Int × Bool × Nat × (Nat → Int) × Bool × Int × Int ⊕
    Nat × Bool × Int × Int × Int × Int × Bool × Int × Int × Bool × Nat × Int × Bool × Int × Int × Bool × Int × Int × Bool × Int × Bool × Int × Bool × Bool × Bool × Nat × (Nat → Int) × Int × Int ⊕
      Nat × Bool × Int × Int × Int × Int × Bool × Int × Int × Bool × Nat × Int × Bool × Int × Int × Bool × Int × Int × Bool × Nat × (Nat → Int) × Int × Int ⊕
        Nat × Bool × Int × Int × Int × Int × Bool × Int × Int × Bool × Nat × (Nat → Int) × Int × Int × Bool × Int × Int × Int × Int × Bool) → Option ρ) : (S_astrolabelaw24_HealthWatches_0 g_astrolabelaw24_awake g___health_Watch__Miss g_astrolaberef25_Miss g___health_Watch__Mark g_astrolaberef25_Mark g_astrolaberef25_Fresh g___health_Watch__Fresh g___health_Sensor__Usable  x0 x1 x2 x3 x4 x5 x6 x7 x8 x9 x10 x11 x12 x13 x14 x15 x16 x17 c x).bind q = S_astrolabelaw24_HealthWatches_0 g_astrolabelaw24_awake g___health_Watch__Miss g_astrolaberef25_Miss g___health_Watch__Mark g_astrolaberef25_Mark g_astrolaberef25_Fresh g___health_Watch__Fresh g___health_Sensor__Usable  x0 x1 x2 x3 x4 x5 x6 x7 x8 x9 x10 x11 x12 x13 x14 x15 x16 x17 (fun d => (c d).bind q) (fun d => (x d).bind q) := by
  simp only [S_astrolabelaw24_HealthWatches_0, bnd_cond, bnd_bind, bnd_none, bnd_sum]
def L_astrolabelaw24_HealthWatches_0 {ρ : Type} (d : Nat × Bool × Int × Int × Int × Int × Bool × Int × Nat × (Nat → Int) × Int × Int × Bool × Int × Int × Int × Int × Bool) (k : (Nat × Bool × Int × Int × Int × Int × Bool × Int × Int × Bool × Nat × Int × Bool × Int × Int × Bool × Int × Int × Bool × Int × Bool × Nat × (Nat → Int) × Int × Bool × Int × Int ⊕
  Nat × Bool × Int × Int × Int × Int × Bool × Int × Int × Bool × Nat × Int × Bool × Int × Int × Bool × Int × Int × Bool × Int × Bool × Int × Bool × Nat × (Nat → Int) × Bool × Int × Int ⊕
    Nat × Bool × Int × Int × Int × Int × Bool × Int × Int × Bool × Nat × Int × Bool × Int × Int × Bool × Int × Int × Bool × Int × Bool × Int × Bool × Bool × Bool × Nat × (Nat → Int) × Int × Int ⊕
      Nat × Bool × Int × Int × Int × Int × Bool × Int × Int × Bool × Nat × Int × Bool × Int × Int × Bool × Int × Int × Bool × Nat × (Nat → Int) × Int × Int ⊕
        Nat × Bool × Int × Int × Int × Int × Bool × Int × Int × Bool × Nat × (Nat → Int) × Int × Int × Bool × Int × Int × Int × Int × Bool) → Option ρ) : Option ρ := loopK (fun d c x => S_astrolabelaw24_HealthWatches_0 f_astrolabelaw24_awake f___health_Watch__Miss f_astrolaberef25_Miss f___health_Watch__Mark f_astrolaberef25_Mark f_astrolaberef25_Fresh f___health_Watch__Fresh f___health_Sensor__Usable  d.1 d.2.1 d.2.2.1 d.2.2.2.1 d.2.2.2.2.1 d.2.2.2.2.2.1 d.2.2.2.2.2.2.1 d.2.2.2.2.2.2.2.1 d.2.2.2.2.2.2.2.2.1 d.2.2.2.2.2.2.2.2.2.1 d.2.2.2.2.2.2.2.2.2.2.1 d.2.2.2.2.2.2.2.2.2.2.2.1 d.2.2.2.2.2.2.2.2.2.2.2.2.1 d.2.2.2.2.2.2.2.2.2.2.2.2.2.1 d.2.2.2.2.2.2.2.2.2.2.2.2.2.2.1 d.2.2.2.2.2.2.2.2.2.2.2.2.2.2.2.1 d.2.2.2.2.2.2.2.2.2.2.2.2.2.2.2.2.1 d.2.2.2.2.2.2.2.2.2.2.2.2.2.2.2.2.2 c x) 200 d k
theorem mL_astrolabelaw24_HealthWatches_0 {ρ σ : Type} (q : ρ → Option σ) (d : Nat × Bool × Int × Int × Int × Int × Bool × Int × Nat × (Nat → Int) × Int × Int × Bool × Int × Int × Int × Int × Bool) (k : (Nat × Bool × Int × Int × Int × Int × Bool × Int × Int × Bool × Nat × Int × Bool × Int × Int × Bool × Int × Int × Bool × Int × Bool × Nat × (Nat → Int) × Int × Bool × Int × Int ⊕
  Nat × Bool × Int × Int × Int × Int × Bool × Int × Int × Bool × Nat × Int × Bool × Int × Int × Bool × Int × Int × Bool × Int × Bool × Int × Bool × Nat × (Nat → Int) × Bool × Int × Int ⊕
    Nat × Bool × Int × Int × Int × Int × Bool × Int × Int × Bool × Nat × Int × Bool × Int × Int × Bool × Int × Int × Bool × Int × Bool × Int × Bool × Bool × Bool × Nat × (Nat → Int) × Int × Int ⊕
      Nat × Bool × Int × Int × Int × Int × Bool × Int × Int × Bool × Nat × Int × Bool × Int × Int × Bool × Int × Int × Bool × Nat × (Nat → Int) × Int × Int ⊕
        Nat × Bool × Int × Int × Int × Int × Bool × Int × Int × Bool × Nat × (Nat → Int) × Int × Int × Bool × Int × Int × Int × Int × Bool) → Option ρ) : (L_astrolabelaw24_HealthWatches_0 d k).bind q = L_astrolabelaw24_HealthWatches_0 d fun x => (k x).bind q :=
  loopK_bind q (fun d c x => ms_astrolabelaw24_HealthWatches_0 f_astrolabelaw24_awake f___health_Watch__Miss f_astrolaberef25_Miss f___health_Watch__Mark f_astrolaberef25_Mark f_astrolaberef25_Fresh f___health_Watch__Fresh f___health_Sensor__Usable   q d.1 d.2.1 d.2.2.1 d.2.2.2.1 d.2.2.2.2.1 d.2.2.2.2.2.1 d.2.2.2.2.2.2.1 d.2.2.2.2.2.2.2.1 d.2.2.2.2.2.2.2.2.1 d.2.2.2.2.2.2.2.2.2.1 d.2.2.2.2.2.2.2.2.2.2.1 d.2.2.2.2.2.2.2.2.2.2.2.1 d.2.2.2.2.2.2.2.2.2.2.2.2.1 d.2.2.2.2.2.2.2.2.2.2.2.2.2.1 d.2.2.2.2.2.2.2.2.2.2.2.2.2.2.1 d.2.2.2.2.2.2.2.2.2.2.2.2.2.2.2.1 d.2.2.2.2.2.2.2.2.2.2.2.2.2.2.2.2.1 d.2.2.2.2.2.2.2.2.2.2.2.2.2.2.2.2.2 c x) k _ d
theorem ds_astrolabelaw24_HealthWatches_0 {ρ : Type} (g_astrolabelaw24_awake : Option Bool) (g___health_Watch__Miss : Int → Int → Bool → Option (Int × Int × Bool)) (g_astrolaberef25_Miss : Int → Int → Bool → Option (Int × Int × Bool)) (g___health_Watch__Mark : Int → Int → Int → Bool → Option Int) (g_astrolaberef25_Mark : Int → Int → Bool → Int → Option Int) (g_astrolaberef25_Fresh : Int → Int → Bool → Int → Int → Option Bool) (g___health_Watch__Fresh : Int → Int → Int → Int → Bool → Option Bool) (g___health_Sensor__Usable : Int → Int → Int → Bool → Int → Int → Int → Option Bool) (l_0 : ∀ {ρ : Type}, (Nat × Bool × Int × Int × Int × Int × Bool × Int × Nat × (Nat → Int) × Int × Int × Bool × Int × Int × Int × Int × Bool) → ((Nat × Bool × Int × Int × Int × Int × Bool × Int × Int × Bool × Nat × Int × Bool × Int × Int × Bool × Int × Int × Bool × Int × Bool × Nat × (Nat → Int) × Int × Bool × Int × Int ⊕
  Nat × Bool × Int × Int × Int × Int × Bool × Int × Int × Bool × Nat × Int × Bool × Int × Int × Bool × Int × Int × Bool × Int × Bool × Int × Bool × Nat × (Nat → Int) × Bool × Int × Int ⊕
    Nat × Bool × Int × Int × Int × Int × Bool × Int × Int × Bool × Nat × Int × Bool × Int × Int × Bool × Int × Int × Bool × Int × Bool × Int × Bool × Bool × Bool × Nat × (Nat → Int) × Int × Int ⊕
      Nat × Bool × Int × Int × Int × Int × Bool × Int × Int × Bool × Nat × Int × Bool × Int × Int × Bool × Int × Int × Bool × Nat × (Nat → Int) × Int × Int ⊕
        Nat × Bool × Int × Int × Int × Int × Bool × Int × Int × Bool × Nat × (Nat → Int) × Int × Int × Bool × Int × Int × Int × Int × Bool) → Option ρ) → Option ρ) (x0 : Nat) (x1 : Bool) (x2 : Int) (x3 : Int) (x4 : Int) (x5 : Int) (x6 : Bool) (x7 : Int) (x8 : Nat) (x9 : Nat → Int) (x10 : Int) (x11 : Int) (x12 : Bool) (x13 : Int) (x14 : Int) (x15 : Int) (x16 : Int) (x17 : Bool) (c : St → Option ρ) (K : AX → St → Option ρ) :
    runC Try.prog (envOf [(15, F_astrolabelaw24_awake g_astrolabelaw24_awake), (28, F___health_Watch__Miss g___health_Watch__Miss), (23, F_astrolaberef25_Miss g_astrolaberef25_Miss), (25, F___health_Watch__Mark g___health_Watch__Mark), (22, F_astrolaberef25_Mark g_astrolaberef25_Mark), (26, F_astrolaberef25_Fresh g_astrolaberef25_Fresh), (29, F___health_Watch__Fresh g___health_Watch__Fresh), (27, F___health_Sensor__Usable g___health_Sensor__Usable)]) ⟨[⟨8, [4, 5, 6, 7, 12, 14, 15, 16, 17, 19, 20, 21, 22, 23, 24, 25, 26, 27, 28, 29, 30, 31, 32, 33, 34, 35, 36, 37, 38, 39, 40, 41, 42, 43, 44, 45, 46, 47, 48, 49, 50, 51, 52, 53, 54, 55, 56, 57, 58, 59, 60, 61, 62, 71, 72, 81, 82, 83, 84, 85, 86, 87, 88, 89, 90, 91, 92, 93, 94, 106, 63, 64, 65, 66, 67, 68, 69, 70, 73, 74, 75, 76, 77, 78, 79, 80], []⟩], [⟨8, 1, @R_astrolabelaw24_HealthWatches_0 (@l_0)⟩], []⟩ (tmpsOf Try.prog 5) 1 200 (loopIn Try.prog 5 8)
      (St.mk
    [AV.r (RV.c (CV.sl 0 (Off.k 0) (Sz.s x0) 1 x1)), AV.r (RV.c (CV.f (FV.i IntKind.i64 x2))), AV.r (RV.c (CV.f (FV.i IntKind.i64 x3))), AV.r (RV.c (CV.f (FV.i IntKind.i64 x4))), AV.und, AV.und, AV.und,
      AV.und, AV.r (RV.c (CV.f (FV.b false))), AV.r (RV.c (CV.ptr 1 (Off.k 0) 6)), AV.r (RV.c (CV.ptr 2 (Off.k 0) 3)), AV.r (RV.c (CV.f (FV.i IntKind.i64 x5))), AV.und, AV.r (RV.c (CV.f (FV.b x6))),
      AV.und, AV.und, AV.und, AV.und, AV.r (RV.c (CV.f (FV.i IntKind.i64 x7))), AV.und, AV.und, AV.und, AV.und, AV.und, AV.und, AV.und, AV.und, AV.und, AV.und, AV.und, AV.und, AV.und, AV.und, AV.und,
      AV.und, AV.und, AV.und, AV.und, AV.und, AV.und, AV.und, AV.und, AV.und, AV.und, AV.und, AV.und, AV.und, AV.und, AV.und, AV.und, AV.und, AV.und, AV.und, AV.und, AV.und, AV.und, AV.und, AV.und,
      AV.und, AV.und, AV.und, AV.und, AV.und, AV.und, AV.und, AV.und, AV.und, AV.und, AV.und, AV.und, AV.und, AV.und, AV.und, AV.und, AV.und, AV.und, AV.und, AV.und, AV.und, AV.und, AV.und, AV.und,
      AV.und, AV.und, AV.und, AV.und, AV.und, AV.und, AV.und, AV.und, AV.und, AV.und, AV.und, AV.und, AV.und, AV.tup [], AV.tup [], AV.tup [], AV.tup [], AV.tup [], AV.tup [], AV.tup [], AV.tup [],
      AV.tup [], AV.tup [], AV.tup [], AV.und]
    [some [Sg.a (Sz.s x8) [Col.i IntKind.i64 x9]],
      some
        [Sg.c (CV.f (FV.i IntKind.i64 x10)), Sg.c (CV.f (FV.i IntKind.i64 x11)), Sg.c (CV.f (FV.b x12)), Sg.c (CV.f (FV.i IntKind.i64 0)), Sg.c (CV.f (FV.i IntKind.i64 x13)),
          Sg.c (CV.f (FV.i IntKind.i64 x14))],
      some [Sg.c (CV.f (FV.i IntKind.i64 x15)), Sg.c (CV.f (FV.i IntKind.i64 x16)), Sg.c (CV.f (FV.b x17))]]
    [])
      (next (fun t => t.head 1 ⟨[⟨8, [4, 5, 6, 7, 12, 14, 15, 16, 17, 19, 20, 21, 22, 23, 24, 25, 26, 27, 28, 29, 30, 31, 32, 33, 34, 35, 36, 37, 38, 39, 40, 41, 42, 43, 44, 45, 46, 47, 48, 49, 50, 51, 52, 53, 54, 55, 56, 57, 58, 59, 60, 61, 62, 71, 72, 81, 82, 83, 84, 85, 86, 87, 88, 89, 90, 91, 92, 93, 94, 106, 63, 64, 65, 66, 67, 68, 69, 70, 73, 74, 75, 76, 77, 78, 79, 80], []⟩], [⟨8, 1, @R_astrolabelaw24_HealthWatches_0 (@l_0)⟩], []⟩ (loopIn Try.prog 5 8)) c K) =
    S_astrolabelaw24_HealthWatches_0 g_astrolabelaw24_awake g___health_Watch__Miss g_astrolaberef25_Miss g___health_Watch__Mark g_astrolaberef25_Mark g_astrolaberef25_Fresh g___health_Watch__Fresh g___health_Sensor__Usable  x0 x1 x2 x3 x4 x5 x6 x7 x8 x9 x10 x11 x12 x13 x14 x15 x16 x17 (fun d => c (St.mk
  [AV.r (RV.c (CV.sl 0 (Off.k 0) (Sz.s d.fst) 1 d.snd.fst)), AV.r (RV.c (CV.f (FV.i IntKind.i64 d.snd.snd.fst))), AV.r (RV.c (CV.f (FV.i IntKind.i64 d.snd.snd.snd.fst))),
    AV.r (RV.c (CV.f (FV.i IntKind.i64 d.snd.snd.snd.snd.fst))), AV.und, AV.und, AV.und, AV.und, AV.r (RV.c (CV.f (FV.b false))), AV.r (RV.c (CV.ptr 1 (Off.k 0) 6)),
    AV.r (RV.c (CV.ptr 2 (Off.k 0) 3)), AV.r (RV.c (CV.f (FV.i IntKind.i64 d.snd.snd.snd.snd.snd.fst))), AV.und, AV.r (RV.c (CV.f (FV.b d.snd.snd.snd.snd.snd.snd.fst))), AV.und, AV.und, AV.und,
    AV.und, AV.r (RV.c (CV.f (FV.i IntKind.i64 d.snd.snd.snd.snd.snd.snd.snd.fst))), AV.und, AV.und, AV.und, AV.und, AV.und, AV.und, AV.und, AV.und, AV.und, AV.und, AV.und, AV.und, AV.und, AV.und,
    AV.und, AV.und, AV.und, AV.und, AV.und, AV.und, AV.und, AV.und, AV.und, AV.und, AV.und, AV.und, AV.und, AV.und, AV.und, AV.und, AV.und, AV.und, AV.und, AV.und, AV.und, AV.und, AV.und, AV.und,
    AV.und, AV.und, AV.und, AV.und, AV.und, AV.und, AV.und, AV.und, AV.und, AV.und, AV.und, AV.und, AV.und, AV.und, AV.und, AV.und, AV.und, AV.und, AV.und, AV.und, AV.und, AV.und, AV.und, AV.und,
    AV.und, AV.und, AV.und, AV.und, AV.und, AV.und, AV.und, AV.und, AV.und, AV.und, AV.und, AV.und, AV.und, AV.und, AV.tup [], AV.tup [], AV.tup [], AV.tup [], AV.tup [], AV.tup [], AV.tup [],
    AV.tup [], AV.tup [], AV.tup [], AV.tup [], AV.und]
  [some [Sg.a (Sz.s d.snd.snd.snd.snd.snd.snd.snd.snd.fst) [Col.i IntKind.i64 d.snd.snd.snd.snd.snd.snd.snd.snd.snd.fst]],
    some
      [Sg.c (CV.f (FV.i IntKind.i64 d.snd.snd.snd.snd.snd.snd.snd.snd.snd.snd.fst)), Sg.c (CV.f (FV.i IntKind.i64 d.snd.snd.snd.snd.snd.snd.snd.snd.snd.snd.snd.fst)),
        Sg.c (CV.f (FV.b d.snd.snd.snd.snd.snd.snd.snd.snd.snd.snd.snd.snd.fst)), Sg.c (CV.f (FV.i IntKind.i64 0)),
        Sg.c (CV.f (FV.i IntKind.i64 d.snd.snd.snd.snd.snd.snd.snd.snd.snd.snd.snd.snd.snd.fst)), Sg.c (CV.f (FV.i IntKind.i64 d.snd.snd.snd.snd.snd.snd.snd.snd.snd.snd.snd.snd.snd.snd.fst))],
    some
      [Sg.c (CV.f (FV.i IntKind.i64 d.snd.snd.snd.snd.snd.snd.snd.snd.snd.snd.snd.snd.snd.snd.snd.fst)),
        Sg.c (CV.f (FV.i IntKind.i64 d.snd.snd.snd.snd.snd.snd.snd.snd.snd.snd.snd.snd.snd.snd.snd.snd.fst)), Sg.c (CV.f (FV.b d.snd.snd.snd.snd.snd.snd.snd.snd.snd.snd.snd.snd.snd.snd.snd.snd.snd))]]
  [])) (Sum.elim (fun d => K (AX.ret) (St.mk
  [AV.r (RV.c (CV.sl 0 (Off.k 0) (Sz.s d.fst) 1 d.snd.fst)), AV.r (RV.c (CV.f (FV.i IntKind.i64 d.snd.snd.fst))), AV.r (RV.c (CV.f (FV.i IntKind.i64 d.snd.snd.snd.fst))),
    AV.r (RV.c (CV.f (FV.i IntKind.i64 d.snd.snd.snd.snd.fst))), AV.und, AV.und, AV.und, AV.und, AV.r (RV.c (CV.f (FV.b false))), AV.r (RV.c (CV.ptr 1 (Off.k 0) 6)),
    AV.r (RV.c (CV.ptr 2 (Off.k 0) 3)), AV.r (RV.c (CV.f (FV.i IntKind.i64 d.snd.snd.snd.snd.snd.fst))), AV.und, AV.r (RV.c (CV.f (FV.b d.snd.snd.snd.snd.snd.snd.fst))), AV.und, AV.und, AV.und,
    AV.und, AV.r (RV.c (CV.f (FV.i IntKind.i64 d.snd.snd.snd.snd.snd.snd.snd.fst))), AV.und, AV.und, AV.und, AV.und, AV.r (RV.c (CV.f (FV.i IntKind.i64 d.snd.snd.snd.snd.snd.fst))),
    AV.r (RV.c (CV.sl 0 (Off.k 0) (Sz.s d.fst) 1 d.snd.fst)), AV.r (RV.c (CV.f (FV.i IntKind.i64 d.snd.snd.snd.snd.snd.snd.snd.snd.fst))),
    AV.r (RV.c (CV.f (FV.b d.snd.snd.snd.snd.snd.snd.snd.snd.snd.fst))), AV.und, AV.und, AV.r (RV.c (CV.sl 0 (Off.k 0) (Sz.s d.fst) 1 d.snd.fst)),
    AV.r (RV.c (CV.f (FV.i IntKind.i64 d.snd.snd.snd.snd.snd.fst))), AV.r (RV.c (CV.ptr 0 (Off.x 0 d.snd.snd.snd.snd.snd.snd.snd.snd.snd.snd.fst 1) 1)),
    AV.r (RV.c (CV.f (FV.i IntKind.i64 d.snd.snd.snd.snd.snd.snd.snd.snd.snd.snd.snd.fst))), AV.r (RV.c (CV.f (FV.b d.snd.snd.snd.snd.snd.snd.snd.snd.snd.snd.snd.snd.fst))),
    AV.r (RV.c (CV.ptr 1 (Off.k 0) 6)), AV.r (RV.c (CV.ptr 1 (Off.k 0) 6)), AV.r (RV.c (CV.ptr 1 (Off.k 0) 3)), AV.tup [],
    AV.r
      (RV.agg
        [Sg.c (CV.f (FV.i IntKind.i64 d.snd.snd.snd.snd.snd.snd.snd.snd.snd.snd.snd.snd.snd.fst)), Sg.c (CV.f (FV.i IntKind.i64 d.snd.snd.snd.snd.snd.snd.snd.snd.snd.snd.snd.snd.snd.snd.fst)),
          Sg.c (CV.f (FV.b d.snd.snd.snd.snd.snd.snd.snd.snd.snd.snd.snd.snd.snd.snd.snd.fst))]),
    AV.r
      (RV.agg
        [Sg.c (CV.f (FV.i IntKind.i64 d.snd.snd.snd.snd.snd.snd.snd.snd.snd.snd.snd.snd.snd.snd.snd.snd.fst)),
          Sg.c (CV.f (FV.i IntKind.i64 d.snd.snd.snd.snd.snd.snd.snd.snd.snd.snd.snd.snd.snd.snd.snd.snd.snd.fst)),
          Sg.c (CV.f (FV.b d.snd.snd.snd.snd.snd.snd.snd.snd.snd.snd.snd.snd.snd.snd.snd.snd.snd.snd.fst))]),
    AV.und, AV.und, AV.und, AV.und, AV.und, AV.und, AV.und, AV.und, AV.und, AV.und, AV.und, AV.und, AV.und, AV.und, AV.r (RV.c (CV.ptr 1 (Off.k 0) 6)), AV.r (RV.c (CV.ptr 1 (Off.k 0) 6)),
    AV.r (RV.c (CV.ptr 1 (Off.k 0) 3)), AV.r (RV.c (CV.ptr 1 (Off.k 0) 1)), AV.r (RV.c (CV.f (FV.i IntKind.i64 d.snd.snd.snd.snd.snd.snd.snd.snd.snd.snd.snd.snd.snd.snd.snd.snd.snd.snd.snd.fst))),
    AV.r (RV.c (CV.ptr 2 (Off.k 0) 1)), AV.r (RV.c (CV.f (FV.i IntKind.i64 d.snd.snd.snd.snd.snd.snd.snd.snd.snd.snd.snd.snd.snd.snd.snd.snd.fst))),
    AV.r (RV.c (CV.f (FV.b d.snd.snd.snd.snd.snd.snd.snd.snd.snd.snd.snd.snd.snd.snd.snd.snd.snd.snd.snd.snd.fst))), AV.r (RV.c (CV.f (FV.b true))), AV.tup [], AV.tup [], AV.tup [], AV.tup [],
    AV.tup [], AV.tup [], AV.tup [], AV.tup [], AV.r (RV.c (CV.f (FV.b true))), AV.r (RV.c (CV.f (FV.b true))), AV.tup [], AV.tup [], AV.tup [], AV.tup [], AV.tup [], AV.tup [], AV.tup [], AV.tup [],
    AV.r (RV.c (CV.f (FV.b true))), AV.und, AV.und, AV.und, AV.und, AV.und, AV.und, AV.und, AV.und, AV.und, AV.und, AV.und, AV.und, AV.und, AV.tup [], AV.tup [], AV.tup [], AV.tup [], AV.tup [],
    AV.tup [], AV.tup [], AV.tup [], AV.tup [], AV.tup [], AV.tup [], AV.und]
  [some
      [Sg.a (Sz.s d.snd.snd.snd.snd.snd.snd.snd.snd.snd.snd.snd.snd.snd.snd.snd.snd.snd.snd.snd.snd.snd.fst)
          [Col.i IntKind.i64 d.snd.snd.snd.snd.snd.snd.snd.snd.snd.snd.snd.snd.snd.snd.snd.snd.snd.snd.snd.snd.snd.snd.fst]],
    some
      [Sg.c (CV.f (FV.i IntKind.i64 d.snd.snd.snd.snd.snd.snd.snd.snd.snd.snd.snd.snd.snd.snd.snd.snd.snd.snd.snd.fst)),
        Sg.c (CV.f (FV.i IntKind.i64 d.snd.snd.snd.snd.snd.snd.snd.snd.snd.snd.snd.snd.snd.snd.snd.snd.snd.snd.snd.snd.snd.snd.snd.fst)),
        Sg.c (CV.f (FV.b d.snd.snd.snd.snd.snd.snd.snd.snd.snd.snd.snd.snd.snd.snd.snd.snd.snd.snd.snd.snd.snd.snd.snd.snd.fst)), Sg.c (CV.f (FV.i IntKind.i64 0)),
        Sg.c (CV.f (FV.i IntKind.i64 d.snd.snd.snd.snd.snd.snd.snd.snd.snd.snd.snd.snd.snd.snd.snd.snd.snd.snd.snd.snd.snd.snd.snd.snd.snd.fst)),
        Sg.c (CV.f (FV.i IntKind.i64 d.snd.snd.snd.snd.snd.snd.snd.snd.snd.snd.snd.snd.snd.snd.snd.snd.snd.snd.snd.snd.snd.snd.snd.snd.snd.snd))],
    some
      [Sg.c (CV.f (FV.i IntKind.i64 d.snd.snd.snd.snd.snd.snd.snd.snd.snd.snd.snd.snd.snd.snd.snd.snd.fst)),
        Sg.c (CV.f (FV.i IntKind.i64 d.snd.snd.snd.snd.snd.snd.snd.snd.snd.snd.snd.snd.snd.snd.snd.snd.snd.fst)),
        Sg.c (CV.f (FV.b d.snd.snd.snd.snd.snd.snd.snd.snd.snd.snd.snd.snd.snd.snd.snd.snd.snd.snd.fst))]]
  [])) (Sum.elim (fun d => K (AX.ret) (St.mk
  [AV.r (RV.c (CV.sl 0 (Off.k 0) (Sz.s d.fst) 1 d.snd.fst)), AV.r (RV.c (CV.f (FV.i IntKind.i64 d.snd.snd.fst))), AV.r (RV.c (CV.f (FV.i IntKind.i64 d.snd.snd.snd.fst))),
    AV.r (RV.c (CV.f (FV.i IntKind.i64 d.snd.snd.snd.snd.fst))), AV.und, AV.und, AV.und, AV.und, AV.r (RV.c (CV.f (FV.b false))), AV.r (RV.c (CV.ptr 1 (Off.k 0) 6)),
    AV.r (RV.c (CV.ptr 2 (Off.k 0) 3)), AV.r (RV.c (CV.f (FV.i IntKind.i64 d.snd.snd.snd.snd.snd.fst))), AV.und, AV.r (RV.c (CV.f (FV.b d.snd.snd.snd.snd.snd.snd.fst))), AV.und, AV.und, AV.und,
    AV.und, AV.r (RV.c (CV.f (FV.i IntKind.i64 d.snd.snd.snd.snd.snd.snd.snd.fst))), AV.und, AV.und, AV.und, AV.und, AV.r (RV.c (CV.f (FV.i IntKind.i64 d.snd.snd.snd.snd.snd.fst))),
    AV.r (RV.c (CV.sl 0 (Off.k 0) (Sz.s d.fst) 1 d.snd.fst)), AV.r (RV.c (CV.f (FV.i IntKind.i64 d.snd.snd.snd.snd.snd.snd.snd.snd.fst))),
    AV.r (RV.c (CV.f (FV.b d.snd.snd.snd.snd.snd.snd.snd.snd.snd.fst))), AV.und, AV.und, AV.r (RV.c (CV.sl 0 (Off.k 0) (Sz.s d.fst) 1 d.snd.fst)),
    AV.r (RV.c (CV.f (FV.i IntKind.i64 d.snd.snd.snd.snd.snd.fst))), AV.r (RV.c (CV.ptr 0 (Off.x 0 d.snd.snd.snd.snd.snd.snd.snd.snd.snd.snd.fst 1) 1)),
    AV.r (RV.c (CV.f (FV.i IntKind.i64 d.snd.snd.snd.snd.snd.snd.snd.snd.snd.snd.snd.fst))), AV.r (RV.c (CV.f (FV.b d.snd.snd.snd.snd.snd.snd.snd.snd.snd.snd.snd.snd.fst))),
    AV.r (RV.c (CV.ptr 1 (Off.k 0) 6)), AV.r (RV.c (CV.ptr 1 (Off.k 0) 6)), AV.r (RV.c (CV.ptr 1 (Off.k 0) 3)), AV.tup [],
    AV.r
      (RV.agg
        [Sg.c (CV.f (FV.i IntKind.i64 d.snd.snd.snd.snd.snd.snd.snd.snd.snd.snd.snd.snd.snd.fst)), Sg.c (CV.f (FV.i IntKind.i64 d.snd.snd.snd.snd.snd.snd.snd.snd.snd.snd.snd.snd.snd.snd.fst)),
          Sg.c (CV.f (FV.b d.snd.snd.snd.snd.snd.snd.snd.snd.snd.snd.snd.snd.snd.snd.snd.fst))]),
    AV.r
      (RV.agg
        [Sg.c (CV.f (FV.i IntKind.i64 d.snd.snd.snd.snd.snd.snd.snd.snd.snd.snd.snd.snd.snd.snd.snd.snd.fst)),
          Sg.c (CV.f (FV.i IntKind.i64 d.snd.snd.snd.snd.snd.snd.snd.snd.snd.snd.snd.snd.snd.snd.snd.snd.snd.fst)),
          Sg.c (CV.f (FV.b d.snd.snd.snd.snd.snd.snd.snd.snd.snd.snd.snd.snd.snd.snd.snd.snd.snd.snd.fst))]),
    AV.und, AV.und, AV.und, AV.und, AV.und, AV.und, AV.und, AV.und, AV.und, AV.und, AV.und, AV.und, AV.und, AV.und, AV.r (RV.c (CV.ptr 1 (Off.k 0) 6)), AV.r (RV.c (CV.ptr 1 (Off.k 0) 6)),
    AV.r (RV.c (CV.ptr 1 (Off.k 0) 3)), AV.r (RV.c (CV.ptr 1 (Off.k 0) 1)), AV.r (RV.c (CV.f (FV.i IntKind.i64 d.snd.snd.snd.snd.snd.snd.snd.snd.snd.snd.snd.snd.snd.snd.snd.snd.snd.snd.snd.fst))),
    AV.r (RV.c (CV.ptr 2 (Off.k 0) 1)), AV.r (RV.c (CV.f (FV.i IntKind.i64 d.snd.snd.snd.snd.snd.snd.snd.snd.snd.snd.snd.snd.snd.snd.snd.snd.fst))),
    AV.r (RV.c (CV.f (FV.b d.snd.snd.snd.snd.snd.snd.snd.snd.snd.snd.snd.snd.snd.snd.snd.snd.snd.snd.snd.snd.fst))), AV.r (RV.c (CV.f (FV.b false))), AV.r (RV.c (CV.ptr 1 (Off.k 0) 6)),
    AV.r (RV.c (CV.ptr 1 (Off.k 0) 6)), AV.r (RV.c (CV.ptr 1 (Off.k 0) 3)), AV.r (RV.c (CV.ptr 1 (Off.k 1) 1)),
    AV.r (RV.c (CV.f (FV.i IntKind.i64 d.snd.snd.snd.snd.snd.snd.snd.snd.snd.snd.snd.snd.snd.snd.snd.snd.snd.snd.snd.snd.snd.fst))), AV.r (RV.c (CV.ptr 2 (Off.k 1) 1)),
    AV.r (RV.c (CV.f (FV.i IntKind.i64 d.snd.snd.snd.snd.snd.snd.snd.snd.snd.snd.snd.snd.snd.snd.snd.snd.snd.fst))),
    AV.r (RV.c (CV.f (FV.b d.snd.snd.snd.snd.snd.snd.snd.snd.snd.snd.snd.snd.snd.snd.snd.snd.snd.snd.snd.snd.snd.snd.fst))),
    AV.r (RV.c (CV.f (FV.b d.snd.snd.snd.snd.snd.snd.snd.snd.snd.snd.snd.snd.snd.snd.snd.snd.snd.snd.snd.snd.snd.snd.fst))), AV.r (RV.c (CV.f (FV.b true))), AV.tup [], AV.tup [], AV.tup [], AV.tup [],
    AV.tup [], AV.tup [], AV.tup [], AV.tup [], AV.r (RV.c (CV.f (FV.b true))), AV.und, AV.und, AV.und, AV.und, AV.und, AV.und, AV.und, AV.und, AV.und, AV.und, AV.und, AV.und, AV.und, AV.tup [],
    AV.tup [], AV.tup [], AV.tup [], AV.tup [], AV.tup [], AV.tup [], AV.tup [], AV.tup [], AV.tup [], AV.tup [], AV.und]
  [some
      [Sg.a (Sz.s d.snd.snd.snd.snd.snd.snd.snd.snd.snd.snd.snd.snd.snd.snd.snd.snd.snd.snd.snd.snd.snd.snd.snd.fst)
          [Col.i IntKind.i64 d.snd.snd.snd.snd.snd.snd.snd.snd.snd.snd.snd.snd.snd.snd.snd.snd.snd.snd.snd.snd.snd.snd.snd.snd.fst]],
    some
      [Sg.c (CV.f (FV.i IntKind.i64 d.snd.snd.snd.snd.snd.snd.snd.snd.snd.snd.snd.snd.snd.snd.snd.snd.snd.snd.snd.fst)),
        Sg.c (CV.f (FV.i IntKind.i64 d.snd.snd.snd.snd.snd.snd.snd.snd.snd.snd.snd.snd.snd.snd.snd.snd.snd.snd.snd.snd.snd.fst)),
        Sg.c (CV.f (FV.b d.snd.snd.snd.snd.snd.snd.snd.snd.snd.snd.snd.snd.snd.snd.snd.snd.snd.snd.snd.snd.snd.snd.snd.snd.snd.fst)), Sg.c (CV.f (FV.i IntKind.i64 0)),
        Sg.c (CV.f (FV.i IntKind.i64 d.snd.snd.snd.snd.snd.snd.snd.snd.snd.snd.snd.snd.snd.snd.snd.snd.snd.snd.snd.snd.snd.snd.snd.snd.snd.snd.fst)),
        Sg.c (CV.f (FV.i IntKind.i64 d.snd.snd.snd.snd.snd.snd.snd.snd.snd.snd.snd.snd.snd.snd.snd.snd.snd.snd.snd.snd.snd.snd.snd.snd.snd.snd.snd))],
    some
      [Sg.c (CV.f (FV.i IntKind.i64 d.snd.snd.snd.snd.snd.snd.snd.snd.snd.snd.snd.snd.snd.snd.snd.snd.fst)),
        Sg.c (CV.f (FV.i IntKind.i64 d.snd.snd.snd.snd.snd.snd.snd.snd.snd.snd.snd.snd.snd.snd.snd.snd.snd.fst)),
        Sg.c (CV.f (FV.b d.snd.snd.snd.snd.snd.snd.snd.snd.snd.snd.snd.snd.snd.snd.snd.snd.snd.snd.fst))]]
  [])) (Sum.elim (fun d => K (AX.ret) (St.mk
  [AV.r (RV.c (CV.sl 0 (Off.k 0) (Sz.s d.fst) 1 d.snd.fst)), AV.r (RV.c (CV.f (FV.i IntKind.i64 d.snd.snd.fst))), AV.r (RV.c (CV.f (FV.i IntKind.i64 d.snd.snd.snd.fst))),
    AV.r (RV.c (CV.f (FV.i IntKind.i64 d.snd.snd.snd.snd.fst))), AV.und, AV.und, AV.und, AV.und, AV.r (RV.c (CV.f (FV.b false))), AV.r (RV.c (CV.ptr 1 (Off.k 0) 6)),
    AV.r (RV.c (CV.ptr 2 (Off.k 0) 3)), AV.r (RV.c (CV.f (FV.i IntKind.i64 d.snd.snd.snd.snd.snd.fst))), AV.und, AV.r (RV.c (CV.f (FV.b d.snd.snd.snd.snd.snd.snd.fst))), AV.und, AV.und, AV.und,
    AV.und, AV.r (RV.c (CV.f (FV.i IntKind.i64 d.snd.snd.snd.snd.snd.snd.snd.fst))), AV.und, AV.und, AV.und, AV.und, AV.r (RV.c (CV.f (FV.i IntKind.i64 d.snd.snd.snd.snd.snd.fst))),
    AV.r (RV.c (CV.sl 0 (Off.k 0) (Sz.s d.fst) 1 d.snd.fst)), AV.r (RV.c (CV.f (FV.i IntKind.i64 d.snd.snd.snd.snd.snd.snd.snd.snd.fst))),
    AV.r (RV.c (CV.f (FV.b d.snd.snd.snd.snd.snd.snd.snd.snd.snd.fst))), AV.und, AV.und, AV.r (RV.c (CV.sl 0 (Off.k 0) (Sz.s d.fst) 1 d.snd.fst)),
    AV.r (RV.c (CV.f (FV.i IntKind.i64 d.snd.snd.snd.snd.snd.fst))), AV.r (RV.c (CV.ptr 0 (Off.x 0 d.snd.snd.snd.snd.snd.snd.snd.snd.snd.snd.fst 1) 1)),
    AV.r (RV.c (CV.f (FV.i IntKind.i64 d.snd.snd.snd.snd.snd.snd.snd.snd.snd.snd.snd.fst))), AV.r (RV.c (CV.f (FV.b d.snd.snd.snd.snd.snd.snd.snd.snd.snd.snd.snd.snd.fst))),
    AV.r (RV.c (CV.ptr 1 (Off.k 0) 6)), AV.r (RV.c (CV.ptr 1 (Off.k 0) 6)), AV.r (RV.c (CV.ptr 1 (Off.k 0) 3)), AV.tup [],
    AV.r
      (RV.agg
        [Sg.c (CV.f (FV.i IntKind.i64 d.snd.snd.snd.snd.snd.snd.snd.snd.snd.snd.snd.snd.snd.fst)), Sg.c (CV.f (FV.i IntKind.i64 d.snd.snd.snd.snd.snd.snd.snd.snd.snd.snd.snd.snd.snd.snd.fst)),
          Sg.c (CV.f (FV.b d.snd.snd.snd.snd.snd.snd.snd.snd.snd.snd.snd.snd.snd.snd.snd.fst))]),
    AV.r
      (RV.agg
        [Sg.c (CV.f (FV.i IntKind.i64 d.snd.snd.snd.snd.snd.snd.snd.snd.snd.snd.snd.snd.snd.snd.snd.snd.fst)),
          Sg.c (CV.f (FV.i IntKind.i64 d.snd.snd.snd.snd.snd.snd.snd.snd.snd.snd.snd.snd.snd.snd.snd.snd.snd.fst)),
          Sg.c (CV.f (FV.b d.snd.snd.snd.snd.snd.snd.snd.snd.snd.snd.snd.snd.snd.snd.snd.snd.snd.snd.fst))]),
    AV.und, AV.und, AV.und, AV.und, AV.und, AV.und, AV.und, AV.und, AV.und, AV.und, AV.und, AV.und, AV.und, AV.und, AV.r (RV.c (CV.ptr 1 (Off.k 0) 6)), AV.r (RV.c (CV.ptr 1 (Off.k 0) 6)),
    AV.r (RV.c (CV.ptr 1 (Off.k 0) 3)), AV.r (RV.c (CV.ptr 1 (Off.k 0) 1)), AV.r (RV.c (CV.f (FV.i IntKind.i64 d.snd.snd.snd.snd.snd.snd.snd.snd.snd.snd.snd.snd.snd.snd.snd.snd.snd.snd.snd.fst))),
    AV.r (RV.c (CV.ptr 2 (Off.k 0) 1)), AV.r (RV.c (CV.f (FV.i IntKind.i64 d.snd.snd.snd.snd.snd.snd.snd.snd.snd.snd.snd.snd.snd.snd.snd.snd.fst))),
    AV.r (RV.c (CV.f (FV.b d.snd.snd.snd.snd.snd.snd.snd.snd.snd.snd.snd.snd.snd.snd.snd.snd.snd.snd.snd.snd.fst))), AV.r (RV.c (CV.f (FV.b false))), AV.r (RV.c (CV.ptr 1 (Off.k 0) 6)),
    AV.r (RV.c (CV.ptr 1 (Off.k 0) 6)), AV.r (RV.c (CV.ptr 1 (Off.k 0) 3)), AV.r (RV.c (CV.ptr 1 (Off.k 1) 1)),
    AV.r (RV.c (CV.f (FV.i IntKind.i64 d.snd.snd.snd.snd.snd.snd.snd.snd.snd.snd.snd.snd.snd.snd.snd.snd.snd.snd.snd.snd.snd.fst))), AV.r (RV.c (CV.ptr 2 (Off.k 1) 1)),
    AV.r (RV.c (CV.f (FV.i IntKind.i64 d.snd.snd.snd.snd.snd.snd.snd.snd.snd.snd.snd.snd.snd.snd.snd.snd.snd.fst))),
    AV.r (RV.c (CV.f (FV.b d.snd.snd.snd.snd.snd.snd.snd.snd.snd.snd.snd.snd.snd.snd.snd.snd.snd.snd.snd.snd.snd.snd.fst))),
    AV.r (RV.c (CV.f (FV.b d.snd.snd.snd.snd.snd.snd.snd.snd.snd.snd.snd.snd.snd.snd.snd.snd.snd.snd.snd.snd.snd.snd.fst))), AV.r (RV.c (CV.f (FV.b false))), AV.r (RV.c (CV.ptr 1 (Off.k 0) 6)),
    AV.r (RV.c (CV.ptr 1 (Off.k 0) 6)), AV.r (RV.c (CV.ptr 1 (Off.k 0) 3)), AV.r (RV.c (CV.ptr 1 (Off.k 2) 1)),
    AV.r (RV.c (CV.f (FV.b d.snd.snd.snd.snd.snd.snd.snd.snd.snd.snd.snd.snd.snd.snd.snd.snd.snd.snd.snd.snd.snd.snd.snd.fst))), AV.r (RV.c (CV.ptr 2 (Off.k 2) 1)),
    AV.r (RV.c (CV.f (FV.b d.snd.snd.snd.snd.snd.snd.snd.snd.snd.snd.snd.snd.snd.snd.snd.snd.snd.snd.fst))),
    AV.r (RV.c (CV.f (FV.b d.snd.snd.snd.snd.snd.snd.snd.snd.snd.snd.snd.snd.snd.snd.snd.snd.snd.snd.snd.snd.snd.snd.snd.snd.fst))),
    AV.r (RV.c (CV.f (FV.b d.snd.snd.snd.snd.snd.snd.snd.snd.snd.snd.snd.snd.snd.snd.snd.snd.snd.snd.snd.snd.snd.snd.snd.snd.fst))), AV.und, AV.und, AV.und, AV.und, AV.und, AV.und, AV.und, AV.und,
    AV.und, AV.und, AV.und, AV.und, AV.und, AV.tup [], AV.tup [], AV.tup [], AV.tup [], AV.tup [], AV.tup [], AV.tup [], AV.tup [], AV.tup [], AV.tup [], AV.tup [], AV.und]
  [some
      [Sg.a (Sz.s d.snd.snd.snd.snd.snd.snd.snd.snd.snd.snd.snd.snd.snd.snd.snd.snd.snd.snd.snd.snd.snd.snd.snd.snd.snd.fst)
          [Col.i IntKind.i64 d.snd.snd.snd.snd.snd.snd.snd.snd.snd.snd.snd.snd.snd.snd.snd.snd.snd.snd.snd.snd.snd.snd.snd.snd.snd.snd.fst]],
    some
      [Sg.c (CV.f (FV.i IntKind.i64 d.snd.snd.snd.snd.snd.snd.snd.snd.snd.snd.snd.snd.snd.snd.snd.snd.snd.snd.snd.fst)),
        Sg.c (CV.f (FV.i IntKind.i64 d.snd.snd.snd.snd.snd.snd.snd.snd.snd.snd.snd.snd.snd.snd.snd.snd.snd.snd.snd.snd.snd.fst)),
        Sg.c (CV.f (FV.b d.snd.snd.snd.snd.snd.snd.snd.snd.snd.snd.snd.snd.snd.snd.snd.snd.snd.snd.snd.snd.snd.snd.snd.fst)), Sg.c (CV.f (FV.i IntKind.i64 0)),
        Sg.c (CV.f (FV.i IntKind.i64 d.snd.snd.snd.snd.snd.snd.snd.snd.snd.snd.snd.snd.snd.snd.snd.snd.snd.snd.snd.snd.snd.snd.snd.snd.snd.snd.snd.fst)),
        Sg.c (CV.f (FV.i IntKind.i64 d.snd.snd.snd.snd.snd.snd.snd.snd.snd.snd.snd.snd.snd.snd.snd.snd.snd.snd.snd.snd.snd.snd.snd.snd.snd.snd.snd.snd))],
    some
      [Sg.c (CV.f (FV.i IntKind.i64 d.snd.snd.snd.snd.snd.snd.snd.snd.snd.snd.snd.snd.snd.snd.snd.snd.fst)),
        Sg.c (CV.f (FV.i IntKind.i64 d.snd.snd.snd.snd.snd.snd.snd.snd.snd.snd.snd.snd.snd.snd.snd.snd.snd.fst)),
        Sg.c (CV.f (FV.b d.snd.snd.snd.snd.snd.snd.snd.snd.snd.snd.snd.snd.snd.snd.snd.snd.snd.snd.fst))]]
  [])) (Sum.elim (fun d => K (AX.ret) (St.mk
  [AV.r (RV.c (CV.sl 0 (Off.k 0) (Sz.s d.fst) 1 d.snd.fst)), AV.r (RV.c (CV.f (FV.i IntKind.i64 d.snd.snd.fst))), AV.r (RV.c (CV.f (FV.i IntKind.i64 d.snd.snd.snd.fst))),
    AV.r (RV.c (CV.f (FV.i IntKind.i64 d.snd.snd.snd.snd.fst))), AV.und, AV.und, AV.und, AV.und, AV.r (RV.c (CV.f (FV.b false))), AV.r (RV.c (CV.ptr 1 (Off.k 0) 6)),
    AV.r (RV.c (CV.ptr 2 (Off.k 0) 3)), AV.r (RV.c (CV.f (FV.i IntKind.i64 d.snd.snd.snd.snd.snd.fst))), AV.und, AV.r (RV.c (CV.f (FV.b d.snd.snd.snd.snd.snd.snd.fst))), AV.und, AV.und, AV.und,
    AV.und, AV.r (RV.c (CV.f (FV.i IntKind.i64 d.snd.snd.snd.snd.snd.snd.snd.fst))), AV.und, AV.und, AV.und, AV.und, AV.r (RV.c (CV.f (FV.i IntKind.i64 d.snd.snd.snd.snd.snd.fst))),
    AV.r (RV.c (CV.sl 0 (Off.k 0) (Sz.s d.fst) 1 d.snd.fst)), AV.r (RV.c (CV.f (FV.i IntKind.i64 d.snd.snd.snd.snd.snd.snd.snd.snd.fst))),
    AV.r (RV.c (CV.f (FV.b d.snd.snd.snd.snd.snd.snd.snd.snd.snd.fst))), AV.und, AV.und, AV.r (RV.c (CV.sl 0 (Off.k 0) (Sz.s d.fst) 1 d.snd.fst)),
    AV.r (RV.c (CV.f (FV.i IntKind.i64 d.snd.snd.snd.snd.snd.fst))), AV.r (RV.c (CV.ptr 0 (Off.x 0 d.snd.snd.snd.snd.snd.snd.snd.snd.snd.snd.fst 1) 1)),
    AV.r (RV.c (CV.f (FV.i IntKind.i64 d.snd.snd.snd.snd.snd.snd.snd.snd.snd.snd.snd.fst))), AV.r (RV.c (CV.f (FV.b d.snd.snd.snd.snd.snd.snd.snd.snd.snd.snd.snd.snd.fst))), AV.und, AV.und, AV.und,
    AV.und, AV.und, AV.und, AV.r (RV.c (CV.ptr 1 (Off.k 0) 6)), AV.r (RV.c (CV.ptr 1 (Off.k 0) 6)), AV.r (RV.c (CV.ptr 1 (Off.k 0) 3)), AV.r (RV.c (CV.sl 0 (Off.k 0) (Sz.s d.fst) 1 d.snd.fst)),
    AV.r (RV.c (CV.f (FV.i IntKind.i64 d.snd.snd.snd.snd.snd.fst))), AV.r (RV.c (CV.ptr 0 (Off.x 0 d.snd.snd.snd.snd.snd.snd.snd.snd.snd.snd.fst 1) 1)),
    AV.r (RV.c (CV.f (FV.i IntKind.i64 d.snd.snd.snd.snd.snd.snd.snd.snd.snd.snd.snd.fst))), AV.tup [],
    AV.r
      (RV.agg
        [Sg.c (CV.f (FV.i IntKind.i64 d.snd.snd.snd.snd.snd.snd.snd.snd.snd.snd.snd.snd.snd.fst)), Sg.c (CV.f (FV.i IntKind.i64 d.snd.snd.snd.snd.snd.snd.snd.snd.snd.snd.snd.snd.snd.snd.fst)),
          Sg.c (CV.f (FV.b d.snd.snd.snd.snd.snd.snd.snd.snd.snd.snd.snd.snd.snd.snd.snd.fst))]),
    AV.r (RV.c (CV.sl 0 (Off.k 0) (Sz.s d.fst) 1 d.snd.fst)), AV.r (RV.c (CV.f (FV.i IntKind.i64 d.snd.snd.snd.snd.snd.fst))),
    AV.r (RV.c (CV.ptr 0 (Off.x 0 d.snd.snd.snd.snd.snd.snd.snd.snd.snd.snd.fst 1) 1)), AV.r (RV.c (CV.f (FV.i IntKind.i64 d.snd.snd.snd.snd.snd.snd.snd.snd.snd.snd.snd.fst))),
    AV.r (RV.agg [Sg.c (CV.f (FV.i IntKind.i64 d.snd.snd.snd.snd.snd.snd.snd.snd.snd.snd.snd.snd.snd.snd.snd.snd.fst)), Sg.c (CV.f (FV.i IntKind.i64 0)), Sg.c (CV.f (FV.b true))]),
    AV.r (RV.c (CV.ptr 1 (Off.k 0) 6)), AV.r (RV.c (CV.ptr 1 (Off.k 0) 6)), AV.r (RV.c (CV.ptr 1 (Off.k 0) 3)), AV.r (RV.c (CV.ptr 1 (Off.k 0) 1)),
    AV.r (RV.c (CV.f (FV.i IntKind.i64 d.snd.snd.snd.snd.snd.snd.snd.snd.snd.snd.snd.snd.snd.snd.snd.snd.snd.fst))), AV.r (RV.c (CV.ptr 2 (Off.k 0) 1)),
    AV.r (RV.c (CV.f (FV.i IntKind.i64 d.snd.snd.snd.snd.snd.snd.snd.snd.snd.snd.snd.snd.snd.snd.snd.snd.fst))),
    AV.r (RV.c (CV.f (FV.b d.snd.snd.snd.snd.snd.snd.snd.snd.snd.snd.snd.snd.snd.snd.snd.snd.snd.snd.fst))), AV.r (RV.c (CV.f (FV.b true))), AV.tup [], AV.tup [], AV.tup [], AV.tup [], AV.tup [],
    AV.tup [], AV.tup [], AV.tup [], AV.r (RV.c (CV.f (FV.b true))), AV.r (RV.c (CV.f (FV.b true))), AV.tup [], AV.tup [], AV.tup [], AV.tup [], AV.tup [], AV.tup [], AV.tup [], AV.tup [],
    AV.r (RV.c (CV.f (FV.b true))), AV.und, AV.und, AV.und, AV.und, AV.und, AV.und, AV.und, AV.und, AV.und, AV.und, AV.und, AV.und, AV.und, AV.tup [], AV.tup [], AV.tup [], AV.tup [], AV.tup [],
    AV.tup [], AV.tup [], AV.tup [], AV.tup [], AV.tup [], AV.tup [], AV.und]
  [some
      [Sg.a (Sz.s d.snd.snd.snd.snd.snd.snd.snd.snd.snd.snd.snd.snd.snd.snd.snd.snd.snd.snd.snd.fst)
          [Col.i IntKind.i64 d.snd.snd.snd.snd.snd.snd.snd.snd.snd.snd.snd.snd.snd.snd.snd.snd.snd.snd.snd.snd.fst]],
    some
      [Sg.c (CV.f (FV.i IntKind.i64 d.snd.snd.snd.snd.snd.snd.snd.snd.snd.snd.snd.snd.snd.snd.snd.snd.snd.fst)), Sg.c (CV.f (FV.i IntKind.i64 0)), Sg.c (CV.f (FV.b true)),
        Sg.c (CV.f (FV.i IntKind.i64 0)), Sg.c (CV.f (FV.i IntKind.i64 d.snd.snd.snd.snd.snd.snd.snd.snd.snd.snd.snd.snd.snd.snd.snd.snd.snd.snd.snd.snd.snd.fst)),
        Sg.c (CV.f (FV.i IntKind.i64 d.snd.snd.snd.snd.snd.snd.snd.snd.snd.snd.snd.snd.snd.snd.snd.snd.snd.snd.snd.snd.snd.snd))],
    some [Sg.c (CV.f (FV.i IntKind.i64 d.snd.snd.snd.snd.snd.snd.snd.snd.snd.snd.snd.snd.snd.snd.snd.snd.fst)), Sg.c (CV.f (FV.i IntKind.i64 0)), Sg.c (CV.f (FV.b true))]]
  [])) (fun d => K (AX.ex 0) (St.mk
  [AV.r (RV.c (CV.sl 0 (Off.k 0) (Sz.s d.fst) 1 d.snd.fst)), AV.r (RV.c (CV.f (FV.i IntKind.i64 d.snd.snd.fst))), AV.r (RV.c (CV.f (FV.i IntKind.i64 d.snd.snd.snd.fst))),
    AV.r (RV.c (CV.f (FV.i IntKind.i64 d.snd.snd.snd.snd.fst))), AV.und, AV.und, AV.und, AV.und, AV.r (RV.c (CV.f (FV.b false))), AV.r (RV.c (CV.ptr 1 (Off.k 0) 6)),
    AV.r (RV.c (CV.ptr 2 (Off.k 0) 3)), AV.r (RV.c (CV.f (FV.i IntKind.i64 d.snd.snd.snd.snd.snd.fst))), AV.und, AV.r (RV.c (CV.f (FV.b d.snd.snd.snd.snd.snd.snd.fst))), AV.und, AV.und, AV.und,
    AV.und, AV.r (RV.c (CV.f (FV.i IntKind.i64 d.snd.snd.snd.snd.snd.snd.snd.fst))), AV.und, AV.und, AV.und, AV.und, AV.r (RV.c (CV.f (FV.i IntKind.i64 d.snd.snd.snd.snd.snd.fst))),
    AV.r (RV.c (CV.sl 0 (Off.k 0) (Sz.s d.fst) 1 d.snd.fst)), AV.r (RV.c (CV.f (FV.i IntKind.i64 d.snd.snd.snd.snd.snd.snd.snd.snd.fst))),
    AV.r (RV.c (CV.f (FV.b d.snd.snd.snd.snd.snd.snd.snd.snd.snd.fst))), AV.und, AV.und, AV.und, AV.und, AV.und, AV.und, AV.und, AV.und, AV.und, AV.und, AV.und, AV.und, AV.und, AV.und, AV.und, AV.und,
    AV.und, AV.und, AV.und, AV.und, AV.und, AV.und, AV.und, AV.und, AV.und, AV.und, AV.und, AV.und, AV.und, AV.und, AV.und, AV.und, AV.und, AV.und, AV.und, AV.und, AV.und, AV.und, AV.und, AV.und,
    AV.und, AV.und, AV.und, AV.und, AV.und, AV.und, AV.und, AV.und, AV.und, AV.und, AV.und, AV.und, AV.und, AV.und, AV.und, AV.und, AV.und, AV.und, AV.und, AV.und, AV.und, AV.und, AV.und, AV.und,
    AV.und, AV.und, AV.und, AV.und, AV.tup [], AV.tup [], AV.tup [], AV.tup [], AV.tup [], AV.tup [], AV.tup [], AV.tup [], AV.tup [], AV.tup [], AV.tup [], AV.und]
  [some [Sg.a (Sz.s d.snd.snd.snd.snd.snd.snd.snd.snd.snd.snd.fst) [Col.i IntKind.i64 d.snd.snd.snd.snd.snd.snd.snd.snd.snd.snd.snd.fst]],
    some
      [Sg.c (CV.f (FV.i IntKind.i64 d.snd.snd.snd.snd.snd.snd.snd.snd.snd.snd.snd.snd.fst)), Sg.c (CV.f (FV.i IntKind.i64 d.snd.snd.snd.snd.snd.snd.snd.snd.snd.snd.snd.snd.snd.fst)),
        Sg.c (CV.f (FV.b d.snd.snd.snd.snd.snd.snd.snd.snd.snd.snd.snd.snd.snd.snd.fst)), Sg.c (CV.f (FV.i IntKind.i64 0)),
        Sg.c (CV.f (FV.i IntKind.i64 d.snd.snd.snd.snd.snd.snd.snd.snd.snd.snd.snd.snd.snd.snd.snd.fst)),
        Sg.c (CV.f (FV.i IntKind.i64 d.snd.snd.snd.snd.snd.snd.snd.snd.snd.snd.snd.snd.snd.snd.snd.snd.fst))],
    some
      [Sg.c (CV.f (FV.i IntKind.i64 d.snd.snd.snd.snd.snd.snd.snd.snd.snd.snd.snd.snd.snd.snd.snd.snd.snd.fst)),
        Sg.c (CV.f (FV.i IntKind.i64 d.snd.snd.snd.snd.snd.snd.snd.snd.snd.snd.snd.snd.snd.snd.snd.snd.snd.snd.fst)),
        Sg.c (CV.f (FV.b d.snd.snd.snd.snd.snd.snd.snd.snd.snd.snd.snd.snd.snd.snd.snd.snd.snd.snd.snd))]]
  [])))))) := by kernel_rfl
theorem it_astrolabelaw24_HealthWatches_0 {ρ : Type} (x0 : Nat) (x1 : Bool) (x2 : Int) (x3 : Int) (x4 : Int) (x5 : Int) (x6 : Bool) (x7 : Int) (x8 : Nat) (x9 : Nat → Int) (x10 : Int) (x11 : Int) (x12 : Bool) (x13 : Int) (x14 : Int) (x15 : Int) (x16 : Int) (x17 : Bool) (K : AX → St → Option ρ) :
    iter (fun t => t.head 1 ⟨[⟨8, [4, 5, 6, 7, 12, 14, 15, 16, 17, 19, 20, 21, 22, 23, 24, 25, 26, 27, 28, 29, 30, 31, 32, 33, 34, 35, 36, 37, 38, 39, 40, 41, 42, 43, 44, 45, 46, 47, 48, 49, 50, 51, 52, 53, 54, 55, 56, 57, 58, 59, 60, 61, 62, 71, 72, 81, 82, 83, 84, 85, 86, 87, 88, 89, 90, 91, 92, 93, 94, 106, 63, 64, 65, 66, 67, 68, 69, 70, 73, 74, 75, 76, 77, 78, 79, 80], []⟩], [⟨8, 1, @R_astrolabelaw24_HealthWatches_0 (@L_astrolabelaw24_HealthWatches_0)⟩], []⟩ (loopIn Try.prog 5 8)) (runC Try.prog (envOf [(15, F_astrolabelaw24_awake f_astrolabelaw24_awake), (28, F___health_Watch__Miss f___health_Watch__Miss), (23, F_astrolaberef25_Miss f_astrolaberef25_Miss), (25, F___health_Watch__Mark f___health_Watch__Mark), (22, F_astrolaberef25_Mark f_astrolaberef25_Mark), (26, F_astrolaberef25_Fresh f_astrolaberef25_Fresh), (29, F___health_Watch__Fresh f___health_Watch__Fresh), (27, F___health_Sensor__Usable f___health_Sensor__Usable)]) ⟨[⟨8, [4, 5, 6, 7, 12, 14, 15, 16, 17, 19, 20, 21, 22, 23, 24, 25, 26, 27, 28, 29, 30, 31, 32, 33, 34, 35, 36, 37, 38, 39, 40, 41, 42, 43, 44, 45, 46, 47, 48, 49, 50, 51, 52, 53, 54, 55, 56, 57, 58, 59, 60, 61, 62, 71, 72, 81, 82, 83, 84, 85, 86, 87, 88, 89, 90, 91, 92, 93, 94, 106, 63, 64, 65, 66, 67, 68, 69, 70, 73, 74, 75, 76, 77, 78, 79, 80], []⟩], [⟨8, 1, @R_astrolabelaw24_HealthWatches_0 (@L_astrolabelaw24_HealthWatches_0)⟩], []⟩ (tmpsOf Try.prog 5) 1 200 (loopIn Try.prog 5 8)) K 200
      (St.mk
    [AV.r (RV.c (CV.sl 0 (Off.k 0) (Sz.s x0) 1 x1)), AV.r (RV.c (CV.f (FV.i IntKind.i64 x2))), AV.r (RV.c (CV.f (FV.i IntKind.i64 x3))), AV.r (RV.c (CV.f (FV.i IntKind.i64 x4))), AV.und, AV.und, AV.und,
      AV.und, AV.r (RV.c (CV.f (FV.b false))), AV.r (RV.c (CV.ptr 1 (Off.k 0) 6)), AV.r (RV.c (CV.ptr 2 (Off.k 0) 3)), AV.r (RV.c (CV.f (FV.i IntKind.i64 x5))), AV.und, AV.r (RV.c (CV.f (FV.b x6))),
      AV.und, AV.und, AV.und, AV.und, AV.r (RV.c (CV.f (FV.i IntKind.i64 x7))), AV.und, AV.und, AV.und, AV.und, AV.und, AV.und, AV.und, AV.und, AV.und, AV.und, AV.und, AV.und, AV.und, AV.und, AV.und,
      AV.und, AV.und, AV.und, AV.und, AV.und, AV.und, AV.und, AV.und, AV.und, AV.und, AV.und, AV.und, AV.und, AV.und, AV.und, AV.und, AV.und, AV.und, AV.und, AV.und, AV.und, AV.und, AV.und, AV.und,
      AV.und, AV.und, AV.und, AV.und, AV.und, AV.und, AV.und, AV.und, AV.und, AV.und, AV.und, AV.und, AV.und, AV.und, AV.und, AV.und, AV.und, AV.und, AV.und, AV.und, AV.und, AV.und, AV.und, AV.und,
      AV.und, AV.und, AV.und, AV.und, AV.und, AV.und, AV.und, AV.und, AV.und, AV.und, AV.und, AV.und, AV.und, AV.tup [], AV.tup [], AV.tup [], AV.tup [], AV.tup [], AV.tup [], AV.tup [], AV.tup [],
      AV.tup [], AV.tup [], AV.tup [], AV.und]
    [some [Sg.a (Sz.s x8) [Col.i IntKind.i64 x9]],
      some
        [Sg.c (CV.f (FV.i IntKind.i64 x10)), Sg.c (CV.f (FV.i IntKind.i64 x11)), Sg.c (CV.f (FV.b x12)), Sg.c (CV.f (FV.i IntKind.i64 0)), Sg.c (CV.f (FV.i IntKind.i64 x13)),
          Sg.c (CV.f (FV.i IntKind.i64 x14))],
      some [Sg.c (CV.f (FV.i IntKind.i64 x15)), Sg.c (CV.f (FV.i IntKind.i64 x16)), Sg.c (CV.f (FV.b x17))]]
    []) = L_astrolabelaw24_HealthWatches_0 (x0, x1, x2, x3, x4, x5, x6, x7, x8, x9, x10, x11, x12, x13, x14, x15, x16, x17) (Sum.elim (fun d => K (AX.ret) (St.mk
  [AV.r (RV.c (CV.sl 0 (Off.k 0) (Sz.s d.fst) 1 d.snd.fst)), AV.r (RV.c (CV.f (FV.i IntKind.i64 d.snd.snd.fst))), AV.r (RV.c (CV.f (FV.i IntKind.i64 d.snd.snd.snd.fst))),
    AV.r (RV.c (CV.f (FV.i IntKind.i64 d.snd.snd.snd.snd.fst))), AV.und, AV.und, AV.und, AV.und, AV.r (RV.c (CV.f (FV.b false))), AV.r (RV.c (CV.ptr 1 (Off.k 0) 6)),
    AV.r (RV.c (CV.ptr 2 (Off.k 0) 3)), AV.r (RV.c (CV.f (FV.i IntKind.i64 d.snd.snd.snd.snd.snd.fst))), AV.und, AV.r (RV.c (CV.f (FV.b d.snd.snd.snd.snd.snd.snd.fst))), AV.und, AV.und, AV.und,
    AV.und, AV.r (RV.c (CV.f (FV.i IntKind.i64 d.snd.snd.snd.snd.snd.snd.snd.fst))), AV.und, AV.und, AV.und, AV.und, AV.r (RV.c (CV.f (FV.i IntKind.i64 d.snd.snd.snd.snd.snd.fst))),
    AV.r (RV.c (CV.sl 0 (Off.k 0) (Sz.s d.fst) 1 d.snd.fst)), AV.r (RV.c (CV.f (FV.i IntKind.i64 d.snd.snd.snd.snd.snd.snd.snd.snd.fst))),
    AV.r (RV.c (CV.f (FV.b d.snd.snd.snd.snd.snd.snd.snd.snd.snd.fst))), AV.und, AV.und, AV.r (RV.c (CV.sl 0 (Off.k 0) (Sz.s d.fst) 1 d.snd.fst)),
    AV.r (RV.c (CV.f (FV.i IntKind.i64 d.snd.snd.snd.snd.snd.fst))), AV.r (RV.c (CV.ptr 0 (Off.x 0 d.snd.snd.snd.snd.snd.snd.snd.snd.snd.snd.fst 1) 1)),
    AV.r (RV.c (CV.f (FV.i IntKind.i64 d.snd.snd.snd.snd.snd.snd.snd.snd.snd.snd.snd.fst))), AV.r (RV.c (CV.f (FV.b d.snd.snd.snd.snd.snd.snd.snd.snd.snd.snd.snd.snd.fst))),
    AV.r (RV.c (CV.ptr 1 (Off.k 0) 6)), AV.r (RV.c (CV.ptr 1 (Off.k 0) 6)), AV.r (RV.c (CV.ptr 1 (Off.k 0) 3)), AV.tup [],
    AV.r
      (RV.agg
        [Sg.c (CV.f (FV.i IntKind.i64 d.snd.snd.snd.snd.snd.snd.snd.snd.snd.snd.snd.snd.snd.fst)), Sg.c (CV.f (FV.i IntKind.i64 d.snd.snd.snd.snd.snd.snd.snd.snd.snd.snd.snd.snd.snd.snd.fst)),
          Sg.c (CV.f (FV.b d.snd.snd.snd.snd.snd.snd.snd.snd.snd.snd.snd.snd.snd.snd.snd.fst))]),
    AV.r
      (RV.agg
        [Sg.c (CV.f (FV.i IntKind.i64 d.snd.snd.snd.snd.snd.snd.snd.snd.snd.snd.snd.snd.snd.snd.snd.snd.fst)),
          Sg.c (CV.f (FV.i IntKind.i64 d.snd.snd.snd.snd.snd.snd.snd.snd.snd.snd.snd.snd.snd.snd.snd.snd.snd.fst)),
          Sg.c (CV.f (FV.b d.snd.snd.snd.snd.snd.snd.snd.snd.snd.snd.snd.snd.snd.snd.snd.snd.snd.snd.fst))]),
    AV.und, AV.und, AV.und, AV.und, AV.und, AV.und, AV.und, AV.und, AV.und, AV.und, AV.und, AV.und, AV.und, AV.und, AV.r (RV.c (CV.ptr 1 (Off.k 0) 6)), AV.r (RV.c (CV.ptr 1 (Off.k 0) 6)),
    AV.r (RV.c (CV.ptr 1 (Off.k 0) 3)), AV.r (RV.c (CV.ptr 1 (Off.k 0) 1)), AV.r (RV.c (CV.f (FV.i IntKind.i64 d.snd.snd.snd.snd.snd.snd.snd.snd.snd.snd.snd.snd.snd.snd.snd.snd.snd.snd.snd.fst))),
    AV.r (RV.c (CV.ptr 2 (Off.k 0) 1)), AV.r (RV.c (CV.f (FV.i IntKind.i64 d.snd.snd.snd.snd.snd.snd.snd.snd.snd.snd.snd.snd.snd.snd.snd.snd.fst))),
    AV.r (RV.c (CV.f (FV.b d.snd.snd.snd.snd.snd.snd.snd.snd.snd.snd.snd.snd.snd.snd.snd.snd.snd.snd.snd.snd.fst))), AV.r (RV.c (CV.f (FV.b true))), AV.tup [], AV.tup [], AV.tup [], AV.tup [],
    AV.tup [], AV.tup [], AV.tup [], AV.tup [], AV.r (RV.c (CV.f (FV.b true))), AV.r (RV.c (CV.f (FV.b true))), AV.tup [], AV.tup [], AV.tup [], AV.tup [], AV.tup [], AV.tup [], AV.tup [], AV.tup [],
    AV.r (RV.c (CV.f (FV.b true))), AV.und, AV.und, AV.und, AV.und, AV.und, AV.und, AV.und, AV.und, AV.und, AV.und, AV.und, AV.und, AV.und, AV.tup [], AV.tup [], AV.tup [], AV.tup [], AV.tup [],
    AV.tup [], AV.tup [], AV.tup [], AV.tup [], AV.tup [], AV.tup [], AV.und]
  [some
      [Sg.a (Sz.s d.snd.snd.snd.snd.snd.snd.snd.snd.snd.snd.snd.snd.snd.snd.snd.snd.snd.snd.snd.snd.snd.fst)
          [Col.i IntKind.i64 d.snd.snd.snd.snd.snd.snd.snd.snd.snd.snd.snd.snd.snd.snd.snd.snd.snd.snd.snd.snd.snd.snd.fst]],
    some
      [Sg.c (CV.f (FV.i IntKind.i64 d.snd.snd.snd.snd.snd.snd.snd.snd.snd.snd.snd.snd.snd.snd.snd.snd.snd.snd.snd.fst)),
        Sg.c (CV.f (FV.i IntKind.i64 d.snd.snd.snd.snd.snd.snd.snd.snd.snd.snd.snd.snd.snd.snd.snd.snd.snd.snd.snd.snd.snd.snd.snd.fst)),
        Sg.c (CV.f (FV.b d.snd.snd.snd.snd.snd.snd.snd.snd.snd.snd.snd.snd.snd.snd.snd.snd.snd.snd.snd.snd.snd.snd.snd.snd.fst)), Sg.c (CV.f (FV.i IntKind.i64 0)),
        Sg.c (CV.f (FV.i IntKind.i64 d.snd.snd.snd.snd.snd.snd.snd.snd.snd.snd.snd.snd.snd.snd.snd.snd.snd.snd.snd.snd.snd.snd.snd.snd.snd.fst)),
        Sg.c (CV.f (FV.i IntKind.i64 d.snd.snd.snd.snd.snd.snd.snd.snd.snd.snd.snd.snd.snd.snd.snd.snd.snd.snd.snd.snd.snd.snd.snd.snd.snd.snd))],
    some
      [Sg.c (CV.f (FV.i IntKind.i64 d.snd.snd.snd.snd.snd.snd.snd.snd.snd.snd.snd.snd.snd.snd.snd.snd.fst)),
        Sg.c (CV.f (FV.i IntKind.i64 d.snd.snd.snd.snd.snd.snd.snd.snd.snd.snd.snd.snd.snd.snd.snd.snd.snd.fst)),
        Sg.c (CV.f (FV.b d.snd.snd.snd.snd.snd.snd.snd.snd.snd.snd.snd.snd.snd.snd.snd.snd.snd.snd.fst))]]
  [])) (Sum.elim (fun d => K (AX.ret) (St.mk
  [AV.r (RV.c (CV.sl 0 (Off.k 0) (Sz.s d.fst) 1 d.snd.fst)), AV.r (RV.c (CV.f (FV.i IntKind.i64 d.snd.snd.fst))), AV.r (RV.c (CV.f (FV.i IntKind.i64 d.snd.snd.snd.fst))),
    AV.r (RV.c (CV.f (FV.i IntKind.i64 d.snd.snd.snd.snd.fst))), AV.und, AV.und, AV.und, AV.und, AV.r (RV.c (CV.f (FV.b false))), AV.r (RV.c (CV.ptr 1 (Off.k 0) 6)),
    AV.r (RV.c (CV.ptr 2 (Off.k 0) 3)), AV.r (RV.c (CV.f (FV.i IntKind.i64 d.snd.snd.snd.snd.snd.fst))), AV.und, AV.r (RV.c (CV.f (FV.b d.snd.snd.snd.snd.snd.snd.fst))), AV.und, AV.und, AV.und,
    AV.und, AV.r (RV.c (CV.f (FV.i IntKind.i64 d.snd.snd.snd.snd.snd.snd.snd.fst))), AV.und, AV.und, AV.und, AV.und, AV.r (RV.c (CV.f (FV.i IntKind.i64 d.snd.snd.snd.snd.snd.fst))),
    AV.r (RV.c (CV.sl 0 (Off.k 0) (Sz.s d.fst) 1 d.snd.fst)), AV.r (RV.c (CV.f (FV.i IntKind.i64 d.snd.snd.snd.snd.snd.snd.snd.snd.fst))),
    AV.r (RV.c (CV.f (FV.b d.snd.snd.snd.snd.snd.snd.snd.snd.snd.fst))), AV.und, AV.und, AV.r (RV.c (CV.sl 0 (Off.k 0) (Sz.s d.fst) 1 d.snd.fst)),
    AV.r (RV.c (CV.f (FV.i IntKind.i64 d.snd.snd.snd.snd.snd.fst))), AV.r (RV.c (CV.ptr 0 (Off.x 0 d.snd.snd.snd.snd.snd.snd.snd.snd.snd.snd.fst 1) 1)),
    AV.r (RV.c (CV.f (FV.i IntKind.i64 d.snd.snd.snd.snd.snd.snd.snd.snd.snd.snd.snd.fst))), AV.r (RV.c (CV.f (FV.b d.snd.snd.snd.snd.snd.snd.snd.snd.snd.snd.snd.snd.fst))),
    AV.r (RV.c (CV.ptr 1 (Off.k 0) 6)), AV.r (RV.c (CV.ptr 1 (Off.k 0) 6)), AV.r (RV.c (CV.ptr 1 (Off.k 0) 3)), AV.tup [],
    AV.r
      (RV.agg
        [Sg.c (CV.f (FV.i IntKind.i64 d.snd.snd.snd.snd.snd.snd.snd.snd.snd.snd.snd.snd.snd.fst)), Sg.c (CV.f (FV.i IntKind.i64 d.snd.snd.snd.snd.snd.snd.snd.snd.snd.snd.snd.snd.snd.snd.fst)),
          Sg.c (CV.f (FV.b d.snd.snd.snd.snd.snd.snd.snd.snd.snd.snd.snd.snd.snd.snd.snd.fst))]),
    AV.r
      (RV.agg
        [Sg.c (CV.f (FV.i IntKind.i64 d.snd.snd.snd.snd.snd.snd.snd.snd.snd.snd.snd.snd.snd.snd.snd.snd.fst)),
          Sg.c (CV.f (FV.i IntKind.i64 d.snd.snd.snd.snd.snd.snd.snd.snd.snd.snd.snd.snd.snd.snd.snd.snd.snd.fst)),
          Sg.c (CV.f (FV.b d.snd.snd.snd.snd.snd.snd.snd.snd.snd.snd.snd.snd.snd.snd.snd.snd.snd.snd.fst))]),
    AV.und, AV.und, AV.und, AV.und, AV.und, AV.und, AV.und, AV.und, AV.und, AV.und, AV.und, AV.und, AV.und, AV.und, AV.r (RV.c (CV.ptr 1 (Off.k 0) 6)), AV.r (RV.c (CV.ptr 1 (Off.k 0) 6)),
    AV.r (RV.c (CV.ptr 1 (Off.k 0) 3)), AV.r (RV.c (CV.ptr 1 (Off.k 0) 1)), AV.r (RV.c (CV.f (FV.i IntKind.i64 d.snd.snd.snd.snd.snd.snd.snd.snd.snd.snd.snd.snd.snd.snd.snd.snd.snd.snd.snd.fst))),
    AV.r (RV.c (CV.ptr 2 (Off.k 0) 1)), AV.r (RV.c (CV.f (FV.i IntKind.i64 d.snd.snd.snd.snd.snd.snd.snd.snd.snd.snd.snd.snd.snd.snd.snd.snd.fst))),
    AV.r (RV.c (CV.f (FV.b d.snd.snd.snd.snd.snd.snd.snd.snd.snd.snd.snd.snd.snd.snd.snd.snd.snd.snd.snd.snd.fst))), AV.r (RV.c (CV.f (FV.b false))), AV.r (RV.c (CV.ptr 1 (Off.k 0) 6)),
    AV.r (RV.c (CV.ptr 1 (Off.k 0) 6)), AV.r (RV.c (CV.ptr 1 (Off.k 0) 3)), AV.r (RV.c (CV.ptr 1 (Off.k 1) 1)),
    AV.r (RV.c (CV.f (FV.i IntKind.i64 d.snd.snd.snd.snd.snd.snd.snd.snd.snd.snd.snd.snd.snd.snd.snd.snd.snd.snd.snd.snd.snd.fst))), AV.r (RV.c (CV.ptr 2 (Off.k 1) 1)),
    AV.r (RV.c (CV.f (FV.i IntKind.i64 d.snd.snd.snd.snd.snd.snd.snd.snd.snd.snd.snd.snd.snd.snd.snd.snd.snd.fst))),
    AV.r (RV.c (CV.f (FV.b d.snd.snd.snd.snd.snd.snd.snd.snd.snd.snd.snd.snd.snd.snd.snd.snd.snd.snd.snd.snd.snd.snd.fst))),
    AV.r (RV.c (CV.f (FV.b d.snd.snd.snd.snd.snd.snd.snd.snd.snd.snd.snd.snd.snd.snd.snd.snd.snd.snd.snd.snd.snd.snd.fst))), AV.r (RV.c (CV.f (FV.b true))), AV.tup [], AV.tup [], AV.tup [], AV.tup [],
    AV.tup [], AV.tup [], AV.tup [], AV.tup [], AV.r (RV.c (CV.f (FV.b true))), AV.und, AV.und, AV.und, AV.und, AV.und, AV.und, AV.und, AV.und, AV.und, AV.und, AV.und, AV.und, AV.und, AV.tup [],
    AV.tup [], AV.tup [], AV.tup [], AV.tup [], AV.tup [], AV.tup [], AV.tup [], AV.tup [], AV.tup [], AV.tup [], AV.und]
  [some
      [Sg.a (Sz.s d.snd.snd.snd.snd.snd.snd.snd.snd.snd.snd.snd.snd.snd.snd.snd.snd.snd.snd.snd.snd.snd.snd.snd.fst)
          [Col.i IntKind.i64 d.snd.snd.snd.snd.snd.snd.snd.snd.snd.snd.snd.snd.snd.snd.snd.snd.snd.snd.snd.snd.snd.snd.snd.snd.fst]],
    some
      [Sg.c (CV.f (FV.i IntKind.i64 d.snd.snd.snd.snd.snd.snd.snd.snd.snd.snd.snd.snd.snd.snd.snd.snd.snd.snd.snd.fst)),
        Sg.c (CV.f (FV.i IntKind.i64 d.snd.snd.snd.snd.snd.snd.snd.snd.snd.snd.snd.snd.snd.snd.snd.snd.snd.snd.snd.snd.snd.fst)),
        Sg.c (CV.f (FV.b d.snd.snd.snd.snd.snd.snd.snd.snd.snd.snd.snd.snd.snd.snd.snd.snd.snd.snd.snd.snd.snd.snd.snd.snd.snd.fst)), Sg.c (CV.f (FV.i IntKind.i64 0)),
        Sg.c (CV.f (FV.i IntKind.i64 d.snd.snd.snd.snd.snd.snd.snd.snd.snd.snd.snd.snd.snd.snd.snd.snd.snd.snd.snd.snd.snd.snd.snd.snd.snd.snd.fst)),
        Sg.c (CV.f (FV.i IntKind.i64 d.snd.snd.snd.snd.snd.snd.snd.snd.snd.snd.snd.snd.snd.snd.snd.snd.snd.snd.snd.snd.snd.snd.snd.snd.snd.snd.snd))],
    some
      [Sg.c (CV.f (FV.i IntKind.i64 d.snd.snd.snd.snd.snd.snd.snd.snd.snd.snd.snd.snd.snd.snd.snd.snd.fst)),
        Sg.c (CV.f (FV.i IntKind.i64 d.snd.snd.snd.snd.snd.snd.snd.snd.snd.snd.snd.snd.snd.snd.snd.snd.snd.fst)),
        Sg.c (CV.f (FV.b d.snd.snd.snd.snd.snd.snd.snd.snd.snd.snd.snd.snd.snd.snd.snd.snd.snd.snd.fst))]]
  [])) (Sum.elim (fun d => K (AX.ret) (St.mk
  [AV.r (RV.c (CV.sl 0 (Off.k 0) (Sz.s d.fst) 1 d.snd.fst)), AV.r (RV.c (CV.f (FV.i IntKind.i64 d.snd.snd.fst))), AV.r (RV.c (CV.f (FV.i IntKind.i64 d.snd.snd.snd.fst))),
    AV.r (RV.c (CV.f (FV.i IntKind.i64 d.snd.snd.snd.snd.fst))), AV.und, AV.und, AV.und, AV.und, AV.r (RV.c (CV.f (FV.b false))), AV.r (RV.c (CV.ptr 1 (Off.k 0) 6)),
    AV.r (RV.c (CV.ptr 2 (Off.k 0) 3)), AV.r (RV.c (CV.f (FV.i IntKind.i64 d.snd.snd.snd.snd.snd.fst))), AV.und, AV.r (RV.c (CV.f (FV.b d.snd.snd.snd.snd.snd.snd.fst))), AV.und, AV.und, AV.und,
    AV.und, AV.r (RV.c (CV.f (FV.i IntKind.i64 d.snd.snd.snd.snd.snd.snd.snd.fst))), AV.und, AV.und, AV.und, AV.und, AV.r (RV.c (CV.f (FV.i IntKind.i64 d.snd.snd.snd.snd.snd.fst))),
    AV.r (RV.c (CV.sl 0 (Off.k 0) (Sz.s d.fst) 1 d.snd.fst)), AV.r (RV.c (CV.f (FV.i IntKind.i64 d.snd.snd.snd.snd.snd.snd.snd.snd.fst))),
    AV.r (RV.c (CV.f (FV.b d.snd.snd.snd.snd.snd.snd.snd.snd.snd.fst))), AV.und, AV.und, AV.r (RV.c (CV.sl 0 (Off.k 0) (Sz.s d.fst) 1 d.snd.fst)),
    AV.r (RV.c (CV.f (FV.i IntKind.i64 d.snd.snd.snd.snd.snd.fst))), AV.r (RV.c (CV.ptr 0 (Off.x 0 d.snd.snd.snd.snd.snd.snd.snd.snd.snd.snd.fst 1) 1)),
    AV.r (RV.c (CV.f (FV.i IntKind.i64 d.snd.snd.snd.snd.snd.snd.snd.snd.snd.snd.snd.fst))), AV.r (RV.c (CV.f (FV.b d.snd.snd.snd.snd.snd.snd.snd.snd.snd.snd.snd.snd.fst))),
    AV.r (RV.c (CV.ptr 1 (Off.k 0) 6)), AV.r (RV.c (CV.ptr 1 (Off.k 0) 6)), AV.r (RV.c (CV.ptr 1 (Off.k 0) 3)), AV.tup [],
    AV.r
      (RV.agg
        [Sg.c (CV.f (FV.i IntKind.i64 d.snd.snd.snd.snd.snd.snd.snd.snd.snd.snd.snd.snd.snd.fst)), Sg.c (CV.f (FV.i IntKind.i64 d.snd.snd.snd.snd.snd.snd.snd.snd.snd.snd.snd.snd.snd.snd.fst)),
          Sg.c (CV.f (FV.b d.snd.snd.snd.snd.snd.snd.snd.snd.snd.snd.snd.snd.snd.snd.snd.fst))]),
    AV.r
      (RV.agg
        [Sg.c (CV.f (FV.i IntKind.i64 d.snd.snd.snd.snd.snd.snd.snd.snd.snd.snd.snd.snd.snd.snd.snd.snd.fst)),
          Sg.c (CV.f (FV.i IntKind.i64 d.snd.snd.snd.snd.snd.snd.snd.snd.snd.snd.snd.snd.snd.snd.snd.snd.snd.fst)),
          Sg.c (CV.f (FV.b d.snd.snd.snd.snd.snd.snd.snd.snd.snd.snd.snd.snd.snd.snd.snd.snd.snd.snd.fst))]),
    AV.und, AV.und, AV.und, AV.und, AV.und, AV.und, AV.und, AV.und, AV.und, AV.und, AV.und, AV.und, AV.und, AV.und, AV.r (RV.c (CV.ptr 1 (Off.k 0) 6)), AV.r (RV.c (CV.ptr 1 (Off.k 0) 6)),
    AV.r (RV.c (CV.ptr 1 (Off.k 0) 3)), AV.r (RV.c (CV.ptr 1 (Off.k 0) 1)), AV.r (RV.c (CV.f (FV.i IntKind.i64 d.snd.snd.snd.snd.snd.snd.snd.snd.snd.snd.snd.snd.snd.snd.snd.snd.snd.snd.snd.fst))),
    AV.r (RV.c (CV.ptr 2 (Off.k 0) 1)), AV.r (RV.c (CV.f (FV.i IntKind.i64 d.snd.snd.snd.snd.snd.snd.snd.snd.snd.snd.snd.snd.snd.snd.snd.snd.fst))),
    AV.r (RV.c (CV.f (FV.b d.snd.snd.snd.snd.snd.snd.snd.snd.snd.snd.snd.snd.snd.snd.snd.snd.snd.snd.snd.snd.fst))), AV.r (RV.c (CV.f (FV.b false))), AV.r (RV.c (CV.ptr 1 (Off.k 0) 6)),
    AV.r (RV.c (CV.ptr 1 (Off.k 0) 6)), AV.r (RV.c (CV.ptr 1 (Off.k 0) 3)), AV.r (RV.c (CV.ptr 1 (Off.k 1) 1)),
    AV.r (RV.c (CV.f (FV.i IntKind.i64 d.snd.snd.snd.snd.snd.snd.snd.snd.snd.snd.snd.snd.snd.snd.snd.snd.snd.snd.snd.snd.snd.fst))), AV.r (RV.c (CV.ptr 2 (Off.k 1) 1)),
    AV.r (RV.c (CV.f (FV.i IntKind.i64 d.snd.snd.snd.snd.snd.snd.snd.snd.snd.snd.snd.snd.snd.snd.snd.snd.snd.fst))),
    AV.r (RV.c (CV.f (FV.b d.snd.snd.snd.snd.snd.snd.snd.snd.snd.snd.snd.snd.snd.snd.snd.snd.snd.snd.snd.snd.snd.snd.fst))),
    AV.r (RV.c (CV.f (FV.b d.snd.snd.snd.snd.snd.snd.snd.snd.snd.snd.snd.snd.snd.snd.snd.snd.snd.snd.snd.snd.snd.snd.fst))), AV.r (RV.c (CV.f (FV.b false))), AV.r (RV.c (CV.ptr 1 (Off.k 0) 6)),
    AV.r (RV.c (CV.ptr 1 (Off.k 0) 6)), AV.r (RV.c (CV.ptr 1 (Off.k 0) 3)), AV.r (RV.c (CV.ptr 1 (Off.k 2) 1)),
    AV.r (RV.c (CV.f (FV.b d.snd.snd.snd.snd.snd.snd.snd.snd.snd.snd.snd.snd.snd.snd.snd.snd.snd.snd.snd.snd.snd.snd.snd.fst))), AV.r (RV.c (CV.ptr 2 (Off.k 2) 1)),
    AV.r (RV.c (CV.f (FV.b d.snd.snd.snd.snd.snd.snd.snd.snd.snd.snd.snd.snd.snd.snd.snd.snd.snd.snd.fst))),
    AV.r (RV.c (CV.f (FV.b d.snd.snd.snd.snd.snd.snd.snd.snd.snd.snd.snd.snd.snd.snd.snd.snd.snd.snd.snd.snd.snd.snd.snd.snd.fst))),
    AV.r (RV.c (CV.f (FV.b d.snd.snd.snd.snd.snd.snd.snd.snd.snd.snd.snd.snd.snd.snd.snd.snd.snd.snd.snd.snd.snd.snd.snd.snd.fst))), AV.und, AV.und, AV.und, AV.und, AV.und, AV.und, AV.und, AV.und,
    AV.und, AV.und, AV.und, AV.und, AV.und, AV.tup [], AV.tup [], AV.tup [], AV.tup [], AV.tup [], AV.tup [], AV.tup [], AV.tup [], AV.tup [], AV.tup [], AV.tup [], AV.und]
  [some
      [Sg.a (Sz.s d.snd.snd.snd.snd.snd.snd.snd.snd.snd.snd.snd.snd.snd.snd.snd.snd.snd.snd.snd.snd.snd.snd.snd.snd.snd.fst)
          [Col.i IntKind.i64 d.snd.snd.snd.snd.snd.snd.snd.snd.snd.snd.snd.snd.snd.snd.snd.snd.snd.snd.snd.snd.snd.snd.snd.snd.snd.snd.fst]],
    some
      [Sg.c (CV.f (FV.i IntKind.i64 d.snd.snd.snd.snd.snd.snd.snd.snd.snd.snd.snd.snd.snd.snd.snd.snd.snd.snd.snd.fst)),
        Sg.c (CV.f (FV.i IntKind.i64 d.snd.snd.snd.snd.snd.snd.snd.snd.snd.snd.snd.snd.snd.snd.snd.snd.snd.snd.snd.snd.snd.fst)),
        Sg.c (CV.f (FV.b d.snd.snd.snd.snd.snd.snd.snd.snd.snd.snd.snd.snd.snd.snd.snd.snd.snd.snd.snd.snd.snd.snd.snd.fst)), Sg.c (CV.f (FV.i IntKind.i64 0)),
        Sg.c (CV.f (FV.i IntKind.i64 d.snd.snd.snd.snd.snd.snd.snd.snd.snd.snd.snd.snd.snd.snd.snd.snd.snd.snd.snd.snd.snd.snd.snd.snd.snd.snd.snd.fst)),
        Sg.c (CV.f (FV.i IntKind.i64 d.snd.snd.snd.snd.snd.snd.snd.snd.snd.snd.snd.snd.snd.snd.snd.snd.snd.snd.snd.snd.snd.snd.snd.snd.snd.snd.snd.snd))],
    some
      [Sg.c (CV.f (FV.i IntKind.i64 d.snd.snd.snd.snd.snd.snd.snd.snd.snd.snd.snd.snd.snd.snd.snd.snd.fst)),
        Sg.c (CV.f (FV.i IntKind.i64 d.snd.snd.snd.snd.snd.snd.snd.snd.snd.snd.snd.snd.snd.snd.snd.snd.snd.fst)),
        Sg.c (CV.f (FV.b d.snd.snd.snd.snd.snd.snd.snd.snd.snd.snd.snd.snd.snd.snd.snd.snd.snd.snd.fst))]]
  [])) (Sum.elim (fun d => K (AX.ret) (St.mk
  [AV.r (RV.c (CV.sl 0 (Off.k 0) (Sz.s d.fst) 1 d.snd.fst)), AV.r (RV.c (CV.f (FV.i IntKind.i64 d.snd.snd.fst))), AV.r (RV.c (CV.f (FV.i IntKind.i64 d.snd.snd.snd.fst))),
    AV.r (RV.c (CV.f (FV.i IntKind.i64 d.snd.snd.snd.snd.fst))), AV.und, AV.und, AV.und, AV.und, AV.r (RV.c (CV.f (FV.b false))), AV.r (RV.c (CV.ptr 1 (Off.k 0) 6)),
    AV.r (RV.c (CV.ptr 2 (Off.k 0) 3)), AV.r (RV.c (CV.f (FV.i IntKind.i64 d.snd.snd.snd.snd.snd.fst))), AV.und, AV.r (RV.c (CV.f (FV.b d.snd.snd.snd.snd.snd.snd.fst))), AV.und, AV.und, AV.und,
    AV.und, AV.r (RV.c (CV.f (FV.i IntKind.i64 d.snd.snd.snd.snd.snd.snd.snd.fst))), AV.und, AV.und, AV.und, AV.und, AV.r (RV.c (CV.f (FV.i IntKind.i64 d.snd.snd.snd.snd.snd.fst))),
    AV.r (RV.c (CV.sl 0 (Off.k 0) (Sz.s d.fst) 1 d.snd.fst)), AV.r (RV.c (CV.f (FV.i IntKind.i64 d.snd.snd.snd.snd.snd.snd.snd.snd.fst))),
    AV.r (RV.c (CV.f (FV.b d.snd.snd.snd.snd.snd.snd.snd.snd.snd.fst))), AV.und, AV.und, AV.r (RV.c (CV.sl 0 (Off.k 0) (Sz.s d.fst) 1 d.snd.fst)),
    AV.r (RV.c (CV.f (FV.i IntKind.i64 d.snd.snd.snd.snd.snd.fst))), AV.r (RV.c (CV.ptr 0 (Off.x 0 d.snd.snd.snd.snd.snd.snd.snd.snd.snd.snd.fst 1) 1)),
    AV.r (RV.c (CV.f (FV.i IntKind.i64 d.snd.snd.snd.snd.snd.snd.snd.snd.snd.snd.snd.fst))), AV.r (RV.c (CV.f (FV.b d.snd.snd.snd.snd.snd.snd.snd.snd.snd.snd.snd.snd.fst))), AV.und, AV.und, AV.und,
    AV.und, AV.und, AV.und, AV.r (RV.c (CV.ptr 1 (Off.k 0) 6)), AV.r (RV.c (CV.ptr 1 (Off.k 0) 6)), AV.r (RV.c (CV.ptr 1 (Off.k 0) 3)), AV.r (RV.c (CV.sl 0 (Off.k 0) (Sz.s d.fst) 1 d.snd.fst)),
    AV.r (RV.c (CV.f (FV.i IntKind.i64 d.snd.snd.snd.snd.snd.fst))), AV.r (RV.c (CV.ptr 0 (Off.x 0 d.snd.snd.snd.snd.snd.snd.snd.snd.snd.snd.fst 1) 1)),
    AV.r (RV.c (CV.f (FV.i IntKind.i64 d.snd.snd.snd.snd.snd.snd.snd.snd.snd.snd.snd.fst))), AV.tup [],
    AV.r
      (RV.agg
        [Sg.c (CV.f (FV.i IntKind.i64 d.snd.snd.snd.snd.snd.snd.snd.snd.snd.snd.snd.snd.snd.fst)), Sg.c (CV.f (FV.i IntKind.i64 d.snd.snd.snd.snd.snd.snd.snd.snd.snd.snd.snd.snd.snd.snd.fst)),
          Sg.c (CV.f (FV.b d.snd.snd.snd.snd.snd.snd.snd.snd.snd.snd.snd.snd.snd.snd.snd.fst))]),
    AV.r (RV.c (CV.sl 0 (Off.k 0) (Sz.s d.fst) 1 d.snd.fst)), AV.r (RV.c (CV.f (FV.i IntKind.i64 d.snd.snd.snd.snd.snd.fst))),
    AV.r (RV.c (CV.ptr 0 (Off.x 0 d.snd.snd.snd.snd.snd.snd.snd.snd.snd.snd.fst 1) 1)), AV.r (RV.c (CV.f (FV.i IntKind.i64 d.snd.snd.snd.snd.snd.snd.snd.snd.snd.snd.snd.fst))),
    AV.r (RV.agg [Sg.c (CV.f (FV.i IntKind.i64 d.snd.snd.snd.snd.snd.snd.snd.snd.snd.snd.snd.snd.snd.snd.snd.snd.fst)), Sg.c (CV.f (FV.i IntKind.i64 0)), Sg.c (CV.f (FV.b true))]),
    AV.r (RV.c (CV.ptr 1 (Off.k 0) 6)), AV.r (RV.c (CV.ptr 1 (Off.k 0) 6)), AV.r (RV.c (CV.ptr 1 (Off.k 0) 3)), AV.r (RV.c (CV.ptr 1 (Off.k 0) 1)),
    AV.r (RV.c (CV.f (FV.i IntKind.i64 d.snd.snd.snd.snd.snd.snd.snd.snd.snd.snd.snd.snd.snd.snd.snd.snd.snd.fst))), AV.r (RV.c (CV.ptr 2 (Off.k 0) 1)),
    AV.r (RV.c (CV.f (FV.i IntKind.i64 d.snd.snd.snd.snd.snd.snd.snd.snd.snd.snd.snd.snd.snd.snd.snd.snd.fst))),
    AV.r (RV.c (CV.f (FV.b d.snd.snd.snd.snd.snd.snd.snd.snd.snd.snd.snd.snd.snd.snd.snd.snd.snd.snd.fst))), AV.r (RV.c (CV.f (FV.b true))), AV.tup [], AV.tup [], AV.tup [], AV.tup [], AV.tup [],
    AV.tup [], AV.tup [], AV.tup [], AV.r (RV.c (CV.f (FV.b true))), AV.r (RV.c (CV.f (FV.b true))), AV.tup [], AV.tup [], AV.tup [], AV.tup [], AV.tup [], AV.tup [], AV.tup [], AV.tup [],
    AV.r (RV.c (CV.f (FV.b true))), AV.und, AV.und, AV.und, AV.und, AV.und, AV.und, AV.und, AV.und, AV.und, AV.und, AV.und, AV.und, AV.und, AV.tup [], AV.tup [], AV.tup [], AV.tup [], AV.tup [],
    AV.tup [], AV.tup [], AV.tup [], AV.tup [], AV.tup [], AV.tup [], AV.und]
  [some
      [Sg.a (Sz.s d.snd.snd.snd.snd.snd.snd.snd.snd.snd.snd.snd.snd.snd.snd.snd.snd.snd.snd.snd.fst)
          [Col.i IntKind.i64 d.snd.snd.snd.snd.snd.snd.snd.snd.snd.snd.snd.snd.snd.snd.snd.snd.snd.snd.snd.snd.fst]],
    some
      [Sg.c (CV.f (FV.i IntKind.i64 d.snd.snd.snd.snd.snd.snd.snd.snd.snd.snd.snd.snd.snd.snd.snd.snd.snd.fst)), Sg.c (CV.f (FV.i IntKind.i64 0)), Sg.c (CV.f (FV.b true)),
        Sg.c (CV.f (FV.i IntKind.i64 0)), Sg.c (CV.f (FV.i IntKind.i64 d.snd.snd.snd.snd.snd.snd.snd.snd.snd.snd.snd.snd.snd.snd.snd.snd.snd.snd.snd.snd.snd.fst)),
        Sg.c (CV.f (FV.i IntKind.i64 d.snd.snd.snd.snd.snd.snd.snd.snd.snd.snd.snd.snd.snd.snd.snd.snd.snd.snd.snd.snd.snd.snd))],
    some [Sg.c (CV.f (FV.i IntKind.i64 d.snd.snd.snd.snd.snd.snd.snd.snd.snd.snd.snd.snd.snd.snd.snd.snd.fst)), Sg.c (CV.f (FV.i IntKind.i64 0)), Sg.c (CV.f (FV.b true))]]
  [])) (fun d => K (AX.ex 0) (St.mk
  [AV.r (RV.c (CV.sl 0 (Off.k 0) (Sz.s d.fst) 1 d.snd.fst)), AV.r (RV.c (CV.f (FV.i IntKind.i64 d.snd.snd.fst))), AV.r (RV.c (CV.f (FV.i IntKind.i64 d.snd.snd.snd.fst))),
    AV.r (RV.c (CV.f (FV.i IntKind.i64 d.snd.snd.snd.snd.fst))), AV.und, AV.und, AV.und, AV.und, AV.r (RV.c (CV.f (FV.b false))), AV.r (RV.c (CV.ptr 1 (Off.k 0) 6)),
    AV.r (RV.c (CV.ptr 2 (Off.k 0) 3)), AV.r (RV.c (CV.f (FV.i IntKind.i64 d.snd.snd.snd.snd.snd.fst))), AV.und, AV.r (RV.c (CV.f (FV.b d.snd.snd.snd.snd.snd.snd.fst))), AV.und, AV.und, AV.und,
    AV.und, AV.r (RV.c (CV.f (FV.i IntKind.i64 d.snd.snd.snd.snd.snd.snd.snd.fst))), AV.und, AV.und, AV.und, AV.und, AV.r (RV.c (CV.f (FV.i IntKind.i64 d.snd.snd.snd.snd.snd.fst))),
    AV.r (RV.c (CV.sl 0 (Off.k 0) (Sz.s d.fst) 1 d.snd.fst)), AV.r (RV.c (CV.f (FV.i IntKind.i64 d.snd.snd.snd.snd.snd.snd.snd.snd.fst))),
    AV.r (RV.c (CV.f (FV.b d.snd.snd.snd.snd.snd.snd.snd.snd.snd.fst))), AV.und, AV.und, AV.und, AV.und, AV.und, AV.und, AV.und, AV.und, AV.und, AV.und, AV.und, AV.und, AV.und, AV.und, AV.und, AV.und,
    AV.und, AV.und, AV.und, AV.und, AV.und, AV.und, AV.und, AV.und, AV.und, AV.und, AV.und, AV.und, AV.und, AV.und, AV.und, AV.und, AV.und, AV.und, AV.und, AV.und, AV.und, AV.und, AV.und, AV.und,
    AV.und, AV.und, AV.und, AV.und, AV.und, AV.und, AV.und, AV.und, AV.und, AV.und, AV.und, AV.und, AV.und, AV.und, AV.und, AV.und, AV.und, AV.und, AV.und, AV.und, AV.und, AV.und, AV.und, AV.und,
    AV.und, AV.und, AV.und, AV.und, AV.tup [], AV.tup [], AV.tup [], AV.tup [], AV.tup [], AV.tup [], AV.tup [], AV.tup [], AV.tup [], AV.tup [], AV.tup [], AV.und]
  [some [Sg.a (Sz.s d.snd.snd.snd.snd.snd.snd.snd.snd.snd.snd.fst) [Col.i IntKind.i64 d.snd.snd.snd.snd.snd.snd.snd.snd.snd.snd.snd.fst]],
    some
      [Sg.c (CV.f (FV.i IntKind.i64 d.snd.snd.snd.snd.snd.snd.snd.snd.snd.snd.snd.snd.fst)), Sg.c (CV.f (FV.i IntKind.i64 d.snd.snd.snd.snd.snd.snd.snd.snd.snd.snd.snd.snd.snd.fst)),
        Sg.c (CV.f (FV.b d.snd.snd.snd.snd.snd.snd.snd.snd.snd.snd.snd.snd.snd.snd.fst)), Sg.c (CV.f (FV.i IntKind.i64 0)),
        Sg.c (CV.f (FV.i IntKind.i64 d.snd.snd.snd.snd.snd.snd.snd.snd.snd.snd.snd.snd.snd.snd.snd.fst)),
        Sg.c (CV.f (FV.i IntKind.i64 d.snd.snd.snd.snd.snd.snd.snd.snd.snd.snd.snd.snd.snd.snd.snd.snd.fst))],
    some
      [Sg.c (CV.f (FV.i IntKind.i64 d.snd.snd.snd.snd.snd.snd.snd.snd.snd.snd.snd.snd.snd.snd.snd.snd.snd.fst)),
        Sg.c (CV.f (FV.i IntKind.i64 d.snd.snd.snd.snd.snd.snd.snd.snd.snd.snd.snd.snd.snd.snd.snd.snd.snd.snd.fst)),
        Sg.c (CV.f (FV.b d.snd.snd.snd.snd.snd.snd.snd.snd.snd.snd.snd.snd.snd.snd.snd.snd.snd.snd.snd))]]
  [])))))) :=
  iter_loopX (emb := fun (d : Nat × Bool × Int × Int × Int × Int × Bool × Int × Nat × (Nat → Int) × Int × Int × Bool × Int × Int × Int × Int × Bool) => St.mk
  [AV.r (RV.c (CV.sl 0 (Off.k 0) (Sz.s d.fst) 1 d.snd.fst)), AV.r (RV.c (CV.f (FV.i IntKind.i64 d.snd.snd.fst))), AV.r (RV.c (CV.f (FV.i IntKind.i64 d.snd.snd.snd.fst))),
    AV.r (RV.c (CV.f (FV.i IntKind.i64 d.snd.snd.snd.snd.fst))), AV.und, AV.und, AV.und, AV.und, AV.r (RV.c (CV.f (FV.b false))), AV.r (RV.c (CV.ptr 1 (Off.k 0) 6)),
    AV.r (RV.c (CV.ptr 2 (Off.k 0) 3)), AV.r (RV.c (CV.f (FV.i IntKind.i64 d.snd.snd.snd.snd.snd.fst))), AV.und, AV.r (RV.c (CV.f (FV.b d.snd.snd.snd.snd.snd.snd.fst))), AV.und, AV.und, AV.und,
    AV.und, AV.r (RV.c (CV.f (FV.i IntKind.i64 d.snd.snd.snd.snd.snd.snd.snd.fst))), AV.und, AV.und, AV.und, AV.und, AV.und, AV.und, AV.und, AV.und, AV.und, AV.und, AV.und, AV.und, AV.und, AV.und,
    AV.und, AV.und, AV.und, AV.und, AV.und, AV.und, AV.und, AV.und, AV.und, AV.und, AV.und, AV.und, AV.und, AV.und, AV.und, AV.und, AV.und, AV.und, AV.und, AV.und, AV.und, AV.und, AV.und, AV.und,
    AV.und, AV.und, AV.und, AV.und, AV.und, AV.und, AV.und, AV.und, AV.und, AV.und, AV.und, AV.und, AV.und, AV.und, AV.und, AV.und, AV.und, AV.und, AV.und, AV.und, AV.und, AV.und, AV.und, AV.und,
    AV.und, AV.und, AV.und, AV.und, AV.und, AV.und, AV.und, AV.und, AV.und, AV.und, AV.und, AV.und, AV.und, AV.und, AV.tup [], AV.tup [], AV.tup [], AV.tup [], AV.tup [], AV.tup [], AV.tup [],
    AV.tup [], AV.tup [], AV.tup [], AV.tup [], AV.und]
  [some [Sg.a (Sz.s d.snd.snd.snd.snd.snd.snd.snd.snd.fst) [Col.i IntKind.i64 d.snd.snd.snd.snd.snd.snd.snd.snd.snd.fst]],
    some
      [Sg.c (CV.f (FV.i IntKind.i64 d.snd.snd.snd.snd.snd.snd.snd.snd.snd.snd.fst)), Sg.c (CV.f (FV.i IntKind.i64 d.snd.snd.snd.snd.snd.snd.snd.snd.snd.snd.snd.fst)),
        Sg.c (CV.f (FV.b d.snd.snd.snd.snd.snd.snd.snd.snd.snd.snd.snd.snd.fst)), Sg.c (CV.f (FV.i IntKind.i64 0)),
        Sg.c (CV.f (FV.i IntKind.i64 d.snd.snd.snd.snd.snd.snd.snd.snd.snd.snd.snd.snd.snd.fst)), Sg.c (CV.f (FV.i IntKind.i64 d.snd.snd.snd.snd.snd.snd.snd.snd.snd.snd.snd.snd.snd.snd.fst))],
    some
      [Sg.c (CV.f (FV.i IntKind.i64 d.snd.snd.snd.snd.snd.snd.snd.snd.snd.snd.snd.snd.snd.snd.snd.fst)),
        Sg.c (CV.f (FV.i IntKind.i64 d.snd.snd.snd.snd.snd.snd.snd.snd.snd.snd.snd.snd.snd.snd.snd.snd.fst)), Sg.c (CV.f (FV.b d.snd.snd.snd.snd.snd.snd.snd.snd.snd.snd.snd.snd.snd.snd.snd.snd.snd))]]
  []) (step := fun d c x => S_astrolabelaw24_HealthWatches_0 f_astrolabelaw24_awake f___health_Watch__Miss f_astrolaberef25_Miss f___health_Watch__Mark f_astrolaberef25_Mark f_astrolaberef25_Fresh f___health_Watch__Fresh f___health_Sensor__Usable  d.1 d.2.1 d.2.2.1 d.2.2.2.1 d.2.2.2.2.1 d.2.2.2.2.2.1 d.2.2.2.2.2.2.1 d.2.2.2.2.2.2.2.1 d.2.2.2.2.2.2.2.2.1 d.2.2.2.2.2.2.2.2.2.1 d.2.2.2.2.2.2.2.2.2.2.1 d.2.2.2.2.2.2.2.2.2.2.2.1 d.2.2.2.2.2.2.2.2.2.2.2.2.1 d.2.2.2.2.2.2.2.2.2.2.2.2.2.1 d.2.2.2.2.2.2.2.2.2.2.2.2.2.2.1 d.2.2.2.2.2.2.2.2.2.2.2.2.2.2.2.1 d.2.2.2.2.2.2.2.2.2.2.2.2.2.2.2.2.1 d.2.2.2.2.2.2.2.2.2.2.2.2.2.2.2.2.2 c x) (kx := (Sum.elim (fun d => K (AX.ret) (St.mk
  [AV.r (RV.c (CV.sl 0 (Off.k 0) (Sz.s d.fst) 1 d.snd.fst)), AV.r (RV.c (CV.f (FV.i IntKind.i64 d.snd.snd.fst))), AV.r (RV.c (CV.f (FV.i IntKind.i64 d.snd.snd.snd.fst))),
    AV.r (RV.c (CV.f (FV.i IntKind.i64 d.snd.snd.snd.snd.fst))), AV.und, AV.und, AV.und, AV.und, AV.r (RV.c (CV.f (FV.b false))), AV.r (RV.c (CV.ptr 1 (Off.k 0) 6)),
    AV.r (RV.c (CV.ptr 2 (Off.k 0) 3)), AV.r (RV.c (CV.f (FV.i IntKind.i64 d.snd.snd.snd.snd.snd.fst))), AV.und, AV.r (RV.c (CV.f (FV.b d.snd.snd.snd.snd.snd.snd.fst))), AV.und, AV.und, AV.und,
    AV.und, AV.r (RV.c (CV.f (FV.i IntKind.i64 d.snd.snd.snd.snd.snd.snd.snd.fst))), AV.und, AV.und, AV.und, AV.und, AV.r (RV.c (CV.f (FV.i IntKind.i64 d.snd.snd.snd.snd.snd.fst))),
    AV.r (RV.c (CV.sl 0 (Off.k 0) (Sz.s d.fst) 1 d.snd.fst)), AV.r (RV.c (CV.f (FV.i IntKind.i64 d.snd.snd.snd.snd.snd.snd.snd.snd.fst))),
    AV.r (RV.c (CV.f (FV.b d.snd.snd.snd.snd.snd.snd.snd.snd.snd.fst))), AV.und, AV.und, AV.r (RV.c (CV.sl 0 (Off.k 0) (Sz.s d.fst) 1 d.snd.fst)),
    AV.r (RV.c (CV.f (FV.i IntKind.i64 d.snd.snd.snd.snd.snd.fst))), AV.r (RV.c (CV.ptr 0 (Off.x 0 d.snd.snd.snd.snd.snd.snd.snd.snd.snd.snd.fst 1) 1)),
    AV.r (RV.c (CV.f (FV.i IntKind.i64 d.snd.snd.snd.snd.snd.snd.snd.snd.snd.snd.snd.fst))), AV.r (RV.c (CV.f (FV.b d.snd.snd.snd.snd.snd.snd.snd.snd.snd.snd.snd.snd.fst))),
    AV.r (RV.c (CV.ptr 1 (Off.k 0) 6)), AV.r (RV.c (CV.ptr 1 (Off.k 0) 6)), AV.r (RV.c (CV.ptr 1 (Off.k 0) 3)), AV.tup [],
    AV.r
      (RV.agg
        [Sg.c (CV.f (FV.i IntKind.i64 d.snd.snd.snd.snd.snd.snd.snd.snd.snd.snd.snd.snd.snd.fst)), Sg.c (CV.f (FV.i IntKind.i64 d.snd.snd.snd.snd.snd.snd.snd.snd.snd.snd.snd.snd.snd.snd.fst)),
          Sg.c (CV.f (FV.b d.snd.snd.snd.snd.snd.snd.snd.snd.snd.snd.snd.snd.snd.snd.snd.fst))]),
    AV.r
      (RV.agg
        [Sg.c (CV.f (FV.i IntKind.i64 d.snd.snd.snd.snd.snd.snd.snd.snd.snd.snd.snd.snd.snd.snd.snd.snd.fst)),
          Sg.c (CV.f (FV.i IntKind.i64 d.snd.snd.snd.snd.snd.snd.snd.snd.snd.snd.snd.snd.snd.snd.snd.snd.snd.fst)),
          Sg.c (CV.f (FV.b d.snd.snd.snd.snd.snd.snd.snd.snd.snd.snd.snd.snd.snd.snd.snd.snd.snd.snd.fst))]),
    AV.und, AV.und, AV.und, AV.und, AV.und, AV.und, AV.und, AV.und, AV.und, AV.und, AV.und, AV.und, AV.und, AV.und, AV.r (RV.c (CV.ptr 1 (Off.k 0) 6)), AV.r (RV.c (CV.ptr 1 (Off.k 0) 6)),
    AV.r (RV.c (CV.ptr 1 (Off.k 0) 3)), AV.r (RV.c (CV.ptr 1 (Off.k 0) 1)), AV.r (RV.c (CV.f (FV.i IntKind.i64 d.snd.snd.snd.snd.snd.snd.snd.snd.snd.snd.snd.snd.snd.snd.snd.snd.snd.snd.snd.fst))),
    AV.r (RV.c (CV.ptr 2 (Off.k 0) 1)), AV.r (RV.c (CV.f (FV.i IntKind.i64 d.snd.snd.snd.snd.snd.snd.snd.snd.snd.snd.snd.snd.snd.snd.snd.snd.fst))),
    AV.r (RV.c (CV.f (FV.b d.snd.snd.snd.snd.snd.snd.snd.snd.snd.snd.snd.snd.snd.snd.snd.snd.snd.snd.snd.snd.fst))), AV.r (RV.c (CV.f (FV.b true))), AV.tup [], AV.tup [], AV.tup [], AV.tup [],
    AV.tup [], AV.tup [], AV.tup [], AV.tup [], AV.r (RV.c (CV.f (FV.b true))), AV.r (RV.c (CV.f (FV.b true))), AV.tup [], AV.tup [], AV.tup [], AV.tup [], AV.tup [], AV.tup [], AV.tup [], AV.tup [],
    AV.r (RV.c (CV.f (FV.b true))), AV.und, AV.und, AV.und, AV.und, AV.und, AV.und, AV.und, AV.und, AV.und, AV.und, AV.und, AV.und, AV.und, AV.tup [], AV.tup [], AV.tup [], AV.tup [], AV.tup [],
    AV.tup [], AV.tup [], AV.tup [], AV.tup [], AV.tup [], AV.tup [], AV.und]
  [some
      [Sg.a (Sz.s d.snd.snd.snd.snd.snd.snd.snd.snd.snd.snd.snd.snd.snd.snd.snd.snd.snd.snd.snd.snd.snd.fst)
          [Col.i IntKind.i64 d.snd.snd.snd.snd.snd.snd.snd.snd.snd.snd.snd.snd.snd.snd.snd.snd.snd.snd.snd.snd.snd.snd.fst]],
    some
      [Sg.c (CV.f (FV.i IntKind.i64 d.snd.snd.snd.snd.snd.snd.snd.snd.snd.snd.snd.snd.snd.snd.snd.snd.snd.snd.snd.fst)),
        Sg.c (CV.f (FV.i IntKind.i64 d.snd.snd.snd.snd.snd.snd.snd.snd.snd.snd.snd.snd.snd.snd.snd.snd.snd.snd.snd.snd.snd.snd.snd.fst)),
        Sg.c (CV.f (FV.b d.snd.snd.snd.snd.snd.snd.snd.snd.snd.snd.snd.snd.snd.snd.snd.snd.snd.snd.snd.snd.snd.snd.snd.snd.fst)), Sg.c (CV.f (FV.i IntKind.i64 0)),
        Sg.c (CV.f (FV.i IntKind.i64 d.snd.snd.snd.snd.snd.snd.snd.snd.snd.snd.snd.snd.snd.snd.snd.snd.snd.snd.snd.snd.snd.snd.snd.snd.snd.fst)),
        Sg.c (CV.f (FV.i IntKind.i64 d.snd.snd.snd.snd.snd.snd.snd.snd.snd.snd.snd.snd.snd.snd.snd.snd.snd.snd.snd.snd.snd.snd.snd.snd.snd.snd))],
    some
      [Sg.c (CV.f (FV.i IntKind.i64 d.snd.snd.snd.snd.snd.snd.snd.snd.snd.snd.snd.snd.snd.snd.snd.snd.fst)),
        Sg.c (CV.f (FV.i IntKind.i64 d.snd.snd.snd.snd.snd.snd.snd.snd.snd.snd.snd.snd.snd.snd.snd.snd.snd.fst)),
        Sg.c (CV.f (FV.b d.snd.snd.snd.snd.snd.snd.snd.snd.snd.snd.snd.snd.snd.snd.snd.snd.snd.snd.fst))]]
  [])) (Sum.elim (fun d => K (AX.ret) (St.mk
  [AV.r (RV.c (CV.sl 0 (Off.k 0) (Sz.s d.fst) 1 d.snd.fst)), AV.r (RV.c (CV.f (FV.i IntKind.i64 d.snd.snd.fst))), AV.r (RV.c (CV.f (FV.i IntKind.i64 d.snd.snd.snd.fst))),
    AV.r (RV.c (CV.f (FV.i IntKind.i64 d.snd.snd.snd.snd.fst))), AV.und, AV.und, AV.und, AV.und, AV.r (RV.c (CV.f (FV.b false))), AV.r (RV.c (CV.ptr 1 (Off.k 0) 6)),
    AV.r (RV.c (CV.ptr 2 (Off.k 0) 3)), AV.r (RV.c (CV.f (FV.i IntKind.i64 d.snd.snd.snd.snd.snd.fst))), AV.und, AV.r (RV.c (CV.f (FV.b d.snd.snd.snd.snd.snd.snd.fst))), AV.und, AV.und, AV.und,
    AV.und, AV.r (RV.c (CV.f (FV.i IntKind.i64 d.snd.snd.snd.snd.snd.snd.snd.fst))), AV.und, AV.und, AV.und, AV.und, AV.r (RV.c (CV.f (FV.i IntKind.i64 d.snd.snd.snd.snd.snd.fst))),
    AV.r (RV.c (CV.sl 0 (Off.k 0) (Sz.s d.fst) 1 d.snd.fst)), AV.r (RV.c (CV.f (FV.i IntKind.i64 d.snd.snd.snd.snd.snd.snd.snd.snd.fst))),
    AV.r (RV.c (CV.f (FV.b d.snd.snd.snd.snd.snd.snd.snd.snd.snd.fst))), AV.und, AV.und, AV.r (RV.c (CV.sl 0 (Off.k 0) (Sz.s d.fst) 1 d.snd.fst)),
    AV.r (RV.c (CV.f (FV.i IntKind.i64 d.snd.snd.snd.snd.snd.fst))), AV.r (RV.c (CV.ptr 0 (Off.x 0 d.snd.snd.snd.snd.snd.snd.snd.snd.snd.snd.fst 1) 1)),
    AV.r (RV.c (CV.f (FV.i IntKind.i64 d.snd.snd.snd.snd.snd.snd.snd.snd.snd.snd.snd.fst))), AV.r (RV.c (CV.f (FV.b d.snd.snd.snd.snd.snd.snd.snd.snd.snd.snd.snd.snd.fst))),
    AV.r (RV.c (CV.ptr 1 (Off.k 0) 6)), AV.r (RV.c (CV.ptr 1 (Off.k 0) 6)), AV.r (RV.c (CV.ptr 1 (Off.k 0) 3)), AV.tup [],
    AV.r
      (RV.agg
        [Sg.c (CV.f (FV.i IntKind.i64 d.snd.snd.snd.snd.snd.snd.snd.snd.snd.snd.snd.snd.snd.fst)), Sg.c (CV.f (FV.i IntKind.i64 d.snd.snd.snd.snd.snd.snd.snd.snd.snd.snd.snd.snd.snd.snd.fst)),
          Sg.c (CV.f (FV.b d.snd.snd.snd.snd.snd.snd.snd.snd.snd.snd.snd.snd.snd.snd.snd.fst))]),
    AV.r
      (RV.agg
        [Sg.c (CV.f (FV.i IntKind.i64 d.snd.snd.snd.snd.snd.snd.snd.snd.snd.snd.snd.snd.snd.snd.snd.snd.fst)),
          Sg.c (CV.f (FV.i IntKind.i64 d.snd.snd.snd.snd.snd.snd.snd.snd.snd.snd.snd.snd.snd.snd.snd.snd.snd.fst)),
          Sg.c (CV.f (FV.b d.snd.snd.snd.snd.snd.snd.snd.snd.snd.snd.snd.snd.snd.snd.snd.snd.snd.snd.fst))]),
    AV.und, AV.und, AV.und, AV.und, AV.und, AV.und, AV.und, AV.und, AV.und, AV.und, AV.und, AV.und, AV.und, AV.und, AV.r (RV.c (CV.ptr 1 (Off.k 0) 6)), AV.r (RV.c (CV.ptr 1 (Off.k 0) 6)),
    AV.r (RV.c (CV.ptr 1 (Off.k 0) 3)), AV.r (RV.c (CV.ptr 1 (Off.k 0) 1)), AV.r (RV.c (CV.f (FV.i IntKind.i64 d.snd.snd.snd.snd.snd.snd.snd.snd.snd.snd.snd.snd.snd.snd.snd.snd.snd.snd.snd.fst))),
    AV.r (RV.c (CV.ptr 2 (Off.k 0) 1)), AV.r (RV.c (CV.f (FV.i IntKind.i64 d.snd.snd.snd.snd.snd.snd.snd.snd.snd.snd.snd.snd.snd.snd.snd.snd.fst))),
    AV.r (RV.c (CV.f (FV.b d.snd.snd.snd.snd.snd.snd.snd.snd.snd.snd.snd.snd.snd.snd.snd.snd.snd.snd.snd.snd.fst))), AV.r (RV.c (CV.f (FV.b false))), AV.r (RV.c (CV.ptr 1 (Off.k 0) 6)),
    AV.r (RV.c (CV.ptr 1 (Off.k 0) 6)), AV.r (RV.c (CV.ptr 1 (Off.k 0) 3)), AV.r (RV.c (CV.ptr 1 (Off.k 1) 1)),
    AV.r (RV.c (CV.f (FV.i IntKind.i64 d.snd.snd.snd.snd.snd.snd.snd.snd.snd.snd.snd.snd.snd.snd.snd.snd.snd.snd.snd.snd.snd.fst))), AV.r (RV.c (CV.ptr 2 (Off.k 1) 1)),
    AV.r (RV.c (CV.f (FV.i IntKind.i64 d.snd.snd.snd.snd.snd.snd.snd.snd.snd.snd.snd.snd.snd.snd.snd.snd.snd.fst))),
    AV.r (RV.c (CV.f (FV.b d.snd.snd.snd.snd.snd.snd.snd.snd.snd.snd.snd.snd.snd.snd.snd.snd.snd.snd.snd.snd.snd.snd.fst))),
    AV.r (RV.c (CV.f (FV.b d.snd.snd.snd.snd.snd.snd.snd.snd.snd.snd.snd.snd.snd.snd.snd.snd.snd.snd.snd.snd.snd.snd.fst))), AV.r (RV.c (CV.f (FV.b true))), AV.tup [], AV.tup [], AV.tup [], AV.tup [],
    AV.tup [], AV.tup [], AV.tup [], AV.tup [], AV.r (RV.c (CV.f (FV.b true))), AV.und, AV.und, AV.und, AV.und, AV.und, AV.und, AV.und, AV.und, AV.und, AV.und, AV.und, AV.und, AV.und, AV.tup [],
    AV.tup [], AV.tup [], AV.tup [], AV.tup [], AV.tup [], AV.tup [], AV.tup [], AV.tup [], AV.tup [], AV.tup [], AV.und]
  [some
      [Sg.a (Sz.s d.snd.snd.snd.snd.snd.snd.snd.snd.snd.snd.snd.snd.snd.snd.snd.snd.snd.snd.snd.snd.snd.snd.snd.fst)
          [Col.i IntKind.i64 d.snd.snd.snd.snd.snd.snd.snd.snd.snd.snd.snd.snd.snd.snd.snd.snd.snd.snd.snd.snd.snd.snd.snd.snd.fst]],
    some
      [Sg.c (CV.f (FV.i IntKind.i64 d.snd.snd.snd.snd.snd.snd.snd.snd.snd.snd.snd.snd.snd.snd.snd.snd.snd.snd.snd.fst)),
        Sg.c (CV.f (FV.i IntKind.i64 d.snd.snd.snd.snd.snd.snd.snd.snd.snd.snd.snd.snd.snd.snd.snd.snd.snd.snd.snd.snd.snd.fst)),
        Sg.c (CV.f (FV.b d.snd.snd.snd.snd.snd.snd.snd.snd.snd.snd.snd.snd.snd.snd.snd.snd.snd.snd.snd.snd.snd.snd.snd.snd.snd.fst)), Sg.c (CV.f (FV.i IntKind.i64 0)),
        Sg.c (CV.f (FV.i IntKind.i64 d.snd.snd.snd.snd.snd.snd.snd.snd.snd.snd.snd.snd.snd.snd.snd.snd.snd.snd.snd.snd.snd.snd.snd.snd.snd.snd.fst)),
        Sg.c (CV.f (FV.i IntKind.i64 d.snd.snd.snd.snd.snd.snd.snd.snd.snd.snd.snd.snd.snd.snd.snd.snd.snd.snd.snd.snd.snd.snd.snd.snd.snd.snd.snd))],
    some
      [Sg.c (CV.f (FV.i IntKind.i64 d.snd.snd.snd.snd.snd.snd.snd.snd.snd.snd.snd.snd.snd.snd.snd.snd.fst)),
        Sg.c (CV.f (FV.i IntKind.i64 d.snd.snd.snd.snd.snd.snd.snd.snd.snd.snd.snd.snd.snd.snd.snd.snd.snd.fst)),
        Sg.c (CV.f (FV.b d.snd.snd.snd.snd.snd.snd.snd.snd.snd.snd.snd.snd.snd.snd.snd.snd.snd.snd.fst))]]
  [])) (Sum.elim (fun d => K (AX.ret) (St.mk
  [AV.r (RV.c (CV.sl 0 (Off.k 0) (Sz.s d.fst) 1 d.snd.fst)), AV.r (RV.c (CV.f (FV.i IntKind.i64 d.snd.snd.fst))), AV.r (RV.c (CV.f (FV.i IntKind.i64 d.snd.snd.snd.fst))),
    AV.r (RV.c (CV.f (FV.i IntKind.i64 d.snd.snd.snd.snd.fst))), AV.und, AV.und, AV.und, AV.und, AV.r (RV.c (CV.f (FV.b false))), AV.r (RV.c (CV.ptr 1 (Off.k 0) 6)),
    AV.r (RV.c (CV.ptr 2 (Off.k 0) 3)), AV.r (RV.c (CV.f (FV.i IntKind.i64 d.snd.snd.snd.snd.snd.fst))), AV.und, AV.r (RV.c (CV.f (FV.b d.snd.snd.snd.snd.snd.snd.fst))), AV.und, AV.und, AV.und,
    AV.und, AV.r (RV.c (CV.f (FV.i IntKind.i64 d.snd.snd.snd.snd.snd.snd.snd.fst))), AV.und, AV.und, AV.und, AV.und, AV.r (RV.c (CV.f (FV.i IntKind.i64 d.snd.snd.snd.snd.snd.fst))),
    AV.r (RV.c (CV.sl 0 (Off.k 0) (Sz.s d.fst) 1 d.snd.fst)), AV.r (RV.c (CV.f (FV.i IntKind.i64 d.snd.snd.snd.snd.snd.snd.snd.snd.fst))),
    AV.r (RV.c (CV.f (FV.b d.snd.snd.snd.snd.snd.snd.snd.snd.snd.fst))), AV.und, AV.und, AV.r (RV.c (CV.sl 0 (Off.k 0) (Sz.s d.fst) 1 d.snd.fst)),
    AV.r (RV.c (CV.f (FV.i IntKind.i64 d.snd.snd.snd.snd.snd.fst))), AV.r (RV.c (CV.ptr 0 (Off.x 0 d.snd.snd.snd.snd.snd.snd.snd.snd.snd.snd.fst 1) 1)),
    AV.r (RV.c (CV.f (FV.i IntKind.i64 d.snd.snd.snd.snd.snd.snd.snd.snd.snd.snd.snd.fst))), AV.r (RV.c (CV.f (FV.b d.snd.snd.snd.snd.snd.snd.snd.snd.snd.snd.snd.snd.fst))),
    AV.r (RV.c (CV.ptr 1 (Off.k 0) 6)), AV.r (RV.c (CV.ptr 1 (Off.k 0) 6)), AV.r (RV.c (CV.ptr 1 (Off.k 0) 3)), AV.tup [],
    AV.r
      (RV.agg
        [Sg.c (CV.f (FV.i IntKind.i64 d.snd.snd.snd.snd.snd.snd.snd.snd.snd.snd.snd.snd.snd.fst)), Sg.c (CV.f (FV.i IntKind.i64 d.snd.snd.snd.snd.snd.snd.snd.snd.snd.snd.snd.snd.snd.snd.fst)),
          Sg.c (CV.f (FV.b d.snd.snd.snd.snd.snd.snd.snd.snd.snd.snd.snd.snd.snd.snd.snd.fst))]),
    AV.r
      (RV.agg
        [Sg.c (CV.f (FV.i IntKind.i64 d.snd.snd.snd.snd.snd.snd.snd.snd.snd.snd.snd.snd.snd.snd.snd.snd.fst)),
          Sg.c (CV.f (FV.i IntKind.i64 d.snd.snd.snd.snd.snd.snd.snd.snd.snd.snd.snd.snd.snd.snd.snd.snd.snd.fst)),
          Sg.c (CV.f (FV.b d.snd.snd.snd.snd.snd.snd.snd.snd.snd.snd.snd.snd.snd.snd.snd.snd.snd.snd.fst))]),
    AV.und, AV.und, AV.und, AV.und, AV.und, AV.und, AV.und, AV.und, AV.und, AV.und, AV.und, AV.und, AV.und, AV.und, AV.r (RV.c (CV.ptr 1 (Off.k 0) 6)), AV.r (RV.c (CV.ptr 1 (Off.k 0) 6)),
    AV.r (RV.c (CV.ptr 1 (Off.k 0) 3)), AV.r (RV.c (CV.ptr 1 (Off.k 0) 1)), AV.r (RV.c (CV.f (FV.i IntKind.i64 d.snd.snd.snd.snd.snd.snd.snd.snd.snd.snd.snd.snd.snd.snd.snd.snd.snd.snd.snd.fst))),
    AV.r (RV.c (CV.ptr 2 (Off.k 0) 1)), AV.r (RV.c (CV.f (FV.i IntKind.i64 d.snd.snd.snd.snd.snd.snd.snd.snd.snd.snd.snd.snd.snd.snd.snd.snd.fst))),
    AV.r (RV.c (CV.f (FV.b d.snd.snd.snd.snd.snd.snd.snd.snd.snd.snd.snd.snd.snd.snd.snd.snd.snd.snd.snd.snd.fst))), AV.r (RV.c (CV.f (FV.b false))), AV.r (RV.c (CV.ptr 1 (Off.k 0) 6)),
    AV.r (RV.c (CV.ptr 1 (Off.k 0) 6)), AV.r (RV.c (CV.ptr 1 (Off.k 0) 3)), AV.r (RV.c (CV.ptr 1 (Off.k 1) 1)),
    AV.r (RV.c (CV.f (FV.i IntKind.i64 d.snd.snd.snd.snd.snd.snd.snd.snd.snd.snd.snd.snd.snd.snd.snd.snd.snd.snd.snd.snd.snd.fst))), AV.r (RV.c (CV.ptr 2 (Off.k 1) 1)),
    AV.r (RV.c (CV.f (FV.i IntKind.i64 d.snd.snd.snd.snd.snd.snd.snd.snd.snd.snd.snd.snd.snd.snd.snd.snd.snd.fst))),
    AV.r (RV.c (CV.f (FV.b d.snd.snd.snd.snd.snd.snd.snd.snd.snd.snd.snd.snd.snd.snd.snd.snd.snd.snd.snd.snd.snd.snd.fst))),
    AV.r (RV.c (CV.f (FV.b d.snd.snd.snd.snd.snd.snd.snd.snd.snd.snd.snd.snd.snd.snd.snd.snd.snd.snd.snd.snd.snd.snd.fst))), AV.r (RV.c (CV.f (FV.b false))), AV.r (RV.c (CV.ptr 1 (Off.k 0) 6)),
    AV.r (RV.c (CV.ptr 1 (Off.k 0) 6)), AV.r (RV.c (CV.ptr 1 (Off.k 0) 3)), AV.r (RV.c (CV.ptr 1 (Off.k 2) 1)),
    AV.r (RV.c (CV.f (FV.b d.snd.snd.snd.snd.snd.snd.snd.snd.snd.snd.snd.snd.snd.snd.snd.snd.snd.snd.snd.snd.snd.snd.snd.fst))), AV.r (RV.c (CV.ptr 2 (Off.k 2) 1)),
    AV.r (RV.c (CV.f (FV.b d.snd.snd.snd.snd.snd.snd.snd.snd.snd.snd.snd.snd.snd.snd.snd.snd.snd.snd.fst))),
    AV.r (RV.c (CV.f (FV.b d.snd.snd.snd.snd.snd.snd.snd.snd.snd.snd.snd.snd.snd.snd.snd.snd.snd.snd.snd.snd.snd.snd.snd.snd.fst))),
    AV.r (RV.c (CV.f (FV.b d.snd.snd.snd.snd.snd.snd.snd.snd.snd.snd.snd.snd.snd.snd.snd.snd.snd.snd.snd.snd.snd.snd.snd.snd.fst))), AV.und, AV.und, AV.und, AV.und, AV.und, AV.und, AV.und, AV.und,
    AV.und, AV.und, AV.und, AV.und, AV.und, AV.tup [], AV.tup [], AV.tup [], AV.tup [], AV.tup [], AV.tup [], AV.tup [], AV.tup [], AV.tup [], AV.tup [], AV.tup [], AV.und]
  [some
      [Sg.a (Sz.s d.snd.snd.snd.snd.snd.snd.snd.snd.snd.snd.snd.snd.snd.snd.snd.snd.snd.snd.snd.snd.snd.snd.snd.snd.snd.fst)
          [Col.i IntKind.i64 d.snd.snd.snd.snd.snd.snd.snd.snd.snd.snd.snd.snd.snd.snd.snd.snd.snd.snd.snd.snd.snd.snd.snd.snd.snd.snd.fst]],
    some
      [Sg.c (CV.f (FV.i IntKind.i64 d.snd.snd.snd.snd.snd.snd.snd.snd.snd.snd.snd.snd.snd.snd.snd.snd.snd.snd.snd.fst)),
        Sg.c (CV.f (FV.i IntKind.i64 d.snd.snd.snd.snd.snd.snd.snd.snd.snd.snd.snd.snd.snd.snd.snd.snd.snd.snd.snd.snd.snd.fst)),
        Sg.c (CV.f (FV.b d.snd.snd.snd.snd.snd.snd.snd.snd.snd.snd.snd.snd.snd.snd.snd.snd.snd.snd.snd.snd.snd.snd.snd.fst)), Sg.c (CV.f (FV.i IntKind.i64 0)),
        Sg.c (CV.f (FV.i IntKind.i64 d.snd.snd.snd.snd.snd.snd.snd.snd.snd.snd.snd.snd.snd.snd.snd.snd.snd.snd.snd.snd.snd.snd.snd.snd.snd.snd.snd.fst)),
        Sg.c (CV.f (FV.i IntKind.i64 d.snd.snd.snd.snd.snd.snd.snd.snd.snd.snd.snd.snd.snd.snd.snd.snd.snd.snd.snd.snd.snd.snd.snd.snd.snd.snd.snd.snd))],
    some
      [Sg.c (CV.f (FV.i IntKind.i64 d.snd.snd.snd.snd.snd.snd.snd.snd.snd.snd.snd.snd.snd.snd.snd.snd.fst)),
        Sg.c (CV.f (FV.i IntKind.i64 d.snd.snd.snd.snd.snd.snd.snd.snd.snd.snd.snd.snd.snd.snd.snd.snd.snd.fst)),
        Sg.c (CV.f (FV.b d.snd.snd.snd.snd.snd.snd.snd.snd.snd.snd.snd.snd.snd.snd.snd.snd.snd.snd.fst))]]
  [])) (Sum.elim (fun d => K (AX.ret) (St.mk
  [AV.r (RV.c (CV.sl 0 (Off.k 0) (Sz.s d.fst) 1 d.snd.fst)), AV.r (RV.c (CV.f (FV.i IntKind.i64 d.snd.snd.fst))), AV.r (RV.c (CV.f (FV.i IntKind.i64 d.snd.snd.snd.fst))),
    AV.r (RV.c (CV.f (FV.i IntKind.i64 d.snd.snd.snd.snd.fst))), AV.und, AV.und, AV.und, AV.und, AV.r (RV.c (CV.f (FV.b false))), AV.r (RV.c (CV.ptr 1 (Off.k 0) 6)),
    AV.r (RV.c (CV.ptr 2 (Off.k 0) 3)), AV.r (RV.c (CV.f (FV.i IntKind.i64 d.snd.snd.snd.snd.snd.fst))), AV.und, AV.r (RV.c (CV.f (FV.b d.snd.snd.snd.snd.snd.snd.fst))), AV.und, AV.und, AV.und,
    AV.und, AV.r (RV.c (CV.f (FV.i IntKind.i64 d.snd.snd.snd.snd.snd.snd.snd.fst))), AV.und, AV.und, AV.und, AV.und, AV.r (RV.c (CV.f (FV.i IntKind.i64 d.snd.snd.snd.snd.snd.fst))),
    AV.r (RV.c (CV.sl 0 (Off.k 0) (Sz.s d.fst) 1 d.snd.fst)), AV.r (RV.c (CV.f (FV.i IntKind.i64 d.snd.snd.snd.snd.snd.snd.snd.snd.fst))),
    AV.r (RV.c (CV.f (FV.b d.snd.snd.snd.snd.snd.snd.snd.snd.snd.fst))), AV.und, AV.und, AV.r (RV.c (CV.sl 0 (Off.k 0) (Sz.s d.fst) 1 d.snd.fst)),
    AV.r (RV.c (CV.f (FV.i IntKind.i64 d.snd.snd.snd.snd.snd.fst))), AV.r (RV.c (CV.ptr 0 (Off.x 0 d.snd.snd.snd.snd.snd.snd.snd.snd.snd.snd.fst 1) 1)),
    AV.r (RV.c (CV.f (FV.i IntKind.i64 d.snd.snd.snd.snd.snd.snd.snd.snd.snd.snd.snd.fst))), AV.r (RV.c (CV.f (FV.b d.snd.snd.snd.snd.snd.snd.snd.snd.snd.snd.snd.snd.fst))), AV.und, AV.und, AV.und,
    AV.und, AV.und, AV.und, AV.r (RV.c (CV.ptr 1 (Off.k 0) 6)), AV.r (RV.c (CV.ptr 1 (Off.k 0) 6)), AV.r (RV.c (CV.ptr 1 (Off.k 0) 3)), AV.r (RV.c (CV.sl 0 (Off.k 0) (Sz.s d.fst) 1 d.snd.fst)),
    AV.r (RV.c (CV.f (FV.i IntKind.i64 d.snd.snd.snd.snd.snd.fst))), AV.r (RV.c (CV.ptr 0 (Off.x 0 d.snd.snd.snd.snd.snd.snd.snd.snd.snd.snd.fst 1) 1)),
    AV.r (RV.c (CV.f (FV.i IntKind.i64 d.snd.snd.snd.snd.snd.snd.snd.snd.snd.snd.snd.fst))), AV.tup [],
    AV.r
      (RV.agg
        [Sg.c (CV.f (FV.i IntKind.i64 d.snd.snd.snd.snd.snd.snd.snd.snd.snd.snd.snd.snd.snd.fst)), Sg.c (CV.f (FV.i IntKind.i64 d.snd.snd.snd.snd.snd.snd.snd.snd.snd.snd.snd.snd.snd.snd.fst)),
          Sg.c (CV.f (FV.b d.snd.snd.snd.snd.snd.snd.snd.snd.snd.snd.snd.snd.snd.snd.snd.fst))]),
    AV.r (RV.c (CV.sl 0 (Off.k 0) (Sz.s d.fst) 1 d.snd.fst)), AV.r (RV.c (CV.f (FV.i IntKind.i64 d.snd.snd.snd.snd.snd.fst))),
    AV.r (RV.c (CV.ptr 0 (Off.x 0 d.snd.snd.snd.snd.snd.snd.snd.snd.snd.snd.fst 1) 1)), AV.r (RV.c (CV.f (FV.i IntKind.i64 d.snd.snd.snd.snd.snd.snd.snd.snd.snd.snd.snd.fst))),
    AV.r (RV.agg [Sg.c (CV.f (FV.i IntKind.i64 d.snd.snd.snd.snd.snd.snd.snd.snd.snd.snd.snd.snd.snd.snd.snd.snd.fst)), Sg.c (CV.f (FV.i IntKind.i64 0)), Sg.c (CV.f (FV.b true))]),
    AV.r (RV.c (CV.ptr 1 (Off.k 0) 6)), AV.r (RV.c (CV.ptr 1 (Off.k 0) 6)), AV.r (RV.c (CV.ptr 1 (Off.k 0) 3)), AV.r (RV.c (CV.ptr 1 (Off.k 0) 1)),
    AV.r (RV.c (CV.f (FV.i IntKind.i64 d.snd.snd.snd.snd.snd.snd.snd.snd.snd.snd.snd.snd.snd.snd.snd.snd.snd.fst))), AV.r (RV.c (CV.ptr 2 (Off.k 0) 1)),
    AV.r (RV.c (CV.f (FV.i IntKind.i64 d.snd.snd.snd.snd.snd.snd.snd.snd.snd.snd.snd.snd.snd.snd.snd.snd.fst))),
    AV.r (RV.c (CV.f (FV.b d.snd.snd.snd.snd.snd.snd.snd.snd.snd.snd.snd.snd.snd.snd.snd.snd.snd.snd.fst))), AV.r (RV.c (CV.f (FV.b true))), AV.tup [], AV.tup [], AV.tup [], AV.tup [], AV.tup [],
    AV.tup [], AV.tup [], AV.tup [], AV.r (RV.c (CV.f (FV.b true))), AV.r (RV.c (CV.f (FV.b true))), AV.tup [], AV.tup [], AV.tup [], AV.tup [], AV.tup [], AV.tup [], AV.tup [], AV.tup [],
    AV.r (RV.c (CV.f (FV.b true))), AV.und, AV.und, AV.und, AV.und, AV.und, AV.und, AV.und, AV.und, AV.und, AV.und, AV.und, AV.und, AV.und, AV.tup [], AV.tup [], AV.tup [], AV.tup [], AV.tup [],
    AV.tup [], AV.tup [], AV.tup [], AV.tup [], AV.tup [], AV.tup [], AV.und]
  [some
      [Sg.a (Sz.s d.snd.snd.snd.snd.snd.snd.snd.snd.snd.snd.snd.snd.snd.snd.snd.snd.snd.snd.snd.fst)
          [Col.i IntKind.i64 d.snd.snd.snd.snd.snd.snd.snd.snd.snd.snd.snd.snd.snd.snd.snd.snd.snd.snd.snd.snd.fst]],
    some
      [Sg.c (CV.f (FV.i IntKind.i64 d.snd.snd.snd.snd.snd.snd.snd.snd.snd.snd.snd.snd.snd.snd.snd.snd.snd.fst)), Sg.c (CV.f (FV.i IntKind.i64 0)), Sg.c (CV.f (FV.b true)),
        Sg.c (CV.f (FV.i IntKind.i64 0)), Sg.c (CV.f (FV.i IntKind.i64 d.snd.snd.snd.snd.snd.snd.snd.snd.snd.snd.snd.snd.snd.snd.snd.snd.snd.snd.snd.snd.snd.fst)),
        Sg.c (CV.f (FV.i IntKind.i64 d.snd.snd.snd.snd.snd.snd.snd.snd.snd.snd.snd.snd.snd.snd.snd.snd.snd.snd.snd.snd.snd.snd))],
    some [Sg.c (CV.f (FV.i IntKind.i64 d.snd.snd.snd.snd.snd.snd.snd.snd.snd.snd.snd.snd.snd.snd.snd.snd.fst)), Sg.c (CV.f (FV.i IntKind.i64 0)), Sg.c (CV.f (FV.b true))]]
  [])) (fun d => K (AX.ex 0) (St.mk
  [AV.r (RV.c (CV.sl 0 (Off.k 0) (Sz.s d.fst) 1 d.snd.fst)), AV.r (RV.c (CV.f (FV.i IntKind.i64 d.snd.snd.fst))), AV.r (RV.c (CV.f (FV.i IntKind.i64 d.snd.snd.snd.fst))),
    AV.r (RV.c (CV.f (FV.i IntKind.i64 d.snd.snd.snd.snd.fst))), AV.und, AV.und, AV.und, AV.und, AV.r (RV.c (CV.f (FV.b false))), AV.r (RV.c (CV.ptr 1 (Off.k 0) 6)),
    AV.r (RV.c (CV.ptr 2 (Off.k 0) 3)), AV.r (RV.c (CV.f (FV.i IntKind.i64 d.snd.snd.snd.snd.snd.fst))), AV.und, AV.r (RV.c (CV.f (FV.b d.snd.snd.snd.snd.snd.snd.fst))), AV.und, AV.und, AV.und,
    AV.und, AV.r (RV.c (CV.f (FV.i IntKind.i64 d.snd.snd.snd.snd.snd.snd.snd.fst))), AV.und, AV.und, AV.und, AV.und, AV.r (RV.c (CV.f (FV.i IntKind.i64 d.snd.snd.snd.snd.snd.fst))),
    AV.r (RV.c (CV.sl 0 (Off.k 0) (Sz.s d.fst) 1 d.snd.fst)), AV.r (RV.c (CV.f (FV.i IntKind.i64 d.snd.snd.snd.snd.snd.snd.snd.snd.fst))),
    AV.r (RV.c (CV.f (FV.b d.snd.snd.snd.snd.snd.snd.snd.snd.snd.fst))), AV.und, AV.und, AV.und, AV.und, AV.und, AV.und, AV.und, AV.und, AV.und, AV.und, AV.und, AV.und, AV.und, AV.und, AV.und, AV.und,
    AV.und, AV.und, AV.und, AV.und, AV.und, AV.und, AV.und, AV.und, AV.und, AV.und, AV.und, AV.und, AV.und, AV.und, AV.und, AV.und, AV.und, AV.und, AV.und, AV.und, AV.und, AV.und, AV.und, AV.und,
    AV.und, AV.und, AV.und, AV.und, AV.und, AV.und, AV.und, AV.und, AV.und, AV.und, AV.und, AV.und, AV.und, AV.und, AV.und, AV.und, AV.und, AV.und, AV.und, AV.und, AV.und, AV.und, AV.und, AV.und,
    AV.und, AV.und, AV.und, AV.und, AV.tup [], AV.tup [], AV.tup [], AV.tup [], AV.tup [], AV.tup [], AV.tup [], AV.tup [], AV.tup [], AV.tup [], AV.tup [], AV.und]
  [some [Sg.a (Sz.s d.snd.snd.snd.snd.snd.snd.snd.snd.snd.snd.fst) [Col.i IntKind.i64 d.snd.snd.snd.snd.snd.snd.snd.snd.snd.snd.snd.fst]],
    some
      [Sg.c (CV.f (FV.i IntKind.i64 d.snd.snd.snd.snd.snd.snd.snd.snd.snd.snd.snd.snd.fst)), Sg.c (CV.f (FV.i IntKind.i64 d.snd.snd.snd.snd.snd.snd.snd.snd.snd.snd.snd.snd.snd.fst)),
        Sg.c (CV.f (FV.b d.snd.snd.snd.snd.snd.snd.snd.snd.snd.snd.snd.snd.snd.snd.fst)), Sg.c (CV.f (FV.i IntKind.i64 0)),
        Sg.c (CV.f (FV.i IntKind.i64 d.snd.snd.snd.snd.snd.snd.snd.snd.snd.snd.snd.snd.snd.snd.snd.fst)),
        Sg.c (CV.f (FV.i IntKind.i64 d.snd.snd.snd.snd.snd.snd.snd.snd.snd.snd.snd.snd.snd.snd.snd.snd.fst))],
    some
      [Sg.c (CV.f (FV.i IntKind.i64 d.snd.snd.snd.snd.snd.snd.snd.snd.snd.snd.snd.snd.snd.snd.snd.snd.snd.fst)),
        Sg.c (CV.f (FV.i IntKind.i64 d.snd.snd.snd.snd.snd.snd.snd.snd.snd.snd.snd.snd.snd.snd.snd.snd.snd.snd.fst)),
        Sg.c (CV.f (FV.b d.snd.snd.snd.snd.snd.snd.snd.snd.snd.snd.snd.snd.snd.snd.snd.snd.snd.snd.snd))]]
  [])))))))
    (fun d c => ds_astrolabelaw24_HealthWatches_0 f_astrolabelaw24_awake f___health_Watch__Miss f_astrolaberef25_Miss f___health_Watch__Mark f_astrolaberef25_Mark f_astrolaberef25_Fresh f___health_Watch__Fresh f___health_Sensor__Usable (@L_astrolabelaw24_HealthWatches_0) d.1 d.2.1 d.2.2.1 d.2.2.2.1 d.2.2.2.2.1 d.2.2.2.2.2.1 d.2.2.2.2.2.2.1 d.2.2.2.2.2.2.2.1 d.2.2.2.2.2.2.2.2.1 d.2.2.2.2.2.2.2.2.2.1 d.2.2.2.2.2.2.2.2.2.2.1 d.2.2.2.2.2.2.2.2.2.2.2.1 d.2.2.2.2.2.2.2.2.2.2.2.2.1 d.2.2.2.2.2.2.2.2.2.2.2.2.2.1 d.2.2.2.2.2.2.2.2.2.2.2.2.2.2.1 d.2.2.2.2.2.2.2.2.2.2.2.2.2.2.2.1 d.2.2.2.2.2.2.2.2.2.2.2.2.2.2.2.2.1 d.2.2.2.2.2.2.2.2.2.2.2.2.2.2.2.2.2 c K) 200 (x0, x1, x2, x3, x4, x5, x6, x7, x8, x9, x10, x11, x12, x13, x14, x15, x16, x17)
theorem so_astrolabelaw24_HealthWatches_0 : ∀ kk, SumOK Try.prog (envOf [(15, F_astrolabelaw24_awake f_astrolabelaw24_awake), (28, F___health_Watch__Miss f___health_Watch__Miss), (23, F_astrolaberef25_Miss f_astrolaberef25_Miss), (25, F___health_Watch__Mark f___health_Watch__Mark), (22, F_astrolaberef25_Mark f_astrolaberef25_Mark), (26, F_astrolaberef25_Fresh f_astrolaberef25_Fresh), (29, F___health_Watch__Fresh f___health_Watch__Fresh), (27, F___health_Sensor__Usable f___health_Sensor__Usable)]) ⟨[⟨8, [4, 5, 6, 7, 12, 14, 15, 16, 17, 19, 20, 21, 22, 23, 24, 25, 26, 27, 28, 29, 30, 31, 32, 33, 34, 35, 36, 37, 38, 39, 40, 41, 42, 43, 44, 45, 46, 47, 48, 49, 50, 51, 52, 53, 54, 55, 56, 57, 58, 59, 60, 61, 62, 71, 72, 81, 82, 83, 84, 85, 86, 87, 88, 89, 90, 91, 92, 93, 94, 106, 63, 64, 65, 66, 67, 68, 69, 70, 73, 74, 75, 76, 77, 78, 79, 80], []⟩], [⟨8, 1, @R_astrolabelaw24_HealthWatches_0 (@L_astrolabelaw24_HealthWatches_0)⟩], []⟩ (tmpsOf Try.prog 5) kk 200 (loopIn Try.prog 5 8) :=
  SumOK.of (id := 8) (k0 := 1) (run := @R_astrolabelaw24_HealthWatches_0 (@L_astrolabelaw24_HealthWatches_0)) (by kernel_rfl) fun s K r hr => by
    unfold R_astrolabelaw24_HealthWatches_0 at hr
    obtain ⟨b, hb, hr1⟩ := Option.bind_eq_some_iff.1 hr
    have e := ((Q_astrolabelaw24_HealthWatches_0).ok s b hb).trans (q_astrolabelaw24_HealthWatches_0 b)
    subst e
    exact ⟨200, (it_astrolabelaw24_HealthWatches_0 b.1.1.2.2.1 b.1.1.2.2.2.2 b.1.2.1 b.1.2.2.1 b.1.2.2.2.1 b.1.2.2.2.2.2.2.2.2.2.2.2.1 b.1.2.2.2.2.2.2.2.2.2.2.2.2.2.1 b.1.2.2.2.2.2.2.2.2.2.2.2.2.2.2.2.2.2.2.1 b.2.1.1.1.1 b.2.1.1.1.2.1 b.2.1.2.1.1 b.2.1.2.1.2.1 b.2.1.2.1.2.2.1 b.2.1.2.1.2.2.2.2.1 b.2.1.2.1.2.2.2.2.2.1 b.2.1.2.2.1.1 b.2.1.2.2.1.2.1 b.2.1.2.2.1.2.2.1 K).trans hr1⟩
def K_astrolabelaw24_HealthWatches {ρ : Type} (g_astrolabelaw24_awake : Option Bool) (g___health_Watch__Miss : Int → Int → Bool → Option (Int × Int × Bool)) (g_astrolaberef25_Miss : Int → Int → Bool → Option (Int × Int × Bool)) (g___health_Watch__Mark : Int → Int → Int → Bool → Option Int) (g_astrolaberef25_Mark : Int → Int → Bool → Int → Option Int) (g_astrolaberef25_Fresh : Int → Int → Bool → Int → Int → Option Bool) (g___health_Watch__Fresh : Int → Int → Int → Int → Bool → Option Bool) (g___health_Sensor__Usable : Int → Int → Int → Bool → Int → Int → Int → Option Bool) (l_0 : ∀ {ρ : Type}, (Nat × Bool × Int × Int × Int × Int × Bool × Int × Nat × (Nat → Int) × Int × Int × Bool × Int × Int × Int × Int × Bool) → ((Nat × Bool × Int × Int × Int × Int × Bool × Int × Int × Bool × Nat × Int × Bool × Int × Int × Bool × Int × Int × Bool × Int × Bool × Nat × (Nat → Int) × Int × Bool × Int × Int ⊕
  Nat × Bool × Int × Int × Int × Int × Bool × Int × Int × Bool × Nat × Int × Bool × Int × Int × Bool × Int × Int × Bool × Int × Bool × Int × Bool × Nat × (Nat → Int) × Bool × Int × Int ⊕
    Nat × Bool × Int × Int × Int × Int × Bool × Int × Int × Bool × Nat × Int × Bool × Int × Int × Bool × Int × Int × Bool × Int × Bool × Int × Bool × Bool × Bool × Nat × (Nat → Int) × Int × Int ⊕
      Nat × Bool × Int × Int × Int × Int × Bool × Int × Int × Bool × Nat × Int × Bool × Int × Int × Bool × Int × Int × Bool × Nat × (Nat → Int) × Int × Int ⊕
        Nat × Bool × Int × Int × Int × Int × Bool × Int × Int × Bool × Nat × (Nat → Int) × Int × Int × Bool × Int × Int × Int × Int × Bool) → Option ρ) → Option ρ) (x0 : Nat) (x1 : Int) (x2 : Int) (x3 : Int) (x4 : Nat → Int) (w0 : Bool) (k : (Bool) → Option ρ) : Option ρ :=
  Option.bind g_astrolabelaw24_awake fun (d : Bool) =>
    bif !d then k false
    else
      bif decide (Int.ofNat x0 > 100) then k true
      else
        l_0 (x0, w0, x1, x2, x3, 0, d, x2, x0, x4, 0, 0, false, x2, x3, 0, 0, false)
          (Sum.elim
            (fun (d : Nat × Bool × Int × Int × Int × Int × Bool × Int × Int × Bool × Nat × Int × Bool × Int × Int × Bool × Int × Int × Bool × Int × Bool × Nat × (Nat → Int) × Int × Bool × Int × Int) =>
              k false)
            (Sum.elim
              (fun
                  (d :
                    Nat ×
                      Bool × Int × Int × Int × Int × Bool × Int × Int × Bool × Nat × Int × Bool × Int × Int × Bool × Int × Int × Bool × Int × Bool × Int × Bool × Nat × (Nat → Int) × Bool × Int × Int) =>
                k false)
              (Sum.elim
                (fun
                    (d :
                      Nat ×
                        Bool ×
                          Int ×
                            Int × Int × Int × Bool × Int × Int × Bool × Nat × Int × Bool × Int × Int × Bool × Int × Int × Bool × Int × Bool × Int × Bool × Bool × Bool × Nat × (Nat → Int) × Int × Int) =>
                  k false)
                (Sum.elim (fun (d : Nat × Bool × Int × Int × Int × Int × Bool × Int × Int × Bool × Nat × Int × Bool × Int × Int × Bool × Int × Int × Bool × Nat × (Nat → Int) × Int × Int) => k false)
                  fun (d : Nat × Bool × Int × Int × Int × Int × Bool × Int × Int × Bool × Nat × (Nat → Int) × Int × Int × Bool × Int × Int × Int × Int × Bool) =>
                  Option.bind
                    (g_astrolaberef25_Fresh d.snd.snd.snd.snd.snd.snd.snd.snd.snd.snd.snd.snd.snd.snd.snd.snd.snd.fst d.snd.snd.snd.snd.snd.snd.snd.snd.snd.snd.snd.snd.snd.snd.snd.snd.snd.snd.fst
                      d.snd.snd.snd.snd.snd.snd.snd.snd.snd.snd.snd.snd.snd.snd.snd.snd.snd.snd.snd d.snd.snd.fst d.snd.snd.snd.fst)
                    fun (d_1 : Bool) =>
                    Option.bind
                      (g___health_Watch__Fresh d.snd.snd.fst d.snd.snd.snd.fst d.snd.snd.snd.snd.snd.snd.snd.snd.snd.snd.snd.snd.fst d.snd.snd.snd.snd.snd.snd.snd.snd.snd.snd.snd.snd.snd.fst
                        d.snd.snd.snd.snd.snd.snd.snd.snd.snd.snd.snd.snd.snd.snd.fst)
                      fun (d_2 : Bool) =>
                      bif d_2 == d_1 then
                        Option.bind
                          (g___health_Sensor__Usable d.snd.snd.fst d.snd.snd.snd.snd.snd.snd.snd.snd.snd.snd.snd.snd.fst d.snd.snd.snd.snd.snd.snd.snd.snd.snd.snd.snd.snd.snd.fst
                            d.snd.snd.snd.snd.snd.snd.snd.snd.snd.snd.snd.snd.snd.snd.fst 0 d.snd.snd.snd.snd.snd.snd.snd.snd.snd.snd.snd.snd.snd.snd.snd.fst
                            d.snd.snd.snd.snd.snd.snd.snd.snd.snd.snd.snd.snd.snd.snd.snd.snd.fst)
                          fun (d_3 : Bool) => bif d_1 then k (d_3 == decide (d.snd.snd.snd.snd.snd.snd.snd.snd.snd.snd.snd.snd.snd.snd.snd.snd.snd.snd.fst ≤ d.snd.snd.snd.snd.fst)) else k (d_3 == false)
                      else k false))))
def f_astrolabelaw24_HealthWatches (x0 : Nat) (x1 : Int) (x2 : Int) (x3 : Int) (x4 : Nat → Int) (w0 : Bool) : Option (Bool) := K_astrolabelaw24_HealthWatches f_astrolabelaw24_awake f___health_Watch__Miss f_astrolaberef25_Miss f___health_Watch__Mark f_astrolaberef25_Mark f_astrolaberef25_Fresh f___health_Watch__Fresh f___health_Sensor__Usable (@L_astrolabelaw24_HealthWatches_0) x0 x1 x2 x3 x4 w0 some
section
open Go.Ab.Rdr
def QA_astrolabelaw24_HealthWatches := ((pair (cons (ar (rc (csl (nat 0) (ok' (nat 0)) (szs hole) (nat 1) hole))) (cons (ar (rc (cf (fi .i64 hole)))) (cons (ar (rc (cf (fi .i64 hole)))) (cons (ar (rc (cf (fi .i64 hole)))) nil)))) (cons (cons (ga (szs hole) (cons (ki .i64 hole) nil)) nil) nil)) : Rdr (List AV × List Blk) _)
end
def F_astrolabelaw24_HealthWatches (f : (Nat) → (Int) → (Int) → (Int) → (Nat → Int) → (Bool) → Option (Bool)) : Sem1 := fun args h => match (QA_astrolabelaw24_HealthWatches).rd (args, h) with
  | some b => .test (Nat.beq b.2.1.1.1 b.1.1.2.2.1) (.opt (f b.1.1.2.2.1 b.1.2.1 b.1.2.2.1 b.1.2.2.2.1 b.2.1.1.2.1 b.1.1.2.2.2.2) fun (d : Bool) => .leaf (Res.mk (AV.r (RV.c (CV.f (FV.b d)))) [Ch.keep] [])) .fail
  | none => .fail
theorem d_astrolabelaw24_HealthWatches (g_astrolabelaw24_awake : Option Bool) (g___health_Watch__Miss : Int → Int → Bool → Option (Int × Int × Bool)) (g_astrolaberef25_Miss : Int → Int → Bool → Option (Int × Int × Bool)) (g___health_Watch__Mark : Int → Int → Int → Bool → Option Int) (g_astrolaberef25_Mark : Int → Int → Bool → Int → Option Int) (g_astrolaberef25_Fresh : Int → Int → Bool → Int → Int → Option Bool) (g___health_Watch__Fresh : Int → Int → Int → Int → Bool → Option Bool) (g___health_Sensor__Usable : Int → Int → Int → Bool → Int → Int → Int → Option Bool) (l_0 : ∀ {ρ : Type}, (Nat × Bool × Int × Int × Int × Int × Bool × Int × Nat × (Nat → Int) × Int × Int × Bool × Int × Int × Int × Int × Bool) → ((Nat × Bool × Int × Int × Int × Int × Bool × Int × Int × Bool × Nat × Int × Bool × Int × Int × Bool × Int × Int × Bool × Int × Bool × Nat × (Nat → Int) × Int × Bool × Int × Int ⊕
  Nat × Bool × Int × Int × Int × Int × Bool × Int × Int × Bool × Nat × Int × Bool × Int × Int × Bool × Int × Int × Bool × Int × Bool × Int × Bool × Nat × (Nat → Int) × Bool × Int × Int ⊕
    Nat × Bool × Int × Int × Int × Int × Bool × Int × Int × Bool × Nat × Int × Bool × Int × Int × Bool × Int × Int × Bool × Int × Bool × Int × Bool × Bool × Bool × Nat × (Nat → Int) × Int × Int ⊕
      Nat × Bool × Int × Int × Int × Int × Bool × Int × Int × Bool × Nat × Int × Bool × Int × Int × Bool × Int × Int × Bool × Nat × (Nat → Int) × Int × Int ⊕
        Nat × Bool × Int × Int × Int × Int × Bool × Int × Int × Bool × Nat × (Nat → Int) × Int × Int × Bool × Int × Int × Int × Int × Bool) → Option ρ) → Option ρ) (x0 : Nat) (x1 : Int) (x2 : Int) (x3 : Int) (x4 : Nat → Int) (w0 : Bool) : den Try.prog (envOf [(15, F_astrolabelaw24_awake g_astrolabelaw24_awake), (28, F___health_Watch__Miss g___health_Watch__Miss), (23, F_astrolaberef25_Miss g_astrolaberef25_Miss), (25, F___health_Watch__Mark g___health_Watch__Mark), (22, F_astrolaberef25_Mark g_astrolaberef25_Mark), (26, F_astrolaberef25_Fresh g_astrolaberef25_Fresh), (29, F___health_Watch__Fresh g___health_Watch__Fresh), (27, F___health_Sensor__Usable g___health_Sensor__Usable)]) ⟨[⟨8, [4, 5, 6, 7, 12, 14, 15, 16, 17, 19, 20, 21, 22, 23, 24, 25, 26, 27, 28, 29, 30, 31, 32, 33, 34, 35, 36, 37, 38, 39, 40, 41, 42, 43, 44, 45, 46, 47, 48, 49, 50, 51, 52, 53, 54, 55, 56, 57, 58, 59, 60, 61, 62, 71, 72, 81, 82, 83, 84, 85, 86, 87, 88, 89, 90, 91, 92, 93, 94, 106, 63, 64, 65, 66, 67, 68, 69, 70, 73, 74, 75, 76, 77, 78, 79, 80], []⟩], [⟨8, 1, @R_astrolabelaw24_HealthWatches_0 (@l_0)⟩], []⟩ 200 5 [.r (.c (.sl 0 (.k 0) (.s x0) 1 w0)), .r (.c (.f (.i .i64 x1))), .r (.c (.f (.i .i64 x2))), .r (.c (.f (.i .i64 x3)))] [[.a (.s x0) [.i .i64 x4]]] =
    K_astrolabelaw24_HealthWatches g_astrolabelaw24_awake g___health_Watch__Miss g_astrolaberef25_Miss g___health_Watch__Mark g_astrolaberef25_Mark g_astrolaberef25_Fresh g___health_Watch__Fresh g___health_Sensor__Usable (@l_0) x0 x1 x2 x3 x4 w0 (fun (d : Bool) => some (Res.mk (AV.r (RV.c (CV.f (FV.b d)))) [Ch.keep] [])) := by kernel_rfl
theorem m_astrolabelaw24_HealthWatches {ρ σ : Type} (q : ρ → Option σ) (g_astrolabelaw24_awake : Option Bool) (g___health_Watch__Miss : Int → Int → Bool → Option (Int × Int × Bool)) (g_astrolaberef25_Miss : Int → Int → Bool → Option (Int × Int × Bool)) (g___health_Watch__Mark : Int → Int → Int → Bool → Option Int) (g_astrolaberef25_Mark : Int → Int → Bool → Int → Option Int) (g_astrolaberef25_Fresh : Int → Int → Bool → Int → Int → Option Bool) (g___health_Watch__Fresh : Int → Int → Int → Int → Bool → Option Bool) (g___health_Sensor__Usable : Int → Int → Int → Bool → Int → Int → Int → Option Bool) (l_0 : ∀ {ρ : Type}, (Nat × Bool × Int × Int × Int × Int × Bool × Int × Nat × (Nat → Int) × Int × Int × Bool × Int × Int × Int × Int × Bool) → ((Nat × Bool × Int × Int × Int × Int × Bool × Int × Int × Bool × Nat × Int × Bool × Int × Int × Bool × Int × Int × Bool × Int × Bool × Nat × (Nat → Int) × Int × Bool × Int × Int ⊕
  Nat × Bool × Int × Int × Int × Int × Bool × Int × Int × Bool × Nat × Int × Bool × Int × Int × Bool × Int × Int × Bool × Int × Bool × Int × Bool × Nat × (Nat → Int) × Bool × Int × Int ⊕
    Nat × Bool × Int × Int × Int × Int × Bool × Int × Int × Bool × Nat × Int × Bool × Int × Int × Bool × Int × Int × Bool × Int × Bool × Int × Bool × Bool × Bool × Nat × (Nat → Int) × Int × Int ⊕
      Nat × Bool × Int × Int × Int × Int × Bool × Int × Int × Bool × Nat × Int × Bool × Int × Int × Bool × Int × Int × Bool × Nat × (Nat → Int) × Int × Int ⊕
        Nat × Bool × Int × Int × Int × Int × Bool × Int × Int × Bool × Nat × (Nat → Int) × Int × Int × Bool × Int × Int × Int × Int × Bool) → Option ρ) → Option ρ) (hl_0 : ∀ {ρ σ : Type} (q : ρ → Option σ) (d : Nat × Bool × Int × Int × Int × Int × Bool × Int × Nat × (Nat → Int) × Int × Int × Bool × Int × Int × Int × Int × Bool) (k : (Nat × Bool × Int × Int × Int × Int × Bool × Int × Int × Bool × Nat × Int × Bool × Int × Int × Bool × Int × Int × Bool × Int × Bool × Nat × (Nat → Int) × Int × Bool × Int × Int ⊕
  Nat × Bool × Int × Int × Int × Int × Bool × Int × Int × Bool × Nat × Int × Bool × Int × Int × Bool × Int × Int × Bool × Int × Bool × Int × Bool × Nat × (Nat → Int) × Bool × Int × Int ⊕
    Nat × Bool × Int × Int × Int × Int × Bool × Int × Int × Bool × Nat × Int × Bool × Int × Int × Bool × Int × Int × Bool × Int × Bool × Int × Bool × Bool × Bool × Nat × (Nat → Int) × Int × Int ⊕
      Nat × Bool × Int × Int × Int × Int × Bool × Int × Int × Bool × Nat × Int × Bool × Int × Int × Bool × Int × Int × Bool × Nat × (Nat → Int) × Int × Int ⊕
        Nat × Bool × Int × Int × Int × Int × Bool × Int × Int × Bool × Nat × (Nat → Int) × Int × Int × Bool × Int × Int × Int × Int × Bool) → Option ρ), (l_0 d k).bind q = l_0 d fun x => (k x).bind q) (x0 : Nat) (x1 : Int) (x2 : Int) (x3 : Int) (x4 : Nat → Int) (w0 : Bool) (k : (Bool) → Option ρ) : (K_astrolabelaw24_HealthWatches g_astrolabelaw24_awake g___health_Watch__Miss g_astrolaberef25_Miss g___health_Watch__Mark g_astrolaberef25_Mark g_astrolaberef25_Fresh g___health_Watch__Fresh g___health_Sensor__Usable (@l_0) x0 x1 x2 x3 x4 w0 k).bind q = K_astrolabelaw24_HealthWatches g_astrolabelaw24_awake g___health_Watch__Miss g_astrolaberef25_Miss g___health_Watch__Mark g_astrolaberef25_Mark g_astrolaberef25_Fresh g___health_Watch__Fresh g___health_Sensor__Usable (@l_0) x0 x1 x2 x3 x4 w0 (fun d => (k d).bind q) := by
  simp only [K_astrolabelaw24_HealthWatches, bnd_cond, bnd_bind, bnd_none, bnd_sum, hl_0]
theorem qa_astrolabelaw24_HealthWatches : ∀ b, (QA_astrolabelaw24_HealthWatches).em b = ([.r (.c (.sl 0 (.k 0) (.s b.1.1.2.2.1) 1 b.1.1.2.2.2.2)), .r (.c (.f (.i .i64 b.1.2.1))), .r (.c (.f (.i .i64 b.1.2.2.1))), .r (.c (.f (.i .i64 b.1.2.2.2.1)))], [[.a (.s b.2.1.1.1) [.i .i64 b.2.1.1.2.1]]]) := fun b => by kernel_rfl
theorem e_astrolabelaw24_HealthWatches {f : (Nat) → (Int) → (Int) → (Int) → (Nat → Int) → (Bool) → Option (Bool)} {args : List AV} {h : List Blk} {r : Res} (hr : (F_astrolabelaw24_HealthWatches f args h).eval = some r) : ∃ x0 x1 x2 x3 x4 w0, args = [.r (.c (.sl 0 (.k 0) (.s x0) 1 w0)), .r (.c (.f (.i .i64 x1))), .r (.c (.f (.i .i64 x2))), .r (.c (.f (.i .i64 x3)))] ∧ h = [[.a (.s x0) [.i .i64 x4]]] ∧ (f x0 x1 x2 x3 x4 w0).bind (fun (d : Bool) => some (Res.mk (AV.r (RV.c (CV.f (FV.b d)))) [Ch.keep] [])) = some r := by
  unfold F_astrolabelaw24_HealthWatches at hr
  split at hr
  · rename_i b hb
    have e := ((QA_astrolabelaw24_HealthWatches).ok _ _ hb).trans (qa_astrolabelaw24_HealthWatches b)
    obtain ⟨he, hr1⟩ := test_eval hr
    clear hr
    have hr := hr1
    clear hr1
    rw [Nat.eq_of_beq_eq_true he] at e
    clear he
    rw [opt_eval2] at hr
    exact ⟨b.1.1.2.2.1, b.1.2.1, b.1.2.2.1, b.1.2.2.2.1, b.2.1.1.2.1, b.1.1.2.2.2.2, (Prod.mk.inj e).1, (Prod.mk.inj e).2, hr⟩
  · cases hr
theorem n_astrolabelaw24_HealthWatches {σ : Type} (q : (Bool) → Option σ) (x0 : Nat) (x1 : Int) (x2 : Int) (x3 : Int) (x4 : Nat → Int) (w0 : Bool) : (f_astrolabelaw24_HealthWatches x0 x1 x2 x3 x4 w0).bind q = K_astrolabelaw24_HealthWatches f_astrolabelaw24_awake f___health_Watch__Miss f_astrolaberef25_Miss f___health_Watch__Mark f_astrolaberef25_Mark f_astrolaberef25_Fresh f___health_Watch__Fresh f___health_Sensor__Usable (@L_astrolabelaw24_HealthWatches_0) x0 x1 x2 x3 x4 w0 q := by
  unfold f_astrolabelaw24_HealthWatches
  exact m_astrolabelaw24_HealthWatches q f_astrolabelaw24_awake f___health_Watch__Miss f_astrolaberef25_Miss f___health_Watch__Mark f_astrolaberef25_Mark f_astrolaberef25_Fresh f___health_Watch__Fresh f___health_Sensor__Usable (@L_astrolabelaw24_HealthWatches_0) (fun q d k => mL_astrolabelaw24_HealthWatches_0 q d k) x0 x1 x2 x3 x4 w0 some
theorem s_astrolabelaw24_HealthWatches : Sound Try.prog 5 (F_astrolabelaw24_HealthWatches f_astrolabelaw24_HealthWatches) :=
  (inl_sums (l := [(15, F_astrolabelaw24_awake f_astrolabelaw24_awake), (28, F___health_Watch__Miss f___health_Watch__Miss), (23, F_astrolaberef25_Miss f_astrolaberef25_Miss), (25, F___health_Watch__Mark f___health_Watch__Mark), (22, F_astrolaberef25_Mark f_astrolaberef25_Mark), (26, F_astrolaberef25_Fresh f_astrolaberef25_Fresh), (29, F___health_Watch__Fresh f___health_Watch__Fresh), (27, F___health_Sensor__Usable f___health_Sensor__Usable)]) (.cons s_astrolabelaw24_awake (.cons s___health_Watch__Miss (.cons s_astrolaberef25_Miss (.cons s___health_Watch__Mark (.cons s_astrolaberef25_Mark (.cons s_astrolaberef25_Fresh (.cons s___health_Watch__Fresh (.cons s___health_Sensor__Usable (.nil _))))))))) mixed (hs := ⟨[⟨8, [4, 5, 6, 7, 12, 14, 15, 16, 17, 19, 20, 21, 22, 23, 24, 25, 26, 27, 28, 29, 30, 31, 32, 33, 34, 35, 36, 37, 38, 39, 40, 41, 42, 43, 44, 45, 46, 47, 48, 49, 50, 51, 52, 53, 54, 55, 56, 57, 58, 59, 60, 61, 62, 71, 72, 81, 82, 83, 84, 85, 86, 87, 88, 89, 90, 91, 92, 93, 94, 106, 63, 64, 65, 66, 67, 68, 69, 70, 73, 74, 75, 76, 77, 78, 79, 80], []⟩], [⟨8, 1, @R_astrolabelaw24_HealthWatches_0 (@L_astrolabelaw24_HealthWatches_0)⟩], []⟩) (lf := 200) (Sums.by (l := [loopIn Try.prog 5 8]) (by kernel_rfl) ⟨so_astrolabelaw24_HealthWatches_0, trivial⟩) (by kernel_rfl)).by fun args b r hr => by
  obtain ⟨x0, x1, x2, x3, x4, w0, rfl, rfl, hr1⟩ := e_astrolabelaw24_HealthWatches hr
  exact inl_eval ((d_astrolabelaw24_HealthWatches f_astrolabelaw24_awake f___health_Watch__Miss f_astrolaberef25_Miss f___health_Watch__Mark f_astrolaberef25_Mark f_astrolaberef25_Fresh f___health_Watch__Fresh f___health_Sensor__Usable (@L_astrolabelaw24_HealthWatches_0) x0 x1 x2 x3 x4 w0).trans ((n_astrolabelaw24_HealthWatches (fun (d : Bool) => some (Res.mk (AV.r (RV.c (CV.f (FV.b d)))) [Ch.keep] [])) x0 x1 x2 x3 x4 w0).symm.trans hr1))

end Go.Proofs.Ytmlmpcabphgfaaa
