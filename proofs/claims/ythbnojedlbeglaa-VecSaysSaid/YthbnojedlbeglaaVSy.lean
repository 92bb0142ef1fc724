/-
  All operations of any vectors are what the document says, with the flag (P5.1): the statement of astrolabelaw5.VecSays; no condition.
-/
import Derived.Test.YthbnojedlbeglaaV5
import Derived.Test.YthbnojedlbeglaaR5B
import Derived.Test.YthbnojedlbeglaaR2b
import Derived.Test.YthbnojedlbeglaaRH
import Derived.Test.YthbnojedlbeglaaVL
import Derived.Test.YthbnojedlbeglaaVAdd2
set_option maxRecDepth 100000
set_option maxHeartbeats 4000000
set_option linter.unusedVariables false
set_option linter.unusedSimpArgs false
namespace Go.Proofs.Ythbnojedlbeglaa
open Go.Ab
theorem says_add (hit w : Bool) (a b : Int) (l : Nat → Int) (h0 : l 0 = a) (h1 : l 1 = b) : f___fx_Acc__Add 2 hit l w = f___astrolaberef2_Acc__Add a b hit := by
  rw [acc_add 2 (by omega), ref_add]
  simp only [sumF, anyF, h0, h1, Int.zero_add, Bool.false_or, Bool.or_assoc]
theorem says_sub (hit : Bool) (a b : Int) : f___fx_Acc__Sub a b hit = f___astrolaberef2_Acc__Sub a b hit := by
  rw [ref_sub]
  unfold f___fx_Acc__Sub K___fx_Acc__Sub
  have := sat_le a
  have := sat_le b
  simp only [acc_sat, Option.bind_some, wrap_i64 (n := sat a - sat b) (by omega) (by omega)]
theorem says_mul (hit : Bool) (a b : Int) : f___fx_Acc__Mul a b 30 hit = f___astrolaberef2_Acc__M a b hit := by
  rw [ref_M, show (30 : Int) = Int.ofNat 30 from rfl, acc_mul a b 30 hit (by omega)]
theorem says_Add (x0 x1 x2 x3 x4 x5 : Int) (hit w : Bool) : f_vec_Add 2 hit (fun j => bif Nat.beq j 1 then x3 else bif Nat.beq j 0 then x0 else x0) (fun j => bif Nat.beq j 1 then x4 else bif Nat.beq j 0 then x1 else x1) (fun j => bif Nat.beq j 1 then x5 else bif Nat.beq j 0 then x2 else x2) w =
    f_astrolaberef4_Add x0 x1 x2 x3 x4 x5 hit := by
  rw [vec_add_two]
  unfold f_astrolaberef4_Add K_astrolaberef4_Add
  rw [says_add hit true x0 x3 _ rfl rfl]
  refine congrArg (Option.bind _) (funext fun d => ?_)
  rw [says_add d.2 true x1 x4 _ rfl rfl]
  refine congrArg (Option.bind _) (funext fun d => ?_)
  rw [says_add d.2 true x2 x5 _ rfl rfl]
theorem says_Sub (x0 x1 x2 x3 x4 x5 : Int) (hit : Bool) : f_vec_Sub x0 x1 x2 x3 x4 x5 hit = f_astrolaberef4_Sub x0 x1 x2 x3 x4 x5 hit := by
  unfold f_vec_Sub K_vec_Sub f_astrolaberef4_Sub K_astrolaberef4_Sub
  simp only [says_sub]
theorem says_Scale (x0 x1 x2 x6 : Int) (hit : Bool) : f_vec_Scale x0 x1 x2 x6 hit = f_astrolaberef4_Scale x0 x1 x2 x6 hit := by
  unfold f_vec_Scale K_vec_Scale f_astrolaberef4_Scale K_astrolaberef4_Scale
  simp only [says_mul]
theorem says_Dot (x0 x1 x2 x3 x4 x5 : Int) (hit : Bool) : f_vec_Dot x0 x1 x2 x3 x4 x5 hit = f___astrolaberef2_Acc__Dot 30 3 3 hit (fun (j : Nat) => bif Nat.beq j 2 then x2 else bif Nat.beq j 1 then x1 else bif Nat.beq j 0 then x0 else x0)
      (fun (j : Nat) => bif Nat.beq j 2 then x5 else bif Nat.beq j 1 then x4 else bif Nat.beq j 0 then x3 else x3) false false := by
  unfold f_vec_Dot K_vec_Dot
  rw [show (30 : Int) = Int.ofNat 30 from rfl, acc_dot 30 (by omega) 3 (by omega), ref_dot 30 (by omega) 3 (by omega), Option.bind_some]
theorem ref_dot2 (hit w w' : Bool) (f g : Nat → Int) (a b c d : Int) (ea : f 0 = a) (eb : f 1 = b) (ec : g 0 = c) (ed : g 1 = d) :
    f___astrolaberef2_Acc__Dot 30 2 2 hit f g w w' = some (sat (rnd (sat a * sat c + sat b * sat d) 30), (hit || ((over a || over c) || (over b || over d))) || over (rnd (sat a * sat c + sat b * sat d) 30)) := by
  have e := ref_dot 30 (by omega) 2 (by omega) hit f g w w'
  have s : sumF (fun j => sat (f j) * sat (g j)) 2 = sat a * sat c + sat b * sat d := by
    show 0 + sat (f 0) * sat (g 0) + sat (f 1) * sat (g 1) = _
    rw [ea, eb, ec, ed, Int.zero_add]
  have v : anyF (fun j => over (f j) || over (g j)) 2 = ((over a || over c) || (over b || over d)) := by
    show ((false || (over (f 0) || over (g 0))) || (over (f 1) || over (g 1))) = _
    rw [ea, eb, ec, ed, Bool.false_or]
  rw [s, v] at e
  exact e
theorem refCross_eq (x0 x1 x2 x3 x4 x5 : Int) (hit : Bool) : f_astrolaberef4_Cross x0 x1 x2 x3 x4 x5 hit = some (sat (crV x1 x2 x5 x4), sat (crV x2 x0 x3 x5), sat (crV x0 x1 x4 x3),
      ((((((((hit || over x0) || over x1) || over x2) || over x3) || over x4) || over x5) || over (crV x1 x2 x5 x4)) || over (crV x2 x0 x3 x5)) || over (crV x0 x1 x4 x3)) := by
  unfold f_astrolaberef4_Cross K_astrolaberef4_Cross
  simp only [ref_neg, Option.bind_some]
  rw [ref_dot2 _ true true _ _ x1 (-sat x2) x5 x4 rfl rfl rfl rfl]
  simp only [Option.bind_some]
  rw [ref_dot2 _ true true _ _ x2 (-sat x0) x3 x5 rfl rfl rfl rfl]
  simp only [Option.bind_some]
  rw [ref_dot2 _ true true _ _ x0 (-sat x1) x4 x3 rfl rfl rfl rfl]
  simp only [Option.bind_some, (sat_neg _).1, (sat_neg _).2, Bool.or_false, Bool.false_or, crV]
  congr 4
  generalize over x0 = b0
  generalize over x1 = b1
  generalize over x2 = b2
  generalize over x3 = b3
  generalize over x4 = b4
  generalize over x5 = b5
  cases hit <;> cases b0 <;> cases b1 <;> cases b2 <;> cases b3 <;> cases b4 <;> cases b5 <;> simp
theorem says_Norm (x0 x1 x2 : Int) (hit : Bool) : f_vec_Norm x0 x1 x2 hit = f_astrolaberef4_Norm x0 x1 x2 hit := by
  have p0 := sq_nn (sat x0)
  have p1 := sq_nn (sat x1)
  have p2 := sq_nn (sat x2)
  obtain ⟨r, hr⟩ := isR_ex (sat x0 * sat x0 + sat x1 * sat x1 + sat x2 * sat x2) (by omega)
  rw [norm3 x0 x1 x2 hit r hr]
  unfold f_astrolaberef4_Norm K_astrolaberef4_Norm
  have e := ref_hypot 3 (by omega) hit true (fun j => bif Nat.beq j 2 then x2 else bif Nat.beq j 1 then x1 else bif Nat.beq j 0 then x0 else x0) r (by
    show isR r (0 + sat x0 * sat x0 + sat x1 * sat x1 + sat x2 * sat x2)
    rw [Int.zero_add]; exact hr)
  have v : anyF (fun j => over ((fun j => bif Nat.beq j 2 then x2 else bif Nat.beq j 1 then x1 else bif Nat.beq j 0 then x0 else x0) j)) 3 = ((over x0 || over x1) || over x2) := by
    show (((false || over x0) || over x1) || over x2) = _
    rw [Bool.false_or]
  rw [v] at e
  exact (congrArg (fun o => Option.bind o fun d => some (d.1, d.2)) e).symm
theorem says_Sat (x0 x1 x2 : Int) (hit : Bool) : f_vec_Sat x0 x1 x2 hit = f_astrolaberef4_Sat x0 x1 x2 hit := by
  unfold f_vec_Sat K_vec_Sat f_astrolaberef4_Sat K_astrolaberef4_Sat
  simp only [acc_sat, ref_sat]
theorem add_some (x0 x1 x2 x3 x4 x5 : Int) (hit : Bool) : ∃ a b c h, f_astrolaberef4_Add x0 x1 x2 x3 x4 x5 hit = some (a, b, c, h) := by
  unfold f_astrolaberef4_Add K_astrolaberef4_Add
  simp only [ref_add, Option.bind_some]
  exact ⟨_, _, _, _, rfl⟩
theorem sub_some (x0 x1 x2 x3 x4 x5 : Int) (hit : Bool) : ∃ a b c h, f_astrolaberef4_Sub x0 x1 x2 x3 x4 x5 hit = some (a, b, c, h) := by
  unfold f_astrolaberef4_Sub K_astrolaberef4_Sub
  simp only [ref_sub, Option.bind_some]
  exact ⟨_, _, _, _, rfl⟩
theorem scale_some (x0 x1 x2 x6 : Int) (hit : Bool) : ∃ a b c h, f_astrolaberef4_Scale x0 x1 x2 x6 hit = some (a, b, c, h) := by
  unfold f_astrolaberef4_Scale K_astrolaberef4_Scale
  simp only [ref_M, Option.bind_some]
  exact ⟨_, _, _, _, rfl⟩
theorem vecSays_plain (x0 x1 x2 x3 x4 x5 x6 : Int) : f_astrolabelaw5_VecSays x0 x1 x2 x3 x4 x5 x6 = some true := by
  unfold f_astrolabelaw5_VecSays K_astrolabelaw5_VecSays
  rw [vec_awake', Option.bind_some]
  simp only [Bool.not_true, cond_false]
  obtain ⟨a1, a2, a3, a4, ea⟩ := add_some x0 x1 x2 x3 x4 x5 false
  obtain ⟨b1, b2, b3, b4, eb⟩ := sub_some x0 x1 x2 x3 x4 x5 false
  obtain ⟨c1, c2, c3, c4, ec⟩ := scale_some x0 x1 x2 x6 false
  have ed := dot3 false x0 x1 x2 x3 x4 x5
  have p0 := sq_nn (sat x0)
  have p1 := sq_nn (sat x1)
  have p2 := sq_nn (sat x2)
  obtain ⟨r, hr⟩ := isR_ex (sat x0 * sat x0 + sat x1 * sat x1 + sat x2 * sat x2) (by omega)
  have en := norm3 x0 x1 x2 false r hr
  rw [says_Dot] at ed
  rw [says_Norm] at en
  have es := sat3 x0 x1 x2 false
  rw [says_Sat] at es
  rw [says_Add, ea]
  simp only [Option.bind_some, beq_self_eq_true, Bool.and_self, Bool.not_true, cond_false]
  rw [says_Sub, eb]
  simp only [Option.bind_some, beq_self_eq_true, Bool.and_self, Bool.not_true, cond_false]
  rw [says_Scale, ec]
  simp only [Option.bind_some, beq_self_eq_true, Bool.and_self, Bool.not_true, cond_false]
  rw [says_Dot, ed]
  simp only [Option.bind_some, beq_self_eq_true, Bool.and_self, Bool.not_true, cond_false]
  rw [cross_eq, refCross_eq]
  simp only [Option.bind_some, beq_self_eq_true, Bool.and_self, Bool.not_true, cond_false]
  rw [says_Norm, en]
  simp only [Option.bind_some, beq_self_eq_true, Bool.and_self, Bool.not_true, cond_false]
  rw [says_Sat, es]
  simp only [Option.bind_some, beq_self_eq_true, Bool.and_self, Bool.not_true, cond_false]
theorem vecSays_ev (f : (Int) → (Int) → (Int) → (Int) → (Int) → (Int) → (Int) → Option Bool) (x0_0 : Int) (x0_1 : Int) (x0_2 : Int) (x1_0 : Int) (x1_1 : Int) (x1_2 : Int) (x2_0 : Int) : F_astrolabelaw5_VecSays f [.r (.agg [.c (.f (.i .i64 x0_0)), .c (.f (.i .i64 x0_1)), .c (.f (.i .i64 x0_2))]), .r (.agg [.c (.f (.i .i64 x1_0)), .c (.f (.i .i64 x1_1)), .c (.f (.i .i64 x1_2))]), .r (.c (.f (.i .i64 x2_0)))] [] = .opt (f x0_0 x0_1 x0_2 x1_0 x1_1 x1_2 x2_0) fun d => .leaf ⟨.r (.c (.f (.b d))), [], []⟩ := by kernel_rfl
theorem vecSays_trues : Trues (F_astrolabelaw5_VecSays f_astrolabelaw5_VecSays) [.flat true [.c (.i .i64), .c (.i .i64), .c (.i .i64)], .flat true [.c (.i .i64), .c (.i .i64), .c (.i .i64)], .flat false [.c (.i .i64)]] := fun ds h => by
  obtain ⟨_, _, rfl, q0_0, g0⟩ := fit_flat h
  obtain ⟨x0_0, _, rfl, r0_0, q0_1⟩ := f1_i q0_0
  obtain ⟨x0_1, _, rfl, r0_1, q0_2⟩ := f1_i q0_1
  obtain ⟨x0_2, _, rfl, r0_2, q0_3⟩ := f1_i q0_2
  obtain rfl := f1_nil q0_3
  obtain ⟨_, _, rfl, q1_0, g1⟩ := fit_flat g0
  obtain ⟨x1_0, _, rfl, r1_0, q1_1⟩ := f1_i q1_0
  obtain ⟨x1_1, _, rfl, r1_1, q1_2⟩ := f1_i q1_1
  obtain ⟨x1_2, _, rfl, r1_2, q1_3⟩ := f1_i q1_2
  obtain rfl := f1_nil q1_3
  obtain ⟨_, _, rfl, q2_0, g2⟩ := fit_flat g1
  obtain ⟨x2_0, _, rfl, r2_0, q2_1⟩ := f1_i q2_0
  obtain rfl := f1_nil q2_1
  obtain rfl := fit_nil g2
  refine ⟨[], (congrArg T.eval (vecSays_ev f_astrolabelaw5_VecSays x0_0 x0_1 x0_2 x1_0 x1_1 x1_2 x2_0)).trans ?_⟩
  rw [vecSays_plain x0_0 x0_1 x0_2 x1_0 x1_1 x1_2 x2_0]
  rfl
set_option maxRecDepth 100000 in
theorem vecSays_lifted (os : Os) (started : os.Started) (H : Type) (enc : TypeId × Value → H) :
    ReturnsInHanded {} Try.checked os 10 .any (Rows.vecSaysSpec.pre6 enc Try.prog Try.f10 Rows.vecSaysRow.domain false) (Rows.vecSaysSpec.post enc Try.prog Try.f10 false true false false) :=
  law_lift (C := Try.checked) (tb := Try.f10.resultTypes.getD 0 0) own started (by kernel_rfl) Try.func10 laid (by kernel_rfl) (by kernel_rfl) (by kernel_rfl) rfl
    (fun ds h => by
      have h : ds.length = 3 := h.trans (by kernel_rfl)
      match ds, h with
      | [_, _, _], _ => rfl)
    (ChangeSpec.witness6 (enc := enc) (C := Try.checked) false ⟨#[], #[.agg #[.int .i64 0, .int .i64 0, .int .i64 0], .agg #[.int .i64 0, .int .i64 0, .int .i64 0], .int .i64 0], []⟩ 8 (by kernel_rfl) (by kernel_rfl) (by kernel_rfl) (by kernel_rfl))
    (fun W base args ds ps _ hval ht hz _ _ => prm_calls (pr := [.flat true [.c (.i .i64), .c (.i .i64), .c (.i .i64)], .flat true [.c (.i .i64), .c (.i .i64), .c (.i .i64)], .flat false [.c (.i .i64)]]) s_astrolabelaw5_VecSays (by kernel_rfl) (ts := Try.f10.params.toList) (by kernel_rfl) (by kernel_rfl) vecSays_trues hval ht hz)
theorem vecSays_over : Rows.vecSaysRow.holds Try.pinned (OpenSpec.ofChange Rows.vecSaysSpec) :=
  OpenClaim.holds_of_wide 10 Try.f10 rfl rfl rfl rfl rfl rfl rfl ⟨rfl, rfl, rfl, rfl, rfl⟩ rfl rfl rfl rfl rfl (by kernel_rfl) Try.func10 (by kernel_rfl)
    (of_decide_eq_true (by kernel_rfl)) (by unfold Func.isWrapper; first | (rw [if_pos (by decide +kernel)]; kernel_rfl) | (rw [if_neg (by decide +kernel)]; exact ⟨rfl, rfl⟩))
    (fun os started H enc _ => vecSays_lifted os started H enc)
/-- the statement -/
theorem vecSays_proved : Rows.VecSaysSaid := vecSays_over
#print axioms vecSays_proved
end Go.Proofs.Ythbnojedlbeglaa
