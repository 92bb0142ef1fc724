/-
  Contracts of slices.Insert, Delete, Clone (of samples) by plain functions.
-/
import Derived.Test.YthbnojedlbeglaaSLF
import Derived.Test.YthbnojedlbeglaaAbNil
set_option maxRecDepth 100000
set_option maxHeartbeats 4000000
set_option linter.unusedVariables false
namespace Go.Proofs.Ythbnojedlbeglaa
open Go.Ab
theorem cond_some {α : Type} {c : Bool} {v d : α} (h : cond c (some v) none = some d) : c = true ∧ v = d := by
  cases c with
  | true => exact ⟨rfl, Option.some.inj h⟩
  | false => cases h
def f_slices_Insert___api_Sample_api_Sample_ (x0 : Nat) (x1 : Int) (x2 : Nat → Int) (x3 : Nat → Int) (x4 : Nat → Int) (x5 : Nat → Int) (x6 : Nat → Int) (x7 : Nat → Int) (x8 : Nat → Int) (x9 : Nat → Int) (x10 : Nat → Int) (x11 : Nat → Int) (x12 : Nat → Int) (x13 : Nat → Int) (x14 : Nat → Int) (x15 : Nat → Int) (x16 : Nat → Int) (x17 : Nat → Int) (x18 : Nat → Int) (x19 : Nat → Int) (w0 : Bool) (w1 : Bool) : Option (Nat × (Nat → Int) × (Nat → Int) × (Nat → Int) × (Nat → Int) × (Nat → Int) × (Nat → Int) × (Nat → Int) × (Nat → Int) × (Nat → Int)) :=
  bif w0 && (decide (0 ≤ x1) && (Nat.ble (Int.toNat x1) x0 && Nat.ble ((x0 + 1) * 72) 140737488355328)) then some (x0 + 1, insC (Int.toNat x1) x2 x11, insC (Int.toNat x1) x3 x12, insC (Int.toNat x1) x4 x13, insC (Int.toNat x1) x5 x14, insC (Int.toNat x1) x6 x15, insC (Int.toNat x1) x7 x16, insC (Int.toNat x1) x8 x17, insC (Int.toNat x1) x9 x18, insC (Int.toNat x1) x10 x19) else none
section
open Go.Ab.Rdr
def QA_slices_Insert___api_Sample_api_Sample_ := (pair (cons (ar (rc (csl (nat 0) (ok' (nat 0)) (szs hole) (nat 9) hole))) (cons (ar (rc (cf (fi .i64 hole)))) (cons (ar (rc (csl (nat 1) (ok' (nat 0)) (szs hole) (nat 9) hole))) nil))) (cons (cons (ga (szs hole) (cons (ki .i64 hole) (cons (ki .i64 hole) (cons (ki .i64 hole) (cons (ki .i64 hole) (cons (ki .i64 hole) (cons (ki .i64 hole) (cons (ki .i64 hole) (cons (ki .i64 hole) (cons (ki .i64 hole) nil)))))))))) nil) (cons (cons (ga (szs hole) (cons (ki .i64 hole) (cons (ki .i64 hole) (cons (ki .i64 hole) (cons (ki .i64 hole) (cons (ki .i64 hole) (cons (ki .i64 hole) (cons (ki .i64 hole) (cons (ki .i64 hole) (cons (ki .i64 hole) nil)))))))))) nil) nil)) : Rdr (List AV × List Blk) _)
end
def F0_slices_Insert___api_Sample_api_Sample_ (f : (Nat) → (Int) → (Nat → Int) → (Nat → Int) → (Nat → Int) → (Nat → Int) → (Nat → Int) → (Nat → Int) → (Nat → Int) → (Nat → Int) → (Nat → Int) → (Nat → Int) → (Nat → Int) → (Nat → Int) → (Nat → Int) → (Nat → Int) → (Nat → Int) → (Nat → Int) → (Nat → Int) → (Nat → Int) → (Bool) → (Bool) → Option (Nat × (Nat → Int) × (Nat → Int) × (Nat → Int) × (Nat → Int) × (Nat → Int) × (Nat → Int) × (Nat → Int) × (Nat → Int) × (Nat → Int))) : Sem1 := fun args h => match (QA_slices_Insert___api_Sample_api_Sample_).rd (args, h) with
  | some b => .test (Nat.beq b.2.1.1.1 b.1.1.2.2.1) (.test (Nat.beq b.1.2.2.1.2.2.1 1) (.test (Nat.beq b.2.2.1.1.1 1) (.opt (f b.1.1.2.2.1 b.1.2.1 b.2.1.1.2.1 b.2.1.1.2.2.1 b.2.1.1.2.2.2.1 b.2.1.1.2.2.2.2.1 b.2.1.1.2.2.2.2.2.1 b.2.1.1.2.2.2.2.2.2.1 b.2.1.1.2.2.2.2.2.2.2.1 b.2.1.1.2.2.2.2.2.2.2.2.1 b.2.1.1.2.2.2.2.2.2.2.2.2.1 b.2.2.1.1.2.1 b.2.2.1.1.2.2.1 b.2.2.1.1.2.2.2.1 b.2.2.1.1.2.2.2.2.1 b.2.2.1.1.2.2.2.2.2.1 b.2.2.1.1.2.2.2.2.2.2.1 b.2.2.1.1.2.2.2.2.2.2.2.1 b.2.2.1.1.2.2.2.2.2.2.2.2.1 b.2.2.1.1.2.2.2.2.2.2.2.2.2.1 b.1.1.2.2.2.2 b.1.2.2.1.2.2.2.2) fun d => .leaf ⟨.r (.c (.sl 2 (.k 0) (.s d.1) 9 true)), [.kill, .keep], [[.a (.s d.1) [.i .i64 d.2.1, .i .i64 d.2.2.1, .i .i64 d.2.2.2.1, .i .i64 d.2.2.2.2.1, .i .i64 d.2.2.2.2.2.1, .i .i64 d.2.2.2.2.2.2.1, .i .i64 d.2.2.2.2.2.2.2.1, .i .i64 d.2.2.2.2.2.2.2.2.1, .i .i64 d.2.2.2.2.2.2.2.2.2]]]⟩) .fail) .fail) .fail
  | none => .fail
def F_slices_Insert___api_Sample_api_Sample_ (f : (Nat) → (Int) → (Nat → Int) → (Nat → Int) → (Nat → Int) → (Nat → Int) → (Nat → Int) → (Nat → Int) → (Nat → Int) → (Nat → Int) → (Nat → Int) → (Nat → Int) → (Nat → Int) → (Nat → Int) → (Nat → Int) → (Nat → Int) → (Nat → Int) → (Nat → Int) → (Nat → Int) → (Nat → Int) → (Bool) → (Bool) → Option (Nat × (Nat → Int) × (Nat → Int) × (Nat → Int) × (Nat → Int) × (Nat → Int) × (Nat → Int) × (Nat → Int) × (Nat → Int) × (Nat → Int))) : Sem1 := nilF 0 [.i .i64, .i .i64, .i .i64, .i .i64, .i .i64, .i .i64, .i .i64, .i .i64, .i .i64] (F0_slices_Insert___api_Sample_api_Sample_ f)
theorem qa_slices_Insert___api_Sample_api_Sample_ : ∀ b, (QA_slices_Insert___api_Sample_api_Sample_).em b = ([.r (.c (.sl 0 (.k 0) (.s b.1.1.2.2.1) 9 b.1.1.2.2.2.2)), .r (.c (.f (.i .i64 b.1.2.1))), .r (.c (.sl 1 (.k 0) (.s b.1.2.2.1.2.2.1) 9 b.1.2.2.1.2.2.2.2))], [[.a (.s b.2.1.1.1) [.i .i64 b.2.1.1.2.1, .i .i64 b.2.1.1.2.2.1, .i .i64 b.2.1.1.2.2.2.1, .i .i64 b.2.1.1.2.2.2.2.1, .i .i64 b.2.1.1.2.2.2.2.2.1, .i .i64 b.2.1.1.2.2.2.2.2.2.1, .i .i64 b.2.1.1.2.2.2.2.2.2.2.1, .i .i64 b.2.1.1.2.2.2.2.2.2.2.2.1, .i .i64 b.2.1.1.2.2.2.2.2.2.2.2.2.1]], [.a (.s b.2.2.1.1.1) [.i .i64 b.2.2.1.1.2.1, .i .i64 b.2.2.1.1.2.2.1, .i .i64 b.2.2.1.1.2.2.2.1, .i .i64 b.2.2.1.1.2.2.2.2.1, .i .i64 b.2.2.1.1.2.2.2.2.2.1, .i .i64 b.2.2.1.1.2.2.2.2.2.2.1, .i .i64 b.2.2.1.1.2.2.2.2.2.2.2.1, .i .i64 b.2.2.1.1.2.2.2.2.2.2.2.2.1, .i .i64 b.2.2.1.1.2.2.2.2.2.2.2.2.2.1]]]) := fun b => by kernel_rfl
theorem s_slices_Insert___api_Sample_api_Sample_ [Amb] : Sound Try.prog 49 (F_slices_Insert___api_Sample_api_Sample_ f_slices_Insert___api_Sample_api_Sample_) := Sound.nil 0 [.i .i64, .i .i64, .i .i64, .i .i64, .i .i64, .i .i64, .i .i64, .i .i64, .i .i64] <| fun args h r hr w π vs hargs hH hdom => by
  unfold F0_slices_Insert___api_Sample_api_Sample_ at hr
  split at hr
  · rename_i b hb
    have e := ((QA_slices_Insert___api_Sample_api_Sample_).ok _ _ hb).trans (qa_slices_Insert___api_Sample_api_Sample_ b)
    obtain ⟨e1, hr⟩ := test_eval hr
    obtain ⟨e2, hr⟩ := test_eval hr
    obtain ⟨e3, hr⟩ := test_eval hr
    rw [Nat.eq_of_beq_eq_true e1, Nat.eq_of_beq_eq_true e2, Nat.eq_of_beq_eq_true e3] at e
    obtain ⟨rfl, rfl⟩ := Prod.mk.inj e
    rw [opt_eval2] at hr
    obtain ⟨d, hd, hr⟩ := Option.bind_eq_some_iff.1 hr
    obtain ⟨hc, rfl⟩ := cond_some hd
    simp only [Bool.and_eq_true, decide_eq_true_eq] at hc
    obtain ⟨h1, h2, h3, h4⟩ := hc
    rw [h1, show b.1.2.1 = ((Int.toNat b.1.2.1 : Nat) : Int) by omega] at hargs
    cases hr
    exact .inl ⟨callable_run (by kernel_rfl) _ _, insert_calls (gs := [b.2.1.1.2.1, b.2.1.1.2.2.1, b.2.1.1.2.2.2.1, b.2.1.1.2.2.2.2.1, b.2.1.1.2.2.2.2.2.1, b.2.1.1.2.2.2.2.2.2.1, b.2.1.1.2.2.2.2.2.2.2.1, b.2.1.1.2.2.2.2.2.2.2.2.1, b.2.1.1.2.2.2.2.2.2.2.2.2.1]) (vs9 := [b.2.2.1.1.2.1, b.2.2.1.1.2.2.1, b.2.2.1.1.2.2.2.1, b.2.2.1.1.2.2.2.2.1, b.2.2.1.1.2.2.2.2.2.1, b.2.2.1.1.2.2.2.2.2.2.1, b.2.2.1.1.2.2.2.2.2.2.2.1, b.2.2.1.1.2.2.2.2.2.2.2.2.1, b.2.2.1.1.2.2.2.2.2.2.2.2.2.1]) rfl rfl _ _ (Nat.le_of_ble_eq_true h3) (Nat.le_of_ble_eq_true h4) _ w π vs hargs hH fun b hb => hdom b hb⟩
  · cases hr
def f_slices_Delete___api_Sample_api_Sample_ (x0 : Nat) (x1 : Int) (x2 : Int) (x3 : Nat → Int) (x4 : Nat → Int) (x5 : Nat → Int) (x6 : Nat → Int) (x7 : Nat → Int) (x8 : Nat → Int) (x9 : Nat → Int) (x10 : Nat → Int) (x11 : Nat → Int) (w0 : Bool) : Option (Nat × (Nat → Int) × (Nat → Int) × (Nat → Int) × (Nat → Int) × (Nat → Int) × (Nat → Int) × (Nat → Int) × (Nat → Int) × (Nat → Int)) :=
  bif w0 && (decide (0 ≤ x1) && (Nat.ble (Int.toNat x1) (Int.toNat x2) && (decide (0 ≤ x2) && Nat.ble (Int.toNat x2) x0))) then some (Int.toNat x1 + (x0 - Int.toNat x2), delC (Int.toNat x1) (Int.toNat x2 - Int.toNat x1) x3, delC (Int.toNat x1) (Int.toNat x2 - Int.toNat x1) x4, delC (Int.toNat x1) (Int.toNat x2 - Int.toNat x1) x5, delC (Int.toNat x1) (Int.toNat x2 - Int.toNat x1) x6, delC (Int.toNat x1) (Int.toNat x2 - Int.toNat x1) x7, delC (Int.toNat x1) (Int.toNat x2 - Int.toNat x1) x8, delC (Int.toNat x1) (Int.toNat x2 - Int.toNat x1) x9, delC (Int.toNat x1) (Int.toNat x2 - Int.toNat x1) x10, delC (Int.toNat x1) (Int.toNat x2 - Int.toNat x1) x11) else none
section
open Go.Ab.Rdr
def QA_slices_Delete___api_Sample_api_Sample_ := (pair (cons (ar (rc (csl (nat 0) (ok' (nat 0)) (szs hole) (nat 9) hole))) (cons (ar (rc (cf (fi .i64 hole)))) (cons (ar (rc (cf (fi .i64 hole)))) nil))) (cons (cons (ga (szs hole) (cons (ki .i64 hole) (cons (ki .i64 hole) (cons (ki .i64 hole) (cons (ki .i64 hole) (cons (ki .i64 hole) (cons (ki .i64 hole) (cons (ki .i64 hole) (cons (ki .i64 hole) (cons (ki .i64 hole) nil)))))))))) nil) nil) : Rdr (List AV × List Blk) _)
end
def F0_slices_Delete___api_Sample_api_Sample_ (f : (Nat) → (Int) → (Int) → (Nat → Int) → (Nat → Int) → (Nat → Int) → (Nat → Int) → (Nat → Int) → (Nat → Int) → (Nat → Int) → (Nat → Int) → (Nat → Int) → (Bool) → Option (Nat × (Nat → Int) × (Nat → Int) × (Nat → Int) × (Nat → Int) × (Nat → Int) × (Nat → Int) × (Nat → Int) × (Nat → Int) × (Nat → Int))) : Sem1 := fun args h => match (QA_slices_Delete___api_Sample_api_Sample_).rd (args, h) with
  | some b => .test (Nat.beq b.2.1.1.1 b.1.1.2.2.1) (.opt (f b.1.1.2.2.1 b.1.2.1 b.1.2.2.1 b.2.1.1.2.1 b.2.1.1.2.2.1 b.2.1.1.2.2.2.1 b.2.1.1.2.2.2.2.1 b.2.1.1.2.2.2.2.2.1 b.2.1.1.2.2.2.2.2.2.1 b.2.1.1.2.2.2.2.2.2.2.1 b.2.1.1.2.2.2.2.2.2.2.2.1 b.2.1.1.2.2.2.2.2.2.2.2.2.1 b.1.1.2.2.2.2) fun d => .leaf ⟨.r (.c (.sl 1 (.k 0) (.s d.1) 9 true)), [.kill], [[.a (.s d.1) [.i .i64 d.2.1, .i .i64 d.2.2.1, .i .i64 d.2.2.2.1, .i .i64 d.2.2.2.2.1, .i .i64 d.2.2.2.2.2.1, .i .i64 d.2.2.2.2.2.2.1, .i .i64 d.2.2.2.2.2.2.2.1, .i .i64 d.2.2.2.2.2.2.2.2.1, .i .i64 d.2.2.2.2.2.2.2.2.2]]]⟩) .fail
  | none => .fail
def F_slices_Delete___api_Sample_api_Sample_ (f : (Nat) → (Int) → (Int) → (Nat → Int) → (Nat → Int) → (Nat → Int) → (Nat → Int) → (Nat → Int) → (Nat → Int) → (Nat → Int) → (Nat → Int) → (Nat → Int) → (Bool) → Option (Nat × (Nat → Int) × (Nat → Int) × (Nat → Int) × (Nat → Int) × (Nat → Int) × (Nat → Int) × (Nat → Int) × (Nat → Int) × (Nat → Int))) : Sem1 := nilF 0 [.i .i64, .i .i64, .i .i64, .i .i64, .i .i64, .i .i64, .i .i64, .i .i64, .i .i64] (F0_slices_Delete___api_Sample_api_Sample_ f)
theorem qa_slices_Delete___api_Sample_api_Sample_ : ∀ b, (QA_slices_Delete___api_Sample_api_Sample_).em b = ([.r (.c (.sl 0 (.k 0) (.s b.1.1.2.2.1) 9 b.1.1.2.2.2.2)), .r (.c (.f (.i .i64 b.1.2.1))), .r (.c (.f (.i .i64 b.1.2.2.1)))], [[.a (.s b.2.1.1.1) [.i .i64 b.2.1.1.2.1, .i .i64 b.2.1.1.2.2.1, .i .i64 b.2.1.1.2.2.2.1, .i .i64 b.2.1.1.2.2.2.2.1, .i .i64 b.2.1.1.2.2.2.2.2.1, .i .i64 b.2.1.1.2.2.2.2.2.2.1, .i .i64 b.2.1.1.2.2.2.2.2.2.2.1, .i .i64 b.2.1.1.2.2.2.2.2.2.2.2.1, .i .i64 b.2.1.1.2.2.2.2.2.2.2.2.2.1]]]) := fun b => by kernel_rfl
theorem s_slices_Delete___api_Sample_api_Sample_ [Amb] : Sound Try.prog 50 (F_slices_Delete___api_Sample_api_Sample_ f_slices_Delete___api_Sample_api_Sample_) := Sound.nil 0 [.i .i64, .i .i64, .i .i64, .i .i64, .i .i64, .i .i64, .i .i64, .i .i64, .i .i64] <| fun args h r hr w π vs hargs hH hdom => by
  unfold F0_slices_Delete___api_Sample_api_Sample_ at hr
  split at hr
  · rename_i b hb
    have e := ((QA_slices_Delete___api_Sample_api_Sample_).ok _ _ hb).trans (qa_slices_Delete___api_Sample_api_Sample_ b)
    obtain ⟨e1, hr⟩ := test_eval hr
    rw [Nat.eq_of_beq_eq_true e1] at e
    obtain ⟨rfl, rfl⟩ := Prod.mk.inj e
    rw [opt_eval2] at hr
    obtain ⟨d, hd, hr⟩ := Option.bind_eq_some_iff.1 hr
    obtain ⟨hc, rfl⟩ := cond_some hd
    simp only [Bool.and_eq_true, decide_eq_true_eq] at hc
    obtain ⟨h1, h2, h3, h4, h5⟩ := hc
    have e2 : b.1.2.1 = ((Int.toNat b.1.2.1 : Nat) : Int) := by omega
    have e3 : b.1.2.2.1 = ((Int.toNat b.1.2.2.1 : Nat) : Int) := by omega
    cases hr
    exact .inl ⟨callable_run (by kernel_rfl) _ _, delete_calls (gs := [b.2.1.1.2.1, b.2.1.1.2.2.1, b.2.1.1.2.2.2.1, b.2.1.1.2.2.2.2.1, b.2.1.1.2.2.2.2.2.1, b.2.1.1.2.2.2.2.2.2.1, b.2.1.1.2.2.2.2.2.2.2.1, b.2.1.1.2.2.2.2.2.2.2.2.1, b.2.1.1.2.2.2.2.2.2.2.2.2.1]) rfl _ (Int.toNat b.1.2.1) (Int.toNat b.1.2.2.1) (Nat.le_of_ble_eq_true h3) (Nat.le_of_ble_eq_true h5) w π vs (by rw [← e2, ← e3, ← h1]; exact hargs) hH fun b hb => hdom b hb⟩
  · cases hr
def f_slices_Clone___api_Sample_api_Sample_ (x0 : Nat) (x1 : Nat → Int) (x2 : Nat → Int) (x3 : Nat → Int) (x4 : Nat → Int) (x5 : Nat → Int) (x6 : Nat → Int) (x7 : Nat → Int) (x8 : Nat → Int) (x9 : Nat → Int) (w0 : Bool) : Option (Nat × (Nat → Int) × (Nat → Int) × (Nat → Int) × (Nat → Int) × (Nat → Int) × (Nat → Int) × (Nat → Int) × (Nat → Int) × (Nat → Int)) :=
  bif Nat.ble (x0 * 72) 140737488355328 then some (x0, x1, x2, x3, x4, x5, x6, x7, x8, x9) else none
section
open Go.Ab.Rdr
def QA_slices_Clone___api_Sample_api_Sample_ := (pair (cons (ar (rc (csl (nat 0) (ok' (nat 0)) (szs hole) (nat 9) hole))) nil) (cons (cons (ga (szs hole) (cons (ki .i64 hole) (cons (ki .i64 hole) (cons (ki .i64 hole) (cons (ki .i64 hole) (cons (ki .i64 hole) (cons (ki .i64 hole) (cons (ki .i64 hole) (cons (ki .i64 hole) (cons (ki .i64 hole) nil)))))))))) nil) nil) : Rdr (List AV × List Blk) _)
end
def F0_slices_Clone___api_Sample_api_Sample_ (f : (Nat) → (Nat → Int) → (Nat → Int) → (Nat → Int) → (Nat → Int) → (Nat → Int) → (Nat → Int) → (Nat → Int) → (Nat → Int) → (Nat → Int) → (Bool) → Option (Nat × (Nat → Int) × (Nat → Int) × (Nat → Int) × (Nat → Int) × (Nat → Int) × (Nat → Int) × (Nat → Int) × (Nat → Int) × (Nat → Int))) : Sem1 := fun args h => match (QA_slices_Clone___api_Sample_api_Sample_).rd (args, h) with
  | some b => .test (Nat.beq b.2.1.1.1 b.1.1.2.2.1) (.opt (f b.1.1.2.2.1 b.2.1.1.2.1 b.2.1.1.2.2.1 b.2.1.1.2.2.2.1 b.2.1.1.2.2.2.2.1 b.2.1.1.2.2.2.2.2.1 b.2.1.1.2.2.2.2.2.2.1 b.2.1.1.2.2.2.2.2.2.2.1 b.2.1.1.2.2.2.2.2.2.2.2.1 b.2.1.1.2.2.2.2.2.2.2.2.2.1 b.1.1.2.2.2.2) fun d => .leaf ⟨.r (.c (.sl 1 (.k 0) (.s d.1) 9 true)), [.keep], [[.a (.s d.1) [.i .i64 d.2.1, .i .i64 d.2.2.1, .i .i64 d.2.2.2.1, .i .i64 d.2.2.2.2.1, .i .i64 d.2.2.2.2.2.1, .i .i64 d.2.2.2.2.2.2.1, .i .i64 d.2.2.2.2.2.2.2.1, .i .i64 d.2.2.2.2.2.2.2.2.1, .i .i64 d.2.2.2.2.2.2.2.2.2]]]⟩) .fail
  | none => .fail
def F_slices_Clone___api_Sample_api_Sample_ (f : (Nat) → (Nat → Int) → (Nat → Int) → (Nat → Int) → (Nat → Int) → (Nat → Int) → (Nat → Int) → (Nat → Int) → (Nat → Int) → (Nat → Int) → (Bool) → Option (Nat × (Nat → Int) × (Nat → Int) × (Nat → Int) × (Nat → Int) × (Nat → Int) × (Nat → Int) × (Nat → Int) × (Nat → Int) × (Nat → Int))) : Sem1 := nilF 0 [.i .i64, .i .i64, .i .i64, .i .i64, .i .i64, .i .i64, .i .i64, .i .i64, .i .i64] (F0_slices_Clone___api_Sample_api_Sample_ f)
theorem qa_slices_Clone___api_Sample_api_Sample_ : ∀ b, (QA_slices_Clone___api_Sample_api_Sample_).em b = ([.r (.c (.sl 0 (.k 0) (.s b.1.1.2.2.1) 9 b.1.1.2.2.2.2))], [[.a (.s b.2.1.1.1) [.i .i64 b.2.1.1.2.1, .i .i64 b.2.1.1.2.2.1, .i .i64 b.2.1.1.2.2.2.1, .i .i64 b.2.1.1.2.2.2.2.1, .i .i64 b.2.1.1.2.2.2.2.2.1, .i .i64 b.2.1.1.2.2.2.2.2.2.1, .i .i64 b.2.1.1.2.2.2.2.2.2.2.1, .i .i64 b.2.1.1.2.2.2.2.2.2.2.2.1, .i .i64 b.2.1.1.2.2.2.2.2.2.2.2.2.1]]]) := fun b => by kernel_rfl
theorem s_slices_Clone___api_Sample_api_Sample_ [Amb] : Sound Try.prog 51 (F_slices_Clone___api_Sample_api_Sample_ f_slices_Clone___api_Sample_api_Sample_) := Sound.nil 0 [.i .i64, .i .i64, .i .i64, .i .i64, .i .i64, .i .i64, .i .i64, .i .i64, .i .i64] <| fun args h r hr w π vs hargs hH hdom => by
  unfold F0_slices_Clone___api_Sample_api_Sample_ at hr
  split at hr
  · rename_i b hb
    have e := ((QA_slices_Clone___api_Sample_api_Sample_).ok _ _ hb).trans (qa_slices_Clone___api_Sample_api_Sample_ b)
    obtain ⟨e1, hr⟩ := test_eval hr
    rw [Nat.eq_of_beq_eq_true e1] at e
    obtain ⟨rfl, rfl⟩ := Prod.mk.inj e
    rw [opt_eval2] at hr
    obtain ⟨d, hd, hr⟩ := Option.bind_eq_some_iff.1 hr
    obtain ⟨hc, rfl⟩ := cond_some hd
    cases hr
    exact .inl ⟨callable_run (by kernel_rfl) _ _, clone_calls (gs := [b.2.1.1.2.1, b.2.1.1.2.2.1, b.2.1.1.2.2.2.1, b.2.1.1.2.2.2.2.1, b.2.1.1.2.2.2.2.2.1, b.2.1.1.2.2.2.2.2.2.1, b.2.1.1.2.2.2.2.2.2.2.1, b.2.1.1.2.2.2.2.2.2.2.2.1, b.2.1.1.2.2.2.2.2.2.2.2.2.1]) rfl _ (Nat.le_of_ble_eq_true hc) _ w π vs hargs hH fun b hb => hdom b hb⟩
  · cases hr
end Go.Proofs.Ythbnojedlbeglaa
