/-
  A path of the automaton is its steps.
-/
import Derived.Test.YtgbgdihahmecoaaMS
set_option maxRecDepth 100000
set_option maxHeartbeats 4000000
set_option linter.unusedVariables false
set_option linter.unusedSimpArgs false
namespace Go.Proofs.Ytgbgdihahmecoaa
open Go.Ab
abbrev Mac := Int × Int × Bool × Bool
/-- the inputs of many steps -/
structure Ins where
  ti : Nat → Bool
  he : Nat → Bool
  u0 : Nat → Bool
  u1 : Nat → Bool
  u2 : Nat → Bool
  u3 : Nat → Bool
  u4 : Nat → Bool
  u5 : Nat → Bool
  si : Nat → Int
  li : Nat → Int
  pr : Nat → Int
def stM (x : Mac) (I : Ins) (j : Nat) : Int × Int × Bool × Bool × Int × Int :=
  if goodF x.1 x.2.1 x.2.2.1 x.2.2.2 then stepF x.1 x.2.1 (I.ti j) (I.he j) (I.u0 j) (I.u1 j) (I.u2 j) (I.u5 j) (I.si j) (I.li j) (I.pr j) else stepF 0 0 (I.ti j) (I.he j) (I.u0 j) (I.u1 j) (I.u2 j) (I.u5 j) (I.si j) (I.li j) (I.pr j)
def runP (x : Mac) (I : Ins) : Nat → Mac
  | 0 => x
  | j + 1 => ((stM (runP x I j) I j).1, (stM (runP x I j) I j).2.1, (stM (runP x I j) I j).2.2.1, (stM (runP x I j) I j).2.2.2.1)
theorem mode_stM (x : Mac) (I : Ins) (j : Nat) : f_mode_Step x.1 x.2.1 x.2.2.1 x.2.2.2 (I.ti j) (I.he j) (I.u0 j) (I.u1 j) (I.u2 j) (I.u3 j) (I.u4 j) (I.u5 j) (I.si j) (I.li j) (I.pr j) = some (stM x I j) := mode_step ..
theorem wrap_i64 {n : Int} (h1 : -9223372036854775808 ≤ n) (h2 : n ≤ 9223372036854775807) : IntKind.wrap .i64 n = n := by
  unfold IntKind.wrap
  simp only [IntKind.signed, IntKind.bits, Bool.true_and, decide_eq_true_eq, show (2 : Int) ^ 64 = 18446744073709551616 from rfl, show (2 : Int) ^ (64 - 1) = 9223372036854775808 from rfl]
  split <;> omega
theorem loopK_succ {D X ρ : Type} (s : D → (D → Option ρ) → (X → Option ρ) → Option ρ) (n : Nat) (d : D) (k : X → Option ρ) : loopK s (n + 1) d k = s d (fun d => loopK s n d k) k := rfl
theorem path_loop {ρ : Type} (x : Mac) (I : Ins) (b : Bool) (n : Nat) (hn : n ≤ 150) (k : _ → Option ρ) : ∀ (t i fuel : Nat), i + t = n → t < fuel → ∀ (c1 c2 : Nat → Int) (c3 c4 : Nat → Bool), (∀ j, j < i → (c1 j, c2 j, c3 j, c4 j) = runP x I (j + 1)) →
    ∃ (c1' c2' : Nat → Int) (c3' c4' : Nat → Bool), (∀ j, j < n → (c1' j, c2' j, c3' j, c4' j) = runP x I (j + 1)) ∧
      loopK (fun d c x => S_mode_Path_0 f_mode_Step d.1 d.2.1 d.2.2.1 d.2.2.2.1 d.2.2.2.2.1 d.2.2.2.2.2.1 d.2.2.2.2.2.2.1 d.2.2.2.2.2.2.2.1 d.2.2.2.2.2.2.2.2.1 d.2.2.2.2.2.2.2.2.2.1 d.2.2.2.2.2.2.2.2.2.2.1 d.2.2.2.2.2.2.2.2.2.2.2.1 d.2.2.2.2.2.2.2.2.2.2.2.2.1 d.2.2.2.2.2.2.2.2.2.2.2.2.2.1 d.2.2.2.2.2.2.2.2.2.2.2.2.2.2.1 d.2.2.2.2.2.2.2.2.2.2.2.2.2.2.2.1 d.2.2.2.2.2.2.2.2.2.2.2.2.2.2.2.2.1 d.2.2.2.2.2.2.2.2.2.2.2.2.2.2.2.2.2.1 d.2.2.2.2.2.2.2.2.2.2.2.2.2.2.2.2.2.2.1 d.2.2.2.2.2.2.2.2.2.2.2.2.2.2.2.2.2.2.2.1 d.2.2.2.2.2.2.2.2.2.2.2.2.2.2.2.2.2.2.2.2.1 d.2.2.2.2.2.2.2.2.2.2.2.2.2.2.2.2.2.2.2.2.2.1 d.2.2.2.2.2.2.2.2.2.2.2.2.2.2.2.2.2.2.2.2.2.2.1 d.2.2.2.2.2.2.2.2.2.2.2.2.2.2.2.2.2.2.2.2.2.2.2.1 d.2.2.2.2.2.2.2.2.2.2.2.2.2.2.2.2.2.2.2.2.2.2.2.2.1 d.2.2.2.2.2.2.2.2.2.2.2.2.2.2.2.2.2.2.2.2.2.2.2.2.2 c x) fuel
        (i, n, b, Int.ofNat n, Int.ofNat i, n, I.ti, I.he, I.u0, I.u1, I.u2, I.u3, I.u4, I.u5, I.si, I.li, I.pr, (runP x I i).1, (runP x I i).2.1, (runP x I i).2.2.1, (runP x I i).2.2.2, i, c1, c2, c3, c4) k =
      k (n, n, b, Int.ofNat n, Int.ofNat n, false, n, I.ti, I.he, I.u0, I.u1, I.u2, I.u3, I.u4, I.u5, I.si, I.li, I.pr, (runP x I n).1, (runP x I n).2.1, (runP x I n).2.2.1, (runP x I n).2.2.2, n, c1', c2', c3', c4') := by
  intro t
  induction t with
  | zero =>
    intro i fuel hi hf c1 c2 c3 c4 hc
    obtain rfl : i = n := by omega
    obtain ⟨f, rfl⟩ : ∃ f, fuel = f + 1 := ⟨fuel - 1, by omega⟩
    refine ⟨c1, c2, c3, c4, hc, ?_⟩
    have e : decide (Int.ofNat i < Int.ofNat i) = false := by simp
    rw [loopK_succ]
    simp only [S_mode_Path_0, e, cond_false]
  | succ t ih =>
    intro i fuel hi hf c1 c2 c3 c4 hc
    obtain ⟨f, rfl⟩ : ∃ f, fuel = f + 1 := ⟨fuel - 1, by omega⟩
    obtain ⟨c1', c2', c3', c4', h1, h2⟩ := ih (i + 1) f (by omega) (by omega) (fun j => bif Nat.beq j i then (stM (runP x I i) I i).1 else c1 j) (fun j => bif Nat.beq j i then (stM (runP x I i) I i).2.1 else c2 j)
      (fun j => bif Nat.beq j i then (stM (runP x I i) I i).2.2.1 else c3 j) (fun j => bif Nat.beq j i then (stM (runP x I i) I i).2.2.2.1 else c4 j) (fun j hj => by
        by_cases hji : j = i
        · subst hji
          simp only [Nat.beq_refl, cond_true]; rfl
        · have : Nat.beq j i = false := by
            cases hb : Nat.beq j i
            · rfl
            · exact absurd (Nat.eq_of_beq_eq_true hb) hji
          simp only [this, cond_false]
          exact hc j (by omega))
    refine ⟨c1', c2', c3', c4', h1, Eq.trans ?_ h2⟩
    have e : decide (Int.ofNat i < Int.ofNat n) = true := decide_eq_true (by simp only [Int.ofNat_eq_natCast]; omega)
    have e2 : inR (Int.ofNat i) n = true := by unfold inR; simp only [Int.ofNat_eq_natCast, Bool.and_eq_true, decide_eq_true_eq]; omega
    have e3 : Nat.ble ((i + 1) * 24) 140737488355328 = true := Nat.ble_eq_true_of_le (by omega)
    have e4 : IntKind.wrap IntKind.i64 (Int.ofNat i + 1) = Int.ofNat (i + 1) := (wrap_i64 (by simp only [Int.ofNat_eq_natCast]; omega) (by simp only [Int.ofNat_eq_natCast]; omega)).trans rfl
    have e5 : Int.toNat (Int.ofNat i) = i := rfl
    rw [loopK_succ]
    simp only [S_mode_Path_0, e, e2, e3, e4, e5, cond_true, mode_stM, Option.bind_some]
    rfl
theorem mode_path (x : Mac) (I : Ins) (b : Bool) (n : Nat) (hn : n ≤ 150) : ∃ (c1 c2 : Nat → Int) (c3 c4 : Nat → Bool), (∀ j, j < n → (c1 j, c2 j, c3 j, c4 j) = runP x I (j + 1)) ∧
    f_mode_Path x.1 x.2.1 x.2.2.1 x.2.2.2 n I.ti I.he I.u0 I.u1 I.u2 I.u3 I.u4 I.u5 I.si I.li I.pr b = some (n, n, c1, c2, c3, c4) := by
  obtain ⟨c1, c2, c3, c4, h1, h2⟩ := path_loop x I b n hn (fun d => some (d.1, d.2.2.2.2.2.2.2.2.2.2.2.2.2.2.2.2.2.2.2.2.2.2.1, d.2.2.2.2.2.2.2.2.2.2.2.2.2.2.2.2.2.2.2.2.2.2.2.1, d.2.2.2.2.2.2.2.2.2.2.2.2.2.2.2.2.2.2.2.2.2.2.2.2.1, d.2.2.2.2.2.2.2.2.2.2.2.2.2.2.2.2.2.2.2.2.2.2.2.2.2.1, d.2.2.2.2.2.2.2.2.2.2.2.2.2.2.2.2.2.2.2.2.2.2.2.2.2.2)) n 0 200 (by omega) (by omega) (fun _ => 0) (fun _ => 0) (fun _ => false) (fun _ => false) (fun j hj => by omega)
  exact ⟨c1, c2, c3, c4, h1, h2⟩
end Go.Proofs.Ytgbgdihahmecoaa
