/-
  Plain helps: loops by what stays true; numbers that are wrapped.
-/
import Derived.Test.YtphkdkkbbfnkaaaGreatAbLaw
namespace Go.Ab
theorem loopK_succ {D X ρ : Type} (s : D → (D → Option ρ) → (X → Option ρ) → Option ρ) (n : Nat) (d : D) (k : X → Option ρ) : loopK s (n + 1) d k = s d (fun d => loopK s n d k) k := rfl
theorem loopK_inv {D X ρ : Type} {s : D → (D → Option ρ) → (X → Option ρ) → Option ρ} {k : X → Option ρ} {r : Option ρ} (Inv : Nat → D → Prop)
    (h : ∀ t d c, Inv t d → (∀ t' d', t' < t → Inv t' d' → c d' = r) → s d c k = r) : ∀ (fuel t : Nat) (d : D), t < fuel → Inv t d → loopK s fuel d k = r
  | 0, t, d, hf, hd => by omega
  | fuel + 1, t, d, hf, hd => by
    rw [loopK_succ]
    exact h t d _ hd fun t' d' ht hd' => loopK_inv Inv h fuel t' d' (by omega) hd'
theorem wrap_i64 {n : Int} (h1 : -9223372036854775808 ≤ n) (h2 : n ≤ 9223372036854775807) : IntKind.wrap .i64 n = n := by
  unfold IntKind.wrap
  simp only [IntKind.signed, IntKind.bits, Bool.true_and, decide_eq_true_eq, show (2 : Int) ^ 64 = 18446744073709551616 from rfl, show (2 : Int) ^ (64 - 1) = 9223372036854775808 from rfl]
  split <;> omega
theorem wrap_u64 (n : Int) : IntKind.wrap .u64 n = n % 18446744073709551616 := by
  unfold IntKind.wrap
  simp only [IntKind.signed, IntKind.bits, Bool.false_and, show (2 : Int) ^ 64 = 18446744073709551616 from rfl, Bool.false_eq_true, if_false]
end Go.Ab
