/-
  The abstract machine and the model: the carries of math/bits, by their entries.
-/
import Derived.Test.YtphkdkkbbfnkaaaGreatAbW
import Derived.Laws.Externs
namespace Go.Ab
variable [Amb]

def sub64Entry : Array Value → Sem Value := fun args => do
  let (x, y, b) ← Extern.MathBitsCarry.three "Sub64" args
  pure (Extern.MathBitsCarry.pair ((x + Extern.MathBitsCarry.m64 - y - b) % Extern.MathBitsCarry.m64) (if x < y + b then 1 else 0))
abbrev u64A (n : Int) : AV := .r (.c (.f (.i .u64 n)))
abbrev u64R (n : Int) : RV := .c (.f (.i .u64 n))
omit [Amb] in
theorem run_add64' {P : Program} (x y c : Int) (h : c.toNat ≤ 1) (w : World) : (add64Entry #[.int .u64 x, .int .u64 y, .int .u64 c]).run P w =
    .ok (.tuple #[.int .u64 (Int.ofNat ((x.toNat + y.toNat + c.toNat) % 18446744073709551616)), .int .u64 (Int.ofNat ((x.toNat + y.toNat + c.toNat) / 18446744073709551616))]) w := by
  match c, h with
  | .ofNat 0, _ => rfl
  | .ofNat 1, _ => rfl
  | .negSucc n, _ => rfl
  | .ofNat (n + 2), h => exact absurd h (by simp; omega)
omit [Amb] in
theorem run_sub64' {P : Program} (x y c : Int) (h : c.toNat ≤ 1) (w : World) : (sub64Entry #[.int .u64 x, .int .u64 y, .int .u64 c]).run P w =
    .ok (.tuple #[.int .u64 (Int.ofNat ((x.toNat + 18446744073709551616 - y.toNat - c.toNat) % 18446744073709551616)), .int .u64 (Int.ofNat (if x.toNat < y.toNat + c.toNat then 1 else 0))]) w := by
  match c, h with
  | .ofNat 0, _ => rfl
  | .ofNat 1, _ => rfl
  | .negSucc n, _ => rfl
  | .ofNat (n + 2), h => exact absurd h (by simp; omega)
theorem ext3_sound {P : Program} {f : FuncId} {fn : Func} {e : Array Value → Sem Value} {A B : Int → Int → Int → Int} (hf : P.funcs[f]? = some fn) (hname : (fn.name == "runtime.NumGoroutine") = false)
    (hb : fn.body.isNone = true) (hn : Extern.findNext fn = none) (he : Extern.find fn = some e)
    (hrun : ∀ (x y c : Int) (w : World), c.toNat ≤ 1 → (e #[.int .u64 x, .int .u64 y, .int .u64 c]).run P w = .ok (.tuple #[.int .u64 (A x y c), .int .u64 (B x y c)]) w) :
    Sound P f fun
      | [.r (.c (.f (.i .u64 x))), .r (.c (.f (.i .u64 y))), .r (.c (.f (.i .u64 c)))], [] => .test (Nat.ble c.toNat 1) (.leaf ⟨.tup [u64R (A x y c), u64R (B x y c)], [], []⟩) .fail
      | _, _ => .fail := by
  intro args h res hres w π vs hargs hH hdom
  simp only at hres
  split at hres
  · rename_i x y c
    simp only [T.eval] at hres
    split at hres
    · rename_i hc
      cases hres
      right
      obtain ⟨l⟩ := vs
      match l, hargs with
      | [v1, v2, v3], ⟨h1, h2, h3, _⟩ =>
        have h1 : v1 = .int .u64 x := h1
        have h2 : v2 = .int .u64 y := h2
        have h3 : v3 = .int .u64 c := h3
        subst h1 h2 h3
        refine ⟨_, by rw [run_callFunc_extern hf hname hb hn he, hrun x y c w (Nat.le_of_ble_eq_true hc)]; rfl, π, _, rfl, Ext.refl π, ⟨#[_, _], rfl, rfl, rfl, trivial⟩, hH, FrameOK.refl _ _, hdom, fun b B s q e hb hp => ?_⟩
        exact absurd (hdom b (by rw [hp]; simp)) (by omega)
    · cases hres
  · cases hres
abbrev addA (x y c : Int) : Int := Int.ofNat ((x.toNat + y.toNat + c.toNat) % 18446744073709551616)
abbrev addB (x y c : Int) : Int := Int.ofNat ((x.toNat + y.toNat + c.toNat) / 18446744073709551616)
abbrev subA (x y c : Int) : Int := Int.ofNat ((x.toNat + 18446744073709551616 - y.toNat - c.toNat) % 18446744073709551616)
abbrev subB (x y c : Int) : Int := Int.ofNat (if x.toNat < y.toNat + c.toNat then 1 else 0)
def Fcarry (A B : Int → Int → Int → Int) : Sem1
  | [.r (.c (.f (.i .u64 x))), .r (.c (.f (.i .u64 y))), .r (.c (.f (.i .u64 c)))], [] => .test (Nat.ble c.toNat 1) (.leaf ⟨.tup [u64R (A x y c), u64R (B x y c)], [], []⟩) .fail
  | _, _ => .fail
theorem add64_sound {P : Program} {f : FuncId} {fn : Func} (hf : P.funcs[f]? = some fn) (hname : (fn.name == "runtime.NumGoroutine") = false)
    (hb : fn.body.isNone = true) (hn : Extern.findNext fn = none) (he : Extern.find fn = some add64Entry) : Sound P f (Fcarry addA addB) :=
  ext3_sound hf hname hb hn he fun x y c w h => run_add64' x y c h w
theorem sub64_sound {P : Program} {f : FuncId} {fn : Func} (hf : P.funcs[f]? = some fn) (hname : (fn.name == "runtime.NumGoroutine") = false)
    (hb : fn.body.isNone = true) (hn : Extern.findNext fn = none) (he : Extern.find fn = some sub64Entry) : Sound P f (Fcarry subA subB) :=
  ext3_sound hf hname hb hn he fun x y c w h => run_sub64' x y c h w
end Go.Ab
