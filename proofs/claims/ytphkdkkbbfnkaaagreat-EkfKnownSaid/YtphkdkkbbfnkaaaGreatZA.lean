/-
  Parts of long tuples; cells in short. Plain helps: loops of answers that are trees, by what stays true. Plain helps: that a function's answer is there, and what it obeys. The carries of math/bits, as they stand in the program. The carries of math/bits, as they stand in the program. The carries of math/bits, as contracts in short.
-/
import Derived.Test.YtphkdkkbbfnkaaaGreatAbPg
import Derived.Test.YtphkdkkbbfnkaaaGreatAbInv
import Derived.Test.YtphkdkkbbfnkaaaGreatAbNil
set_option linter.unusedVariables false
set_option linter.unusedSimpArgs false
namespace Go.Ab
@[reducible] def _root_.Prod.c4 {a b c d e : Type} (x : a × b × c × d × e) : e := x.2.2.2.2
@[reducible] def _root_.Prod.c8 {a b c d e f g h i : Type} (x : a × b × c × d × e × f × g × h × i) : i := x.2.2.2.2.2.2.2.2
@[reducible] def _root_.Prod.c16 {a b c d e f g h i j k l m n o p q : Type} (x : a × b × c × d × e × f × g × h × i × j × k × l × m × n × o × p × q) : q := x.2.2.2.2.2.2.2.2.2.2.2.2.2.2.2.2
abbrev NI := Nat → Int
abbrev zj (f : Nat → Int) : Nat → Int := fun j => f (0 + j)
abbrev nB (n : Nat) : Bool := Nat.beq n n
abbrev RA (b : Type) := Rq (List AV × List Blk) b
abbrev RS (b : Type) := Rq St b
abbrev RE (b : Type) := Rq Res b
def rg : Nat → Nat → List Nat → List Nat
  | _, 0, t => t
  | a, n + 1, t => a :: rg (a + 1) n t
abbrev ty0 := ((Int × Int × Int × Int × Int) × Int × Nat × Int)
abbrev ty1 := (NI × NI × NI × NI × NI × NI × NI × NI × NI)
abbrev ty2 := (Int × Int × Int × Int × (Int × Int × Int × Int × Int × Int) × (Int × Int × Int × Int × Int × Int) × NI × NI × Int × Int × Int × Int × Int × Int × Int × Int)
abbrev ty3 := ((Int × Int × Int × Int) × (Int × Int × Int) × Int × Int × Int)
abbrev ty4 := (Int × (Int × Int × (Int × Int × Int) × Int × Int × Int) × Bool)
abbrev ty5 := (Nat × NI × NI × NI × NI × NI × NI × NI × NI × NI × NI)
abbrev ty6 := (Nat × NI × NI × NI × NI × NI × NI × NI × NI)
abbrev ty7 := ((NI × NI × (Nat → Bool) × NI × NI × NI) × Int)
abbrev ty8 := (NI × NI × NI × NI × NI × NI × NI × NI × NI × NI)
abbrev ty9 := (Int × Int × Bool × Bool)
abbrev ty10 := ((Int × Int × Int) × Int × Int)
abbrev ty11 := (Int × Int × Int × Int × Int × Int × Int × Int)
abbrev ty12 := (Nat × NI × NI × NI × NI × NI × NI × NI × NI × NI)
abbrev ty13 := (Int × Int × Int × Int × Int)
abbrev ty14 := (Int × Int × Int × Int × Int × Int × Nat × Int)
abbrev ty15 := ((Int × Int × Int × Int × Int × Int × Int × Int × Int × Int × Bool × Int × Int × Int × Int × Bool × Bool) ⊕ (Int × Int × Int × Int × Int × Int × Int × Int × Int × Bool × Int × Int × Int × Bool))
abbrev ty16 := (Nat × NI × NI × NI × NI × NI × NI × NI × NI × NI × NI × NI)
abbrev ty17 := (Int × Int × Int × Int × Int × Int × Int)
abbrev ty18 := (Int × Int × Int × Int × Int × Int × Int × Int × Int × Int × Bool × Int × Bool)
end Go.Ab
namespace Go.Ab
theorem loopP_inv {D X ρ : Type} {s : D → Pg (D ⊕ X)} {k : X → Option ρ} {r : Option ρ} (Inv : Nat → D → Prop)
    (h : ∀ t d c, Inv t d → (∀ t' d', t' < t → Inv t' d' → c d' = r) → (s d).run (Sum.elim c k) = r) (fuel t : Nat) (d : D) (hf : t < fuel) (hd : Inv t d) : (loopP s fuel d).bind k = r := by
  rw [loopP_bind]
  exact loopK_inv Inv h fuel t d hf hd
theorem loopP_post {D X : Type} {s : D → Pg (D ⊕ X)} (Inv : Nat → D → Prop) (Q : X → Prop)
    (h : ∀ t d, Inv t d → ∃ y, (s d).val = some y ∧ match y with | .inl d' => ∃ t', t' < t ∧ Inv t' d' | .inr x => Q x) : ∀ (fuel t : Nat) (d : D), t < fuel → Inv t d → ∃ x, loopP s fuel d = some x ∧ Q x
  | 0, t, d, hf, hd => by omega
  | fuel + 1, t, d, hf, hd => by
    obtain ⟨y, hy, hq⟩ := h t d hd
    have e : loopP s (fuel + 1) d = (s d).run (Sum.elim (fun d => loopP s fuel d) some) := rfl
    rw [e, ← Pg.run_val, hy, Option.bind_some]
    cases y with
    | inl d' => obtain ⟨t', ht, hd'⟩ := hq; exact loopP_post Inv Q h fuel t' d' (by omega) hd'
    | inr x => exact ⟨x, rfl, hq⟩
end Go.Ab
namespace Go.Ab
class Tot {D : Type} (x : Option D) : Prop where
  ok : ∃ d, x = some d
def Ok {D : Type} (x : Option D) (Q : D → Prop) : Prop := ∃ d, x = some d ∧ Q d
def PQ {δ : Type} (p : Pg δ) (Q : δ → Prop) : Prop := Ok p.val Q
section
variable {δ D A B : Type} {Q : δ → Prop}
theorem Ok.post {x : Option D} {Q : D → Prop} (h : Ok x Q) {d : D} (e : x = some d) : Q d := by
  obtain ⟨d', e', h⟩ := h
  rw [e] at e'; cases e'; exact h
theorem Ok.mono {x : Option D} {Q R : D → Prop} (h : Ok x Q) (k : ∀ d, Q d → R d) : Ok x R := h.imp fun _ h => ⟨h.1, k _ h.2⟩
theorem Tot.Ok {x : Option D} (h : Tot x) {Q : D → Prop} (k : ∀ d, x = some d → Q d) : Ok x Q := by
  obtain ⟨d, e⟩ := h.ok
  exact ⟨d, e, k d e⟩
theorem ok_some (d : D) (Q : D → Prop) : Ok (some d) Q = Q d := propext (Iff.intro (fun h => Ok.post h rfl) fun h => ⟨d, rfl, h⟩)
theorem pq_ret (d : δ) : PQ (.ret d) Q = Q d := ok_some d Q
theorem pq_cnd (b : Bool) (x y : Pg δ) : PQ (.cnd b x y) Q = ((b = true → PQ x Q) ∧ (b = false → PQ y Q)) := by
  unfold PQ
  rw [Pg.val_cnd]
  cases b <;> simp
theorem pq_true (x y : Pg δ) : PQ (.cnd true x y) Q = PQ x Q := by unfold PQ; rw [Pg.val_cnd]; rfl
theorem pq_some (d : D) (f : D → Pg δ) : PQ (.opt (some d) f) Q = PQ (f d) Q := rfl
theorem pq_opt' {x : Option D} {f : D → Pg δ} {R : D → Prop} (h : Ok x R) (k : ∀ d, x = some d → R d → PQ (f d) Q) : PQ (.opt x f) Q := by
  obtain ⟨d, rfl, hr⟩ := h
  exact k d rfl hr
theorem loop_ok {D X : Type} {s : D → Pg (D ⊕ X)} (I : D → Prop) (m : D → Nat) (R : X → Prop)
    (h : ∀ d, I d → PQ (s d) (Sum.elim (fun d' => I d' ∧ m d' < m d) R)) : ∀ (n : Nat) (d : D), I d → m d < n → Ok (loopP s n d) R := fun n d hd hn => by
  refine loopP_post (fun t d => I d ∧ m d = t) R (fun t d hd => ?_) n (m d) d hn ⟨hd, rfl⟩
  obtain ⟨y, hy, hq⟩ := h d hd.1
  refine ⟨y, hy, ?_⟩
  cases y with
  | inl d' => exact ⟨m d', hd.2 ▸ hq.2, hq.1, rfl⟩
  | inr x => exact hq
end
theorem wI_succ {n : Int} (h : 0 ≤ n) (k : n ≤ 4611686018427387904) : wI (n + 1) = n + 1 := wrap_i64 (by omega) (by omega)
theorem wI_id {n : Int} (h : -4611686018427387904 ≤ n) (k : n ≤ 4611686018427387904) : wI n = n := wrap_i64 (by omega) (by omega)
theorem inR_iff {n : Int} {m : Nat} : inR n m = true ↔ 0 ≤ n ∧ n < m := by simp [inR]
theorem nble_iff {m n : Nat} : Nat.ble m n = true ↔ m ≤ n := by rw [Nat.ble_eq]
theorem nbeq_refl (m : Nat) : Nat.beq m m = true := Nat.beq_refl m
end Go.Ab
namespace Go.Proofs.YtphkdkkbbfnkaaaGreat
open Go.Ab
theorem s_Add64 [Amb] : Sound Tryz.prog 210 (F_carry f_Add64) := carry_of (add64_sound (fn := Tryz.f210) Tryz.func210 (by kernel_rfl) (by kernel_rfl) (by kernel_rfl) (by kernel_rfl))
end Go.Proofs.YtphkdkkbbfnkaaaGreat
namespace Go.Proofs.YtphkdkkbbfnkaaaGreat
open Go.Ab
theorem s_Sub64 [Amb] : Sound Tryz.prog 239 (F_carry f_Sub64) := carry_of (sub64_sound (fn := Tryz.f239) Tryz.func239 (by kernel_rfl) (by kernel_rfl) (by kernel_rfl) (by kernel_rfl))
end Go.Proofs.YtphkdkkbbfnkaaaGreat
noncomputable section
namespace Go.Proofs.YtphkdkkbbfnkaaaGreat
open Go.Ab
abbrev G_Add64 := C3
def e_Add64 (g : C3) : Ct := (210, F_carry g)
theorem s4_Add64 [Amb] : Snd Tryz.prog (e_Add64 f_Add64) := s_Add64
abbrev G_Sub64 := C3
def e_Sub64 (g : C3) : Ct := (239, F_carry g)
theorem s4_Sub64 [Amb] : Snd Tryz.prog (e_Sub64 f_Sub64) := s_Sub64
end Go.Proofs.YtphkdkkbbfnkaaaGreat
