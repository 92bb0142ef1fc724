/-
  The abstract machine and the model: contracts by plain functions, in short: a function's answer as a tree; data of a form by readers that test.
-/
import Derived.Test.YtphkdkkbbfnkaaaGreatAbNil
noncomputable section
namespace Go.Ab
inductive Pg (δ : Type) : Type 1 where
  | ret (d : δ)
  | no
  | cnd (b : Bool) (x y : Pg δ)
  | opt {D : Type} (x : Option D) (f : D → Pg δ)
  | sum {A B : Type} (x : A ⊕ B) (f : A → Pg δ) (g : B → Pg δ)
namespace Pg
def run {δ ρ : Type} (p : Pg δ) (k : δ → Option ρ) : Option ρ :=
  Pg.rec (motive := fun _ => Option ρ) k none (fun b _ _ x y => cond b x y) (fun x _ ih => x.bind ih) (fun x _ _ f g => Sum.elim f g x) p
def val {δ : Type} (p : Pg δ) : Option δ := p.run some
variable {δ ρ σ : Type}
theorem run_ret (d : δ) (k : δ → Option ρ) : (ret d).run k = k d := rfl
theorem run_no (k : δ → Option ρ) : (no : Pg δ).run k = none := rfl
theorem run_cnd (b : Bool) (x y : Pg δ) (k : δ → Option ρ) : (cnd b x y).run k = bif b then x.run k else y.run k := rfl
theorem run_opt {D : Type} (x : Option D) (f : D → Pg δ) (k : δ → Option ρ) : (opt x f).run k = x.bind fun d => (f d).run k := rfl
theorem run_sum {A B : Type} (x : A ⊕ B) (f : A → Pg δ) (g : B → Pg δ) (k : δ → Option ρ) : (sum x f g).run k = Sum.elim (fun a => (f a).run k) (fun b => (g b).run k) x := rfl
theorem val_ret (d : δ) : (ret d).val = some d := rfl
theorem val_no : (no : Pg δ).val = none := rfl
theorem val_cnd (b : Bool) (x y : Pg δ) : (cnd b x y).val = bif b then x.val else y.val := rfl
theorem val_opt {D : Type} (x : Option D) (f : D → Pg δ) : (opt x f).val = x.bind fun d => (f d).val := rfl
theorem val_sum {A B : Type} (x : A ⊕ B) (f : A → Pg δ) (g : B → Pg δ) : (sum x f g).val = Sum.elim (fun a => (f a).val) (fun b => (g b).val) x := rfl
theorem run_run (p : Pg δ) (k : δ → Option ρ) (q : ρ → Option σ) : (p.run k).bind q = p.run fun d => (k d).bind q := by
  induction p with
  | ret d => rfl
  | no => rfl
  | cnd b x y ih1 ih2 => rw [run_cnd, run_cnd, bnd_cond, ih1, ih2]
  | opt x f ih =>
    rw [run_opt, run_opt]
    cases x with
    | none => rfl
    | some d => exact ih d
  | sum x f g ih1 ih2 =>
    rw [run_sum, run_sum]
    cases x with
    | inl a => exact ih1 a
    | inr b => exact ih2 b
theorem run_val (p : Pg δ) (k : δ → Option ρ) : p.val.bind k = p.run k := by
  unfold val
  rw [run_run]
  rfl
def sm {A B : Type} (x : A ⊕ B) (f : A → Pg δ) (g : B → Pg δ) : Pg δ := cnd x.isLeft (opt x.getLeft? f) (opt x.getRight? g)
theorem run_sm {A B : Type} (x : A ⊕ B) (f : A → Pg δ) (g : B → Pg δ) (k : δ → Option ρ) : (sm x f g).run k = Sum.elim (fun a => (f a).run k) (fun b => (g b).run k) x := by cases x <;> rfl
theorem val_sm {A B : Type} (x : A ⊕ B) (f : A → Pg δ) (g : B → Pg δ) : (sm x f g).val = Sum.elim (fun a => (f a).val) (fun b => (g b).val) x := by cases x <;> rfl
end Pg
def loopP {D X : Type} (s : D → Pg (D ⊕ X)) (n : Nat) (d : D) : Option X := loopK (fun d c x => (s d).run (Sum.elim c x)) n d some
theorem loopP_bind {D X ρ : Type} (s : D → Pg (D ⊕ X)) (n : Nat) (d : D) (k : X → Option ρ) : (loopP s n d).bind k = loopK (fun d c x => (s d).run (Sum.elim c x)) n d k := by
  unfold loopP
  refine (loopK_bind k (fun d c x => ?_) some n d).trans rfl
  rw [Pg.run_run]
  congr 1
  funext y
  cases y <;> rfl
/-! readers that test -/
def allT : List Bool → Prop
  | [] => True
  | b :: l => b = true ∧ allT l
theorem allT_app : ∀ {l m : List Bool}, allT (l ++ m) → allT l ∧ allT m
  | [], _, h => ⟨trivial, h⟩
  | _ :: _, _, h => ⟨⟨h.1, (allT_app h.2).1⟩, (allT_app h.2).2⟩
structure Rq (α β : Type) where
  rd : α → Option (List Bool × β)
  em : β → α
  ok : ∀ a l b, rd a = some (l, b) → allT l → a = em b
abbrev Rq.B {α β : Type} (_ : Rq α β) : Type := β
namespace Rq
variable {α β γ δ : Type}
def hole : Rq α α := ⟨fun a => some ([], a), id, fun a l b h _ => by cases h; rfl⟩
def one (a : α) (g : α → Bool) (h : ∀ b, g b = true → b = a) : Rq α Unit := ⟨fun b => cond (g b) (some ([], ())) none, fun _ => a, fun b _ _ hb _ => by
  cases hg : g b <;> rw [hg] at hb <;> first | (cases hb; done) | exact h b hg⟩
def tie (n : Nat) : Rq Nat Unit := ⟨fun m => some ([Nat.beq m n], ()), fun _ => n, fun a l b h hl => by
  have h1 : [Nat.beq a n] = l := (Prod.mk.inj (Option.some.inj h)).1
  subst h1
  exact Nat.eq_of_beq_eq_true hl.1⟩
def nat (n : Nat) : Rq Nat Unit := one n (fun m => Nat.beq m n) fun _ h => Nat.eq_of_beq_eq_true h
def int (n : Int) : Rq Int Unit := one n (fun m => decide (m = n)) fun _ h => of_decide_eq_true h
def bool (n : Bool) : Rq Bool Unit := one n (fun m => m == n) fun _ h => by simpa using h
def via {α' : Type} (f : α → α') (g : α' → Option α) (h : ∀ a' a, g a' = some a → a' = f a) (x : Rq α β) : Rq α' β := ⟨fun a => (g a).bind x.rd, fun b => f (x.em b), fun a l b hb hl => by
  cases ha : g a with
  | none => rw [ha] at hb; cases hb
  | some c => rw [ha] at hb; rw [h a c ha, ← x.ok c l b hb hl]⟩
def dp (x : Rq α β) (y : β → Rq γ δ) : Rq (α × γ) (β × δ) := ⟨fun p => (x.rd p.1).bind fun b => ((y b.2).rd p.2).bind fun d => some (b.1 ++ d.1, (b.2, d.2)), fun q => (x.em q.1, (y q.1).em q.2), fun p l q h hl => by
  cases h1 : x.rd p.1 with
  | none => rw [h1] at h; cases h
  | some b =>
    rw [h1] at h
    cases h2 : (y b.2).rd p.2 with
    | none => simp only [Option.bind_some, h2] at h; cases h
    | some d =>
      simp only [Option.bind_some, h2, Option.some.injEq, Prod.mk.injEq] at h
      obtain ⟨rfl, rfl⟩ := h
      obtain ⟨t, b⟩ := b
      obtain ⟨s, d⟩ := d
      obtain ⟨h4, h5⟩ := allT_app hl
      exact Prod.ext (x.ok _ _ _ h1 h4) ((y b).ok _ _ _ h2 h5)⟩
def pr (x : Rq α β) (y : Rq γ δ) : Rq (α × γ) (β × δ) := dp x fun _ => y
def mp {β' : Type} (x : Rq α β) (p : β → β') (q : β' → β) (h : ∀ b, b = q (p b)) : Rq α β' := ⟨fun a => (x.rd a).bind fun b => some (b.1, p b.2), fun c => x.em (q c), fun a l c hc hl => by
  cases h1 : x.rd a with
  | none => rw [h1] at hc; cases hc
  | some b =>
    rw [h1] at hc
    obtain ⟨t, b⟩ := b
    cases hc
    rw [← h b]
    exact x.ok _ _ _ h1 hl⟩
def pl (x : Rq α β) (y : Rq γ Unit) : Rq (α × γ) β := mp (pr x y) Prod.fst (fun b => (b, ())) fun _ => rfl
def pu (x : Rq α Unit) (y : Rq γ δ) : Rq (α × γ) δ := mp (pr x y) Prod.snd (fun b => ((), b)) fun _ => rfl
def nil : Rq (List α) Unit := one [] (fun l => match l with | [] => true | _ => false) fun b h => by cases b <;> first | rfl | cases h
def co (x : Rq (α × List α) β) : Rq (List α) β := via (fun p : α × List α => p.1 :: p.2) (fun l => match l with | a :: l => some (a, l) | _ => none) (fun a' a h => by cases a' <;> cases h; rfl) x
def c (x : Rq α β) (y : Rq (List α) δ) : Rq (List α) (β × δ) := co (pr x y)
def cl (x : Rq α β) (y : Rq (List α) Unit) : Rq (List α) β := co (pl x y)
def cu (x : Rq α Unit) (y : Rq (List α) δ) : Rq (List α) δ := co (pu x y)
def cd (x : Rq α β) (y : β → Rq (List α) δ) : Rq (List α) (β × δ) := co (dp x y)
def ap (n : Nat) (x : Rq (List α × List α) β) : Rq (List α) β := via (fun p : List α × List α => p.1 ++ p.2) (fun l => some (l.take n, l.drop n)) (fun a' a h => by cases h; simp) x
def a (n : Nat) (x : Rq (List α) β) (y : Rq (List α) δ) : Rq (List α) (β × δ) := ap n (pr x y)
def al (n : Nat) (x : Rq (List α) β) (y : Rq (List α) Unit) : Rq (List α) β := ap n (pl x y)
def au (n : Nat) (x : Rq (List α) Unit) (y : Rq (List α) δ) : Rq (List α) δ := ap n (pu x y)
def no : Rq (Option α) Unit := one none (fun l => match l with | none => true | _ => false) fun b h => by cases b <;> first | rfl | cases h
def so (x : Rq α β) : Rq (Option α) β := via some (fun a => a) (fun a' a h => h) x
def szl (x : Rq Nat β) : Rq Sz β := via Sz.l (fun z => match z with | .l n => some n | _ => none) (fun a' a h => by cases a' <;> cases h; rfl) x
def szs (x : Rq Nat β) : Rq Sz β := via Sz.s (fun z => match z with | .s n => some n | _ => none) (fun a' a h => by cases a' <;> cases h; rfl) x
def ok' (x : Rq Nat β) : Rq Off β := via Off.k (fun z => match z with | .k n => some n | _ => none) (fun a' a h => by cases a' <;> cases h; rfl) x
def ox (x : Rq (Nat × Nat × Nat) β) : Rq Off β := via (fun p : Nat × Nat × Nat => Off.x p.1 p.2.1 p.2.2) (fun z => match z with | .x a b c => some (a, b, c) | _ => none) (fun a' a h => by cases a' <;> cases h; rfl) x
def fi (k : IntKind) (x : Rq Int β) : Rq FV β := via (FV.i k) (fun z => match z with | .i k' n => cond (decide (k' = k)) (some n) none | _ => none) (fun a' a h => by
  cases a' with
  | i k' n =>
    cases hk : decide (k' = k) <;> simp only [hk] at h <;> first | (cases h; done) | (cases h; rw [of_decide_eq_true hk])
  | _ => cases h) x
def fb (x : Rq Bool β) : Rq FV β := via FV.b (fun z => match z with | .b n => some n | _ => none) (fun a' a h => by cases a' <;> cases h; rfl) x
def fs (x : Rq ByteArray β) : Rq FV β := via FV.s (fun z => match z with | .s n => some n | _ => none) (fun a' a h => by cases a' <;> cases h; rfl) x
def fu : Rq FV Unit := one .u (fun l => match l with | .u => true | _ => false) fun b h => by cases b <;> first | rfl | cases h
def cf (x : Rq FV β) : Rq CV β := via CV.f (fun z => match z with | .f n => some n | _ => none) (fun a' a h => by cases a' <;> cases h; rfl) x
def cptr (x : Rq (Nat × Off × Nat) β) : Rq CV β := via (fun p : Nat × Off × Nat => CV.ptr p.1 p.2.1 p.2.2) (fun z => match z with | .ptr a b c => some (a, b, c) | _ => none) (fun a' a h => by cases a' <;> cases h; rfl) x
def ccl (x : Rq (Nat × Nat × Off × Nat) β) : Rq CV β := via (fun p : Nat × Nat × Off × Nat => CV.cl p.1 p.2.1 p.2.2.1 p.2.2.2) (fun z => match z with | .cl e a b c => some (e, a, b, c) | _ => none) (fun a' a h => by cases a' <;> cases h; rfl) x
def csl (x : Rq (Nat × Off × Sz × Nat × Bool) β) : Rq CV β := via (fun p : Nat × Off × Sz × Nat × Bool => CV.sl p.1 p.2.1 p.2.2.1 p.2.2.2.1 p.2.2.2.2) (fun z => match z with | .sl a b c d e => some (a, b, c, d, e) | _ => none) (fun a' a h => by cases a' <;> cases h; rfl) x
def cfs (x : Rq (Nat × Nat × List Col) β) : Rq CV β := via (fun p : Nat × Nat × List Col => CV.fs p.1 p.2.1 p.2.2) (fun z => match z with | .fs a b c => some (a, b, c) | _ => none) (fun a' a h => by cases a' <;> cases h; rfl) x
def cfp (x : Rq (List FV) β) : Rq CV β := via CV.fp (fun z => match z with | .fp a => some a | _ => none) (fun a' a h => by cases a' <;> cases h; rfl) x
def cnilp : Rq CV Unit := one .nilp (fun l => match l with | .nilp => true | _ => false) fun b h => by cases b <;> first | rfl | cases h
def cnils : Rq CV Unit := one .nils (fun l => match l with | .nils => true | _ => false) fun b h => by cases b <;> first | rfl | cases h
def cnilf : Rq CV Unit := one .nilf (fun l => match l with | .nilf => true | _ => false) fun b h => by cases b <;> first | rfl | cases h
def cnili : Rq CV Unit := one .nili (fun l => match l with | .nili => true | _ => false) fun b h => by cases b <;> first | rfl | cases h
def ki (k : IntKind) (x : Rq (Nat → Int) β) : Rq Col β := via (Col.i k) (fun z => match z with | .i k' n => cond (decide (k' = k)) (some n) none | _ => none) (fun a' a h => by
  cases a' with
  | i k' n =>
    cases hk : decide (k' = k) <;> simp only [hk] at h <;> first | (cases h; done) | (cases h; rw [of_decide_eq_true hk])
  | _ => cases h) x
def kb (x : Rq (Nat → Bool) β) : Rq Col β := via Col.b (fun z => match z with | .b n => some n | _ => none) (fun a' a h => by cases a' <;> cases h; rfl) x
def ks (x : Rq (Nat → ByteArray) β) : Rq Col β := via Col.s (fun z => match z with | .s n => some n | _ => none) (fun a' a h => by cases a' <;> cases h; rfl) x
def ku : Rq Col Unit := one .u (fun l => match l with | .u => true | _ => false) fun b h => by cases b <;> first | rfl | cases h
def gc (x : Rq CV β) : Rq Sg β := via Sg.c (fun z => match z with | .c n => some n | _ => none) (fun a' a h => by cases a' <;> cases h; rfl) x
def ga (x : Rq (Sz × List Col) β) : Rq Sg β := via (fun p : Sz × List Col => Sg.a p.1 p.2) (fun z => match z with | .a n c => some (n, c) | _ => none) (fun a' a h => by cases a' <;> cases h; rfl) x
def rc (x : Rq CV β) : Rq RV β := via RV.c (fun z => match z with | .c n => some n | _ => none) (fun a' a h => by cases a' <;> cases h; rfl) x
def ra (x : Rq Blk β) : Rq RV β := via RV.agg (fun z => match z with | .agg n => some n | _ => none) (fun a' a h => by cases a' <;> cases h; rfl) x
def ar (x : Rq RV β) : Rq AV β := via AV.r (fun z => match z with | .r n => some n | _ => none) (fun a' a h => by cases a' <;> cases h; rfl) x
def atup (x : Rq (List RV) β) : Rq AV β := via AV.tup (fun z => match z with | .tup n => some n | _ => none) (fun a' a h => by cases a' <;> cases h; rfl) x
def afn (x : Rq (Nat × List RV) β) : Rq AV β := via (fun p : Nat × List RV => AV.fn p.1 p.2) (fun z => match z with | .fn a b => some (a, b) | _ => none) (fun a' a h => by cases a' <;> cases h; rfl) x
def aund : Rq AV Unit := one .und (fun l => match l with | .und => true | _ => false) fun b h => by cases b <;> first | rfl | cases h
def st (x : Rq (List AV × List (Option Blk) × List Nat) β) : Rq St β := via (fun p : List AV × List (Option Blk) × List Nat => St.mk p.1 p.2.1 p.2.2) (fun z => some (z.tmps, z.heap, z.dirt)) (fun a' a h => by cases a'; cases h; rfl) x
def chk : Rq Ch Unit := one .keep (fun l => match l with | .keep => true | _ => false) fun b h => by cases b <;> first | rfl | cases h
def chx : Rq Ch Unit := one .kill (fun l => match l with | .kill => true | _ => false) fun b h => by cases b <;> first | rfl | cases h
def chs (x : Rq Blk β) : Rq Ch β := via Ch.set (fun z => match z with | .set n => some n | _ => none) (fun a' a h => by cases a' <;> cases h; rfl) x
def res (x : Rq (AV × List Ch × List Blk) β) : Rq Res β := via (fun p : AV × List Ch × List Blk => Res.mk p.1 p.2.1 p.2.2) (fun z => some (z.val, z.chg, z.news)) (fun a' a h => by cases a'; cases h; rfl) x
def us : Nat → Rq (List AV) β → Rq (List AV) β
  | 0, x => x
  | n + 1, x => cu aund (us n x)
def xs : Nat → Rq (List AV) β → Rq (List AV) β
  | 0, x => x
  | n + 1, x => cu (atup nil) (xs n x)
def ci : Rq CV Int := cf (fi .i64 hole)
def cn : Rq CV Int := cf (fi .u64 hole)
def cb : Rq CV Bool := cf (fb hole)
def ct : Rq CV ByteArray := cf (fs hole)
def gi : Rq Sg Int := gc ci
def gn : Rq Sg Int := gc cn
def gb : Rq Sg Bool := gc cb
def gt : Rq Sg ByteArray := gc ct
def ac (x : Rq CV β) : Rq AV β := ar (rc x)
def ai : Rq AV Int := ac ci
def an : Rq AV Int := ac cn
def ab : Rq AV Bool := ac cb
def at' : Rq AV ByteArray := ac ct
def aa (x : Rq Blk β) : Rq AV β := ar (ra x)
def cp (b n : Nat) : Rq CV Unit := cptr (pu (nat b) (pu (ok' (nat 0)) (nat n)))
def gp (b n : Nat) : Rq Sg Unit := gc (cp b n)
def app (b n : Nat) : Rq AV Unit := ac (cp b n)
def slc (b z : Nat) : Rq CV (Nat × Bool) := csl (pu (nat b) (pu (ok' (nat 0)) (pr (szs hole) (pu (nat z) hole))))
def slo (b z : Nat) : Rq CV Nat := csl (pu (nat b) (pu (ok' (nat 0)) (pl (szs hole) (pu (nat z) (bool true)))))
def gl (n : Nat) (x : Rq (List Col) β) : Rq Sg β := ga (pu (szl (nat n)) x)
def gs (n : Nat) (x : Rq (List Col) β) : Rq Sg β := ga (pu (szs (tie n)) x)
def kci : Rq Col (Nat → Int) := ki .i64 hole
def kcb : Rq Col (Nat → Bool) := kb hole
end Rq
/-! contracts -/
abbrev Ct := Nat × Sem1
def T.tests (l : List Bool) (t : T) : T := List.rec (motive := fun _ => T) t (fun b _ r => .test b r .fail) l
def cnds {ρ : Type} (l : List Bool) (t : Option ρ) : Option ρ := List.rec (motive := fun _ => Option ρ) t (fun b _ r => cond b r none) l
theorem tests_eval {t : T} {r : Res} : ∀ {l : List Bool}, (T.tests l t).eval = some r → allT l ∧ t.eval = some r
  | [], h => ⟨trivial, h⟩
  | b :: l, h => by
    obtain ⟨h1, h2⟩ := test_eval (b := b) (a := T.tests l t) h
    obtain ⟨h3, h4⟩ := tests_eval h2
    exact ⟨⟨h1, h3⟩, h4⟩
theorem cnds_some {ρ : Type} {t : Option ρ} {r : ρ} : ∀ {l : List Bool}, cnds l t = some r → allT l ∧ t = some r
  | [], h => ⟨trivial, h⟩
  | b :: l, h => by
    have h' : cond b (cnds l t) none = some r := h
    cases b with
    | false => cases h'
    | true =>
      obtain ⟨h3, h4⟩ := cnds_some h'
      exact ⟨⟨rfl, h3⟩, h4⟩
def FC {β δ : Type} (Q : Rq (List AV × List Blk) β) (R : δ → T) (f : β → Option δ) : Sem1 := fun a h => match Q.rd (a, h) with
  | some b => T.tests b.1 (.opt (f b.2) R)
  | none => .fail
def smQ {D X : Type} (id kk : Nat) (Q : Rq St D) (E : ∀ {ρ : Type}, X → (AX → St → Option ρ) → Option ρ) (l : D → Option X) : Sm := ⟨id, kk, fun s k => match Q.rd s with
  | some b => cnds b.1 ((l b.2).bind fun x => E x k)
  | none => none⟩
def DenIs {β δ : Type} (P : Program) (l : List Ct) (hs : Hs) (lf n : Nat) (Q : Rq (List AV × List Blk) β) (R : δ → T) (B : β → Pg δ) : Prop :=
  ∀ b, den P (envOf l) hs lf n (Q.em b).1 (Q.em b).2 = (B b).run fun d => (R d).eval
def LoopIs {D X : Type} (P : Program) (l : List Ct) (hs : Hs) (kk lf n id : Nat) (Q : Rq St D) (E : ∀ {ρ : Type}, X → (AX → St → Option ρ) → Option ρ) (S : D → Pg (D ⊕ X)) : Prop :=
  ∀ (ρ : Type) (d : D) (c : St → Option ρ) (K : AX → St → Option ρ), runC P (envOf l) hs (tmpsOf P n) kk lf (loopIn P n id) (Q.em d) (next (fun t => t.head kk hs (loopIn P n id)) c K) =
    (S d).run (Sum.elim (fun d => c (Q.em d)) fun x => E x K)
def JoinIs {D X : Type} (P : Program) (l : List Ct) (hs : Hs) (kk lf n id : Nat) (Q : Rq St D) (E : ∀ {ρ : Type}, X → (AX → St → Option ρ) → Option ρ) (S : D → Pg X) : Prop :=
  ∀ (ρ : Type) (d : D) (K : AX → St → Option ρ), runC P (envOf l) hs (tmpsOf P n) kk lf (joinIn P n id) (Q.em d) K = (S d).run fun x => E x K
section
variable [Amb]
def Snd (P : Program) (e : Ct) : Prop := Sound P e.1 e.2
theorem Snd.of {P : Program} {e : Ct} {n : Nat} {F : Sem1} (S : Sound P n F) (h : e = (n, F)) : Snd P e := by
  subst h
  exact S
theorem EnvOK.c {P : Program} {l : List Ct} {e : Ct} (S : Snd P e) (h : EnvOK P l) : EnvOK P (e :: l) := EnvOK.cons S h
omit [Amb] in
theorem smQ_run {D X : Type} {id kk : Nat} {Q : Rq St D} {E : ∀ {ρ : Type}, X → (AX → St → Option ρ) → Option ρ} {l : D → Option X} {ρ : Type} {s : St} {K : AX → St → Option ρ} {r : ρ}
    (h : (smQ id kk Q E l).run s K = some r) : ∃ d, s = Q.em d ∧ ((l d).bind fun x => E x K) = some r := by
  simp only [smQ] at h
  split at h
  · rename_i b hb
    obtain ⟨t, d⟩ := b
    obtain ⟨h1, h2⟩ := cnds_some h
    exact ⟨d, Q.ok s t d hb h1, h2⟩
  · cases h
theorem mkL {D X : Type} {P : Program} {l : List Ct} {hs : Hs} {kk lf n id : Nat} {Q : Rq St D} {E : ∀ {ρ : Type}, X → (AX → St → Option ρ) → Option ρ} {S : D → Pg (D ⊕ X)}
    (h0 : smOf hs (loopIn P n id) = some (smQ id kk Q E (loopP S lf))) (h : LoopIs P l hs kk lf n id Q E S) : ∀ k', SumOK P (envOf l) hs (tmpsOf P n) k' lf (loopIn P n id) :=
  SumOK.of (id := id) (k0 := kk) (run := (smQ id kk Q E (loopP S lf)).run) h0 fun s K r hr => by
    obtain ⟨d, rfl, hr1⟩ := smQ_run hr
    refine ⟨lf, ?_⟩
    rw [loopP_bind] at hr1
    exact (iter_loopX (emb := Q.em) (step := fun d c x => (S d).run (Sum.elim c x)) (kx := fun x => E x K) (fun d c => h _ d c K) lf d).trans hr1
theorem mkJ {D X : Type} {P : Program} {l : List Ct} {hs : Hs} {kk lf n id : Nat} {hd : Hd} {Q : Rq St D} {E : ∀ {ρ : Type}, X → (AX → St → Option ρ) → Option ρ} {S : D → Pg X}
    (h0 : jnOf hs (joinIn P n id) = some ⟨hd, smQ id kk Q E fun d => (S d).val⟩) (h : JoinIs P l hs kk lf n id Q E S) : ∀ k', JnOK P (envOf l) hs (tmpsOf P n) k' lf (joinIn P n id) :=
  JnOK.of (id := id) (k0 := kk) (hd := hd) (run := (smQ id kk Q E fun d => (S d).val).run) h0 fun s K r hr => by
    obtain ⟨d, rfl, hr1⟩ := smQ_run hr
    rw [Pg.run_val] at hr1
    exact (h _ d K).trans hr1
omit [Amb] in
theorem FC_eval {β δ : Type} {Q : Rq (List AV × List Blk) β} {R : δ → T} {B : β → Pg δ} {a : List AV} {h : List Blk} {r : Res} (hr : (FC Q R (fun b => (B b).val) a h).eval = some r) :
    ∃ b, (a, h) = Q.em b ∧ ((B b).run fun d => (R d).eval) = some r := by
  unfold FC at hr
  split at hr
  · rename_i b hb
    obtain ⟨t, b⟩ := b
    obtain ⟨h1, hr1⟩ := tests_eval hr
    rw [opt_eval2, Pg.run_val] at hr1
    exact ⟨b, Q.ok _ _ _ hb h1, hr1⟩
  · cases hr
theorem mkS {β δ : Type} {P : Program} {l : List Ct} {hs : Hs} {lf n : Nat} {Q : Rq (List AV × List Blk) β} {R : δ → T} {B : β → Pg δ} (hm : P.follows .mixedOrders = true) (hl : EnvOK P l) (hc : callable P n = true)
    (hsum : ∀ fn c kk, P.funcs[n]? = some fn → fn.body = some c → Sums P (envOf l) hs fn.ntmps kk lf c) (h : DenIs P l hs lf n Q R B) : Sound P n (FC Q R fun b => (B b).val) :=
  (inl_sums hl hm hsum hc).by fun a b r hr => by
    obtain ⟨b, e, hr1⟩ := FC_eval hr
    obtain ⟨rfl, rfl⟩ := Prod.mk.inj e
    exact inl_eval ((h b).trans hr1)
theorem mk0 {β δ : Type} {P : Program} {l : List Ct} {d0 : List Nat} {lf n : Nat} {Q : Rq (List AV × List Blk) β} {R : δ → T} {B : β → Pg δ} (hm : P.follows .mixedOrders = true) (hl : EnvOK P l) (hc : callable P n = true)
    (h : DenIs P l ⟨[], [], d0, [], none⟩ lf n Q R B) : Sound P n (FC Q R fun b => (B b).val) :=
  mkS hm hl hc (fun _ _ _ _ _ => Sums.nil ..) h
omit [Amb] in
theorem tests_mono {t t' : T} {r : Res} (h : t.eval = some r → t'.eval = some r) (l : List Bool) : (T.tests l t).eval = some r → (T.tests l t').eval = some r := by
  induction l with
  | nil => exact h
  | cons b l ih =>
    intro k
    obtain ⟨h1, h2⟩ := test_eval (b := b) (a := T.tests l t) k
    subst h1
    exact ih h2
theorem FC_weaken {β δ : Type} {P : Program} {n : Nat} {Q : Rq (List AV × List Blk) β} {R R' : δ → T} {f : β → Option δ} (h : ∀ d r, (R' d).eval = some r → (R d).eval = some r) (S : Sound P n (FC Q R f)) : Sound P n (FC Q R' f) := S.by fun a b r hr => by
  unfold FC at hr ⊢
  split at hr
  · rename_i x hx
    refine tests_mono (fun hr => ?_) x.1 hr
    rw [opt_eval2] at hr ⊢
    cases hf : f x.2 with
    | none => rw [hf] at hr; cases hr
    | some d => rw [hf, Option.bind_some] at hr; exact h d r hr
  · cases hr
end
/-! numbers that are wrapped -/
abbrev wI (n : Int) : Int := IntKind.wrap .i64 n
abbrev wU (n : Int) : Int := IntKind.wrap .u64 n
end Go.Ab
