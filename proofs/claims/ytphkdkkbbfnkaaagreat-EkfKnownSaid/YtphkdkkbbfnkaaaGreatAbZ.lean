/-
  The abstract machine and the model: contracts by plain functions.
-/
import Derived.Test.YtphkdkkbbfnkaaaGreatAbY
import Derived.Test.YtphkdkkbbfnkaaaGreatRows
namespace Go.Ab
theorem opt_eval {D : Type} (x : Option D) (g : D → Res) : (T.opt x fun d => .leaf (g d)).eval = x.map g := by cases x <;> rfl
theorem map_cond {α β : Type} (q : α → β) (b : Bool) (x y : Option α) : (cond b x y).map q = cond b (x.map q) (y.map q) := by cases b <;> rfl
theorem map_bind' {α β γ : Type} (q : β → γ) (x : Option α) (f : α → Option β) : (x.bind f).map q = x.bind fun a => (f a).map q := by cases x <;> rfl
theorem map_none' {α β : Type} (q : α → β) : (none : Option α).map q = none := rfl
theorem map_sum {α β γ δ : Type} (q : γ → δ) (f : α → Option γ) (g : β → Option γ) (x : α ⊕ β) : (Sum.elim f g x).map q = Sum.elim (fun a => (f a).map q) (fun b => (g b).map q) x := by cases x <;> rfl
theorem mixed_of {P : Program} (h : P.follows .mixedOrders = true) : P.follows .mixedOrders = true := h
abbrev C3 := Int → Int → Int → Option (Int × Int)
def F_carry (f : C3) : Sem1 := fun args h => match args, h with
  | [.r (.c (.f (.i .u64 x))), .r (.c (.f (.i .u64 y))), .r (.c (.f (.i .u64 c)))], [] => .opt (f x y c) fun d => .leaf ⟨.tup [u64R d.1, u64R d.2], [], []⟩
  | _, _ => .fail
def f_Add64 : C3 := fun x y c => cond (Nat.ble c.toNat 1) (some (addA x y c, addB x y c)) none
def f_Sub64 : C3 := fun x y c => cond (Nat.ble c.toNat 1) (some (subA x y c, subB x y c)) none
theorem carry_of [Amb] {P : Program} {f : FuncId} {A B : Int → Int → Int → Int} (S : Sound P f (Fcarry A B)) : Sound P f (F_carry fun x y c => cond (Nat.ble c.toNat 1) (some (A x y c, B x y c)) none) :=
  S.weaken fun args h r hr => by
    unfold F_carry at hr
    split at hr
    · rename_i x y c
      rw [opt_eval] at hr
      simp only at hr
      refine ⟨r, ?_, .refl _ _⟩
      unfold Fcarry
      simp only [T.eval]
      cases hc : Nat.ble c.toNat 1 <;> rw [hc] at hr <;> first | (cases hr; done) | exact hr
    · cases hr
/-! what follows a run goes into it -/
theorem opt_eval2 {D : Type} (x : Option D) (g : D → T) : (T.opt x g).eval = x.bind fun d => (g d).eval := by cases x <;> rfl
theorem bnd_cond {α β : Type} (q : α → Option β) (b : Bool) (x y : Option α) : (cond b x y).bind q = cond b (x.bind q) (y.bind q) := by cases b <;> rfl
theorem bnd_bind {α β γ : Type} (q : β → Option γ) (x : Option α) (f : α → Option β) : (x.bind f).bind q = x.bind fun a => (f a).bind q := by cases x <;> rfl
theorem bnd_none {α β : Type} (q : α → Option β) : (none : Option α).bind q = none := rfl
theorem bnd_sum {α β γ δ : Type} (q : γ → Option δ) (f : α → Option γ) (g : β → Option γ) (x : α ⊕ β) : (Sum.elim f g x).bind q = Sum.elim (fun a => (f a).bind q) (fun b => (g b).bind q) x := by cases x <;> rfl
def T.sum {A B : Type} (x : A ⊕ B) (f : A → T) (g : B → T) : T := .test x.isLeft (.opt x.getLeft? f) (.opt x.getRight? g)
theorem sum_eval {A B : Type} (x : A ⊕ B) (f : A → T) (g : B → T) : (T.sum x f g).eval = Sum.elim (fun a => (f a).eval) (fun b => (g b).eval) x := by cases x <;> rfl
theorem test_eval {b : Bool} {a : T} {r : Res} (h : (T.test b a .fail).eval = some r) : b = true ∧ a.eval = some r := by cases b <;> first | (cases h; done) | exact ⟨rfl, h⟩
theorem leaf_eval (r : Res) : (T.leaf r).eval = some r := rfl
/-! loops -/
theorem loopK_bind {D X ρ σ : Type} {s1 : D → (D → Option ρ) → (X → Option ρ) → Option ρ} {s2 : D → (D → Option σ) → (X → Option σ) → Option σ} (q : ρ → Option σ)
    (h : ∀ d c x, (s1 d c x).bind q = s2 d (fun d => (c d).bind q) (fun e => (x e).bind q)) (k : X → Option ρ) : ∀ (n : Nat) (d : D), (loopK s1 n d k).bind q = loopK s2 n d fun e => (k e).bind q
  | 0, _ => rfl
  | n + 1, d => by
    show (s1 d (fun d => loopK s1 n d k) k).bind q = s2 d (fun d => loopK s2 n d fun e => (k e).bind q) fun e => (k e).bind q
    rw [h]
    congr 1
    funext d'
    exact loopK_bind q h k n d'
theorem iter_loopX {hd : St → Option St} {ρ : Type} {body : St → (AX → St → Option ρ) → Option ρ} {K : AX → St → Option ρ} {D X : Type} {emb : D → St} {step : D → (D → Option ρ) → (X → Option ρ) → Option ρ} {kx : X → Option ρ}
    (h : ∀ (d : D) (c : St → Option ρ), body (emb d) (next hd c K) = step d (fun d => c (emb d)) kx) : ∀ (n : Nat) (d : D), iter hd body K n (emb d) = loopK step n d kx
  | 0, _ => rfl
  | n + 1, d => by
    have e : iter hd body K (n + 1) (emb d) = body (emb d) (next hd (iter hd body K n) K) := rfl
    rw [e, h]
    have e2 : loopK step (n + 1) d kx = step d (fun d => loopK step n d kx) kx := rfl
    rw [e2]
    congr 1
    funext d'
    exact iter_loopX h n d'
theorem SumOK.of [Amb] {P : Program} {E : Env} {hs : Hs} {nt lf id k0 : Nat} {a : Code} {run : ∀ {ρ : Type}, St → (AX → St → Option ρ) → Option ρ} (h0 : smOf hs a = some ⟨id, k0, run⟩)
    (h : ∀ {ρ : Type} (s : St) (K : AX → St → Option ρ) (r : ρ), run s K = some r → ∃ n, iter (fun t => t.head k0 hs a) (runC P E hs nt k0 lf a) K n s = some r) : ∀ kk, SumOK P E hs nt kk lf a := by
  intro kk σ hσ hk ρ s K r hr
  rw [h0] at hσ
  cases hσ
  cases hk
  exact h s K r hr
theorem SumOK.no [Amb] {P : Program} {E : Env} {hs : Hs} {nt lf : Nat} {a : Code} (h0 : smOf hs a = none) : ∀ kk, SumOK P E hs nt kk lf a := by
  intro kk σ hσ; rw [h0] at hσ; cases hσ
theorem AllL.imp {α : Type} {p q : α → Prop} (h : ∀ a, p a → q a) : ∀ {l : List α}, AllL p l → AllL q l
  | [], _ => trivial
  | _ :: _, hl => ⟨h _ hl.1, AllL.imp h hl.2⟩
theorem JnOK.of [Amb] {P : Program} {E : Env} {hs : Hs} {nt lf id k0 : Nat} {hd : Hd} {b : Code} {run : ∀ {ρ : Type}, St → (AX → St → Option ρ) → Option ρ} (h0 : jnOf hs b = some ⟨hd, ⟨id, k0, run⟩⟩)
    (h : ∀ {ρ : Type} (s : St) (K : AX → St → Option ρ) (r : ρ), run s K = some r → runC P E hs nt k0 lf b s K = some r) : ∀ kk, JnOK P E hs nt kk lf b := by
  intro kk j hj hk ρ s K r hr
  rw [h0] at hj
  cases hj
  cases hk
  exact h s K r hr
theorem Sums.by [Amb] {P : Program} {E : Env} {hs : Hs} {f : FuncId} {lf : Nat} {l lj : List Code} (hl : loopsOf (bodyOf P f) = l) (h : AllL (fun a => ∀ kk, SumOK P E hs (tmpsOf P f) kk lf a) l)
    (hlj : joinsOf hs (bodyOf P f) = lj) (hj : AllL (fun b => ∀ kk, JnOK P E hs (tmpsOf P f) kk lf b) lj) :
    ∀ (fn : Func) (c : Code) (kk : Nat), P.funcs[f]? = some fn → fn.body = some c → Sums P E hs fn.ntmps kk lf c := by
  intro fn c kk hf hb
  have e1 : bodyOf P f = c := by unfold bodyOf; rw [hf]; simp [hb]
  have e2 : tmpsOf P f = fn.ntmps := by unfold tmpsOf; rw [hf]; rfl
  rw [e1] at hl hlj
  rw [← e2]
  refine Sums.of ?_ ?_
  · rw [hl]
    exact h.imp fun a ha => ha kk
  · rw [hlj]
    exact hj.imp fun a ha => ha kk
/-! data of a form, by its holes -/
structure Rdr (α β : Type) where
  rd : α → Option β
  em : β → α
  ok : ∀ a b, rd a = some b → a = em b
namespace Rdr
def hole {α : Type} : Rdr α α := ⟨some, id, fun a b h => by cases h; rfl⟩
def nat (n : Nat) : Rdr Nat Unit := ⟨fun m => cond (Nat.beq m n) (some ()) none, fun _ => n, fun a b h => by
  cases hb : Nat.beq a n <;> rw [hb] at h <;> first | (cases h; done) | exact Nat.eq_of_beq_eq_true hb⟩
def int (n : Int) : Rdr Int Unit := ⟨fun m => cond (decide (m = n)) (some ()) none, fun _ => n, fun a b h => by
  cases hb : decide (a = n) <;> rw [hb] at h <;> first | (cases h; done) | exact of_decide_eq_true hb⟩
def bool (n : Bool) : Rdr Bool Unit := ⟨fun m => cond (m == n) (some ()) none, fun _ => n, fun a b h => by
  cases a <;> cases n <;> first | rfl | cases h⟩
def via {α α' β : Type} (f : α → α') (g : α' → Option α) (h : ∀ a' a, g a' = some a → a' = f a) (x : Rdr α β) : Rdr α' β := ⟨fun a => (g a).bind x.rd, fun b => f (x.em b), fun a b hb => by
  cases ha : g a with
  | none => rw [ha] at hb; cases hb
  | some c => rw [ha] at hb; rw [h a c ha, ← x.ok c b hb]⟩
def pair {α β γ δ : Type} (x : Rdr α β) (y : Rdr γ δ) : Rdr (α × γ) (β × δ) := ⟨fun p => (x.rd p.1).bind fun b => (y.rd p.2).bind fun d => some (b, d), fun q => (x.em q.1, y.em q.2), fun p q h => by
  cases h1 : x.rd p.1 with
  | none => rw [h1] at h; cases h
  | some b =>
    rw [h1] at h
    cases h2 : y.rd p.2 with
    | none => simp only [Option.bind_some, h2] at h; cases h
    | some d =>
      simp only [Option.bind_some, h2] at h
      cases h
      rw [← x.ok _ _ h1, ← y.ok _ _ h2]⟩
def one {α : Type} (a : α) (g : α → Bool) (h : ∀ b, g b = true → b = a) : Rdr α Unit := ⟨fun b => cond (g b) (some ()) none, fun _ => a, fun b _ hb => by
  cases hg : g b <;> rw [hg] at hb <;> first | (cases hb; done) | exact h b hg⟩
def nil {α : Type} : Rdr (List α) Unit := one [] (fun l => match l with | [] => true | _ => false) fun b h => by cases b <;> first | rfl | cases h
def cons {α β γ : Type} (x : Rdr α β) (y : Rdr (List α) γ) : Rdr (List α) (β × γ) := via (fun p : α × List α => p.1 :: p.2) (fun l => match l with | a :: l => some (a, l) | _ => none) (fun a' a h => by cases a' <;> cases h; rfl) (pair x y)
def none' {α : Type} : Rdr (Option α) Unit := one none (fun l => match l with | none => true | _ => false) fun b h => by cases b <;> first | rfl | cases h
def some' {α β : Type} (x : Rdr α β) : Rdr (Option α) β := via some (fun a => a) (fun a' a h => h) x
def szl {β : Type} (x : Rdr Nat β) : Rdr Sz β := via Sz.l (fun z => match z with | .l n => some n | _ => none) (fun a' a h => by cases a' <;> cases h; rfl) x
def szs {β : Type} (x : Rdr Nat β) : Rdr Sz β := via Sz.s (fun z => match z with | .s n => some n | _ => none) (fun a' a h => by cases a' <;> cases h; rfl) x
def ok' {β : Type} (x : Rdr Nat β) : Rdr Off β := via Off.k (fun z => match z with | .k n => some n | _ => none) (fun a' a h => by cases a' <;> cases h; rfl) x
def ox {β γ δ : Type} (x : Rdr Nat β) (y : Rdr Nat γ) (z : Rdr Nat δ) : Rdr Off (β × γ × δ) := via (fun p : Nat × Nat × Nat => Off.x p.1 p.2.1 p.2.2) (fun z => match z with | .x a b c => some (a, b, c) | _ => none) (fun a' a h => by cases a' <;> cases h; rfl) (pair x (pair y z))
def fi {β : Type} (k : IntKind) (x : Rdr Int β) : Rdr FV β := via (FV.i k) (fun z => match z with | .i k' n => cond (decide (k' = k)) (some n) none | _ => none) (fun a' a h => by
  cases a' with
  | i k' n =>
    cases hk : decide (k' = k) <;> simp only [hk] at h <;> first | (cases h; done) | (cases h; rw [of_decide_eq_true hk])
  | _ => cases h) x
def fb {β : Type} (x : Rdr Bool β) : Rdr FV β := via FV.b (fun z => match z with | .b n => some n | _ => none) (fun a' a h => by cases a' <;> cases h; rfl) x
def fs {β : Type} (x : Rdr ByteArray β) : Rdr FV β := via FV.s (fun z => match z with | .s n => some n | _ => none) (fun a' a h => by cases a' <;> cases h; rfl) x
def fq {β γ : Type} (x : Rdr Nat β) (y : Rdr (Nat → Bool) γ) : Rdr FV (β × γ) := via (fun p : Nat × (Nat → Bool) => FV.q p.1 p.2) (fun z => match z with | .q a b => some (a, b) | _ => none) (fun a' a h => by cases a' <;> cases h; rfl) (pair x y)
def kq {β γ : Type} (x : Rdr (Nat → Nat) β) (y : Rdr (Nat → Nat → Bool) γ) : Rdr Col (β × γ) := via (fun p : (Nat → Nat) × (Nat → Nat → Bool) => Col.q p.1 p.2) (fun z => match z with | .q a b => some (a, b) | _ => none) (fun a' a h => by cases a' <;> cases h; rfl) (pair x y)
def fu : Rdr FV Unit := one .u (fun l => match l with | .u => true | _ => false) fun b h => by cases b <;> first | rfl | cases h
def cf {β : Type} (x : Rdr FV β) : Rdr CV β := via CV.f (fun z => match z with | .f n => some n | _ => none) (fun a' a h => by cases a' <;> cases h; rfl) x
def cptr {β γ δ : Type} (x : Rdr Nat β) (y : Rdr Off γ) (z : Rdr Nat δ) : Rdr CV (β × γ × δ) := via (fun p : Nat × Off × Nat => CV.ptr p.1 p.2.1 p.2.2) (fun z => match z with | .ptr a b c => some (a, b, c) | _ => none) (fun a' a h => by cases a' <;> cases h; rfl) (pair x (pair y z))
def ccl {α β γ δ : Type} (u : Rdr Nat α) (x : Rdr Nat β) (y : Rdr Off γ) (z : Rdr Nat δ) : Rdr CV (α × β × γ × δ) := via (fun p : Nat × Nat × Off × Nat => CV.cl p.1 p.2.1 p.2.2.1 p.2.2.2) (fun z => match z with | .cl e a b c => some (e, a, b, c) | _ => none) (fun a' a h => by cases a' <;> cases h; rfl) (pair u (pair x (pair y z)))
def csl {β γ δ ε ζ : Type} (x : Rdr Nat β) (y : Rdr Off γ) (z : Rdr Sz δ) (u : Rdr Nat ε) (w : Rdr Bool ζ) : Rdr CV (β × γ × δ × ε × ζ) := via (fun p : Nat × Off × Sz × Nat × Bool => CV.sl p.1 p.2.1 p.2.2.1 p.2.2.2.1 p.2.2.2.2) (fun z => match z with | .sl a b c d e => some (a, b, c, d, e) | _ => none) (fun a' a h => by cases a' <;> cases h; rfl) (pair x (pair y (pair z (pair u w))))
def cfs {β γ δ : Type} (x : Rdr Nat β) (y : Rdr Nat γ) (z : Rdr (List Col) δ) : Rdr CV (β × γ × δ) := via (fun p : Nat × Nat × List Col => CV.fs p.1 p.2.1 p.2.2) (fun z => match z with | .fs a b c => some (a, b, c) | _ => none) (fun a' a h => by cases a' <;> cases h; rfl) (pair x (pair y z))
def cfp {β : Type} (x : Rdr (List FV) β) : Rdr CV β := via CV.fp (fun z => match z with | .fp a => some a | _ => none) (fun a' a h => by cases a' <;> cases h; rfl) x
def ku : Rdr Col Unit := one .u (fun l => match l with | .u => true | _ => false) fun b h => by cases b <;> first | rfl | cases h
def cnilp : Rdr CV Unit := one .nilp (fun l => match l with | .nilp => true | _ => false) fun b h => by cases b <;> first | rfl | cases h
def cnils : Rdr CV Unit := one .nils (fun l => match l with | .nils => true | _ => false) fun b h => by cases b <;> first | rfl | cases h
def cnilf : Rdr CV Unit := one .nilf (fun l => match l with | .nilf => true | _ => false) fun b h => by cases b <;> first | rfl | cases h
def cnili : Rdr CV Unit := one .nili (fun l => match l with | .nili => true | _ => false) fun b h => by cases b <;> first | rfl | cases h
def ki {β : Type} (k : IntKind) (x : Rdr (Nat → Int) β) : Rdr Col β := via (Col.i k) (fun z => match z with | .i k' n => cond (decide (k' = k)) (some n) none | _ => none) (fun a' a h => by
  cases a' with
  | i k' n =>
    cases hk : decide (k' = k) <;> simp only [hk] at h <;> first | (cases h; done) | (cases h; rw [of_decide_eq_true hk])
  | _ => cases h) x
def kb {β : Type} (x : Rdr (Nat → Bool) β) : Rdr Col β := via Col.b (fun z => match z with | .b n => some n | _ => none) (fun a' a h => by cases a' <;> cases h; rfl) x
def ks {β : Type} (x : Rdr (Nat → ByteArray) β) : Rdr Col β := via Col.s (fun z => match z with | .s n => some n | _ => none) (fun a' a h => by cases a' <;> cases h; rfl) x
def gc {β : Type} (x : Rdr CV β) : Rdr Sg β := via Sg.c (fun z => match z with | .c n => some n | _ => none) (fun a' a h => by cases a' <;> cases h; rfl) x
def ga {β γ : Type} (x : Rdr Sz β) (y : Rdr (List Col) γ) : Rdr Sg (β × γ) := via (fun p : Sz × List Col => Sg.a p.1 p.2) (fun z => match z with | .a n c => some (n, c) | _ => none) (fun a' a h => by cases a' <;> cases h; rfl) (pair x y)
def rc {β : Type} (x : Rdr CV β) : Rdr RV β := via RV.c (fun z => match z with | .c n => some n | _ => none) (fun a' a h => by cases a' <;> cases h; rfl) x
def ra {β : Type} (x : Rdr Blk β) : Rdr RV β := via RV.agg (fun z => match z with | .agg n => some n | _ => none) (fun a' a h => by cases a' <;> cases h; rfl) x
def ar {β : Type} (x : Rdr RV β) : Rdr AV β := via AV.r (fun z => match z with | .r n => some n | _ => none) (fun a' a h => by cases a' <;> cases h; rfl) x
def atup {β : Type} (x : Rdr (List RV) β) : Rdr AV β := via AV.tup (fun z => match z with | .tup n => some n | _ => none) (fun a' a h => by cases a' <;> cases h; rfl) x
def afn {β γ : Type} (x : Rdr Nat β) (y : Rdr (List RV) γ) : Rdr AV (β × γ) := via (fun p : Nat × List RV => AV.fn p.1 p.2) (fun z => match z with | .fn a b => some (a, b) | _ => none) (fun a' a h => by cases a' <;> cases h; rfl) (pair x y)
def aund : Rdr AV Unit := one .und (fun l => match l with | .und => true | _ => false) fun b h => by cases b <;> first | rfl | cases h
def st {β γ δ : Type} (x : Rdr (List AV) β) (y : Rdr (List (Option Blk)) γ) (z : Rdr (List Nat) δ) : Rdr St (β × γ × δ) := via (fun p : List AV × List (Option Blk) × List Nat => St.mk p.1 p.2.1 p.2.2) (fun z => some (z.tmps, z.heap, z.dirt)) (fun a' a h => by cases a'; cases h; rfl) (pair x (pair y z))
end Rdr
end Go.Ab
namespace Go.Proofs.YtphkdkkbbfnkaaaGreat
open Go.Ab
theorem mixed : Tryz.prog.follows .mixedOrders = true := by kernel_rfl
theorem own : ownKnob Tryz.prog.godebug = none := by kernel_rfl
theorem laid : laidOutB Tryz.prog = true := by kernel_rfl
end Go.Proofs.YtphkdkkbbfnkaaaGreat
