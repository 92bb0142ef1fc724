/-
  The abstract machine and the model: memory. What stays as it was; what a heap stands for; new blocks, stores, blocks that are dropped.
-/
import Derived.Test.YtphkdkkbbfnkaaaGreatAbS
namespace Go.Ab

/-! what stays as it was -/
structure FrameOK (w0 : World) (S : Nat → Nat → Prop) (w : World) : Prop where
  os : w.os = w0.os
  tape : w.tape = w0.tape
  output : w.output = w0.output
  size : w0.heap.size ≤ w.heap.size
  obj : ∀ B : Nat, B < w0.heap.size → (∀ c t fz, w0.heap[B]? ≠ some (.cells c t fz)) → w.heap[B]? = w0.heap[B]?
  fzn : ∀ a, w.frozen? a = w0.frozen? a
  row : ∀ (B : Nat) c t fz, w0.heap[B]? = some (.cells c t fz) → ∃ c', w.heap[B]? = some (.cells c' t fz) ∧ c'.size = c.size ∧ ∀ i : Nat, ¬ S B i → c'[i]? = c[i]?
theorem FrameOK.refl (w : World) (S : Nat → Nat → Prop) : FrameOK w S w :=
  ⟨rfl, rfl, rfl, Nat.le_refl _, fun _ _ _ => rfl, fun _ => rfl, fun _ c _ _ h => ⟨c, h, rfl, fun _ _ => rfl⟩⟩
theorem FrameOK.mono {w0 w : World} {S S' : Nat → Nat → Prop} (h : FrameOK w0 S w) (hs : ∀ B i, B < w0.heap.size → S B i → S' B i) : FrameOK w0 S' w :=
  ⟨h.os, h.tape, h.output, h.size, h.obj, h.fzn, fun B c t fz hb => by
    obtain ⟨c', h1, h2, h3⟩ := h.row B c t fz hb
    refine ⟨c', h1, h2, fun i hi => h3 i fun hS => hi (hs B i ?_ hS)⟩
    rcases Nat.lt_or_ge B w0.heap.size with h' | h'
    · exact h'
    · rw [Array.getElem?_eq_none h'] at hb; cases hb⟩
theorem FrameOK.trans {w0 w w' : World} {S S' : Nat → Nat → Prop} (h : FrameOK w0 S w) (h' : FrameOK w S' w') (hs : ∀ B i, B < w0.heap.size → S' B i → S B i) : FrameOK w0 S w' := by
  refine ⟨h'.os.trans h.os, h'.tape.trans h.tape, h'.output.trans h.output, Nat.le_trans h.size h'.size, fun B hB hn => ?_, fun a => (h'.fzn a).trans (h.fzn a), fun B c t fz hb => ?_⟩
  · have e := h.obj B hB hn
    rw [← e]
    exact h'.obj B (Nat.lt_of_lt_of_le hB h.size) (by rw [e]; exact hn)
  · obtain ⟨c1, e1, z1, k1⟩ := h.row B c t fz hb
    obtain ⟨c2, e2, z2, k2⟩ := h'.row B c1 t fz e1
    have hB : B < w0.heap.size := by
      rcases Nat.lt_or_ge B w0.heap.size with h' | h'
      · exact h'
      · rw [Array.getElem?_eq_none h'] at hb; cases hb
    exact ⟨c2, e2, z2.trans z1, fun i hi => (k2 i fun hS => hi (hs B i hB hS)).trans (k1 i hi)⟩
theorem FrameOK.drew {w0 w : World} {S : Nat → Nat → Prop} (h : FrameOK w0 S w) : FrameOK w0 S { w with drawn := w.drawn + 1 } := ⟨h.os, h.tape, h.output, h.size, h.obj, h.fzn, h.row⟩
theorem frozen?_alloc_row (w : World) (c : Array Value) (t : TypeId) (a : Addr) : (w.alloc (.cells c t)).frozen? a = w.frozen? a := by
  by_cases h : a.block = w.heap.size
  · have e1 : (w.alloc (.cells c t)).heap[a.block]? = some (.cells c t) := by
      rw [h]; show (w.heap.push _)[w.heap.size]? = _
      simp
    have e2 : w.heap[a.block]? = none := by rw [h]; simp
    simp [World.frozen?, e1, e2]
  · exact World.frozen?_alloc_old _ _ _ h
theorem FrameOK.alloc {w0 w : World} {S : Nat → Nat → Prop} (h : FrameOK w0 S w) (cs : Array Value) (ty : TypeId) : FrameOK w0 S (w.alloc (.cells cs ty)) := by
  generalize ho : Obj.cells cs ty = o
  have hlt : ∀ (B : Nat), B < w0.heap.size → (w.alloc o).heap[B]? = w.heap[B]? := fun B hB => by
    show (w.heap.push o)[B]? = _
    rw [Array.getElem?_push, if_neg (by have := h.size; omega)]
  refine ⟨h.os, h.tape, h.output, by rw [World.size_alloc]; have := h.size; omega, fun B hB hn => (hlt B hB).trans (h.obj B hB hn), fun a => by rw [← ho, frozen?_alloc_row]; exact h.fzn a, fun B c t fz hb => ?_⟩
  have hB : B < w0.heap.size := by
    rcases Nat.lt_or_ge B w0.heap.size with h' | h'
    · exact h'
    · rw [Array.getElem?_eq_none h'] at hb; cases hb
  rw [hlt B hB]
  exact h.row B c t fz hb
theorem FrameOK.setCell {w0 w : World} {S : Nat → Nat → Prop} (h : FrameOK w0 S w) {B i : Nat} (hs : w0.heap.size ≤ B ∨ S B i) (v : Value) : FrameOK w0 S (w.setCell ⟨B, i, none⟩ v) := by
  refine ⟨h.os, h.tape, h.output, by simpa [World.setCell] using h.size, fun B' hB hn => ?_, fun a => (World.frozen?_setCell _ _ _ _).trans (h.fzn a), fun B' c t fz hb => ?_⟩
  · by_cases e : B = B'
    · subst e
      have := h.obj B hB hn
      simp only [World.setCell, Array.getElem?_modify, if_true, this]
      cases hh : w0.heap[B]? with
      | none => rfl
      | some x => cases x <;> first | rfl | exact absurd hh (hn _ _ _)
    · simp only [World.setCell, Array.getElem?_modify, e, if_false]; exact h.obj B' hB hn
  · have hB : B' < w0.heap.size := by
      rcases Nat.lt_or_ge B' w0.heap.size with h' | h'
      · exact h'
      · rw [Array.getElem?_eq_none h'] at hb; cases hb
    obtain ⟨c1, e1, z1, k1⟩ := h.row B' c t fz hb
    by_cases e : B = B'
    · subst e
      refine ⟨c1.setIfInBounds i v, by simp [World.setCell, Array.getElem?_modify, e1], by simpa using z1, fun j hj => ?_⟩
      have hne : i ≠ j := fun e => by subst e; rcases hs with hs | hs; omega; exact hj hs
      rw [Array.getElem?_setIfInBounds_ne hne]
      exact k1 j hj
    · exact ⟨c1, by simp only [World.setCell, Array.getElem?_modify, e, if_false]; exact e1, z1, k1⟩
theorem FrameOK.setCells {w0 : World} {S : Nat → Nat → Prop} {B : Nat} : ∀ {vs : List Value} {o : Nat} {w : World}, FrameOK w0 S w → (w0.heap.size ≤ B ∨ ∀ j, j < vs.length → S B (o + j)) → FrameOK w0 S (w.setCells B o vs)
  | [], _, _, h, _ => h
  | v :: vs, o, w, h, hs => by
    rw [World.setCells]
    refine FrameOK.setCells (h.setCell (hs.imp id fun h => by simpa using h 0 (by simp)) v) (hs.imp id fun h j hj => ?_)
    have := h (j + 1) (by simp; omega)
    rwa [show o + (j + 1) = o + 1 + j by omega] at this

variable [Amb]
/-! cells -/
def cl (w : World) (B i : Nat) : Option Value := w.cell? ⟨B, i, none⟩
def fz (w : World) (B i : Nat) : Bool := w.frozen? ⟨B, i, none⟩
omit [Amb] in
theorem cl_lt {w : World} {B i : Nat} (h : (cl w B i).isSome = true) : B < w.heap.size := by
  rcases Nat.lt_or_ge B w.heap.size with h' | h'
  · exact h'
  · simp [cl, World.cell?, Array.getElem?_eq_none h'] at h
omit [Amb] in
theorem cl_alloc {w : World} {o : Obj} {B i : Nat} (h : B < w.heap.size) : cl (w.alloc o) B i = cl w B i := World.cell?_alloc_lt _ _ _ h
omit [Amb] in
theorem fz_alloc {w : World} {o : Obj} {B i : Nat} (h : B < w.heap.size) : fz (w.alloc o) B i = fz w B i := World.frozen?_alloc_old _ _ _ (Nat.ne_of_lt h)
omit [Amb] in
theorem FrameOK.cl {w0 w : World} {S : Nat → Nat → Prop} (h : FrameOK w0 S w) {B i : Nat} (hB : B < w0.heap.size) (hs : ¬ S B i) : cl w B i = cl w0 B i := by
  simp only [Ab.cl, World.cell?]
  cases hh : w0.heap[B]? with
  | none => rw [h.obj B hB (by simp [hh]), hh]
  | some x =>
    cases x with
    | cells c t f =>
      obtain ⟨c', e, _, k⟩ := h.row B c t f hh
      simp only [e]
      simpa using k i hs
    | _ => rw [h.obj B hB (by simp [hh]), hh]
omit [Amb] in
theorem FrameOK.fz {w0 w : World} {S : Nat → Nat → Prop} (h : FrameOK w0 S w) {B i : Nat} (hB : B < w0.heap.size) : fz w B i = fz w0 B i := by
  simp only [Ab.fz, World.frozen?]
  cases hh : w0.heap[B]? with
  | none => rw [h.obj B hB (by simp [hh]), hh]
  | some x =>
    cases x with
    | cells c t f =>
      obtain ⟨c', e, _, k⟩ := h.row B c t f hh
      simp only [e]
    | _ => rw [h.obj B hB (by simp [hh]), hh]

/-! a heap -/
structure AmbOK (w : World) : Prop where
  sz : Amb.h0 ≤ w.heap.size
  fr : ∀ B i, Amb.h0 ≤ B → fz w B i = false
  st : ∀ B i v, Amb.fs B i = some v → B < Amb.h0 ∧ cl w B i = some v
theorem AmbOK.same {w w' : World} (h : AmbOK w) (e : w'.heap = w.heap) : AmbOK w' := by
  refine ⟨by rw [e]; exact h.sz, fun B i hB => ?_, fun B i v hv => ?_⟩
  · have := h.fr B i hB
    simp only [fz, World.frozen?] at this ⊢
    rw [e]; exact this
  · obtain ⟨h1, h2⟩ := h.st B i v hv
    refine ⟨h1, ?_⟩
    simp only [cl, World.cell?] at h2 ⊢
    rw [e]; exact h2
theorem AmbOK.alloc {w : World} (h : AmbOK w) (cs : Array Value) (t : TypeId) : AmbOK (w.alloc (.cells cs t)) := by
  refine ⟨by rw [World.size_alloc]; have := h.sz; omega, fun B i hB => ?_, fun B i v hv => ?_⟩
  · unfold fz
    rw [frozen?_alloc_row]; exact h.fr B i hB
  · obtain ⟨h1, h2⟩ := h.st B i v hv
    exact ⟨h1, by rw [cl_alloc (cl_lt (by rw [h2]; rfl))]; exact h2⟩
structure HRel (π : Pi) (c : Nat → Nat → CV) (z : Nat → Option Nat) (w : World) : Prop where
  am : AmbOK w
  lb : ∀ b B s q e, z b ≠ none → π b = some (B, s, q, e) → s < e → Amb.h0 ≤ B
  hp : ∀ b n, z b = some n → ∃ B s e, π b = some (B, s, n, e) ∧ s + n ≤ e ∧ (∀ i, s ≤ i → i < e → (cl w B i).isSome = true ∧ fz w B i = false) ∧ ∀ j, j < n → ∃ v, cl w B (s + j) = some v ∧ (c b j).rel π v
  dj : ∀ b b' B s q e s' q' e', b ≠ b' → z b ≠ none → z b' ≠ none → π b = some (B, s, q, e) → π b' = some (B, s', q', e') → ∀ i, s ≤ i → i < e → s' ≤ i → i < e' → False

theorem HRel.mono_w {π : Pi} {c : Nat → Nat → CV} {z : Nat → Option Nat} {w w' : World} (h : HRel π c z w)
    (ha : AmbOK w') (hw : ∀ b B s q e, z b ≠ none → π b = some (B, s, q, e) → ∀ i, s ≤ i → i < e → cl w' B i = cl w B i ∧ fz w' B i = fz w B i) : HRel π c z w' := by
  refine ⟨ha, h.lb, fun b n hz => ?_, h.dj⟩
  obtain ⟨B, s, e, hb, hle, h1, h2⟩ := h.hp b n hz
  refine ⟨B, s, e, hb, hle, fun i hi he => ?_, fun j hj => ?_⟩
  · have := hw b B s n e (by simp [hz]) hb i hi he
    rw [this.1, this.2]; exact h1 i hi he
  · have := hw b B s n e (by simp [hz]) hb (s + j) (by omega) (by omega)
    rw [this.1]; exact h2 j hj
theorem HRel.mono_pi {π π' : Pi} {c : Nat → Nat → CV} {z : Nat → Option Nat} {w : World} (h : HRel π c z w) (hx : Ext π π') : HRel π' c z w := by
  refine ⟨h.am, fun b B s q e hz hb hse => ?_, fun b n hz => ?_, fun b b' B s q e s' q' e' hne hz hz' hb hb' => ?_⟩
  · cases hh : z b with
    | none => exact absurd hh hz
    | some n =>
      obtain ⟨B1, s1, e1, hb1, _⟩ := h.hp b n hh
      have e2 := hx _ _ hb1
      rw [hb] at e2; cases e2
      exact h.lb b B s _ e (by rw [hh]; simp) hb1 hse
  · obtain ⟨B, s, e, hb, hle, h1, h2⟩ := h.hp b n hz
    exact ⟨B, s, e, hx _ _ hb, hle, h1, fun j hj => let ⟨v, a, r⟩ := h2 j hj; ⟨v, a, CV.rel_mono hx _ _ r⟩⟩
  · have old : ∀ b, z b ≠ none → ∃ p, π b = some p := fun b hz => by
      cases hh : z b with
      | none => exact absurd hh hz
      | some n => obtain ⟨B, s, e, hb, _⟩ := h.hp b n hh; exact ⟨_, hb⟩
    obtain ⟨p, hp⟩ := old b hz
    obtain ⟨p', hp'⟩ := old b' hz'
    have e1 := hx _ _ hp; rw [hb] at e1
    have e2 := hx _ _ hp'; rw [hb'] at e2
    exact h.dj b b' B s q e s' q' e' hne hz hz' (hp.trans e1.symm) (hp'.trans e2.symm)
theorem HRel.kill {π : Pi} {c : Nat → Nat → CV} {z : Nat → Option Nat} {w : World} (h : HRel π c z w) (b : Nat) :
    HRel π (fun b' j => if b' = b then .f .u else c b' j) (fun b' => if b' = b then none else z b') w := by
  refine ⟨h.am, fun b' B s q e hz hb hse => ?_, fun b' n hz => ?_, fun b1 b2 B s q e s' q' e' hne hz hz' => ?_⟩
  · by_cases e : b' = b
    · simp [e] at hz
    · simp only [e, if_false] at hz
      exact h.lb b' B s q _ hz hb hse
  · by_cases e : b' = b
    · simp [e] at hz
    · simp only [e, if_false] at hz ⊢
      exact h.hp b' n hz
  · by_cases e1 : b1 = b
    · simp [e1] at hz
    by_cases e2 : b2 = b
    · simp [e2] at hz'
    simp only [e1, e2, if_false] at hz hz'
    exact h.dj b1 b2 B s q e s' q' e' hne hz hz'
theorem HRel.new {π : Pi} {c : Nat → Nat → CV} {z : Nat → Option Nat} {w : World} (h : HRel π c z w) {b B s e : Nat} {k : Blk} (hb : π b = some (B, s, k.size, e)) (hle : s + k.size ≤ e)
    (h1 : ∀ i, s ≤ i → i < e → (cl w B i).isSome = true ∧ fz w B i = false) (h2 : ∀ j, j < k.size → ∃ v, cl w B (s + j) = some v ∧ (k.get j).rel π v)
    (hd : ∀ b' s' q' e', b' ≠ b → z b' ≠ none → π b' = some (B, s', q', e') → ∀ i, s ≤ i → i < e → s' ≤ i → i < e' → False) (hlb : s < e → Amb.h0 ≤ B) :
    HRel π (fun b' j => if b' = b then (if j < k.size then k.get j else .f .u) else c b' j) (fun b' => if b' = b then some k.size else z b') w := by
  refine ⟨h.am, fun b' B' s' q' e' hz hb' hse => ?_, fun b' n hz => ?_, fun b1 b2 B' s1 q1 e1 s2 q2 e2 hne hz hz' hb1 hb2 i i1 i2 i3 i4 => ?_⟩
  · by_cases x : b' = b
    · subst x
      rw [hb] at hb'; cases hb'
      exact hlb hse
    · simp only [x, if_false] at hz
      exact h.lb b' B' s' q' e' hz hb' hse
  · by_cases e' : b' = b
    · subst e'
      simp only [if_true, Option.some.injEq] at hz
      subst hz
      refine ⟨B, s, e, hb, hle, h1, fun j hj => ?_⟩
      simp only [if_true, hj]
      exact h2 j hj
    · simp only [e', if_false] at hz ⊢
      exact h.hp b' n hz
  · by_cases x1 : b1 = b
    · subst x1
      have x2 : b2 ≠ b1 := fun x => hne x.symm
      rw [hb] at hb1; cases hb1
      simp only [x2, if_false] at hz'
      exact hd b2 s2 q2 e2 x2 hz' hb2 i i1 i2 i3 i4
    · by_cases x2 : b2 = b
      · subst x2
        rw [hb] at hb2; cases hb2
        simp only [x1, if_false] at hz
        exact hd b1 s1 q1 e1 x1 hz hb1 i i3 i4 i1 i2
      · simp only [x1, x2, if_false] at hz hz'
        exact h.dj b1 b2 B' s1 q1 e1 s2 q2 e2 hne hz hz' hb1 hb2 i i1 i2 i3 i4

omit [Amb] in
theorem cl_setCells_out {w : World} {B o : Nat} {vs : List Value} {B' i : Nat} (h : B' = B → i < o ∨ o + vs.length ≤ i) : cl (w.setCells B o vs) B' i = cl w B' i :=
  World.cell?_setCells_out B vs o w ⟨B', i, none⟩ fun e _ => h e
omit [Amb] in
theorem cl_setCells_in {w : World} {B o : Nat} {vs : List Value} (h : ∀ j, j < vs.length → (cl w B (o + j)).isSome = true) {j : Nat} (hj : j < vs.length) : cl (w.setCells B o vs) B (o + j) = some vs[j] :=
  World.cell?_setCells_in B vs o w h j hj
omit [Amb] in
theorem fz_setCells {w : World} {B o : Nat} {vs : List Value} {B' i : Nat} : fz (w.setCells B o vs) B' i = fz w B' i := World.frozen?_setCells B vs o w _
omit [Amb] in
theorem size_setCells {B : Nat} : ∀ {vs : List Value} {o : Nat} {w : World}, (w.setCells B o vs).heap.size = w.heap.size
  | [], _, _ => rfl
  | v :: vs, o, w => by rw [World.setCells, size_setCells]; simp [World.setCell]
omit [Amb] in
theorem isSome_setCells {w : World} {B o : Nat} {vs : List Value} (h : ∀ j, j < vs.length → (cl w B (o + j)).isSome = true) {B' i : Nat} (hi : (cl w B' i).isSome = true) : (cl (w.setCells B o vs) B' i).isSome = true := by
  by_cases hc : B' = B ∧ o ≤ i ∧ i < o + vs.length
  · obtain ⟨rfl, h1, h2⟩ := hc
    have := cl_setCells_in h (j := i - o) (by omega)
    rw [show o + (i - o) = i by omega] at this
    simp [this]
  · rw [cl_setCells_out]; exact hi
    intro e; omega
theorem list_rel {π : Pi} {k : Blk} {xs : List Value} (h : All2 (CV.rel π) k.list xs) : xs.length = Blk.size k ∧ ∀ j, j < Blk.size k → ∃ x, xs[j]? = some x ∧ (Blk.get k j).rel π x := by
  refine ⟨by rw [← h.length, Blk.list_length], fun j hj => ?_⟩
  exact h.get (by rw [Blk.list_get?, if_pos hj])
theorem rel_list {π : Pi} {k : Blk} {xs : List Value} (hl : xs.length = Blk.size k) (h : ∀ j, j < Blk.size k → ∃ x, xs[j]? = some x ∧ (Blk.get k j).rel π x) : All2 (CV.rel π) k.list xs := by
  refine All2.of_get (by rw [Blk.list_length, hl]) fun i a b ha hb => ?_
  rw [Blk.list_get?] at ha
  split at ha
  · rename_i hi
    cases ha
    obtain ⟨x, hx, hr⟩ := h i hi
    rw [hb] at hx; cases hx
    exact hr
  · cases ha
theorem AmbOK.setCells {w : World} (h : AmbOK w) {B o : Nat} {xs : List Value} (hB : 0 < xs.length → Amb.h0 ≤ B) : AmbOK (w.setCells B o xs) := by
  refine ⟨by rw [size_setCells]; exact h.sz, fun B' i hB' => by rw [fz_setCells]; exact h.fr B' i hB', fun B' i v hv => ?_⟩
  obtain ⟨h1, h2⟩ := h.st B' i v hv
  refine ⟨h1, ?_⟩
  rw [cl_setCells_out]
  · exact h2
  · intro e
    rcases Nat.eq_zero_or_pos xs.length with h0 | h0
    · omega
    · have := hB h0; omega
theorem HRel.set {π : Pi} {c : Nat → Nat → CV} {z : Nat → Option Nat} {w : World} (h : HRel π c z w) {b n B s e lo : Nat} {vs : Blk} {xs : List Value} (hz : z b = some n) (hb : π b = some (B, s, n, e)) (hn : lo + Blk.size vs ≤ n)
    (hx : All2 (CV.rel π) vs.list xs) :
    HRel π (fun b' j => if b' = b ∧ lo ≤ j ∧ j < lo + Blk.size vs then Blk.get vs (j - lo) else c b' j) z (w.setCells B (s + lo) xs) := by
  obtain ⟨B', s', e', hb', hle, h1, h2⟩ := h.hp b n hz
  rw [hb] at hb'; cases hb'
  obtain ⟨hlen, hget⟩ := list_rel hx
  have hin : ∀ j, j < xs.length → (cl w B (s + lo + j)).isSome = true := fun j hj => (h1 _ (by omega) (by omega)).1
  refine ⟨h.am.setCells fun hl => h.lb b B s n e (by rw [hz]; simp) hb (by omega), h.lb, fun b' n' hz' => ?_, h.dj⟩
  obtain ⟨B2, s2, e2, hb2, hle2, k1, k2⟩ := h.hp b' n' hz'
  refine ⟨B2, s2, e2, hb2, hle2, fun i hi he => ⟨isSome_setCells hin (k1 i hi he).1, by rw [fz_setCells]; exact (k1 i hi he).2⟩, fun j hj => ?_⟩
  by_cases eb : b' = b
  · subst eb
    rw [hb] at hb2; cases hb2
    by_cases hc : lo ≤ j ∧ j < lo + Blk.size vs
    · have hj' : j - lo < xs.length := by omega
      have := cl_setCells_in hin hj'
      rw [show s + lo + (j - lo) = s + j by omega] at this
      refine ⟨_, this, ?_⟩
      rw [if_pos ⟨rfl, hc⟩]
      obtain ⟨x, hx1, hx2⟩ := hget (j - lo) (by omega)
      rw [List.getElem?_eq_getElem hj'] at hx1
      cases hx1
      exact hx2
    · rw [if_neg (by simp only [true_and]; exact hc), cl_setCells_out (fun _ => by omega)]
      exact k2 j hj
  · rw [if_neg (by simp [eb]), cl_setCells_out]
    · exact k2 j hj
    · intro e; subst e
      by_cases hc : s + lo ≤ s2 + j ∧ s2 + j < s + lo + xs.length
      · exact (h.dj b' b B2 s2 _ e2 s _ e eb (by simp [hz']) (by simp [hz]) hb2 hb (s2 + j) (by omega) (by omega) (by omega) (by omega)).elim
      · omega

/-! a state of a call -/
structure Cx where
  w0 : World
  k : Nat
  p0 : Pi
  N : Nat
def foot (p0 : Pi) (k : Nat) (D : Nat → Prop) (B i : Nat) : Prop := ∃ b s q e, b < k ∧ D b ∧ p0 b = some (B, s, q, e) ∧ s ≤ i ∧ i < e
structure Rel (X : Cx) (D : Nat → Prop) (π : Pi) (g : Gt) (a : Act) (w : World) : Prop where
  tm : ∀ i, (g.t i).rel π (a.tmps.getD i undef)
  nt : a.tmps.size = X.N
  df : a.defers = []
  hp : HRel π g.c g.z w
  old : ∀ b, b < X.k → π b = X.p0 b
  ft : ∀ b B s q e, X.k ≤ b → g.z b ≠ none → π b = some (B, s, q, e) → B < X.w0.heap.size → ∀ i, s ≤ i → i < e → foot X.p0 X.k D B i
  fr : FrameOK X.w0 (foot X.p0 X.k D) w

theorem Rel.dst {X : Cx} {D : Nat → Prop} {π : Pi} {g : Gt} {a : Act} {w : World} (R : Rel X D π g a w) {dst : Option Tmp} (hd : ∀ d, dst = some d → d < X.N) {v : AV} {x : Value} (hv : v.rel π x) :
    Rel X D π (appGs (dstU dst v) g) (a.put dst x) w := by
  cases dst with
  | none => exact R
  | some d =>
    have hlt : d < a.tmps.size := by rw [R.nt]; exact hd d rfl
    refine ⟨fun i => ?_, by simpa [Act.put] using R.nt, R.df, R.hp, R.old, R.ft, R.fr⟩
    show (if i = d then v else g.t i).rel π ((a.tmps.setIfInBounds d x).getD i undef)
    by_cases e : i = d
    · subst e; simp [hlt, hv]
    · rw [if_neg e]
      have := R.tm i
      simpa [Array.getElem?_setIfInBounds_ne (Ne.symm e)] using this
theorem Rel.mono_pi {X : Cx} {D : Nat → Prop} {π π' : Pi} {g : Gt} {a : Act} {w : World} (R : Rel X D π g a w) (hx : Ext π π') (ho : ∀ b, b < X.k → π' b = π b) : Rel X D π' g a w := by
  refine ⟨fun i => AV.rel_mono hx _ _ (R.tm i), R.nt, R.df, R.hp.mono_pi hx, fun b hb => (ho b hb).trans (R.old b hb), fun b B s q e hk hz hb => ?_, R.fr⟩
  have : ∃ p, π b = some p := by
    cases hh : g.z b with
    | none => exact absurd hh hz
    | some n => obtain ⟨B, s, e, hb, _⟩ := R.hp.hp b n hh; exact ⟨_, hb⟩
  obtain ⟨p, hp⟩ := this
  have := hx _ _ hp
  rw [hb] at this; cases this
  exact R.ft b B s q e hk hz hp
theorem Rel.mono_D {X : Cx} {D D' : Nat → Prop} {π : Pi} {g : Gt} {a : Act} {w : World} (R : Rel X D π g a w) (h : ∀ b, D b → D' b) : Rel X D' π g a w :=
  ⟨R.tm, R.nt, R.df, R.hp, R.old, fun b B s q e hk hz hb hB i h1 h2 => let ⟨b0, s0, q0, e0, x1, x2, x3⟩ := R.ft b B s q e hk hz hb hB i h1 h2; ⟨b0, s0, q0, e0, x1, h _ x2, x3⟩,
   R.fr.mono fun B i _ ⟨b0, s0, q0, e0, x1, x2, x3⟩ => ⟨b0, s0, q0, e0, x1, h _ x2, x3⟩⟩
theorem Rel.drew {X : Cx} {D : Nat → Prop} {π : Pi} {g : Gt} {a : Act} {w : World} (R : Rel X D π g a w) : Rel X D π g a { w with drawn := w.drawn + 1 } :=
  ⟨R.tm, R.nt, R.df, R.hp.mono_w (R.hp.am.same rfl) fun _ _ _ _ _ _ _ _ _ _ => ⟨rfl, rfl⟩, R.old, R.ft, R.fr.drew⟩
theorem Rel.kill {X : Cx} {D : Nat → Prop} {π : Pi} {g : Gt} {a : Act} {w : World} (R : Rel X D π g a w) (b : Nat) : Rel X D π ((Up.kill b).appG g) a w := by
  refine ⟨R.tm, R.nt, R.df, R.hp.kill b, R.old, fun b' B s q e hk hz => ?_, R.fr⟩
  by_cases eb : b' = b
  · exact absurd (by simp [Up.appG, eb]) hz
  · exact R.ft b' B s q e hk (by simpa [Up.appG, eb] using hz)

def upd (π : Pi) (b : Nat) (p : Nat × Nat × Nat × Nat) : Pi := fun b' => if b' = b then some p else π b'
omit [Amb] in
theorem upd_self (π : Pi) (b : Nat) (p : Nat × Nat × Nat × Nat) : upd π b p b = some p := by simp [upd]
omit [Amb] in
theorem upd_ext {π : Pi} {b : Nat} (h : π b = none) (p : Nat × Nat × Nat × Nat) : Ext π (upd π b p) := by
  intro b' q hq
  simp only [upd]
  by_cases e : b' = b
  · subst e; rw [h] at hq; cases hq
  · simp [e, hq]
theorem Rel.new {X : Cx} {D : Nat → Prop} {π : Pi} {g : Gt} {a : Act} {w : World} (R : Rel X D π g a w) {b B s e : Nat} {k : Blk} (hb : π b = some (B, s, k.size, e)) (hk : X.k ≤ b) (hle : s + k.size ≤ e)
    (h1 : ∀ i, s ≤ i → i < e → (cl w B i).isSome = true ∧ fz w B i = false) (h2 : ∀ j, j < k.size → ∃ v, cl w B (s + j) = some v ∧ (k.get j).rel π v)
    (hd : ∀ b' s' q' e', b' ≠ b → g.z b' ≠ none → π b' = some (B, s', q', e') → ∀ i, s ≤ i → i < e → s' ≤ i → i < e' → False)
    (hf : B < X.w0.heap.size → ∀ i, s ≤ i → i < e → foot X.p0 X.k D B i) (hlb : s < e → Amb.h0 ≤ B := by intro h; omega) : Rel X D π ((Up.new b k).appG g) a w := by
  refine ⟨R.tm, R.nt, R.df, R.hp.new hb hle h1 h2 hd hlb, R.old, fun b' B' s' q' e' hk' hz hb' hB i i1 i2 => ?_, R.fr⟩
  by_cases eb : b' = b
  · subst eb; rw [hb] at hb'; cases hb'; exact hf hB i i1 i2
  · exact R.ft b' B' s' q' e' hk' (by simpa [Up.appG, eb] using hz) hb' hB i i1 i2
theorem Rel.alloc {X : Cx} {D : Nat → Prop} {π : Pi} {g : Gt} {a : Act} {w : World} (R : Rel X D π g a w) {b e : Nat} {k : Blk} {cs : Array Value} {t : TypeId} (hb : π b = none) (hk : X.k ≤ b) (hle : k.size ≤ e) (he : e ≤ cs.size)
    (h2 : ∀ j, j < k.size → ∃ v, cs[j]? = some v ∧ (k.get j).rel π v) :
    Rel X D (upd π b (w.heap.size, 0, k.size, e)) ((Up.new b k).appG g) a (w.alloc (.cells cs t)) := by
  have hx := upd_ext hb (w.heap.size, 0, k.size, e)
  have live : ∀ b' B' s' q' e', g.z b' ≠ none → π b' = some (B', s', q', e') → ∀ i, s' ≤ i → i < e' → B' < w.heap.size := fun b' B' s' q' e' hz hb' i i1 i2 => by
    cases hh : g.z b' with
    | none => exact absurd hh hz
    | some n =>
      obtain ⟨_, _, _, hb2, _, k1, _⟩ := R.hp.hp b' n hh
      rw [hb'] at hb2; cases hb2
      exact cl_lt (k1 i i1 i2).1
  have R1 : Rel X D π g a (w.alloc (.cells cs t)) :=
    ⟨R.tm, R.nt, R.df, R.hp.mono_w (R.hp.am.alloc cs t) fun b' B' s' q' e' hz hb' i i1 i2 => ⟨cl_alloc (live b' B' s' q' e' hz hb' i i1 i2), fz_alloc (live b' B' s' q' e' hz hb' i i1 i2)⟩, R.old, R.ft, R.fr.alloc _ _⟩
  have R2 := R1.mono_pi hx (fun b' hb' => by simp only [upd]; rw [if_neg (by omega)])
  have hcl : ∀ i, cl (w.alloc (.cells cs t)) w.heap.size i = cs[i]? := fun i => World.cell?_alloc_new w cs t i
  refine R2.new (s := 0) (upd_self _ _ _) hk (by omega) (fun i _ i2 => ⟨?_, World.frozen?_alloc_new w cs t i⟩) (fun j hj => ?_) (fun b' s' q' e' hne hz hb' i _ _ i3 i4 => ?_) (fun hB => ?_) (fun _ => R.hp.am.sz)
  · rw [hcl]; simp; omega
  · obtain ⟨v, hv, hr⟩ := h2 j hj
    exact ⟨v, by rw [Nat.zero_add, hcl]; exact hv, CV.rel_mono hx _ _ hr⟩
  · simp only [upd, hne, if_false] at hb'
    exact absurd (live b' _ s' q' e' hz hb' i i3 i4) (Nat.lt_irrefl _)
  · have := R.fr.size; omega
theorem Rel.set {X : Cx} {D : Nat → Prop} {π : Pi} {g : Gt} {a : Act} {w : World} (R : Rel X D π g a w) {b n B s e : Nat} {o : Off} {vs : Blk} {xs : List Value} (hz : g.z b = some n) (hb : π b = some (B, s, n, e)) (hn : o.val + Blk.size vs ≤ n)
    (hx : All2 (CV.rel π) vs.list xs) (hD : b < X.k → D b) : Rel X D π ((Up.c b o vs).appG g) a (w.setCells B (s + o.val) xs) := by
  refine ⟨R.tm, R.nt, R.df, R.hp.set hz hb hn hx, R.old, R.ft, R.fr.setCells ?_⟩
  obtain ⟨B', s', e', hb', hle, h1, h2⟩ := R.hp.hp b n hz
  rw [hb] at hb'; cases hb'
  have hlen := (list_rel hx).1
  rcases Nat.lt_or_ge B X.w0.heap.size with hB | hB
  · right
    intro j hj
    rcases Nat.lt_or_ge b X.k with hk | hk
    · exact ⟨b, s, n, e, hk, hD hk, (R.old b hk).symm.trans hb, by omega, by omega⟩
    · exact R.ft b B s n e hk (by simp [hz]) hb hB _ (by omega) (by omega)
  · exact .inl hB
end Go.Ab
