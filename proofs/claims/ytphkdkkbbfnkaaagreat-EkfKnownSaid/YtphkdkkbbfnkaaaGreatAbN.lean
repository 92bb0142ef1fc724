/-
  The abstract machine and the model: what is no more reached is dropped, the rest numbered anew.
-/
import Derived.Test.YtphkdkkbbfnkaaaGreatAbL
namespace Go.Ab
variable [Amb]

def piG (π : Pi) (H : Nat) (m : List Nat) : Pi := fun b => if b < H then π b else match m[b - H]? with
  | some b0 => π b0
  | none => none
def MPre (m m' : List Nat) : Prop := ∃ t, m' = m ++ t
omit [Amb] in
theorem MPre.refl (m : List Nat) : MPre m m := ⟨[], by simp⟩
omit [Amb] in
theorem MPre.trans {a b c : List Nat} (h : MPre a b) (k : MPre b c) : MPre a c := by
  obtain ⟨t, rfl⟩ := h; obtain ⟨u, rfl⟩ := k; exact ⟨t ++ u, by simp⟩
omit [Amb] in
theorem MPre.get {m m' : List Nat} (h : MPre m m') {j b : Nat} (hj : m[j]? = some b) : m'[j]? = some b := by
  obtain ⟨t, rfl⟩ := h
  rw [List.getElem?_append_left (List.getElem?_eq_some_iff.1 hj).1, hj]
omit [Amb] in
theorem MPre.ext {π : Pi} {H : Nat} {m m' : List Nat} (h : MPre m m') : Ext (piG π H m) (piG π H m') := by
  intro b p hp
  unfold piG at hp ⊢
  split
  · rename_i hb; rw [if_pos hb] at hp; exact hp
  · rename_i hb
    rw [if_neg hb] at hp
    cases hj : m[b - H]? with
    | none => rw [hj] at hp; cases hp
    | some b0 => rw [h.get hj]; rw [hj] at hp; exact hp
def MOk (H : Nat) (m : List Nat) : Prop := m.Nodup ∧ ∀ b ∈ m, H ≤ b
omit [Amb] in
theorem idx_some {b : Nat} : ∀ {m : List Nat} {i0 i : Nat}, idx b m i0 = some i → ∃ k, i = i0 + k ∧ m[k]? = some b
  | [], _, _, h => by simp [idx] at h
  | x :: m, i0, i, h => by
    simp only [idx] at h
    split at h
    · rename_i hx
      cases h
      exact ⟨0, rfl, by simp [Nat.eq_of_beq_eq_true hx]⟩
    · obtain ⟨k, h1, h2⟩ := idx_some h
      exact ⟨k + 1, by omega, by simpa using h2⟩
omit [Amb] in
theorem idx_none {b : Nat} : ∀ {m : List Nat} {i0 : Nat}, idx b m i0 = none → b ∉ m
  | [], _, _ => by simp
  | x :: m, i0, h => by
    simp only [idx] at h
    split at h
    · cases h
    · rename_i hx
      have := idx_none h
      simp only [List.mem_cons, not_or]
      exact ⟨fun e => by subst e; simp at hx, this⟩
omit [Amb] in
theorem renId_spec {H b : Nat} {m : List Nat} : MPre m (renId H b m).2 ∧ (MOk H m → MOk H (renId H b m).2) ∧ ∀ π, piG π H (renId H b m).2 (renId H b m).1 = π b := by
  unfold renId
  split
  · rename_i hb
    have hb := Nat.le_of_ble_eq_true hb
    split
    · rename_i i hi
      obtain ⟨k, h1, h2⟩ := idx_some hi
      refine ⟨MPre.refl _, id, fun π => ?_⟩
      unfold piG
      rw [if_neg (by omega), show H + i - H = k by omega, h2]
    · rename_i hi
      have hnm := idx_none hi
      refine ⟨⟨_, rfl⟩, fun ok => ⟨?_, fun x hx => ?_⟩, fun π => ?_⟩
      · rw [List.nodup_append]
        exact ⟨ok.1, by simp, fun x hx y hy e => by simp at hy; subst hy; subst e; exact hnm hx⟩
      · rcases List.mem_append.1 hx with h | h
        · exact ok.2 x h
        · simp at h; omega
      · unfold piG
        rw [if_neg (by omega), show H + m.length - H = m.length by omega]
        simp
  · rename_i hb
    have hb : b < H := by
      rcases Nat.lt_or_ge b H with h | h
      · exact h
      · have := Nat.ble_eq_true_of_le h; simp [this] at hb
    exact ⟨MPre.refl _, id, fun π => by unfold piG; rw [if_pos hb]⟩
structure Gc {α : Type} (R : Pi → α → Value → Prop) (H : Nat) (a : α) (m : List Nat) (r : α × List Nat) : Prop where
  pre : MPre m r.2
  ok : MOk H m → MOk H r.2
  rel : ∀ π x, R π a x → R (piG π H r.2) r.1 x
theorem gcC_spec (H : Nat) (c : CV) (m : List Nat) : Gc CV.rel H c m (gcC H c m) := by
  cases c <;> simp only [gcC]
  case ptr b o n =>
    obtain ⟨h1, h2, h3⟩ := renId_spec (H := H) (b := b) (m := m)
    refine ⟨h1, h2, fun π x ⟨B, s, q, e, hp, hx⟩ => ⟨B, s, q, e, ?_, hx⟩⟩
    rw [h3]; exact hp
  case cl f b o n =>
    obtain ⟨h1, h2, h3⟩ := renId_spec (H := H) (b := b) (m := m)
    refine ⟨h1, h2, fun π x ⟨B, s, q, e, hp, hx⟩ => ⟨B, s, q, e, ?_, hx⟩⟩
    rw [h3]; exact hp
  case sl b o l z w =>
    obtain ⟨h1, h2, h3⟩ := renId_spec (H := H) (b := b) (m := m)
    exact ⟨h1, h2, fun π x ⟨B, s, q, e, hp, hx⟩ => ⟨B, s, q, e, by rw [h3]; exact hp, hx⟩⟩
  all_goals exact ⟨MPre.refl _, id, fun π x hx => hx⟩
omit [Amb] in
theorem all2_of_pt {α : Type} {R R' : α → Value → Prop} {as as' : List α} {xs : List Value} (hl : as'.length = as.length) (h : ∀ (j : Nat) a a', as[j]? = some a → as'[j]? = some a' → ∀ x, R a x → R' a' x) (hx : All2 R as xs) : All2 R' as' xs := by
  refine All2.of_get (by rw [hl]; exact hx.length) fun i a' x ha' hxi => ?_
  obtain ⟨a, ha, hr⟩ := hx.get' hxi
  exact h i a a' ha ha' x hr
omit [Amb] in
theorem gcL_spec {α : Type} {R : Pi → α → Value → Prop} (mono : ∀ {π π' : Pi}, Ext π π' → ∀ a x, R π a x → R π' a x) {f : α → List Nat → α × List Nat} {H : Nat} (hf : ∀ a m, Gc R H a m (f a m)) :
    ∀ (l : List α) (m : List Nat), MPre m (gcL f l m).2 ∧ (MOk H m → MOk H (gcL f l m).2) ∧ (gcL f l m).1.length = l.length ∧ ∀ (j : Nat) a a', l[j]? = some a → (gcL f l m).1[j]? = some a' → ∀ π x, R π a x → R (piG π H (gcL f l m).2) a' x
  | [], m => ⟨MPre.refl _, id, rfl, fun j a a' h => by simp at h⟩
  | a :: l, m => by
    have G := hf a m
    obtain ⟨p1, p2, p3, p4⟩ := gcL_spec mono hf l (f a m).2
    refine ⟨G.pre.trans p1, fun ok => p2 (G.ok ok), by simp [gcL, p3], fun j b b' hb hb' π x hx => ?_⟩
    cases j with
    | zero =>
      simp [gcL] at hb hb'
      subst hb hb'
      exact mono p1.ext _ _ (G.rel π x hx)
    | succ j => exact p4 j b b' (by simpa using hb) (by simpa [gcL] using hb') π x hx
omit [Amb] in
theorem gcL_all2 {α : Type} {R : Pi → α → Value → Prop} (mono : ∀ {π π' : Pi}, Ext π π' → ∀ a x, R π a x → R π' a x) {f : α → List Nat → α × List Nat} {H : Nat} (hf : ∀ a m, Gc R H a m (f a m)) (l : List α) (m : List Nat) (π : Pi) (xs : List Value) (h : All2 (R π) l xs) : All2 (R (piG π H (gcL f l m).2)) (gcL f l m).1 xs := by
  obtain ⟨_, _, p3, p4⟩ := gcL_spec mono hf l m
  exact all2_of_pt p3 (fun j a a' ha ha' x hr => p4 j a a' ha ha' π x hr) h
theorem gcBlk_spec (H : Nat) : ∀ (cs : Blk) (m : List Nat), MPre m (gcL (gcS H) cs m).2 ∧ (MOk H m → MOk H (gcL (gcS H) cs m).2) ∧ Blk.size (gcL (gcS H) cs m).1 = Blk.size cs ∧
    ∀ π j x, j < Blk.size cs → (Blk.get cs j).rel π x → (Blk.get (gcL (gcS H) cs m).1 j).rel (piG π H (gcL (gcS H) cs m).2) x
  | [], m => ⟨MPre.refl _, id, rfl, fun π j x hj => by rw [Blk.size_nil] at hj; omega⟩
  | .c v :: r, m => by
    have G := gcC_spec H v m
    obtain ⟨p1, p2, p3, p4⟩ := gcBlk_spec H r (gcC H v m).2
    have e : gcL (gcS H) (.c v :: r) m = (.c (gcC H v m).1 :: (gcL (gcS H) r (gcC H v m).2).1, (gcL (gcS H) r (gcC H v m).2).2) := rfl
    rw [e]
    refine ⟨G.pre.trans p1, fun ok => p2 (G.ok ok), by rw [Blk.size_cons, Blk.size_cons, p3]; rfl, fun π j x hj hx => ?_⟩
    cases j with
    | zero => exact CV.rel_mono p1.ext _ _ (G.rel π x hx)
    | succ j =>
      rw [← Blk.get_ge_c (l := r) (j' := j) (by omega) (by omega)] at hx
      rw [← Blk.get_ge_c (l := (gcL (gcS H) r (gcC H v m).2).1) (j' := j) (by omega) (by omega)]
      exact p4 π j x (by rw [Blk.size_cons, Sg.size_c] at hj; omega) hx
  | .a n cols :: r, m => by
    obtain ⟨p1, p2, p3, p4⟩ := gcBlk_spec H r m
    have e : gcL (gcS H) (.a n cols :: r) m = (.a n cols :: (gcL (gcS H) r m).1, (gcL (gcS H) r m).2) := rfl
    rw [e]
    refine ⟨p1, p2, by rw [Blk.size_cons, Blk.size_cons, p3], fun π j x hj hx => ?_⟩
    rw [Blk.size_cons] at hj
    by_cases hj2 : j < (Sg.a n cols).size
    · rw [Blk.get_lt hj2, Sg.get_a] at hx ⊢
      obtain ⟨v, hv⟩ := rget_f cols j
      rw [hv] at hx ⊢
      exact hx
    · rw [Blk.get_ge (by omega)] at hx ⊢
      exact p4 π _ x (by omega) hx
theorem gcR_spec (H : Nat) (r : RV) (m : List Nat) : Gc RV.rel H r m (gcR H r m) := by
  cases r with
  | c c => have G := gcC_spec H c m; exact ⟨G.pre, G.ok, G.rel⟩
  | agg cs =>
    obtain ⟨p1, p2, p3, p4⟩ := gcBlk_spec H cs m
    refine ⟨p1, p2, fun π x ⟨a, hx, ha⟩ => ⟨a, hx, ?_⟩⟩
    obtain ⟨l1, l2⟩ := list_rel ha
    refine rel_list (by rw [p3, l1]) fun j hj => ?_
    rw [p3] at hj
    obtain ⟨y, hy, hr⟩ := l2 j hj
    exact ⟨y, hy, p4 π j y hj hr⟩
theorem gcA_spec (H : Nat) (r : AV) (m : List Nat) : Gc AV.rel H r m (gcA H r m) := by
  cases r with
  | r c => have G := gcR_spec H c m; exact ⟨G.pre, G.ok, G.rel⟩
  | tup cs =>
    obtain ⟨p1, p2, _, _⟩ := gcL_spec (R := RV.rel) (fun h a x r => RV.rel_mono h a x r) (gcR_spec H) cs m
    exact ⟨p1, p2, fun π x ⟨a, hx, ha⟩ => ⟨a, hx, gcL_all2 (R := RV.rel) (fun h a x r => RV.rel_mono h a x r) (gcR_spec H) cs m π _ ha⟩⟩
  | fn f cs =>
    obtain ⟨p1, p2, _, _⟩ := gcL_spec (R := RV.rel) (fun h a x r => RV.rel_mono h a x r) (gcR_spec H) cs m
    exact ⟨p1, p2, fun π x ⟨a, hx, ha⟩ => ⟨a, hx, gcL_all2 (R := RV.rel) (fun h a x r => RV.rel_mono h a x r) (gcR_spec H) cs m π _ ha⟩⟩
  | und => exact ⟨MPre.refl _, id, fun _ _ _ => trivial⟩
structure GcB (H : Nat) (b b' : Option Blk) (m' : List Nat) : Prop where
  size : b'.map Blk.size = b.map Blk.size
  rel : ∀ k k', b = some k → b' = some k' → ∀ π (j : Nat) x, j < Blk.size k → (Blk.get k j).rel π x → (Blk.get k' j).rel (piG π H m') x
theorem GcB.pre {H : Nat} {b b' : Option Blk} {m m' : List Nat} (h : GcB H b b' m) (p : MPre m m') : GcB H b b' m' :=
  ⟨h.size, fun k k' e e' π j x hj hx => CV.rel_mono p.ext _ _ (h.rel k k' e e' π j x hj hx)⟩
theorem gcB_spec (H : Nat) (b : Option Blk) (m : List Nat) : MPre m (gcB H b m).2 ∧ (MOk H m → MOk H (gcB H b m).2) ∧ GcB H b (gcB H b m).1 (gcB H b m).2 := by
  cases b with
  | none => exact ⟨MPre.refl _, id, rfl, fun k k' e => by cases e⟩
  | some k =>
    obtain ⟨p1, p2, p3, p4⟩ := gcBlk_spec H k m
    refine ⟨p1, p2, ⟨by simp only [gcB, Option.map_some, p3], fun k1 k' e e' π j x hj hx => ?_⟩⟩
    cases e; cases e'
    exact p4 π j x hj hx
theorem gcO_spec (k : Nat) (d : List Nat) (H : Nat) : ∀ (l : List (Option Blk)) (j0 : Nat) (m : List Nat), MPre m (gcO k d H l j0 m).2 ∧ (MOk H m → MOk H (gcO k d H l j0 m).2) ∧ (gcO k d H l j0 m).1.length = l.length ∧
    ∀ (j : Nat) b b', l[j]? = some b → (gcO k d H l j0 m).1[j]? = some b' → (j0 + j < k ∧ j0 + j ∉ d ∧ b' = b) ∨ ((j0 + j < k → j0 + j ∉ d → False) ∧ GcB H b b' (gcO k d H l j0 m).2)
  | [], j0, m => ⟨MPre.refl _, id, rfl, fun j b b' h => by simp at h⟩
  | b0 :: l, j0, m => by
    simp only [gcO]
    split
    · rename_i hc
      simp only [Bool.and_eq_true, Nat.blt_eq, Bool.not_eq_true'] at hc
      obtain ⟨p1, p2, p3, p4⟩ := gcO_spec k d H l (j0 + 1) m
      refine ⟨p1, p2, by simp [p3], fun j b b' hb hb' => ?_⟩
      cases j with
      | zero =>
        simp at hb hb'
        subst hb hb'
        refine .inl ⟨hc.1, fun hm => ?_, rfl⟩
        have := List.any_eq_false.1 hc.2 _ hm
        simp at this
      | succ j =>
        have := p4 j b b' (by simpa using hb) (by simpa using hb')
        rw [show j0 + 1 + j = j0 + (j + 1) by omega] at this
        exact this
    · rename_i hc
      obtain ⟨q1, q2, q3⟩ := gcB_spec H b0 m
      obtain ⟨p1, p2, p3, p4⟩ := gcO_spec k d H l (j0 + 1) (gcB H b0 m).2
      refine ⟨q1.trans p1, fun ok => p2 (q2 ok), by simp [p3], fun j b b' hb hb' => ?_⟩
      cases j with
      | zero =>
        simp at hb hb'
        subst hb hb'
        refine .inr ⟨fun h1 h2 => ?_, q3.pre p1⟩
        have e1 : Nat.blt j0 k = true := by simpa using h1
        have e2 : d.any (Nat.beq j0) = false := by
          rw [List.any_eq_false]
          intro y hy he
          have := Nat.eq_of_beq_eq_true he
          subst this; exact h2 hy
        rw [e1, e2] at hc; cases hc
      | succ j =>
        have := p4 j b b' (by simpa using hb) (by simpa using hb')
        rw [show j0 + 1 + j = j0 + (j + 1) by omega] at this
        exact this
theorem gcN_spec (H : Nat) (heap : List (Option Blk)) : ∀ (fuel i : Nat) (m : List Nat) (acc : List (Option Blk)) (z : List (Option Blk) × List Nat), gcN H heap fuel i m acc = some z → acc.length = i → i ≤ m.length →
    (∀ (j : Nat) b b', m[j]? = some b → acc[j]? = some b' → GcB H ((heap[b]?).getD none) b' m) →
    MPre m z.2 ∧ (MOk H m → MOk H z.2) ∧ z.1.length = z.2.length ∧ ∀ (j : Nat) b b', z.2[j]? = some b → z.1[j]? = some b' → GcB H ((heap[b]?).getD none) b' z.2
  | 0, _, _, _, _, h, _, _, _ => by simp [gcN] at h
  | fuel + 1, i, m, acc, z, h, hi, hi2, hacc => by
    simp only [gcN] at h
    split at h
    · rename_i hn
      cases h
      have : m.length ≤ i := List.getElem?_eq_none_iff.1 hn
      exact ⟨MPre.refl _, id, by simp; omega, hacc⟩
    · rename_i b hb
      obtain ⟨q1, q2, q3⟩ := gcB_spec H ((heap[b]?).getD none) m
      have hlt : i < m.length := (List.getElem?_eq_some_iff.1 hb).1
      have hlen : m.length ≤ (gcB H ((heap[b]?).getD none) m).2.length := by obtain ⟨t, ht⟩ := q1; rw [ht]; simp
      obtain ⟨p1, p2, p3, p4⟩ := gcN_spec H heap fuel (i + 1) _ _ z h (by simp [hi]) (by omega) (fun j b1 b1' h1 h1' => by
        rcases snoc_get? h1' with h1' | ⟨hj, rfl⟩
        · have hj : j < acc.length := (List.getElem?_eq_some_iff.1 h1').1
          have hm : m[j]? = some b1 := by
            have e : m[j]? = some (m[j]'(by omega)) := List.getElem?_eq_getElem _
            rw [e]; have := q1.get e; rw [h1] at this; exact this.symm
          exact (hacc j b1 b1' hm h1').pre q1
        · have : b1 = b := by
            rw [hj, hi] at h1
            have := q1.get hb; rw [h1] at this; exact Option.some.inj this
          subst this
          exact q3)
      exact ⟨q1.trans p1, fun ok => p2 (q2 ok), p3, p4⟩
end Go.Ab
