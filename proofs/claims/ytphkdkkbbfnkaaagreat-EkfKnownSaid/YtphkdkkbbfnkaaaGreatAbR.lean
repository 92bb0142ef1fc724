/-
  The abstract machine and the model: a function's body carried out is a call of the function.
-/
import Derived.Test.YtphkdkkbbfnkaaaGreatAbN
namespace Go.Ab
variable [Amb]
section
variable {P : Program} {E : Env} {X : Cx}

structure In (X : Cx) (h0 : List Blk) : Prop where
  k : X.k = h0.length
  h : HRel X.p0 (hC (h0.map some)) (hZ (h0.map some)) X.w0
  d : ∀ b, X.p0 b ≠ none → b < X.k
theorem RelS.same {h0 : List Blk} {π : Pi} {s : St} {a : Act} {w : World} (I : In X h0) (R : RelS X h0 π s a w) {b : Nat} (hb : b < X.k) (hn : b ∉ s.dirt) {k : Blk} (hk : s.blk b = some k) {B : Nat} {s0 q e : Nat} (hp : π b = some (B, s0, q, e)) {j : Nat} (hj : j < Blk.size k) :
    ∃ v, cl w B (s0 + j) = some v ∧ (Blk.get k j).rel X.p0 v := by
  have h1 := R.drt b hb hn
  rw [hk] at h1
  have hz : hZ (h0.map some) b = some (Blk.size k) := by rw [hZ_map, ← h1]; rfl
  obtain ⟨B', s', e', hp', hle, k1, k2⟩ := I.h.hp b _ hz
  rw [R.rel.old b hb, hp'] at hp
  cases hp
  obtain ⟨v, hv, hr⟩ := k2 j hj
  rw [hC_map h1.symm hj] at hr
  refine ⟨v, ?_, hr⟩
  rw [R.rel.fr.cl (cl_lt (by rw [hv]; rfl)), hv]
  rintro ⟨b2, s2, q2, e2, hb2, hd2, hp2, i1, i2⟩
  have hne : b2 ≠ b := fun e => hn (e ▸ hd2)
  have hz2 : hZ (h0.map some) b2 ≠ none := by
    rw [hZ_map]
    have : b2 < h0.length := by rw [← I.k]; exact hb2
    rw [List.getElem?_eq_getElem this]; simp
  exact I.h.dj b2 b B s2 q2 e2 s0 _ e hne hz2 (by rw [hz]; simp) hp2 hp' (s0 + j) i1 i2 (by omega) (by omega)

omit [Amb] in
theorem getD_eq_of_lt {l : List (Option Blk)} {b : Nat} (h : b < l.length) : l[b]? = some ((l[b]?).getD none) := by
  rw [List.getElem?_eq_getElem h]; rfl
theorem gc_heap {h0 : List Blk} {π : Pi} {s : St} {a : Act} {w : World} (I : In X h0) (R : RelS X h0 π s a w) {H : Nat} (hH : X.k ≤ H) (hHl : H ≤ s.heap.length) {m0 : List Nat} (ok0 : MOk H m0) {z : List (Option Blk) × List Nat}
    (hz : gcN H s.heap 1000 0 (gcO X.k s.dirt H (s.heap.take H) 0 m0).2 [] = some z) :
    MPre m0 z.2 ∧ HRel (piG π H z.2) (hC ((gcO X.k s.dirt H (s.heap.take H) 0 m0).1 ++ z.1)) (hZ ((gcO X.k s.dirt H (s.heap.take H) 0 m0).1 ++ z.1)) w ∧
    ((gcO X.k s.dirt H (s.heap.take H) 0 m0).1 ++ z.1).length = H + z.2.length ∧
    (∀ b, b < H → b < X.k → b ∉ s.dirt → (((gcO X.k s.dirt H (s.heap.take H) 0 m0).1 ++ z.1)[b]?).getD none = s.blk b) ∧
    (∀ b, hZ ((gcO X.k s.dirt H (s.heap.take H) 0 m0).1 ++ z.1) b ≠ none → (b < H ∧ s.gt.z b ≠ none) ∨ ∃ b0, H ≤ b ∧ z.2[b - H]? = some b0 ∧ H ≤ b0 ∧ s.gt.z b0 ≠ none) := by
  obtain ⟨o1, o2, o3, o4⟩ := gcO_spec X.k s.dirt H (s.heap.take H) 0 m0
  generalize hy : gcO X.k s.dirt H (s.heap.take H) 0 m0 = y at *
  obtain ⟨n1, n2, n3, n4⟩ := gcN_spec H s.heap 1000 0 y.2 [] z hz rfl (Nat.zero_le _) (fun j b b' _ h => by simp at h)
  have hyl : y.1.length = H := by rw [o3]; simp; omega
  have ok := n2 (o2 ok0)
  -- the block that stands at a place
  have old : ∀ b, b < H → ∃ x, y.1[b]? = some x ∧ (y.1 ++ z.1)[b]? = some x ∧ (x = s.blk b ∧ b < X.k ∧ b ∉ s.dirt ∨ (b < X.k → b ∉ s.dirt → False) ∧ GcB H (s.blk b) x z.2) := fun b hb => by
    have h1 : y.1[b]? = some (y.1[b]'(by omega)) := List.getElem?_eq_getElem _
    have h2 : (s.heap.take H)[b]? = some (s.blk b) := by
      rw [List.getElem?_take, if_pos hb]; exact getD_eq_of_lt (by omega)
    refine ⟨_, h1, by rw [List.getElem?_append_left (by omega)]; exact h1, ?_⟩
    have o5 := o4 b _ _ h2 h1
    simp only [Nat.zero_add] at o5
    rcases o5 with ⟨q1, q2, q3⟩ | ⟨q0, q⟩
    · exact .inl ⟨q3, q1, q2⟩
    · exact .inr ⟨q0, q.pre n1⟩
  have new : ∀ b, H ≤ b → b < H + z.2.length → ∃ b0 x, z.2[b - H]? = some b0 ∧ H ≤ b0 ∧ (y.1 ++ z.1)[b]? = some x ∧ GcB H (s.blk b0) x z.2 := fun b h1 h2 => by
    have e1 : z.2[b - H]? = some (z.2[b - H]'(by omega)) := List.getElem?_eq_getElem _
    have e2 : z.1[b - H]? = some (z.1[b - H]'(by omega)) := List.getElem?_eq_getElem _
    refine ⟨_, _, e1, ok.2 _ (List.mem_of_getElem? e1), ?_, n4 _ _ _ e1 e2⟩
    rw [List.getElem?_append_right (by omega), hyl]; exact e2
  have len : (y.1 ++ z.1).length = H + z.2.length := by simp; omega
  -- where it comes from
  have src : ∀ b n, hZ (y.1 ++ z.1) b = some n → ∃ b0 k0 k, s.blk b0 = some k0 ∧ Blk.size k0 = n ∧ (y.1 ++ z.1)[b]? = some (some k) ∧ Blk.size k = n ∧ piG π H z.2 b = π b0 ∧ ((b < H ∧ b0 = b) ∨ (H ≤ b ∧ z.2[b - H]? = some b0 ∧ H ≤ b0)) ∧
      (k = k0 ∧ b < X.k ∧ b ∉ s.dirt ∧ b0 = b ∨ ∀ (j : Nat) x, j < Blk.size k0 → (Blk.get k0 j).rel π x → (Blk.get k j).rel (piG π H z.2) x) := fun b n hn => by
    have hbl : b < H + z.2.length := by
      rw [← len]
      rcases Nat.lt_or_ge b (y.1 ++ z.1).length with h | h
      · exact h
      · simp only [hZ, List.getElem?_eq_none h] at hn; cases hn
    rcases Nat.lt_or_ge b H with hb | hb
    · obtain ⟨x, h1, h2, h3⟩ := old b hb
      simp only [hZ, h2, Option.getD_some] at hn
      cases x with
      | none => cases hn
      | some k =>
        have hkn : Blk.size k = n := by simpa using hn
        have hpi : piG π H z.2 b = π b := by unfold piG; rw [if_pos hb]
        rcases h3 with ⟨q1, q2, q3⟩ | ⟨_, q⟩
        · exact ⟨b, k, k, q1.symm, hkn, h2, hkn, hpi, .inl ⟨hb, rfl⟩, .inl ⟨rfl, q2, q3, rfl⟩⟩
        · have hs := q.size
          cases hb0 : s.blk b with
          | none => rw [hb0] at hs; cases hs
          | some k0 =>
            rw [hb0] at hs q
            have : Blk.size k = Blk.size k0 := by simpa using hs
            exact ⟨b, k0, k, hb0, by omega, h2, hkn, hpi, .inl ⟨hb, rfl⟩, .inr fun j x hj hx => q.rel k0 k rfl rfl π j x hj hx⟩
    · obtain ⟨b0, x, h1, h2, h3, q⟩ := new b hb hbl
      simp only [hZ, h3, Option.getD_some] at hn
      cases x with
      | none => cases hn
      | some k =>
        have hkn : Blk.size k = n := by simpa using hn
        have hpi : piG π H z.2 b = π b0 := by unfold piG; rw [if_neg (by omega), h1]
        have hs := q.size
        cases hb0 : s.blk b0 with
        | none => rw [hb0] at hs; cases hs
        | some k0 =>
          rw [hb0] at hs q
          have : Blk.size k = Blk.size k0 := by simpa using hs
          exact ⟨b0, k0, k, hb0, by omega, h3, hkn, hpi, .inr ⟨hb, h1, h2⟩, .inr fun j x hj hx => q.rel k0 k rfl rfl π j x hj hx⟩
  refine ⟨o1.trans n1, ⟨R.rel.hp.am, fun b B s1 q1 e1 hz1 hp1 hse => ?_, fun b n hn => ?_, fun b b' B s1 q1 e1 s2 q2 e2 hne hz1 hz2 hp1 hp2 i i1 i2 i3 i4 => ?_⟩, len, fun b hb hbk hnd => ?_, fun b hb => ?_⟩
  · cases hn1 : hZ (y.1 ++ z.1) b with
    | none => exact absurd hn1 hz1
    | some n =>
      obtain ⟨b0, k0, k, h1, h2, h3, h4, h5, h6, h7⟩ := src b n hn1
      have hz0 : s.gt.z b0 = some (Blk.size k0) := St.gt_z h1
      rw [h5] at hp1
      exact R.rel.hp.lb b0 B s1 q1 e1 (by rw [hz0]; simp) hp1 hse
  · obtain ⟨b0, k0, k, h1, h2, h3, h4, h5, h6, h7⟩ := src b n hn
    have hz0 : s.gt.z b0 = some (Blk.size k0) := St.gt_z h1
    obtain ⟨B, s1, e1, hp, hle, m1, m2⟩ := R.rel.hp.hp b0 _ hz0
    refine ⟨B, s1, e1, by rw [h5, ← h2]; exact hp, by omega, m1, fun j hj => ?_⟩
    rw [hC_get h3 (by omega)]
    rcases h7 with ⟨rfl, q1, q2, rfl⟩ | q
    · obtain ⟨v, hv, hr⟩ := R.same I q1 q2 h1 hp (j := j) (by omega)
      refine ⟨v, hv, CV.rel_mono (fun b p hbp => ?_) _ _ hr⟩
      have hbk := I.d b (by rw [hbp]; simp)
      unfold piG
      rw [if_pos (by omega), R.rel.old b hbk]; exact hbp
    · obtain ⟨v, hv, hr⟩ := m2 j (by omega)
      rw [St.gt_c h1 (by omega)] at hr
      exact ⟨v, hv, q j v (by omega) hr⟩
  · cases hn1 : hZ (y.1 ++ z.1) b with
    | none => exact hz1 hn1
    | some n =>
    cases hn2 : hZ (y.1 ++ z.1) b' with
    | none => exact hz2 hn2
    | some n' =>
    obtain ⟨b0, k0, k, h1, _, _, _, h5, h6, _⟩ := src b n hn1
    obtain ⟨b0', k0', k', h1', _, _, _, h5', h6', _⟩ := src b' n' hn2
    rw [h5] at hp1
    rw [h5'] at hp2
    have hne0 : b0 ≠ b0' := by
      intro e
      subst e
      rcases h6 with ⟨q1, q2⟩ | ⟨q1, q2, q3⟩ <;> rcases h6' with ⟨r1, r2⟩ | ⟨r1, r2, r3⟩
      · exact hne (q2.symm.trans r2)
      · omega
      · omega
      · obtain ⟨l1, g1⟩ := List.getElem?_eq_some_iff.1 q2
        obtain ⟨l2, g2⟩ := List.getElem?_eq_some_iff.1 r2
        have := List.pairwise_iff_getElem.1 ok.1
        rcases Nat.lt_trichotomy (b - H) (b' - H) with h | h | h
        · exact this _ _ l1 l2 h (g1.trans g2.symm)
        · omega
        · exact this _ _ l2 l1 h (g2.trans g1.symm)
    exact R.rel.hp.dj b0 b0' B s1 q1 e1 s2 q2 e2 hne0 (by rw [St.gt_z h1]; simp) (by rw [St.gt_z h1']; simp) hp1 hp2 i i1 i2 i3 i4
  · obtain ⟨x, h1, h2, h3⟩ := old b hb
    rw [h2]
    rcases h3 with ⟨q1, _⟩ | ⟨q0, _⟩
    · exact q1
    · exact (q0 hbk hnd).elim
  · cases hn : hZ (y.1 ++ z.1) b with
    | none => exact absurd hn hb
    | some n =>
      obtain ⟨b0, k0, k, h1, _, _, _, _, h6, _⟩ := src b n hn
      rcases h6 with ⟨q1, rfl⟩ | ⟨q1, q2, q3⟩
      · exact .inl ⟨q1, by rw [St.gt_z h1]; simp⟩
      · exact .inr ⟨b0, q1, q2, q3, by rw [St.gt_z h1]; simp⟩
end
end Go.Ab
