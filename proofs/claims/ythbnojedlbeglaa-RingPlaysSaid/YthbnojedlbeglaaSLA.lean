/-
  The abstract machine and the model: contracts shown by hand. How a call leaves its blocks, where it drops some of them and makes one.
-/
import Derived.Test.YthbnojedlbeglaaAbZ
namespace Go.Ab
variable [Amb]
omit [Amb] in
theorem after_kill : ∀ {h : List Blk} {cs : List Ch} {j : Nat}, cs[j]? = some .kill → (((after h cs)[j]?).getD none) = none
  | [], cs, j, _ => by simp [after]
  | b0 :: bs, [], j, h => by simp at h
  | b0 :: bs, c :: cs, 0, h => by
    simp only [List.getElem?_cons_zero, Option.some.injEq] at h
    subst h; simp [after]
  | b0 :: bs, c :: cs, j + 1, h => by
    have := after_kill (h := bs) (cs := cs) (j := j) (by simpa using h)
    cases c <;> simpa [after] using this
theorem post_gen {P : Program} {π : Pi} {w w' : World} {h : List Blk} {cs : List Ch} {k : Blk} {val : AV} {v : Value} {B s e : Nat} (hH : HRel π (hC (h.map some)) (hZ (h.map some)) w) (hdom : ∀ b, π b ≠ none → b < h.length)
    (hcs : ∀ b, b < h.length → cs[b]? = some .keep ∨ cs[b]? = some .kill) (hfr : FrameOK w (foot π h.length (chD cs)) w') (hle : s + Blk.size k ≤ e) (hown : ∀ i, s ≤ i → i < e → (cl w' B i).isSome = true ∧ fz w' B i = false)
    (hk : ∀ j, j < Blk.size k → ∃ v, cl w' B (s + j) = some v ∧ (Blk.get k j).rel π v)
    (hpl : (w.heap.size ≤ B) ∨ ∃ b s0 q0 e0, b < h.length ∧ cs[b]? = some .kill ∧ π b = some (B, s0, q0, e0) ∧ s0 ≤ s ∧ e ≤ e0)
    (ham : AmbOK w') (hlb : s < e → Amb.h0 ≤ B) (hv : ∀ π' : Pi, Ext π π' → π' h.length = some (B, s, Blk.size k, e) → val.rel π' v) :
    Post P π w h ⟨val, cs, [k]⟩ (.returned v) w' := by
  have h0 : π h.length = none := by
    cases hh : π h.length with
    | none => rfl
    | some p => exact absurd (hdom _ (by rw [hh]; simp)) (Nat.lt_irrefl _)
  have hx := upd_ext h0 (B, s, Blk.size k, e)
  have hself := upd_self π h.length (B, s, Blk.size k, e)
  have hother : ∀ b, b ≠ h.length → upd π h.length (B, s, Blk.size k, e) b = π b := fun b hb => by simp only [upd, if_neg hb]
  have hnew : (Res.heap ⟨val, cs, [k]⟩ h)[h.length]? = some (some k) := res_heap_new (r := ⟨val, cs, [k]⟩) (h := h) (k := 0) rfl
  have hlen : (Res.heap ⟨val, cs, [k]⟩ h).length = h.length + 1 := by simp [Res.heap, after_length]
  have live : ∀ b, hZ (Res.heap ⟨val, cs, [k]⟩ h) b ≠ none → b = h.length ∨ (b < h.length ∧ cs[b]? = some .keep ∧ ∃ kb, h[b]? = some kb ∧ (Res.heap ⟨val, cs, [k]⟩ h)[b]? = some (some kb)) := fun b hb => by
    rcases Nat.lt_trichotomy b h.length with hlt | heq | hgt
    · right
      rcases hcs b hlt with hc | hc
      · have hkb : h[b]? = some (h[b]'hlt) := List.getElem?_eq_getElem _
        exact ⟨hlt, hc, _, hkb, (res_heap_old hlt).trans (after_get.2 hc _ hkb)⟩
      · exfalso; apply hb
        unfold hZ
        rw [res_heap_old hlt, after_kill hc]; rfl
    · exact .inl heq
    · exfalso; apply hb
      unfold hZ
      rw [List.getElem?_eq_none (by omega)]; rfl
  have kept : ∀ b kb, b < h.length → cs[b]? = some .keep → h[b]? = some kb → ∃ Bb sb eb, π b = some (Bb, sb, Blk.size kb, eb) ∧ sb + Blk.size kb ≤ eb ∧
      (∀ i, sb ≤ i → i < eb → (cl w' Bb i).isSome = true ∧ fz w' Bb i = false) ∧ (∀ j, j < Blk.size kb → ∃ v, cl w' Bb (sb + j) = some v ∧ (Blk.get kb j).rel π v) ∧ ∀ i, sb ≤ i → i < eb → Bb < w.heap.size ∧ ¬ foot π h.length (chD cs) Bb i := fun b kb hlt hc hkb => by
    have hzb : hZ (h.map some) b = some (Blk.size kb) := by rw [hZ_map, hkb]; rfl
    obtain ⟨Bb, sb, eb, p1, p2, p3, p4⟩ := hH.hp b _ hzb
    have hnf : ∀ i, sb ≤ i → i < eb → Bb < w.heap.size ∧ ¬ foot π h.length (chD cs) Bb i := fun i i1 i2 => by
      refine ⟨cl_lt (p3 i i1 i2).1, ?_⟩
      rintro ⟨b2, s2, q2, e2, hb2, hd2, hp2, j1, j2⟩
      have hne : b ≠ b2 := fun e => by subst e; exact hd2 hc
      have hz2 : hZ (h.map some) b2 ≠ none := by
        rw [hZ_map, List.getElem?_eq_getElem hb2]; simp
      exact hH.dj b b2 Bb sb _ eb s2 q2 e2 hne (by rw [hzb]; simp) hz2 p1 hp2 i i1 i2 j1 j2
    refine ⟨Bb, sb, eb, p1, p2, fun i i1 i2 => ?_, fun j hj => ?_, hnf⟩
    · obtain ⟨hB, hn⟩ := hnf i i1 i2
      rw [hfr.cl hB hn, hfr.fz hB]; exact p3 i i1 i2
    · obtain ⟨v, hv1, hv2⟩ := p4 j hj
      obtain ⟨hB, hn⟩ := hnf (sb + j) (by omega) (by omega)
      refine ⟨v, by rw [hfr.cl hB hn]; exact hv1, ?_⟩
      rw [hC_map hkb hj] at hv2; exact hv2
  have apart : ∀ b kb Bb sb qb eb, b < h.length → cs[b]? = some .keep → h[b]? = some kb → π b = some (Bb, sb, qb, eb) → Bb = B → ∀ i, sb ≤ i → i < eb → s ≤ i → i < e → False := fun b kb Bb sb qb eb hlt hc hkb hpb hBB i i1 i2 i3 i4 => by
    obtain ⟨B1, s1, e1, q1, _, _, _, q5⟩ := kept b kb hlt hc hkb
    rw [hpb] at q1; cases q1
    obtain ⟨hB, hn⟩ := q5 i i1 i2
    rcases hpl with hpl | ⟨b2, s2, q2, e2, hb2, hc2, hp2, j1, j2⟩
    · omega
    · apply hn
      rw [hBB]
      exact ⟨b2, s2, q2, e2, hb2, by unfold chD; rw [hc2]; simp, hp2, by omega, by omega⟩
  refine ⟨upd π h.length (B, s, Blk.size k, e), v, rfl, hx, hv _ hx hself, ⟨ham, fun b B1 s1 q1 e1 hz hp hse => ?_, fun b n hz => ?_, fun b b' B1 s1 q1 e1 s2 q2 e2 hne hz hz' hp hp' i i1 i2 i3 i4 => ?_⟩, hfr, fun b hb => ?_, fun b B1 s1 q1 e1 hle1 hb hB i i1 i2 => ?_⟩
  · rcases live b hz with rfl | ⟨hlt, hc, kb, hkb, _⟩
    · rw [hself] at hp; cases hp
      exact hlb hse
    · rw [hother b (by omega)] at hp
      exact hH.lb b B1 s1 q1 e1 (by rw [hZ_map, hkb]; simp) hp hse
  · rcases live b (by rw [hz]; simp) with rfl | ⟨hlt, hc, kb, hkb, hgb⟩
    · rw [hZ_get hnew] at hz; cases hz
      refine ⟨B, s, e, hself, hle, hown, fun j hj => ?_⟩
      obtain ⟨v, hv1, hv2⟩ := hk j hj
      refine ⟨v, hv1, ?_⟩
      rw [hC_get hnew hj]; exact CV.rel_mono hx _ _ hv2
    · rw [hZ_get hgb] at hz; cases hz
      obtain ⟨Bb, sb, eb, p1, p2, p3, p4, _⟩ := kept b kb hlt hc hkb
      refine ⟨Bb, sb, eb, by rw [hother b (by omega)]; exact p1, p2, p3, fun j hj => ?_⟩
      obtain ⟨v, hv1, hv2⟩ := p4 j hj
      refine ⟨v, hv1, ?_⟩
      rw [hC_get hgb hj]; exact CV.rel_mono hx _ _ hv2
  · rcases live b hz with rfl | ⟨hlt, hc, kb, hkb, _⟩
    · rcases live b' hz' with rfl | ⟨hlt', hc', kb', hkb', _⟩
      · exact hne rfl
      · rw [hself] at hp; cases hp
        rw [hother b' (by omega)] at hp'
        exact apart b' kb' _ _ _ _ hlt' hc' hkb' hp' rfl i i3 i4 i1 i2
    · rw [hother b (by omega)] at hp
      rcases live b' hz' with rfl | ⟨hlt', hc', kb', hkb', _⟩
      · rw [hself] at hp'; cases hp'
        exact apart b kb _ _ _ _ hlt hc hkb hp rfl i i1 i2 i3 i4
      · rw [hother b' (by omega)] at hp'
        have hz1 : hZ (h.map some) b ≠ none := by rw [hZ_map, hkb]; simp
        have hz2 : hZ (h.map some) b' ≠ none := by rw [hZ_map, hkb']; simp
        exact hH.dj b b' B1 s1 q1 e1 s2 q2 e2 hne hz1 hz2 hp hp' i i1 i2 i3 i4
  · show b < h.length + 1
    by_cases e : b = h.length
    · omega
    · rw [hother b e] at hb
      have := hdom b hb; omega
  · by_cases e' : b = h.length
    · subst e'
      rw [hself] at hb; cases hb
      rcases hpl with hpl | ⟨b2, s2, q2, e2, hb2, hc2, hp2, j1, j2⟩
      · omega
      · exact ⟨b2, s2, q2, e2, hb2, by unfold chD; rw [hc2]; simp, hp2, by omega, by omega⟩
    · rw [hother b e'] at hb
      have := hdom b (by rw [hb]; simp); omega
end Go.Ab
