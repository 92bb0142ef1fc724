/-
  The abstract machine and the model: contracts shown by hand. How a call leaves its blocks, where it drops some of them and makes one. What slices.Insert does with one sample: in place, where there is room; in a new row, where there is none. (The walks follow the library's own worked ones for elements of one cell.) Contracts of slices.Insert, Delete, Clone, of samples: rows of nine columns. First what they do to rows, in plain terms; then how the memory is left. Contracts of slices.Insert, Delete, Clone, of samples. Contracts of slices.Insert, Delete, Clone, of samples, in the form that the tool's contracts have. Contracts of slices.Delete and Clone, of samples. Contracts of slices.Insert, Delete, Clone (of samples) by plain functions, in short.
-/
import Derived.Test.YtphkdkkbbfnkaaaGreatAbZ
import Derived.Shelf.Spec.SlicesInsertGrow
import Derived.Test.YtphkdkkbbfnkaaaGreatAbPg
set_option linter.unusedVariables false
set_option linter.unusedSimpArgs false
namespace Go.Ab
variable [Amb]
omit [Amb] in
theorem after_kill : ∀ {h : List Blk} {cs : List Ch} {j : Nat}, cs[j]? = some .kill → (((after h cs)[j]?).getD none) = none
  | [], cs, j, _ => by simp [after]
  | b0 :: bs, [], j, h => by simp at h
  | b0 :: bs, c :: cs, 0, h => by
    simp only [List.getElem?_cons_zero, Option.some.injEq] at h
    subst h; simp [after]
  | b0 :: bs, c :: cs, j + 1, h => by
    have := after_kill (h := bs) (cs := cs) (j := j) (by simpa using h)
    cases c <;> simpa [after] using this
theorem post_gen {P : Program} {π : Pi} {w w' : World} {h : List Blk} {cs : List Ch} {k : Blk} {val : AV} {v : Value} {B s e : Nat} (hH : HRel π (hC (h.map some)) (hZ (h.map some)) w) (hdom : ∀ b, π b ≠ none → b < h.length)
    (hcs : ∀ b, b < h.length → cs[b]? = some .keep ∨ cs[b]? = some .kill) (hfr : FrameOK w (foot π h.length (chD cs)) w') (hle : s + Blk.size k ≤ e) (hown : ∀ i, s ≤ i → i < e → (cl w' B i).isSome = true ∧ fz w' B i = false)
    (hk : ∀ j, j < Blk.size k → ∃ v, cl w' B (s + j) = some v ∧ (Blk.get k j).rel π v)
    (hpl : (w.heap.size ≤ B) ∨ ∃ b s0 q0 e0, b < h.length ∧ cs[b]? = some .kill ∧ π b = some (B, s0, q0, e0) ∧ s0 ≤ s ∧ e ≤ e0)
    (ham : AmbOK w') (hlb : s < e → Amb.h0 ≤ B) (hv : ∀ π' : Pi, Ext π π' → π' h.length = some (B, s, Blk.size k, e) → val.rel π' v) :
    Post P π w h ⟨val, cs, [k]⟩ (.returned v) w' := by
  have h0 : π h.length = none := by
    cases hh : π h.length with
    | none => rfl
    | some p => exact absurd (hdom _ (by rw [hh]; simp)) (Nat.lt_irrefl _)
  have hx := upd_ext h0 (B, s, Blk.size k, e)
  have hself := upd_self π h.length (B, s, Blk.size k, e)
  have hother : ∀ b, b ≠ h.length → upd π h.length (B, s, Blk.size k, e) b = π b := fun b hb => by simp only [upd, if_neg hb]
  have hnew : (Res.heap ⟨val, cs, [k]⟩ h)[h.length]? = some (some k) := res_heap_new (r := ⟨val, cs, [k]⟩) (h := h) (k := 0) rfl
  have hlen : (Res.heap ⟨val, cs, [k]⟩ h).length = h.length + 1 := by simp [Res.heap, after_length]
  have live : ∀ b, hZ (Res.heap ⟨val, cs, [k]⟩ h) b ≠ none → b = h.length ∨ (b < h.length ∧ cs[b]? = some .keep ∧ ∃ kb, h[b]? = some kb ∧ (Res.heap ⟨val, cs, [k]⟩ h)[b]? = some (some kb)) := fun b hb => by
    rcases Nat.lt_trichotomy b h.length with hlt | heq | hgt
    · right
      rcases hcs b hlt with hc | hc
      · have hkb : h[b]? = some (h[b]'hlt) := List.getElem?_eq_getElem _
        exact ⟨hlt, hc, _, hkb, (res_heap_old hlt).trans (after_get.2 hc _ hkb)⟩
      · exfalso; apply hb
        unfold hZ
        rw [res_heap_old hlt, after_kill hc]; rfl
    · exact .inl heq
    · exfalso; apply hb
      unfold hZ
      rw [List.getElem?_eq_none (by omega)]; rfl
  have kept : ∀ b kb, b < h.length → cs[b]? = some .keep → h[b]? = some kb → ∃ Bb sb eb, π b = some (Bb, sb, Blk.size kb, eb) ∧ sb + Blk.size kb ≤ eb ∧
      (∀ i, sb ≤ i → i < eb → (cl w' Bb i).isSome = true ∧ fz w' Bb i = false) ∧ (∀ j, j < Blk.size kb → ∃ v, cl w' Bb (sb + j) = some v ∧ (Blk.get kb j).rel π v) ∧ ∀ i, sb ≤ i → i < eb → Bb < w.heap.size ∧ ¬ foot π h.length (chD cs) Bb i := fun b kb hlt hc hkb => by
    have hzb : hZ (h.map some) b = some (Blk.size kb) := by rw [hZ_map, hkb]; rfl
    obtain ⟨Bb, sb, eb, p1, p2, p3, p4⟩ := hH.hp b _ hzb
    have hnf : ∀ i, sb ≤ i → i < eb → Bb < w.heap.size ∧ ¬ foot π h.length (chD cs) Bb i := fun i i1 i2 => by
      refine ⟨cl_lt (p3 i i1 i2).1, ?_⟩
      rintro ⟨b2, s2, q2, e2, hb2, hd2, hp2, j1, j2⟩
      have hne : b ≠ b2 := fun e => by subst e; exact hd2 hc
      have hz2 : hZ (h.map some) b2 ≠ none := by
        rw [hZ_map, List.getElem?_eq_getElem hb2]; simp
      exact hH.dj b b2 Bb sb _ eb s2 q2 e2 hne (by rw [hzb]; simp) hz2 p1 hp2 i i1 i2 j1 j2
    refine ⟨Bb, sb, eb, p1, p2, fun i i1 i2 => ?_, fun j hj => ?_, hnf⟩
    · obtain ⟨hB, hn⟩ := hnf i i1 i2
      rw [hfr.cl hB hn, hfr.fz hB]; exact p3 i i1 i2
    · obtain ⟨v, hv1, hv2⟩ := p4 j hj
      obtain ⟨hB, hn⟩ := hnf (sb + j) (by omega) (by omega)
      refine ⟨v, by rw [hfr.cl hB hn]; exact hv1, ?_⟩
      rw [hC_map hkb hj] at hv2; exact hv2
  have apart : ∀ b kb Bb sb qb eb, b < h.length → cs[b]? = some .keep → h[b]? = some kb → π b = some (Bb, sb, qb, eb) → Bb = B → ∀ i, sb ≤ i → i < eb → s ≤ i → i < e → False := fun b kb Bb sb qb eb hlt hc hkb hpb hBB i i1 i2 i3 i4 => by
    obtain ⟨B1, s1, e1, q1, _, _, _, q5⟩ := kept b kb hlt hc hkb
    rw [hpb] at q1; cases q1
    obtain ⟨hB, hn⟩ := q5 i i1 i2
    rcases hpl with hpl | ⟨b2, s2, q2, e2, hb2, hc2, hp2, j1, j2⟩
    · omega
    · apply hn
      rw [hBB]
      exact ⟨b2, s2, q2, e2, hb2, by unfold chD; rw [hc2]; simp, hp2, by omega, by omega⟩
  refine ⟨upd π h.length (B, s, Blk.size k, e), v, rfl, hx, hv _ hx hself, ⟨ham, fun b B1 s1 q1 e1 hz hp hse => ?_, fun b n hz => ?_, fun b b' B1 s1 q1 e1 s2 q2 e2 hne hz hz' hp hp' i i1 i2 i3 i4 => ?_⟩, hfr, fun b hb => ?_, fun b B1 s1 q1 e1 hle1 hb hB i i1 i2 => ?_⟩
  · rcases live b hz with rfl | ⟨hlt, hc, kb, hkb, _⟩
    · rw [hself] at hp; cases hp
      exact hlb hse
    · rw [hother b (by omega)] at hp
      exact hH.lb b B1 s1 q1 e1 (by rw [hZ_map, hkb]; simp) hp hse
  · rcases live b (by rw [hz]; simp) with rfl | ⟨hlt, hc, kb, hkb, hgb⟩
    · rw [hZ_get hnew] at hz; cases hz
      refine ⟨B, s, e, hself, hle, hown, fun j hj => ?_⟩
      obtain ⟨v, hv1, hv2⟩ := hk j hj
      refine ⟨v, hv1, ?_⟩
      rw [hC_get hnew hj]; exact CV.rel_mono hx _ _ hv2
    · rw [hZ_get hgb] at hz; cases hz
      obtain ⟨Bb, sb, eb, p1, p2, p3, p4, _⟩ := kept b kb hlt hc hkb
      refine ⟨Bb, sb, eb, by rw [hother b (by omega)]; exact p1, p2, p3, fun j hj => ?_⟩
      obtain ⟨v, hv1, hv2⟩ := p4 j hj
      refine ⟨v, hv1, ?_⟩
      rw [hC_get hgb hj]; exact CV.rel_mono hx _ _ hv2
  · rcases live b hz with rfl | ⟨hlt, hc, kb, hkb, _⟩
    · rcases live b' hz' with rfl | ⟨hlt', hc', kb', hkb', _⟩
      · exact hne rfl
      · rw [hself] at hp; cases hp
        rw [hother b' (by omega)] at hp'
        exact apart b' kb' _ _ _ _ hlt' hc' hkb' hp' rfl i i3 i4 i1 i2
    · rw [hother b (by omega)] at hp
      rcases live b' hz' with rfl | ⟨hlt', hc', kb', hkb', _⟩
      · rw [hself] at hp'; cases hp'
        exact apart b kb _ _ _ _ hlt hc hkb hp rfl i i1 i2 i3 i4
      · rw [hother b' (by omega)] at hp'
        have hz1 : hZ (h.map some) b ≠ none := by rw [hZ_map, hkb]; simp
        have hz2 : hZ (h.map some) b' ≠ none := by rw [hZ_map, hkb']; simp
        exact hH.dj b b' B1 s1 q1 e1 s2 q2 e2 hne hz1 hz2 hp hp' i i1 i2 i3 i4
  · show b < h.length + 1
    by_cases e : b = h.length
    · omega
    · rw [hother b e] at hb
      have := hdom b hb; omega
  · by_cases e' : b = h.length
    · subst e'
      rw [hself] at hb; cases hb
      rcases hpl with hpl | ⟨b2, s2, q2, e2, hb2, hc2, hp2, j1, j2⟩
      · omega
      · exact ⟨b2, s2, q2, e2, hb2, by unfold chD; rw [hc2]; simp, hp2, by omega, by omega⟩
    · rw [hother b e'] at hb
      have := hdom b (by rw [hb]; simp); omega
end Go.Ab
set_option linter.unusedVariables false
set_option linter.unusedSimpArgs false
namespace Go.Proofs.YtphkdkkbbfnkaaaGreat
open Go.RowKit Go.Lib Go.Ab
theorem run_copy_z {P : Program} (w : World) (dT sT ty e : TypeId) (z b o dLen dCap : Nat) (a : Addr) (sLen sCap : Nat) (cs : List Value) (hu : P.underlying dT = some (.slice e)) (hz : sizeT P e = some z) (hn : cs.length = Nat.min sLen dLen * z)
    (hsrc : ∀ j v, cs[j]? = some v → w.cell? (a.add j) = some v) (hc : ∀ j, j < cs.length → (w.cell? ⟨b, o + j, none⟩).isSome = true) (hf : ∀ j, j < cs.length → w.frozen? ⟨b, o + j, none⟩ = false) (h1 : ∀ v ∈ cs, v.oneCell' = true) :
    (Builtin.copy_ #[dT, sT] ty #[.slice (some ⟨b, o, none⟩) dLen dCap, .slice (some a) sLen sCap]).run P w = .ok (goInt (Nat.min sLen dLen)) (w.setCells b o cs) := by
  have hl := run_firstCells_some (P := P) w z (Nat.min sLen dLen) a sLen sCap cs hn hsrc
  have hst := run_storeCells_cells (P := P) b o cs 0 w (by simpa using hc) (by simpa using hf) h1
  simp [Builtin.copy_, run_underlying hu, Builtin.lenOf, Ab.run_sizeOf hz, hl, hst]
theorem uT : Tryz.prog.underlying 121 = some (.slice 70) := by kernel_rfl
theorem uE : sizeT Tryz.prog 70 = some 9 := by kernel_rfl

set_option maxHeartbeats 4000000 in
set_option maxRecDepth 100000 in
theorem ins_shift (b off n c i vb voff vc : Nat) (cs vs : List Value) (w : World) (hi : i < n) (hroom : n + 1 ≤ c) (hvb : vb = b → voff + 9 ≤ off ∨ off + (n + 1) * 9 ≤ voff) (hcl : cs.length = n * 9) (hvl : vs.length = 9) (hn63 : n + 1 ≤ 9223372036854775807)
    (hcs : ∀ j v, cs[j]? = some v → w.cell? ⟨b, off + j, none⟩ = some v) (hsp : ∀ j, j < (n + 1) * 9 → (w.cell? ⟨b, off + j, none⟩).isSome = true) (hfz : ∀ j, j < (n + 1) * 9 → w.frozen? ⟨b, off + j, none⟩ = false)
    (hvs : ∀ j v, vs[j]? = some v → w.cell? ⟨vb, voff + j, none⟩ = some v) (h1c : ∀ v ∈ cs, v.oneCell' = true) (h1v : ∀ v ∈ vs, v.oneCell' = true)
    (hov : ∀ cb, (callFunc 154 #[.slice (some ⟨vb, voff, none⟩) 1 vc, .slice (some ⟨b, off + (i + 1) * 9, none⟩) (n - i) cb]).run Tryz.prog w = .ok (.value (.bool false)) w) :
    Calls Tryz.prog 87 #[.slice (some ⟨b, off, none⟩) n c, .int .i64 i, .slice (some ⟨vb, voff, none⟩) 1 vc] w fun e w' =>
      e = .returned (.slice (some ⟨b, off, none⟩) (n + 1) c) ∧ w' = (w.drew.setCells b (off + (i + 1) * 9) (cs.drop (i * 9))).setCells b (off + i * 9) vs := by
  have mixed := mixed
  have hz2 : ¬ ((i : Int) = (n : Int)) := by omega
  have hdl : (cs.drop (i * 9)).length = (n - i) * 9 := by rw [List.length_drop, hcl]; omega
  have hw1 : IntKind.i64.wrap ((i : Int) + 1) = (i : Int) + 1 := by rw [IntKind.wrap_i64]; omega
  have hw2 : IntKind.i64.wrap ((n : Int) + 1) = (n : Int) + 1 := by rw [IntKind.wrap_i64]; omega
  have hb1 : (0 : Int) ≤ (i : Int) + 1 := by omega
  have hin : i ≤ n := by omega
  have htn : ((i : Int) + 1).toNat = i + 1 := by omega
  have hb2 : ¬ (c = i + 1) := by omega
  have hb3 : (i : Int) ≤ (n : Int) + 1 := by omega
  have hb4 : ¬ (c = i) := by omega
  have hb5 : ¬ ((c : Int) < (n : Int) + 1) := by omega
  have hcp1 : ∀ ty dc sc, (Builtin.copy_ #[121, 121] ty #[.slice (some ⟨b, off + (i + 1) * 9, none⟩) (n - i) dc, .slice (some ⟨b, off + i * 9, none⟩) (n + 1 - i) sc]).run Tryz.prog w.drew = .ok (goInt (Nat.min (n + 1 - i) (n - i))) (w.drew.setCells b (off + (i + 1) * 9) (cs.drop (i * 9))) := fun ty dc sc =>
    run_copy_z w.drew _ _ ty 70 9 b (off + (i + 1) * 9) (n - i) dc ⟨b, off + i * 9, none⟩ (n + 1 - i) sc (cs.drop (i * 9)) uT uE (by rw [hdl]; simp only [Nat.min_def]; split <;> omega)
      (fun j v hj => by rw [Addr.add_lit, Nat.add_assoc]; exact hcs (i * 9 + j) v (by rwa [List.getElem?_drop] at hj))
      (fun j hj => by rw [Nat.add_assoc]; exact hsp _ (by omega)) (fun j hj => by rw [Nat.add_assoc]; exact hfz _ (by omega)) (fun v hv => h1c v (List.mem_of_mem_drop hv))
  obtain ⟨W1, hW1⟩ : ∃ W1, W1 = w.drew.setCells b (off + (i + 1) * 9) (cs.drop (i * 9)) := ⟨_, rfl⟩
  have hsp1 : ∀ k, k < (n + 1) * 9 → (W1.cell? ⟨b, off + k, none⟩).isSome = true := fun k hk => by
    rw [hW1]
    exact Go.Proofs.isSome_setCells b _ _ _ (fun j hj => by rw [Nat.add_assoc]; exact hsp _ (by omega)) _ (hsp k hk)
  have hcp2 : ∀ (W : World), (∀ x, W.cell? x = W1.cell? x) → (∀ x, W.frozen? x = W1.frozen? x) → ∀ ty dc, (Builtin.copy_ #[121, 121] ty #[.slice (some ⟨b, off + i * 9, none⟩) (n + 1 - i) dc, .slice (some ⟨vb, voff, none⟩) 1 vc]).run Tryz.prog W = .ok (goInt (Nat.min 1 (n + 1 - i))) (W.setCells b (off + i * 9) vs) := fun W hWc hWf ty dc =>
    run_copy_z W _ _ ty 70 9 b (off + i * 9) (n + 1 - i) dc ⟨vb, voff, none⟩ 1 vc vs uT uE (by rw [hvl]; simp only [Nat.min_def]; split <;> omega)
      (fun j v hj => by
        have hj9 := (List.getElem?_eq_some_iff.1 hj).1
        rw [Addr.add_lit, hWc, hW1, World.cell?_setCells_out b _ _ _ _ (fun h _ => by
          have := hvb h
          show voff + j < _ ∨ _ ≤ voff + j
          omega)]
        exact hvs j v hj)
      (fun j hj => by rw [hWc, Nat.add_assoc]; exact hsp1 _ (by omega)) (fun j hj => by rw [hWf, hW1, World.frozen?_setCells, Nat.add_assoc]; exact hfz _ (by omega)) h1v
  rw [← hW1] at hcp1
  go_enter Tryz.func87, Tryz.ntmps87
  go_wp2_with (simp only [hov])
  go_region_law_o (refine step_copy_runI rfl _ _ 121 121 rfl _ _ (by simp [Act.eval, Act.put]) (by simp [Act.eval, Act.put]) (hcp1 _ _ _) ?_)
  go_wp2_with (at_builtin; refine wpList_copy_runI _ rfl _ _ 121 121 rfl _ _ rfl rfl (hcp2 _ (fun _ => rfl) (fun _ => rfl) _ _) ?_)
  go_ret
  first | exact ⟨rfl, rfl⟩ | exact ⟨rfl, by rw [hW1]⟩

set_option maxHeartbeats 4000000 in
set_option maxRecDepth 100000 in
theorem ins_end (base : Option Addr) (n c vb voff vc : Nat) (w w2 : World) (v2 : Value)
    (hrz : ∀ ty, (Builtin.append_ #[121, 121] ty #[.slice base n c, .slice (some ⟨vb, voff, none⟩) 1 vc]).run Tryz.prog w = .ok v2 w2) :
    Calls Tryz.prog 87 #[.slice base n c, .int .i64 n, .slice (some ⟨vb, voff, none⟩) 1 vc] w fun e w' => e = .returned v2 ∧ w' = w2 := by
  have mixed := mixed
  go_enter Tryz.func87, Tryz.ntmps87
  go_wp2_with (at_builtin; refine Lib.wpList_append_run _ rfl _ _ _ _ rfl _ _ rfl rfl _ _ (hrz _) ?_)
  all_goals (go_ret; exact ⟨rfl, rfl⟩)

theorem iE : ∃ i z, Tryz.prog.info? 70 = some i ∧ i.zero = some z ∧ i.size = 9 ∧ i.bytes = 72 ∧ z.cells.size = 9 := by
  have h : (Tryz.prog.info? 70).map (fun i => (i.size, i.bytes, (i.zero.map fun z => z.cells.size))) = some (9, 72, some 9) := by kernel_rfl
  cases hi : Tryz.prog.info? 70 with
  | none => rw [hi] at h; cases h
  | some i =>
    rw [hi] at h
    simp only [Option.map_some, Option.some.injEq, Prod.mk.injEq] at h
    obtain ⟨h1, h2, h3⟩ := h
    cases hz : i.zero with
    | none => rw [hz] at h3; cases h3
    | some z => rw [hz] at h3; exact ⟨i, z, rfl, hz, h1, h2, by simpa using h3⟩
theorem uI : Tryz.prog.underlying 3 = some (.int .i64) := by kernel_rfl

set_option maxHeartbeats 4000000 in
set_option maxRecDepth 100000 in
theorem ins_grow (b off n c i vb voff vc : Nat) (cs vs : List Value) (w : World) (hi : i < n) (hnc : n ≤ c) (hroom : c < n + 1) (hbig : (n + 1) * 72 ≤ 140737488355328) (hcl : cs.length = n * 9) (hvl : vs.length = 9)
    (hcs : ∀ j v, cs[j]? = some v → w.cell? ⟨b, off + j, none⟩ = some v) (hvs : ∀ j v, vs[j]? = some v → w.cell? ⟨vb, voff + j, none⟩ = some v) (h1c : ∀ v ∈ cs, v.oneCell' = true) (h1v : ∀ v ∈ vs, v.oneCell' = true) :
    ∃ G ROW, n + 1 ≤ G ∧ ROW.size = G * 9 ∧ (∀ j v, j < i * 9 → cs[j]? = some v → ROW[j]? = some v) ∧
    Calls Tryz.prog 87 #[.slice (some ⟨b, off, none⟩) n c, .int .i64 i, .slice (some ⟨vb, voff, none⟩) 1 vc] w fun e w' =>
      e = .returned (.slice (some ⟨w.heap.size, 0, none⟩) (n + 1) G) ∧
      w' = (((w.alloc (.cells ROW 70)).drew.setCells w.heap.size (i * 9) vs).drew).setCells w.heap.size ((i + 1) * 9) (cs.drop (i * 9)) := by
  have mixed := mixed
  obtain ⟨i0, z0, hi0, hz0, hzs, hzb, hzl⟩ := iE
  have hz2 : ¬ ((i : Int) = (n : Int)) := by omega
  have hz3 : (c : Int) < (n : Int) + 1 := by omega
  have hbw : b < w.heap.size := block_lt_of_cell (hcs 0 _ (List.getElem?_eq_getElem (by omega)))
  have hvw : vb < w.heap.size := block_lt_of_cell (hvs 0 _ (List.getElem?_eq_getElem (by omega)))
  have hkk : (n : Int) + 1 - (i : Int) = ((n + 1 - i : Nat) : Int) := by omega
  have hik : i + (n + 1 - i) = n + 1 := by omega
  have htl : (cs.take (i * 9)).length = i * 9 := by rw [List.length_take]; omega
  have hold : (Builtin.firstCells i0.size i (.slice (some ⟨b, off, none⟩) i c)).run Tryz.prog w.drew = .ok (cs.take (i * 9)).toArray w.drew := by
    rw [hzs]
    exact run_firstCells_some w.drew 9 i ⟨b, off, none⟩ i c (cs.take (i * 9)) htl (fun j v hj => by
      rw [Addr.add_lit]
      rw [List.getElem?_take] at hj
      split at hj
      · exact hcs j v hj
      · cases hj)
  have hrz : ∀ ty, (Builtin.append_ #[121, 3] ty #[.slice (some ⟨b, off, none⟩) i c, .int .i64 ((n : Int) + 1 - (i : Int))]).run Tryz.prog w =
      .ok (.slice (some ⟨w.heap.size, 0, none⟩) (n + 1) (grownCap w (n + 1) c 70)) (w.drew.alloc (.cells ((cs.take (i * 9)).toArray ++ Builtin.zeroCells z0.cells (n + 1 - i) ++ Builtin.zeroCells z0.cells (grownCap w (n + 1) c 70 - (n + 1))) 70)) := fun ty => by
    have h := Lib.run_append_grow_zeros w 121 3 ty 70 i0 _ .i64 .i64 uT uI hi0 hz0 (some ⟨b, off, none⟩) i c (cs.take (i * 9)) hold (n + 1 - i) (by omega) (by omega) (by omega) (by omega) (by rw [hzb]; omega) (by rw [hzb, hik]; exact growslice_fits hroom hbig)
    rw [hik] at h
    rw [hkk]
    exact h
  have hGn : n + 1 ≤ grownCap w (n + 1) c 70 := grownCap_ge w _ _ _
  obtain ⟨G, hG⟩ : ∃ G, G = grownCap w (n + 1) c 70 := ⟨_, rfl⟩
  obtain ⟨ROW, hROW⟩ : ∃ ROW : Array Value, ROW = (cs.take (i * 9)).toArray ++ Builtin.zeroCells z0.cells (n + 1 - i) ++ Builtin.zeroCells z0.cells (G - (n + 1)) := ⟨_, rfl⟩
  rw [← hG] at hrz hGn
  rw [← hROW] at hrz
  have hRs : ROW.size = G * 9 := by
    rw [hROW]
    simp only [Array.size_append, List.size_toArray, htl, size_zeroCells, hzl]
    omega
  refine ⟨G, ROW, hGn, hRs, fun j v hj hv => ?_, ?_⟩
  · rw [hROW, Array.getElem?_append_left (by simp [htl]; omega), Array.getElem?_append_left (by simp [htl]; omega)]
    simp only [List.getElem?_toArray]
    rw [List.getElem?_take, if_pos hj]; exact hv
  have hRl : (n + 1) * 9 ≤ ROW.size := by rw [hRs]; exact Nat.mul_le_mul_right _ hGn
  obtain ⟨W1, hW1⟩ : ∃ W1, W1 = w.drew.alloc (.cells ROW 70) := ⟨_, rfl⟩
  rw [← hW1] at hrz
  have hN : ∀ j, j < (n + 1) * 9 → (W1.cell? ⟨w.heap.size, j, none⟩).isSome = true := fun j hj => by
    rw [hW1, World.cell?_alloc_at (w := w.drew) ROW _ w.heap.size j rfl, Array.getElem?_eq_getElem (by omega)]; rfl
  have hNf : ∀ j, W1.frozen? ⟨w.heap.size, j, none⟩ = false := fun j => by rw [hW1]; exact World.frozen?_alloc_at (w := w.drew) ROW _ w.heap.size j rfl
  have hOb : ∀ j v, w.cell? ⟨b, j, none⟩ = some v → W1.cell? ⟨b, j, none⟩ = some v := fun j v h => by rw [hW1, World.cell?_alloc_past (w := w.drew) _ b j hbw]; exact h
  have hOv : ∀ j v, w.cell? ⟨vb, j, none⟩ = some v → W1.cell? ⟨vb, j, none⟩ = some v := fun j v h => by rw [hW1, World.cell?_alloc_past (w := w.drew) _ vb j hvw]; exact h
  have hcpA : ∀ (W : World), (∀ x, W.cell? x = W1.cell? x) → (∀ x, W.frozen? x = W1.frozen? x) → ∀ ty dc, (Builtin.copy_ #[121, 121] ty #[.slice (some ⟨w.heap.size, i * 9, none⟩) (n + 1 - i) dc, .slice (some ⟨vb, voff, none⟩) 1 vc]).run Tryz.prog W = .ok (goInt (Nat.min 1 (n + 1 - i))) (W.setCells w.heap.size (i * 9) vs) := fun W hWc hWf ty dc =>
    run_copy_z W _ _ ty 70 9 w.heap.size (i * 9) (n + 1 - i) dc ⟨vb, voff, none⟩ 1 vc vs uT uE (by rw [hvl]; simp only [Nat.min_def]; split <;> omega)
      (fun j v hj => by rw [Addr.add_lit, hWc]; exact hOv _ v (hvs j v hj))
      (fun j hj => by rw [hWc]; exact hN _ (by omega)) (fun j hj => by rw [hWf]; exact hNf _) h1v
  have hGi : ¬ (G = i) := by omega
  have hGim : ¬ (G = i + 1) := by omega
  have hci : ¬ (c = i) := by omega
  have hbN : b ≠ w.heap.size := by omega
  have hdl : (cs.drop (i * 9)).length = (n - i) * 9 := by rw [List.length_drop, hcl]; omega
  have hcpB : ∀ (W : World), (∀ x, W.cell? x = (W1.setCells w.heap.size (i * 9) vs).cell? x) → (∀ x, W.frozen? x = (W1.setCells w.heap.size (i * 9) vs).frozen? x) → ∀ ty dc sc, (Builtin.copy_ #[121, 121] ty #[.slice (some ⟨w.heap.size, (i + 1) * 9, none⟩) (n - i) dc, .slice (some ⟨b, off + i * 9, none⟩) (n - i) sc]).run Tryz.prog W = .ok (goInt (Nat.min (n - i) (n - i))) (W.setCells w.heap.size ((i + 1) * 9) (cs.drop (i * 9))) := fun W hWc hWf ty dc sc =>
    run_copy_z W _ _ ty 70 9 w.heap.size ((i + 1) * 9) (n - i) dc ⟨b, off + i * 9, none⟩ (n - i) sc (cs.drop (i * 9)) uT uE (by rw [hdl]; simp only [Nat.min_def]; split <;> omega)
      (fun j v hj => by
        rw [Addr.add_lit, hWc, World.cell?_setCells_out _ _ _ _ _ (fun h _ => absurd h hbN), Nat.add_assoc]
        exact hOb _ v (hcs (i * 9 + j) v (by rwa [List.getElem?_drop] at hj)))
      (fun j hj => by rw [hWc]; exact Go.Proofs.isSome_setCells _ _ _ _ (fun t ht => hN _ (by omega)) _ (hN _ (by omega)))
      (fun j hj => by rw [hWf, World.frozen?_setCells]; exact hNf _) (fun v hv => h1c v (List.mem_of_mem_drop hv))
  subst hW1
  have hE1 : ∀ x, ((w.alloc (.cells ROW 70)).drew).cell? x = (w.drew.alloc (.cells ROW 70)).cell? x := fun x => rfl
  have hE2 : ∀ x, ((w.alloc (.cells ROW 70)).drew).frozen? x = (w.drew.alloc (.cells ROW 70)).frozen? x := fun x => rfl
  have hF1 : ∀ x, (((w.alloc (.cells ROW 70)).drew.setCells w.heap.size (i * 9) vs).drew).cell? x = ((w.drew.alloc (.cells ROW 70)).setCells w.heap.size (i * 9) vs).cell? x := fun x => rfl
  have hF2 : ∀ x, (((w.alloc (.cells ROW 70)).drew.setCells w.heap.size (i * 9) vs).drew).frozen? x = ((w.drew.alloc (.cells ROW 70)).setCells w.heap.size (i * 9) vs).frozen? x := fun x => rfl
  have hw1 : IntKind.i64.wrap ((i : Int) + 1) = (i : Int) + 1 := by rw [IntKind.wrap_i64]; omega
  have hw2 : IntKind.i64.wrap ((n : Int) + 1) = (n : Int) + 1 := by rw [IntKind.wrap_i64]; omega
  have hw3 : IntKind.i64.wrap ((n : Int) + 1 - (i : Int)) = (n : Int) + 1 - (i : Int) := by rw [IntKind.wrap_i64]; omega
  have hb1 : (0 : Int) ≤ (i : Int) + 1 := by omega
  have hin : i ≤ n := by omega
  have htn : ((i : Int) + 1).toNat = i + 1 := by omega
  have hb3 : (i : Int) ≤ (n : Int) := by omega
  clear hkk hik hold hROW hG hRl hRs
  go_enter Tryz.func87, Tryz.ntmps87
  go_wp2_with (first
    | (at_builtin; refine Lib.wpList_append_run _ rfl _ _ _ _ rfl _ _ rfl rfl _ _ (hrz _) ?_)
    | (at_builtin; refine wpList_copy_runI _ rfl _ _ 121 121 rfl _ _ rfl rfl (hcpA _ hE1 hE2 _ _) ?_)
    | (at_builtin; refine wpList_copy_runI _ rfl _ _ 121 121 rfl _ _ rfl rfl (hcpB _ (fun _ => rfl) (fun _ => rfl) _ _ _) ?_))
  go_region_law_o (refine step_copy_runI rfl _ _ 121 121 rfl (.slice (some ⟨w.heap.size, (i + 1) * 9, none⟩) (n - i) (G - (i + 1))) (.slice (some ⟨b, off + i * 9, none⟩) (n - i) (c - i)) (by simp [Act.eval, Act.put]) (by simp [Act.eval, Act.put]) (hcpB _ hF1 hF2 3 (G - (i + 1)) (c - i)) ?_)
  go_wp2
  go_ret
  exact ⟨rfl, rfl⟩

theorem step_append_runI {P : Program} {ops : Array Oper} {o : Oper} {a : Act} {w : World} {K : Act → World → Prop} {Q : Exit → Act → World → Prop} {E : Prop}
    (hg : o.guard = none) (d x : Operand) (dT sT : TypeId) (hop : o.op = Op.call { callee := Callee.builtin Builtin.append, args := #[d, x], argTypes := #[dT, sT] })
    (v u : Value) (hd : a.eval d = v) (hx : a.eval x = u) {v' : Value} {w' : World} (hr : (Builtin.append_ #[dT, sT] o.type #[v, u]).run P w = .ok v' w') (hK : K (a.put o.dst v') w') :
    if Region.wanted o (yielded ops a.tmps) = true then Oper.wp P o a w K Q else E := by
  have hw : Region.wanted o (yielded ops a.tmps) = true := by simp [Region.wanted, hg]
  rw [if_pos hw]
  unfold Oper.wp
  simp [execOp, hop, resolve, invoke, builtin, hd, hx, hr, Result.andThen]
  exact hK
theorem wp_clear_runI {P : Program} (w : World) {o : Oper} {a : Act} {K : Act → World → Prop} {Q : Exit → Act → World → Prop} (d : Operand) (t : TypeId)
    (ho : o.op = .call { callee := .builtin .clear, args := #[d], argTypes := #[t] }) (v : Value) (hd : a.eval d = v) {v' : Value} {w' : World}
    (hr : (Builtin.clear_ #[t] o.type #[v]).run P w = .ok v' w') (h : K (a.put o.dst v') w') : o.wp P a w K Q := by
  unfold Oper.wp execOp
  simp only [ho, resolve, invoke, builtin, Sem.run_bind, Sem.run_pure, Result.andThen_ok, List.map_toArray, List.map_cons, List.map_nil, hd, hr]
  exact h
theorem wpList_clear_runI {P : Program} (w : World) {ops : Array Oper} {rest : List Oper} {o : Oper} {a : Act} {Q : Exit → Act → World → Prop} (hgd : o.guard = none) (d : Operand) (t : TypeId)
    (ho : o.op = .call { callee := .builtin .clear, args := #[d], argTypes := #[t] }) (v : Value) (hd : a.eval d = v) {v' : Value} {w' : World}
    (hr : (Builtin.clear_ #[t] o.type #[v]).run P w = .ok v' w') (h : wpList P ops Q rest (a.put o.dst v') w') : wpList P ops Q (o :: rest) a w :=
  wpList_plain hgd fun _ hK => wp_clear_runI w d t ho v hd hr (hK _ _ h)

set_option maxHeartbeats 4000000 in
set_option maxRecDepth 100000 in
theorem del_none (base : Option Addr) (n c i : Nat) (w : World) (hi : i ≤ n) (hc : n ≤ c) :
    Calls Tryz.prog 88 #[.slice base n c, .int .i64 i, .int .i64 i] w fun e w' => e = .returned (.slice base n c) ∧ w' = w := by
  have mixed := mixed
  have h1 : (i : Int) ≤ (n : Int) := by omega
  have h2 : (n : Int) ≤ (c : Int) := by omega
  go_enter Tryz.func88, Tryz.ntmps88
  go_wp2
  all_goals (go_ret; exact ⟨rfl, rfl⟩)

set_option maxHeartbeats 4000000 in
set_option maxRecDepth 100000 in
theorem del_some (b off n c i j : Nat) (w w2 w3 : World) (hij : i < j) (hj : j ≤ n) (hc : n ≤ c)
    (hrz : ∀ ty, (Builtin.append_ #[121, 121] ty #[.slice (some ⟨b, off, none⟩) i c, .slice (some (if c = j then ⟨b, off, none⟩ else ⟨b, off + j * 9, none⟩)) (n - j) (c - j)]).run Tryz.prog w.drew = .ok (.slice (some ⟨b, off, none⟩) (i + (n - j)) c) w2)
    (hcl : ∀ ty, (Builtin.clear_ #[121] ty #[.slice (some ⟨b, off + (i + (n - j)) * 9, none⟩) (n - (i + (n - j))) (c - (i + (n - j)))]).run Tryz.prog w2 = .ok (.tuple #[]) w3) :
    Calls Tryz.prog 88 #[.slice (some ⟨b, off, none⟩) n c, .int .i64 i, .int .i64 j] w fun e w' => e = .returned (.slice (some ⟨b, off, none⟩) (i + (n - j)) c) ∧ w' = w3 := by
  have mixed := mixed
  have h0 : ¬ ((i : Int) = (j : Int)) := by omega
  have h1 : (i : Int) ≤ (j : Int) := by omega
  have h2 : (j : Int) ≤ (n : Int) := by omega
  have h3 : (n : Int) ≤ (c : Int) := by omega
  have h4 : (i : Int) ≤ (c : Int) := by omega
  have h5 : ¬ (c = i + (n - j)) := by omega
  go_enter Tryz.func88, Tryz.ntmps88
  go_wp2
  go_region_law_o (refine step_append_runI rfl _ _ 121 121 rfl _ _ (by simp [Act.eval, Act.put]) (by simp [Act.eval, Act.put]; split <;> rfl) (hrz _) ?_)
  go_wp2_with (at_builtin; refine wpList_clear_runI _ rfl _ 121 rfl _ rfl (hcl _) ?_)
  all_goals (go_ret; exact ⟨rfl, rfl⟩)

set_option maxHeartbeats 4000000 in
set_option maxRecDepth 100000 in
theorem clone_nil (w : World) : Calls Tryz.prog 120 #[.slice none 0 0] w fun e w' => e = .returned (.slice none 0 0) ∧ w' = w := by
  have mixed := mixed
  have heq : ∀ w : World, (Go.binOp .eql 121 (.slice none 0 0) (.slice none 0 0)).run Tryz.prog w = .ok (.bool true) w := fun w => by kernel_rfl
  go_enter Tryz.func120, Tryz.ntmps120
  go_wp2
  go_ret
  exact ⟨rfl, rfl⟩
set_option maxHeartbeats 4000000 in
set_option maxRecDepth 100000 in
theorem clone_some (a : Addr) (n c : Nat) (w w2 : World) (v2 : Value)
    (hrz : ∀ ty, (Builtin.append_ #[121, 121] ty #[.slice (some ⟨w.heap.size, 0, none⟩) 0 0, .slice (some a) n c]).run Tryz.prog (w.alloc (.cells #[] 70)) = .ok v2 w2) :
    Calls Tryz.prog 120 #[.slice (some a) n c] w fun e w' => e = .returned v2 ∧ w' = w2 := by
  have mixed := mixed
  have heq : ∀ w : World, (Go.binOp .eql 121 (.slice (some a) n c) (.slice none 0 0)).run Tryz.prog w = .ok (.bool false) w := fun w => by kernel_rfl
  go_enter Tryz.func120, Tryz.ntmps120
  go_wp2_with (at_builtin; refine Lib.wpList_append_run _ rfl _ _ _ _ rfl _ _ rfl rfl _ _ (hrz _) ?_)
  go_ret
  exact ⟨rfl, rfl⟩
end Go.Proofs.YtphkdkkbbfnkaaaGreat
set_option linter.unusedVariables false
set_option linter.unusedSimpArgs false
namespace Go.Ab
def colsI (l : List (Nat → Int)) : List Col := l.map (Col.i .i64)
def insC (i : Nat) (g v : Nat → Int) : Nat → Int := fun j => cond (Nat.blt j i) (g j) (cond (Nat.beq j i) (v 0) (g (j - 1)))
def delC (i d : Nat) (g : Nat → Int) : Nat → Int := fun j => cond (Nat.blt j i) (g j) (g (j + d))
theorem rget_colsI {l : List (Nat → Int)} (h : l.length = 9) (J : Nat) : ∃ g, l[J % 9]? = some g ∧ rget (colsI l) J = .f (.i .i64 (g (J / 9))) := by
  have hlt : J % 9 < l.length := by rw [h]; exact Nat.mod_lt _ (by omega)
  refine ⟨l[J % 9], List.getElem?_eq_getElem hlt, ?_⟩
  unfold rget colsI
  rw [List.length_map, h, List.getElem?_map, List.getElem?_eq_getElem hlt]
  rfl
theorem rget_ins {l m : List (Nat → Int)} (hl : l.length = 9) (hm : m.length = 9) (i J : Nat) :
    rget (colsI (List.zipWith (insC i) l m)) J = if J < i * 9 then rget (colsI l) J else if J < (i + 1) * 9 then rget (colsI m) (J - i * 9) else rget (colsI l) (J - 9) := by
  obtain ⟨g, hg, eg⟩ := rget_colsI hl J
  obtain ⟨v, hv, _⟩ := rget_colsI hm J
  obtain ⟨z, hz, ez⟩ := rget_colsI (l := List.zipWith (insC i) l m) (by simp [hl, hm]) J
  have hz2 : (List.zipWith (insC i) l m)[J % 9]? = some (insC i g v) := by simp [List.getElem?_zipWith, hg, hv]
  rw [hz2] at hz; cases hz
  rw [ez]
  by_cases h1 : J < i * 9
  · rw [if_pos h1, eg]
    have : Nat.blt (J / 9) i = true := blt_iff.2 (by omega)
    simp only [insC, this, cond_true]
  · rw [if_neg h1]
    have e1 : Nat.blt (J / 9) i = false := blt_false (by omega)
    by_cases h2 : J < (i + 1) * 9
    · rw [if_pos h2]
      have e2 : Nat.beq (J / 9) i = true := beq_iff.2 (by omega)
      obtain ⟨v', hv', ev⟩ := rget_colsI hm (J - i * 9)
      have e3 : (J - i * 9) % 9 = J % 9 := by omega
      have e4 : (J - i * 9) / 9 = 0 := by omega
      rw [e3, hv] at hv'; cases hv'
      rw [ev, e4]
      simp only [insC, e1, e2, cond_true, cond_false]
    · rw [if_neg h2]
      have e2 : Nat.beq (J / 9) i = false := beq_false (by omega)
      obtain ⟨g', hg', ev⟩ := rget_colsI hl (J - 9)
      have e3 : (J - 9) % 9 = J % 9 := by omega
      have e4 : (J - 9) / 9 = J / 9 - 1 := by omega
      rw [e3, hg] at hg'; cases hg'
      rw [ev, e4]
      simp only [insC, e1, e2, cond_false]
theorem rget_del {l : List (Nat → Int)} (hl : l.length = 9) (i d J : Nat) :
    rget (colsI (l.map (delC i d))) J = if J < i * 9 then rget (colsI l) J else rget (colsI l) (J + d * 9) := by
  obtain ⟨g, hg, eg⟩ := rget_colsI hl J
  obtain ⟨z, hz, ez⟩ := rget_colsI (l := l.map (delC i d)) (by simp [hl]) J
  have hz2 : (l.map (delC i d))[J % 9]? = some (delC i d g) := by simp [hg]
  rw [hz2] at hz; cases hz
  rw [ez]
  by_cases h1 : J < i * 9
  · rw [if_pos h1, eg]
    have : Nat.blt (J / 9) i = true := blt_iff.2 (by omega)
    simp only [delC, this, cond_true]
  · rw [if_neg h1]
    have e1 : Nat.blt (J / 9) i = false := blt_false (by omega)
    obtain ⟨g', hg', ev⟩ := rget_colsI hl (J + d * 9)
    have e3 : (J + d * 9) % 9 = J % 9 := by omega
    have e4 : (J + d * 9) / 9 = J / 9 + d := by omega
    rw [e3, hg] at hg'; cases hg'
    rw [ev, e4]
    simp only [delC, e1, cond_false]
theorem size_colsI {l : List (Nat → Int)} (h : l.length = 9) (n : Nat) : Blk.size [.a (.s n) (colsI l)] = n * 9 := by
  rw [Blk.size_cons, Blk.size_nil, Sg.size_a, Nat.add_zero]
  show n * (colsI l).length = n * 9
  unfold colsI; rw [List.length_map, h]
theorem get_colsI {l : List (Nat → Int)} (h : l.length = 9) {n j : Nat} (hj : j < n * 9) : Blk.get [.a (.s n) (colsI l)] j = rget (colsI l) j := by
  rw [Blk.get_lt (by rw [Sg.size_a]; unfold colsI; rw [List.length_map, h]; exact hj), Sg.get_a]
theorem cells_list [Amb] {π : Pi} {w : World} {B s N : Nat} {c : Nat → CV} (h : ∀ j, j < N → ∃ v, cl w B (s + j) = some v ∧ (c j).rel π v) :
    ∃ cs : List Value, cs.length = N ∧ (∀ j v, cs[j]? = some v → w.cell? ⟨B, s + j, none⟩ = some v ∧ (c j).rel π v) ∧ ∀ v ∈ cs, v.oneCell' = true := by
  have key : ∀ j v, ((List.range N).map fun j => (cl w B (s + j)).getD undef)[j]? = some v → w.cell? ⟨B, s + j, none⟩ = some v ∧ (c j).rel π v := fun j v hv => by
    have hj : j < N := by
      have := (List.getElem?_eq_some_iff.1 hv).1; simpa using this
    obtain ⟨u, hu, hr⟩ := h j hj
    simp [hj, hu] at hv
    subst hv
    exact ⟨hu, hr⟩
  refine ⟨(List.range N).map fun j => (cl w B (s + j)).getD undef, by simp, key, fun v hv => ?_⟩
  obtain ⟨i, hi⟩ := List.mem_iff_getElem?.1 hv
  exact CV.rel_one (key i v hi).2
theorem shape_of {w : World} {B i : Nat} {v : Value} (h : w.cell? ⟨B, i, none⟩ = some v) : ∃ t k, w.shape? B = some (t, k) ∧ k ≠ 0 := by
  unfold World.cell? at h
  simp only at h
  cases hh : w.heap[B]? with
  | none => rw [hh] at h; cases h
  | some x =>
    rw [hh] at h
    cases x <;> simp only at h <;> first | (cases h; done) | skip
    rename_i cs t fz
    have := (Array.getElem?_eq_some_iff.1 h).1
    refine ⟨t, cs.size, ?_, by omega⟩
    simp [World.shape?, hh]
end Go.Ab
set_option linter.unusedVariables false
set_option linter.unusedSimpArgs false
namespace Go.Ab
variable [Amb]
theorem post_place {P : Program} {π : Pi} {w W : World} {h : List Blk} {cs : List Ch} {out : List (Nat → Int)} {n cap B st q e b0 : Nat} (ho : out.length = 9) (hH : HRel π (hC (h.map some)) (hZ (h.map some)) w) (hdom : ∀ b, π b ≠ none → b < h.length)
    (hcs : ∀ b, b < h.length → cs[b]? = some .keep ∨ cs[b]? = some .kill) (hb0 : b0 < h.length) (hk0 : cs[b0]? = some .kill) (hp : π b0 = some (B, st, q, e)) (hfr : FrameOK w (foot π h.length (chD cs)) W)
    (hown : ∀ i, st ≤ i → i < e → (cl W B i).isSome = true ∧ fz W B i = false) (ham : AmbOK W) (hc : ∀ J, J < n * 9 → ∃ v, cl W B (st + J) = some v ∧ (rget (colsI out) J).rel π v) (hn : n ≤ cap) (hce : st + cap * 9 ≤ e) :
    Post P π w h ⟨.r (.c (.sl h.length (.k 0) (.s n) 9 true)), cs, [[.a (.s n) (colsI out)]]⟩ (.returned (.slice (some ⟨B, st, none⟩) n cap)) W := by
  have hsz := size_colsI ho n
  have hz0 : hZ (h.map some) b0 ≠ none := by rw [hZ_map, List.getElem?_eq_getElem hb0]; simp
  have hne : n * 9 ≤ cap * 9 := Nat.mul_le_mul_right _ hn
  refine post_gen (P := P) (B := B) (s := st) (e := e) hH hdom hcs hfr (by rw [hsz]; omega) hown (fun j hj => ?_) (.inr ⟨b0, st, q, e, hb0, hk0, hp, Nat.le_refl _, Nat.le_refl _⟩) ham (fun hse => hH.lb b0 B st q e hz0 hp hse) fun π' hx hp' => ?_
  · rw [hsz] at hj
    rw [get_colsI ho hj]; exact hc j hj
  · rw [hsz] at hp'
    exact ⟨B, st, n * 9, e, hp', by simp [Off.val, Sz.val], fun _ => by simp [Off.val, Sz.val], .inr ⟨cap, hn, rfl, fun _ => by simpa [Off.val] using hce⟩⟩
theorem post_fresh {P : Program} {π : Pi} {w W : World} {h : List Blk} {cs : List Ch} {out : List (Nat → Int)} {n cap B : Nat} (ho : out.length = 9) (hH : HRel π (hC (h.map some)) (hZ (h.map some)) w) (hdom : ∀ b, π b ≠ none → b < h.length)
    (hcs : ∀ b, b < h.length → cs[b]? = some .keep ∨ cs[b]? = some .kill) (hB : w.heap.size ≤ B) (hfr : FrameOK w (foot π h.length (chD cs)) W)
    (hown : ∀ i, i < cap * 9 → (cl W B i).isSome = true ∧ fz W B i = false) (ham : AmbOK W) (hc : ∀ J, J < n * 9 → ∃ v, cl W B J = some v ∧ (rget (colsI out) J).rel π v) (hn : n ≤ cap) :
    Post P π w h ⟨.r (.c (.sl h.length (.k 0) (.s n) 9 true)), cs, [[.a (.s n) (colsI out)]]⟩ (.returned (.slice (some ⟨B, 0, none⟩) n cap)) W := by
  have hsz := size_colsI ho n
  have hne : n * 9 ≤ cap * 9 := Nat.mul_le_mul_right _ hn
  refine post_gen (P := P) (B := B) (s := 0) (e := cap * 9) hH hdom hcs hfr (by rw [hsz]; omega) (fun i _ hi => hown i hi) (fun j hj => ?_) (.inl hB) ham (fun hse => Nat.le_trans hH.am.sz hB) fun π' hx hp' => ?_
  · rw [hsz] at hj
    rw [get_colsI ho hj, Nat.zero_add]; exact hc j hj
  · rw [hsz] at hp'
    exact ⟨B, 0, n * 9, cap * 9, hp', by simp [Off.val, Sz.val], fun _ => by simp [Off.val, Sz.val], .inr ⟨cap, hn, rfl, fun _ => by simp [Off.val]⟩⟩
theorem post_empty {P : Program} {π : Pi} {w W : World} {h : List Blk} {cs : List Ch} {out : List (Nat → Int)} {a : Option Addr} (ho : out.length = 9) (hH : HRel π (hC (h.map some)) (hZ (h.map some)) w) (hdom : ∀ b, π b ≠ none → b < h.length)
    (hcs : ∀ b, b < h.length → cs[b]? = some .keep ∨ cs[b]? = some .kill) (hfr : FrameOK w (foot π h.length (chD cs)) W) (ham : AmbOK W) :
    Post P π w h ⟨.r (.c (.sl h.length (.k 0) (.s 0) 9 true)), cs, [[.a (.s 0) (colsI out)]]⟩ (.returned (.slice a 0 0)) W := by
  have hsz := size_colsI ho 0
  refine post_gen (P := P) (B := w.heap.size) (s := 0) (e := 0) hH hdom hcs hfr (by rw [hsz]; omega) (fun i _ hi => by omega) (fun j hj => by rw [hsz] at hj; omega) (.inl (Nat.le_refl _)) ham (fun hse => by omega) fun π' hx hp' => ?_
  rw [hsz] at hp'
  exact ⟨w.heap.size, 0, 0 * 9, 0, hp', by simp [Off.val, Sz.val], fun _ => by simp [Off.val, Sz.val], .inl ⟨rfl, a, rfl⟩⟩
theorem row_at {π : Pi} {w : World} {h : List Blk} {l : List (Nat → Int)} {n b B st q e : Nat} (hl : l.length = 9) (hH : HRel π (hC (h.map some)) (hZ (h.map some)) w) (hb : h[b]? = some [.a (.s n) (colsI l)]) (hp : π b = some (B, st, q, e)) :
    q = n * 9 ∧ st + n * 9 ≤ e ∧ (∀ i, st ≤ i → i < e → (cl w B i).isSome = true ∧ fz w B i = false) ∧ ∃ cs : List Value, cs.length = n * 9 ∧ (∀ j v, cs[j]? = some v → w.cell? ⟨B, st + j, none⟩ = some v ∧ (rget (colsI l) j).rel π v) ∧ ∀ v ∈ cs, v.oneCell' = true := by
  have hz : hZ (h.map some) b = some (n * 9) := by rw [hZ_map, hb]; exact congrArg some (size_colsI hl n)
  obtain ⟨B', s', e', hb', hse, k1, k2⟩ := hH.hp b _ hz
  rw [hp] at hb'; cases hb'
  refine ⟨rfl, hse, k1, cells_list fun j hj => ?_⟩
  obtain ⟨v, hv, hr⟩ := k2 j hj
  rw [hC_map hb (by rw [size_colsI hl]; exact hj), get_colsI hl hj] at hr
  exact ⟨v, hv, hr⟩
end Go.Ab
namespace Go.Proofs.YtphkdkkbbfnkaaaGreat
open Go.RowKit Go.Lib Go.Ab
variable [Amb]
omit [Amb] in
theorem run_overlaps_same {P : Program} (w : World) (tS tR e : TypeId) (ht : P.underlying tS = some (.slice e)) (size : Nat) (hz : ∀ w, (Go.sizeOf e).run P w = .ok size w) (B oa ob la ca lb cb : Nat) (hd : oa + la * size ≤ ob ∨ ob + lb * size ≤ oa) :
    (Extern.SlicesOverlaps.overlaps #[tS, tS] #[tR] #[.slice (some ⟨B, oa, none⟩) la ca, .slice (some ⟨B, ob, none⟩) lb cb]).run P w = .ok (.bool false) w := by
  change Sem.run P (α := Value) (do
    let some t := (#[tS, tS] : Array TypeId)[0]? | stuck "slices.overlaps: no parameter types"
    let .slice elem ← underlying t | stuck "slices.overlaps: slice type expected"
    let size ← sizeOf elem
    match (some ⟨B, oa, none⟩ : Option Addr), (some ⟨B, ob, none⟩ : Option Addr) with
    | some a, some b =>
      if la = 0 ∨ lb = 0 ∨ size = 0 then pure (Value.bool false)
      else if a.block != b.block && (← frozen a) && (← frozen b) then unsupported .addressObserved
      else do
        if a.block != b.block then do
          noView a; noView b
          if ← mayBeOne a b then return Value.bool ((← choose (.extern "sameAddr.stringBytes" 2)) == 1)
        pure (Value.bool (a.block == b.block && a.off < b.off + lb * size && b.off < a.off + la * size))
    | _, _ => pure (Value.bool false)) w = _
  by_cases h0 : la = 0 ∨ lb = 0 ∨ size = 0
  · simp [run_underlying ht, hz, h0]
  · simp [run_underlying ht, hz, h0, frozen, Sem.run]
    omega
omit [Amb] in
theorem overlaps_no {w : World} {vb voff vc b o lb cb : Nat} (hd : vb = b → voff + 9 ≤ o ∨ o + lb * 9 ≤ voff) {va vb2 : Value} (ha : w.cell? ⟨vb, voff, none⟩ = some va) (hb : w.cell? ⟨b, o, none⟩ = some vb2) (hfa : ∀ i, w.frozen? ⟨vb, i, none⟩ = false) :
    (callFunc 154 #[.slice (some ⟨vb, voff, none⟩) 1 vc, .slice (some ⟨b, o, none⟩) lb cb]).run Tryz.prog w = .ok (.value (.bool false)) w := by
  rw [run_callFunc_extern Tryz.func154 (by kernel_rfl) (by kernel_rfl) (by kernel_rfl) (e := Extern.SlicesOverlaps.overlaps #[121, 121] #[4]) (by kernel_rfl)]
  obtain ⟨tA, kA, sA, _⟩ := shape_of ha
  obtain ⟨tB, kB, sB, nB⟩ := shape_of hb
  by_cases hne : vb = b
  · subst hne
    have h2 := hd rfl
    rw [run_overlaps_same w 121 4 70 uT 9 (fun w => Ab.run_sizeOf uE w) vb voff o 1 vc lb cb (by omega)]
    rfl
  · rw [Lib.run_overlaps_apart w 121 4 70 uT 9 (fun w => Ab.run_sizeOf uE w) ⟨vb, voff, none⟩ ⟨b, o, none⟩ 1 vc lb cb hne tA tB kA kB sA sB nB (hfa voff) (hfa kA)]
    rfl
end Go.Proofs.YtphkdkkbbfnkaaaGreat
set_option linter.unusedVariables false
set_option linter.unusedSimpArgs false
set_option maxRecDepth 100000
set_option maxHeartbeats 4000000
namespace Go.Proofs.YtphkdkkbbfnkaaaGreat
open Go.RowKit Go.Lib Go.Ab
theorem insert_calls [Amb] {gs vs9 : List (Nat → Int)} (hg : gs.length = 9) (hv9 : vs9.length = 9) (n i : Nat) (hi : i ≤ n) (hbig : (n + 1) * 72 ≤ 140737488355328) (w2 : Bool) (w : World) (π : Pi) (vs : Array Value)
    (hargs : All2 (AV.rel π) [.r (.c (.sl 0 (.k 0) (.s n) 9 true)), .r (.c (.f (.i .i64 (i : Int)))), .r (.c (.sl 1 (.k 0) (.s 1) 9 w2))] vs.toList)
    (hH : HRel π (hC ([[.a (.s n) (colsI gs)], [.a (.s 1) (colsI vs9)]].map some)) (hZ ([[.a (.s n) (colsI gs)], [.a (.s 1) (colsI vs9)]].map some)) w) (hdom : ∀ b, π b ≠ none → b < 2) :
    Calls Tryz.prog 87 vs w (CallPost π w [[.a (.s n) (colsI gs)], [.a (.s 1) (colsI vs9)]] ⟨.r (.c (.sl 2 (.k 0) (.s (n + 1)) 9 true)), [.kill, .keep], [[.a (.s (n + 1)) (colsI (List.zipWith (insC i) gs vs9))]]⟩) := by
  obtain ⟨y1, y2, y3, hvt, r1, r2, r3⟩ : ∃ y1 y2 y3, vs.toList = [y1, y2, y3] ∧ (AV.r (.c (.sl 0 (.k 0) (.s n) 9 true))).rel π y1 ∧ (AV.r (.c (.f (.i .i64 (i : Int))))).rel π y2 ∧ (AV.r (.c (.sl 1 (.k 0) (.s 1) 9 w2))).rel π y3 := by
    match hl : vs.toList, hargs with
    | [y1, y2, y3], ⟨a, b, c, _⟩ => exact ⟨y1, y2, y3, rfl, a, b, c⟩
    | [], h => exact h.elim
    | [_], ⟨_, h⟩ => exact h.elim
    | [_, _], ⟨_, _, h⟩ => exact h.elim
    | _ :: _ :: _ :: _ :: _, ⟨_, _, _, h⟩ => exact h.elim
  have hvt : vs = #[y1, y2, y3] := by rw [← Array.toList_inj]; exact hvt
  subst hvt
  have r2 : y2 = .int .i64 (i : Int) := r2
  subst r2
  obtain ⟨B, st, q, e, hb, _, _, hx⟩ := r1
  obtain ⟨vB, vst, vq, ve, hvb, _, _, hvx⟩ := r3
  obtain ⟨rfl, hle, hown, cs, hcl, hcs, h1c⟩ := row_at (b := 0) hg hH rfl hb
  obtain ⟨rfl, hvle, hvown, vl, hvl, hvs, h1v⟩ := row_at (b := 1) hv9 hH rfl hvb
  obtain ⟨vcap, hvcap, rfl, _⟩ : ∃ vcap, 1 ≤ vcap ∧ y3 = .slice (some ⟨vB, vst, none⟩) 1 vcap ∧ True := by
    rcases hvx with ⟨h, _⟩ | ⟨vcap, h1, h2, _⟩
    · cases h
    · exact ⟨vcap, h1, h2, trivial⟩
  have hz0 : hZ ([[.a (.s n) (colsI gs)], [.a (.s 1) (colsI vs9)]].map some) 0 ≠ none := by simp [hZ]
  have hz1 : hZ ([[.a (.s n) (colsI gs)], [.a (.s 1) (colsI vs9)]].map some) 1 ≠ none := by simp [hZ]
  have hfv : ∀ i, w.frozen? ⟨vB, i, none⟩ = false := fun i => hH.am.fr vB i (hH.lb 1 vB vst _ ve hz1 hvb (by omega))
  have ho : (List.zipWith (insC i) gs vs9).length = 9 := by simp [hg, hv9]
  have hcsK : ∀ b, b < [[Sg.a (.s n) (colsI gs)], [.a (.s 1) (colsI vs9)]].length → [Ch.kill, Ch.keep][b]? = some .keep ∨ [Ch.kill, Ch.keep][b]? = some .kill := fun b hb => by
    match b, hb with
    | 0, _ => exact .inr rfl
    | 1, _ => exact .inl rfl
    | b + 2, h => exact absurd h (by simp)
  have hft : ∀ i, st ≤ i → i < e → foot π 2 (chD [.kill, .keep]) B i := fun i h1 h2 => ⟨0, st, _, e, by omega, by simp [chD], hb, h1, h2⟩
  -- contents
  have cont : ∀ (W : World) (B' s' : Nat), (∀ j v, j < i * 9 → cs[j]? = some v → cl W B' (s' + j) = some v) → (∀ j v, vl[j]? = some v → cl W B' (s' + i * 9 + j) = some v) → (∀ j v, i * 9 ≤ j → cs[j]? = some v → cl W B' (s' + (j + 9)) = some v) →
      ∀ J, J < (n + 1) * 9 → ∃ v, cl W B' (s' + J) = some v ∧ (rget (colsI (List.zipWith (insC i) gs vs9)) J).rel π v := fun W B' s' c1 c2 c3 J hJ => by
    rw [rget_ins hg hv9]
    by_cases h1 : J < i * 9
    · rw [if_pos h1]
      have hj : cs[J]? = some (cs[J]'(by omega)) := List.getElem?_eq_getElem _
      exact ⟨_, c1 J _ h1 hj, (hcs J _ hj).2⟩
    · rw [if_neg h1]
      by_cases h2 : J < (i + 1) * 9
      · rw [if_pos h2]
        have hj : vl[J - i * 9]? = some (vl[J - i * 9]'(by omega)) := List.getElem?_eq_getElem _
        have := c2 _ _ hj
        rw [show s' + i * 9 + (J - i * 9) = s' + J by omega] at this
        exact ⟨_, this, (hvs _ _ hj).2⟩
      · rw [if_neg h2]
        have hj : cs[J - 9]? = some (cs[J - 9]'(by omega)) := List.getElem?_eq_getElem _
        have := c3 _ _ (by omega) hj
        rw [show s' + (J - 9 + 9) = s' + J by omega] at this
        exact ⟨_, this, (hcs _ _ hj).2⟩
  have hE := iE
  obtain ⟨i0, z0, hi0, hzz, hsz0, hby0, hzl0⟩ := hE
  have hbyt : (Tryz.prog.info? 70).map (·.bytes) = some 72 := by rw [hi0]; exact congrArg some hby0
  obtain ⟨zv, hzv, hzvl⟩ : ∃ zv, zeroT Tryz.prog 70 = some zv ∧ Blk.size zv.blk = 9 := by
    have h : (zeroT Tryz.prog 70).map (fun z => Blk.size z.blk) = some 9 := by kernel_rfl
    cases hz : zeroT Tryz.prog 70 with
    | none => rw [hz] at h; cases h
    | some z => rw [hz] at h; exact ⟨z, rfl, by simpa using h⟩
  -- a new row behind an append
  have grows : ∀ (base : Option Addr) (cap : Nat) (olds : List Value), i = n → olds = cs → cap < n + 1 → n ≤ cap → ((base = none ∧ n = 0 ∧ cap = 0) ∨ ∃ b, base = some b ∧ ∀ j v, olds[j]? = some v → w.cell? (b.add j) = some v) →
      y1 = .slice base n cap → Calls Tryz.prog 87 #[y1, .int .i64 (i : Int), .slice (some ⟨vB, vst, none⟩) 1 vcap] w (CallPost π w [[.a (.s n) (colsI gs)], [.a (.s 1) (colsI vs9)]] ⟨.r (.c (.sl 2 (.k 0) (.s (n + 1)) 9 true)), [.kill, .keep], [[.a (.s (n + 1)) (colsI (List.zipWith (insC i) gs vs9))]]⟩) := by
    intro base cap olds hin holds hcap hncap hs hy
    subst hin holds
    obtain ⟨gc, arr, hrun, hgc, hsz, rest, hlist⟩ : ∃ gc arr, (∀ ty, (Builtin.append_ #[121, 121] ty #[.slice base i cap, .slice (some ⟨vB, vst, none⟩) 1 vcap]).run Tryz.prog w = .ok (.slice (some ⟨w.heap.size, 0, none⟩) (i + 1) gc) (w.drew.alloc (.cells arr 70))) ∧ i + 1 ≤ gc ∧ arr.size = gc * 9 ∧ ∃ rest, arr.toList = olds ++ vl ++ rest := by
      obtain ⟨gc, arr, hrun, h2, h3, h4⟩ := run_append_new (P := Tryz.prog) (ty := 0) uT uE hbyt hzv hzvl (by omega) (sv := .slice base i cap) (n := i) (cap := cap) (m := 1) (c := vcap) (ad := ⟨vB, vst, none⟩) (olds := olds) (news := vl) w (by
        rcases hs with ⟨rfl, h1, h2⟩ | ⟨b, rfl, h3⟩
        · exact .inl ⟨by rw [h1, h2], h1, h2⟩
        · exact .inr ⟨b, rfl, h3⟩) hcl (by rw [hvl]) (fun j v hj => by rw [Addr.add_lit]; exact (hvs j v hj).1) hcap (by omega) hbig
      exact ⟨gc, arr, fun ty => by unfold Builtin.append_ at hrun ⊢; exact hrun, h2, h3, h4⟩
    have hC := ins_end base i cap vB vst vcap w _ _ hrun
    rw [hy]
    refine Calls.mono hC ?_
    rintro ev W ⟨rfl, rfl⟩
    have hcl2 : ∀ j, cl (w.drew.alloc (.cells arr 70)) w.heap.size j = arr[j]? := fun j => World.cell?_alloc_at (w := w.drew) arr _ w.heap.size j rfl
    refine post_fresh (P := Tryz.prog) ho hH hdom hcsK (Nat.le_refl _) (((FrameOK.refl w _).drew).alloc _ _) (fun k hk => ⟨by rw [hcl2, Array.getElem?_eq_getElem (by omega)]; rfl, World.frozen?_alloc_at (w := w.drew) arr _ w.heap.size k rfl⟩) ((hH.am.same (w' := w.drew) rfl).alloc _ _) (fun J hJ => ?_) hgc
    have := cont (w.drew.alloc (.cells arr 70)) w.heap.size 0 (fun j v hj hv => by rw [Nat.zero_add, hcl2]; exact (get_app3 hlist).1 hv) (fun j v hv => by rw [Nat.zero_add, hcl2, ← hcl]; exact (get_app3 hlist).2 hv) (fun j v hj hv => by have := (List.getElem?_eq_some_iff.1 hv).1; omega) J hJ
    rwa [Nat.zero_add] at this
  rcases hx with ⟨h0, a, rfl⟩ | ⟨cap, hcap, rfl, hce⟩
  · -- no samples
    have h0 : n = 0 := h0
    subst h0
    have hi0' : i = 0 := by omega
    subst hi0'
    cases a with
    | none => exact grows none 0 cs rfl rfl (by omega) (by omega) (.inl ⟨rfl, rfl, rfl⟩) rfl
    | some b =>
      have hcs0 : cs = [] := List.eq_nil_of_length_eq_zero (by omega)
      exact grows (some b) 0 cs rfl rfl (by omega) (by omega) (.inr ⟨b, rfl, fun j v hj => by rw [hcs0] at hj; simp at hj⟩) rfl
  · have hcap : n ≤ cap := hcap
    have hce : st + cap * 9 ≤ e := by have := hce rfl; simpa [Off.val] using this
    show Calls Tryz.prog 87 #[.slice (some ⟨B, st, none⟩) n cap, .int .i64 (i : Int), .slice (some ⟨vB, vst, none⟩) 1 vcap] w _
    by_cases hroom : n + 1 ≤ cap
    · have hroom9 : (n + 1) * 9 ≤ cap * 9 := Nat.mul_le_mul_right _ hroom
      have hdis : vB = B → vst + 9 ≤ st ∨ st + (n + 1) * 9 ≤ vst := fun h => by
        subst h
        rcases Nat.lt_or_ge vst (st + (n + 1) * 9) with h1 | h1
        · left
          rcases Nat.lt_or_ge st (vst + 9) with h2 | h2
          · exfalso
            rcases Nat.lt_or_ge st vst with h3 | h3
            · exact hH.dj 0 1 _ st _ e vst _ ve (by omega) hz0 hz1 hb hvb vst (by omega) (by omega) (Nat.le_refl _) (by omega)
            · exact hH.dj 0 1 _ st _ e vst _ ve (by omega) hz0 hz1 hb hvb st (Nat.le_refl _) (by omega) h3 (by omega)
          · omega
        · exact .inr h1
      by_cases hin : i = n
      · -- at the end
        subst hin
        have hC := ins_end (some ⟨B, st, none⟩) i cap vB vst vcap w _ _ (fun ty => run_append_in (P := Tryz.prog) (ty := ty) uT uE (B := B) (q := st) (n := i) (cap := cap) (m := 1) (c := vcap) (ad := ⟨vB, vst, none⟩) (news := vl) hroom (by rw [hvl]) w (fun j v hj => by rw [Addr.add_lit]; exact (hvs j v hj).1) h1v (fun j hj => hown _ (by omega) (by omega)))
        refine Calls.mono hC ?_
        rintro ev W ⟨rfl, rfl⟩
        have hin9 : ∀ j, j < vl.length → (cl w B (st + i * 9 + j)).isSome = true := fun j hj => (hown _ (by omega) (by omega)).1
        refine post_place (P := Tryz.prog) (q := i * 9) ho hH hdom hcsK (by simp) rfl hb ((FrameOK.refl w _).setCells (.inr fun j hj => hft _ (by omega) (by omega))) (fun k k1 k2 => ⟨Ab.isSome_setCells hin9 (hown k k1 k2).1, by rw [fz_setCells]; exact (hown k k1 k2).2⟩) (hH.am.setCells fun _ => hH.lb 0 B st _ e hz0 hb (by omega)) (cont _ B st (fun j v hj hv => ?_) (fun j v hv => ?_) (fun j v hj hv => by have := (List.getElem?_eq_some_iff.1 hv).1; omega)) hroom hce
        · rw [cl_setCells_out (fun _ => by omega)]; exact (hcs j v hv).1
        · have hjl := (List.getElem?_eq_some_iff.1 hv).1
          rw [cl_setCells_in hin9 hjl]
          rw [List.getElem?_eq_getElem hjl] at hv; exact hv
      · -- shifted
        have hC := ins_shift B st n cap i vB vst vcap cs vl w (by omega) hroom hdis hcl hvl (by omega) (fun j v hj => (hcs j v hj).1) (fun j hj => (hown _ (by omega) (by omega)).1) (fun j hj => (hown _ (by omega) (by omega)).2) (fun j v hj => (hvs j v hj).1) h1c h1v
          (fun cb => by
            obtain ⟨va, hva⟩ := Option.isSome_iff_exists.1 (hvown vst (Nat.le_refl _) (by omega)).1
            obtain ⟨vb2, hvb2⟩ := Option.isSome_iff_exists.1 (hown (st + (i + 1) * 9) (by omega) (by omega)).1
            exact overlaps_no (fun h => by have := hdis h; omega) hva hvb2 hfv)
        refine Calls.mono hC ?_
        rintro ev W ⟨rfl, rfl⟩
        have hdl : (cs.drop (i * 9)).length = (n - i) * 9 := by rw [List.length_drop, hcl]; omega
        have i1 : ∀ j, j < (cs.drop (i * 9)).length → (cl w.drew B (st + (i + 1) * 9 + j)).isSome = true := fun j hj => (hown _ (by omega) (by omega)).1
        have i2 : ∀ j, j < vl.length → (cl (w.drew.setCells B (st + (i + 1) * 9) (cs.drop (i * 9))) B (st + i * 9 + j)).isSome = true := fun j hj => Ab.isSome_setCells i1 (hown _ (by omega) (by omega)).1
        have hlb := hH.lb 0 B st _ e hz0 hb (by omega)
        refine post_place (P := Tryz.prog) (q := n * 9) ho hH hdom hcsK (by simp) rfl hb ((((FrameOK.refl w _).drew).setCells (.inr fun j hj => hft _ (by omega) (by omega))).setCells (.inr fun j hj => hft _ (by omega) (by omega)))
          (fun k k1 k2 => ⟨Ab.isSome_setCells i2 (Ab.isSome_setCells i1 (hown k k1 k2).1), by rw [fz_setCells, fz_setCells]; exact (hown k k1 k2).2⟩) (((hH.am.same (w' := w.drew) rfl).setCells fun _ => hlb).setCells fun _ => hlb) (cont _ B st (fun j v hj hv => ?_) (fun j v hv => ?_) (fun j v hj hv => ?_)) hroom hce
        · rw [cl_setCells_out (fun _ => by omega), cl_setCells_out (fun _ => by omega)]; exact (hcs j v hv).1
        · have hjl := (List.getElem?_eq_some_iff.1 hv).1
          rw [cl_setCells_in i2 hjl]
          rw [List.getElem?_eq_getElem hjl] at hv; exact hv
        · have hjl := (List.getElem?_eq_some_iff.1 hv).1
          rw [cl_setCells_out (fun _ => by omega)]
          have hj2 : j - i * 9 < (cs.drop (i * 9)).length := by omega
          have := cl_setCells_in i1 hj2
          rw [show st + (i + 1) * 9 + (j - i * 9) = st + (j + 9) by omega] at this
          rw [this, ← List.getElem?_eq_getElem, List.getElem?_drop, show i * 9 + (j - i * 9) = j by omega]
          exact hv
    · by_cases hin : i = n
      · exact grows (some ⟨B, st, none⟩) cap cs hin rfl (by omega) hcap (.inr ⟨_, rfl, fun j v hj => by rw [Addr.add_lit]; exact (hcs j v hj).1⟩) rfl
      · obtain ⟨G, ROW, hG, hsz, htk, hC⟩ := ins_grow B st n cap i vB vst vcap cs vl w (by omega) hcap (by omega) hbig hcl hvl (fun j v hj => (hcs j v hj).1) (fun j v hj => (hvs j v hj).1) h1c h1v
        refine Calls.mono hC ?_
        rintro ev W ⟨rfl, rfl⟩
        have hG9 : (n + 1) * 9 ≤ G * 9 := Nat.mul_le_mul_right _ hG
        have hdl : (cs.drop (i * 9)).length = (n - i) * 9 := by rw [List.length_drop, hcl]; omega
        have c0 : ∀ j, cl (w.alloc (.cells ROW 70)).drew w.heap.size j = ROW[j]? := fun j => World.cell?_alloc_at (w := w) ROW _ w.heap.size j rfl
        have s0 : ∀ j, j < G * 9 → (cl (w.alloc (.cells ROW 70)).drew w.heap.size j).isSome = true := fun j hj => by rw [c0, Array.getElem?_eq_getElem (by omega)]; rfl
        have i1 : ∀ j, j < vl.length → (cl (w.alloc (.cells ROW 70)).drew w.heap.size (i * 9 + j)).isSome = true := fun j hj => s0 _ (by omega)
        have i2 : ∀ j, j < (cs.drop (i * 9)).length → (cl ((w.alloc (.cells ROW 70)).drew.setCells w.heap.size (i * 9) vl).drew w.heap.size ((i + 1) * 9 + j)).isSome = true := fun j hj => Ab.isSome_setCells i1 (s0 _ (by omega))
        have hlb : Amb.h0 ≤ w.heap.size := hH.am.sz
        have am1 : AmbOK (w.alloc (.cells ROW 70)).drew := (hH.am.alloc ROW 70).same (w' := (w.alloc (.cells ROW 70)).drew) rfl
        have am2 : AmbOK ((w.alloc (.cells ROW 70)).drew.setCells w.heap.size (i * 9) vl).drew := (am1.setCells fun _ => hlb).same (w' := ((w.alloc (.cells ROW 70)).drew.setCells w.heap.size (i * 9) vl).drew) rfl
        have f1 : FrameOK w (foot π 2 (chD [.kill, .keep])) ((w.alloc (.cells ROW 70)).drew.setCells w.heap.size (i * 9) vl).drew := ((((FrameOK.refl w _).alloc ROW 70).drew).setCells (.inl (Nat.le_refl _))).drew
        refine post_fresh (P := Tryz.prog) ho hH hdom hcsK (Nat.le_refl _) (f1.setCells (.inl (Nat.le_refl _))) (fun k hk => ⟨Ab.isSome_setCells i2 (Ab.isSome_setCells i1 (s0 k hk)), ?_⟩) (am2.setCells fun _ => hlb) (fun J hJ => ?_) hG
        · rw [fz_setCells]
          exact (fz_setCells (w := (w.alloc (.cells ROW 70)).drew)).trans (World.frozen?_alloc_at (w := w) ROW _ w.heap.size k rfl)
        · have := cont (((w.alloc (.cells ROW 70)).drew.setCells w.heap.size (i * 9) vl).drew.setCells w.heap.size ((i + 1) * 9) (cs.drop (i * 9))) w.heap.size 0 (fun j v hj hv => ?_) (fun j v hv => ?_) (fun j v hj hv => ?_) J hJ
          · rwa [Nat.zero_add] at this
          · rw [Nat.zero_add, cl_setCells_out (fun _ => by omega)]
            exact (cl_setCells_out (w := (w.alloc (.cells ROW 70)).drew) (fun _ => by omega)).trans ((c0 j).trans (htk j v hj hv))
          · have hjl := (List.getElem?_eq_some_iff.1 hv).1
            rw [Nat.zero_add, cl_setCells_out (fun _ => by omega)]
            have := cl_setCells_in i1 hjl
            rw [List.getElem?_eq_getElem hjl] at hv
            exact this.trans hv
          · have hjl := (List.getElem?_eq_some_iff.1 hv).1
            have hj2 : j - i * 9 < (cs.drop (i * 9)).length := by omega
            have := cl_setCells_in i2 hj2
            rw [show (i + 1) * 9 + (j - i * 9) = j + 9 by omega] at this
            rw [Nat.zero_add, this, ← List.getElem?_eq_getElem, List.getElem?_drop, show i * 9 + (j - i * 9) = j by omega]
            exact hv
end Go.Proofs.YtphkdkkbbfnkaaaGreat
set_option linter.unusedVariables false
set_option linter.unusedSimpArgs false
set_option maxRecDepth 100000
set_option maxHeartbeats 4000000
namespace Go.Proofs.YtphkdkkbbfnkaaaGreat
open Go.RowKit Go.Lib Go.Ab
theorem zS [Amb] : ∃ z, (∀ w, (Go.zeroValue 70).run Tryz.prog w = .ok z w) ∧ z.cells.size = 9 ∧ ∀ v ∈ z.cells.toList, v.oneCell' = true := by
  have h : (Tryz.prog.info? 70).map (fun i => i.zero.map fun z => (z.cells.size, z.cells.toList.all fun v => v.oneCell')) = some (some (9, true)) := by kernel_rfl
  obtain ⟨zv, hzv⟩ : ∃ zv, zeroT Tryz.prog 70 = some zv := by
    have h : (zeroT Tryz.prog 70).isSome = true := by kernel_rfl
    exact Option.isSome_iff_exists.1 h
  cases hi : Tryz.prog.info? 70 with
  | none => rw [hi] at h; cases h
  | some i =>
    rw [hi] at h
    simp only [Option.map_some, Option.some.injEq] at h
    cases hz : i.zero with
    | none => rw [hz] at h; cases h
    | some z =>
      rw [hz] at h
      simp only [Option.map_some, Option.some.injEq, Prod.mk.injEq] at h
      refine ⟨z, fun w => ?_, h.1, List.all_eq_true.1 h.2⟩
      obtain ⟨x, hx, ⟨it, hi2, hz2⟩, _⟩ := run_zero hzv w
      rw [hi] at hi2
      cases hi2
      rw [hz] at hz2
      cases hz2
      exact hx
theorem clear_9 [Amb] (w : World) (ty : TypeId) (b o n c : Nat) (hn : 0 < n) (hc : ∀ j, j < n * 9 → (w.cell? ⟨b, o + j, none⟩).isSome = true) (hf : ∀ j, j < n * 9 → w.frozen? ⟨b, o + j, none⟩ = false) :
    ∃ zs : List Value, zs.length = n * 9 ∧ (Builtin.clear_ #[121] ty #[.slice (some ⟨b, o, none⟩) n c]).run Tryz.prog w = .ok (.tuple #[]) (w.setCells b o zs) := by
  obtain ⟨z, hz, hs, h1⟩ := zS
  have hl : (Builtin.zeroCells z.cells n).toList.length = n * 9 := by rw [Array.length_toList, size_zeroCells, hs]
  refine ⟨(Builtin.zeroCells z.cells n).toList, hl, ?_⟩
  have hst := run_storeCells_cells (P := Tryz.prog) b o (Builtin.zeroCells z.cells n).toList 0 w (by rw [hl]; simpa using hc) (by rw [hl]; simpa using hf) (by
    intro v hv
    unfold Builtin.zeroCells at hv
    rw [Array.toList_map] at hv
    obtain ⟨i, hi, rfl⟩ := List.mem_map.1 hv
    have hlt : i % z.cells.size < z.cells.size := Nat.mod_lt _ (by omega)
    have e : z.cells[i % z.cells.size]! = z.cells[i % z.cells.size] := getElem!_pos z.cells (i % z.cells.size) hlt
    rw [e]
    exact h1 _ (Array.getElem_mem_toList hlt))
  simp only [Nat.add_zero] at hst
  obtain ⟨m, rfl⟩ : ∃ m, n = m + 1 := ⟨n - 1, by omega⟩
  simp [Builtin.clear_, run_underlying uT, hz, hst]
theorem delete_calls [Amb] {gs : List (Nat → Int)} (hg : gs.length = 9) (n i j : Nat) (hij : i ≤ j) (hj : j ≤ n) (w : World) (π : Pi) (vs : Array Value)
    (hargs : All2 (AV.rel π) [.r (.c (.sl 0 (.k 0) (.s n) 9 true)), .r (.c (.f (.i .i64 (i : Int)))), .r (.c (.f (.i .i64 (j : Int))))] vs.toList)
    (hH : HRel π (hC ([[.a (.s n) (colsI gs)]].map some)) (hZ ([[.a (.s n) (colsI gs)]].map some)) w) (hdom : ∀ b, π b ≠ none → b < 1) :
    Calls Tryz.prog 88 vs w (CallPost π w [[.a (.s n) (colsI gs)]] ⟨.r (.c (.sl 1 (.k 0) (.s (i + (n - j))) 9 true)), [.kill], [[.a (.s (i + (n - j))) (colsI (gs.map (delC i (j - i))))]]⟩) := by
  obtain ⟨y1, y2, y3, hvt, r1, r2, r3⟩ : ∃ y1 y2 y3, vs.toList = [y1, y2, y3] ∧ (AV.r (.c (.sl 0 (.k 0) (.s n) 9 true))).rel π y1 ∧ (AV.r (.c (.f (.i .i64 (i : Int))))).rel π y2 ∧ (AV.r (.c (.f (.i .i64 (j : Int))))).rel π y3 := by
    match hl : vs.toList, hargs with
    | [y1, y2, y3], ⟨a, b, c, _⟩ => exact ⟨y1, y2, y3, rfl, a, b, c⟩
    | [], h => exact h.elim
    | [_], ⟨_, h⟩ => exact h.elim
    | [_, _], ⟨_, _, h⟩ => exact h.elim
    | _ :: _ :: _ :: _ :: _, ⟨_, _, _, h⟩ => exact h.elim
  have hvt : vs = #[y1, y2, y3] := by rw [← Array.toList_inj]; exact hvt
  subst hvt
  have r2 : y2 = .int .i64 (i : Int) := r2
  have r3 : y3 = .int .i64 (j : Int) := r3
  subst r2 r3
  obtain ⟨B, st, q, e, hb, _, _, hx⟩ := r1
  obtain ⟨rfl, hle, hown, cs, hcl, hcs, h1c⟩ := row_at (b := 0) hg hH rfl hb
  have hz0 : hZ ([[.a (.s n) (colsI gs)]].map some) 0 ≠ none := by simp [hZ]
  have ho : (gs.map (delC i (j - i))).length = 9 := by simp [hg]
  have hcsK : ∀ b, b < [[Sg.a (.s n) (colsI gs)]].length → [Ch.kill][b]? = some .keep ∨ [Ch.kill][b]? = some .kill := fun b hb => by
    match b, hb with
    | 0, _ => exact .inr rfl
    | b + 1, h => exact absurd h (by simp)
  have hft : ∀ i, st ≤ i → i < e → foot π 1 (chD [.kill]) B i := fun i h1 h2 => ⟨0, st, _, e, by omega, by simp [chD], hb, h1, h2⟩
  rcases hx with ⟨h0, a, rfl⟩ | ⟨cap, hcap, rfl, hce⟩
  · have h0 : n = 0 := h0
    subst h0
    have hi0 : i = 0 := by omega
    have hj0 : j = 0 := by omega
    subst hi0 hj0
    refine Calls.mono (del_none a 0 0 0 w (by omega) (by omega)) ?_
    rintro ev W ⟨rfl, rfl⟩
    exact post_empty (P := Tryz.prog) ho hH hdom hcsK (FrameOK.refl _ _) hH.am
  · have hcap : n ≤ cap := hcap
    have hce : st + cap * 9 ≤ e := by have := hce rfl; simpa [Off.val] using this
    have hcap9 : n * 9 ≤ cap * 9 := Nat.mul_le_mul_right _ hcap
    show Calls Tryz.prog 88 #[.slice (some ⟨B, st, none⟩) n cap, .int .i64 (i : Int), .int .i64 (j : Int)] w _
    rcases Nat.eq_or_lt_of_le hij with hij0 | hlt
    · subst hij0
      refine Calls.mono (del_none _ n cap i w hj hcap) ?_
      rintro ev W ⟨rfl, rfl⟩
      have hn : i + (n - i) = n := by omega
      rw [hn]
      refine post_place (P := Tryz.prog) (q := n * 9) ho hH hdom hcsK (by simp) rfl hb (FrameOK.refl _ _) hown hH.am (fun J hJ => ?_) hcap hce
      rw [rget_del hg]
      have hjj : cs[J]? = some (cs[J]'(by omega)) := List.getElem?_eq_getElem _
      refine ⟨_, (hcs _ _ hjj).1, ?_⟩
      have := (hcs _ _ hjj).2
      split
      · exact this
      · rw [Nat.sub_self, Nat.zero_mul, Nat.add_zero]; exact this
    · have hm9 : (i + (n - j)) * 9 ≤ n * 9 := Nat.mul_le_mul_right _ (by omega)
      have hdl : (cs.drop (j * 9)).length = (n - j) * 9 := by rw [List.length_drop, hcl]; omega
      have i1 : ∀ k, k < (cs.drop (j * 9)).length → (cl w.drew B (st + i * 9 + k)).isSome = true := fun k hk => (hown _ (by omega) (by omega)).1
      obtain ⟨w2, hw2⟩ : ∃ w2, w2 = w.drew.setCells B (st + i * 9) (cs.drop (j * 9)) := ⟨_, rfl⟩
      have s2 : ∀ k, st ≤ k → k < e → (cl w2 B k).isSome = true ∧ fz w2 B k = false := fun k k1 k2 => by
        rw [hw2]
        exact ⟨Ab.isSome_setCells i1 (hown k k1 k2).1, by rw [fz_setCells]; exact (hown k k1 k2).2⟩
      obtain ⟨zs, hzl, hclr⟩ : ∃ zs : List Value, zs.length = (n - (i + (n - j))) * 9 ∧ ∀ ty, (Builtin.clear_ #[121] ty #[.slice (some ⟨B, st + (i + (n - j)) * 9, none⟩) (n - (i + (n - j))) (cap - (i + (n - j)))]).run Tryz.prog w2 = .ok (.tuple #[]) (w2.setCells B (st + (i + (n - j)) * 9) zs) := by
        obtain ⟨zs, h1, h2⟩ := clear_9 w2 0 B (st + (i + (n - j)) * 9) (n - (i + (n - j))) (cap - (i + (n - j))) (by omega) (fun k hk => (s2 _ (by omega) (by omega)).1) (fun k hk => (s2 _ (by omega) (by omega)).2)
        exact ⟨zs, h1, fun ty => by unfold Builtin.clear_ at h2 ⊢; exact h2⟩
      have hC := del_some B st n cap i j w w2 (w2.setCells B (st + (i + (n - j)) * 9) zs) hlt hj hcap (fun ty => by
        rw [hw2]
        exact run_append_in (P := Tryz.prog) (ty := ty) uT uE (B := B) (q := st) (n := i) (cap := cap) (m := n - j) (c := cap - j) (news := cs.drop (j * 9)) (by omega) hdl w.drew (fun k v hk => by
          have hk2 := (List.getElem?_eq_some_iff.1 hk).1
          rw [List.getElem?_drop] at hk
          have := (hcs _ _ hk).1
          split
          · omega
          · rw [Addr.add_lit, Nat.add_assoc]; exact this) (fun v hv => h1c v (List.mem_of_mem_drop hv)) (fun k hk => hown _ (by omega) (by omega))) hclr
      refine Calls.mono hC ?_
      rintro ev W ⟨rfl, rfl⟩
      have i2 : ∀ k, k < zs.length → (cl w2 B (st + (i + (n - j)) * 9 + k)).isSome = true := fun k hk => (s2 _ (by omega) (by omega)).1
      have hlb : 0 < n → Amb.h0 ≤ B := fun _ => hH.lb 0 B st _ e hz0 hb (by omega)
      have am2 : AmbOK w2 := by rw [hw2]; exact (hH.am.same (w' := w.drew) rfl).setCells fun _ => hlb (by omega)
      have f2 : FrameOK w (foot π 1 (chD [.kill])) w2 := by rw [hw2]; exact ((FrameOK.refl w _).drew).setCells (.inr fun k hk => hft _ (by omega) (by omega))
      refine post_place (P := Tryz.prog) (q := n * 9) ho hH hdom hcsK (by simp) rfl hb (f2.setCells (.inr fun k hk => hft _ (by omega) (by omega))) (fun k k1 k2 => ⟨Ab.isSome_setCells i2 (s2 k k1 k2).1, by rw [fz_setCells]; exact (s2 k k1 k2).2⟩) (am2.setCells fun _ => hlb (by omega)) (fun J hJ => ?_) (by omega) hce
      rw [rget_del hg, cl_setCells_out (fun _ => by omega), hw2]
      by_cases h1 : J < i * 9
      · rw [if_pos h1, cl_setCells_out (fun _ => by omega)]
        have hjj : cs[J]? = some (cs[J]'(by omega)) := List.getElem?_eq_getElem _
        exact ⟨_, (hcs _ _ hjj).1, (hcs _ _ hjj).2⟩
      · rw [if_neg h1]
        have hJ2 : J - i * 9 < (cs.drop (j * 9)).length := by omega
        have h3 := cl_setCells_in i1 hJ2
        rw [show st + i * 9 + (J - i * 9) = st + J by omega] at h3
        refine ⟨_, h3, ?_⟩
        have hjj : cs[J + (j - i) * 9]? = some ((cs.drop (j * 9))[J - i * 9]) := by
          rw [← List.getElem?_eq_getElem, List.getElem?_drop]
          congr 1
          have : (j - i) * 9 = j * 9 - i * 9 := by omega
          omega
        exact (hcs _ _ hjj).2
theorem clone_calls [Amb] {gs : List (Nat → Int)} (hg : gs.length = 9) (n : Nat) (hbig : n * 72 ≤ 140737488355328) (w0 : Bool) (w : World) (π : Pi) (vs : Array Value)
    (hargs : All2 (AV.rel π) [.r (.c (.sl 0 (.k 0) (.s n) 9 w0))] vs.toList)
    (hH : HRel π (hC ([[.a (.s n) (colsI gs)]].map some)) (hZ ([[.a (.s n) (colsI gs)]].map some)) w) (hdom : ∀ b, π b ≠ none → b < 1) :
    Calls Tryz.prog 120 vs w (CallPost π w [[.a (.s n) (colsI gs)]] ⟨.r (.c (.sl 1 (.k 0) (.s n) 9 true)), [.keep], [[.a (.s n) (colsI gs)]]⟩) := by
  obtain ⟨y1, hvt, r1⟩ : ∃ y1, vs.toList = [y1] ∧ (AV.r (.c (.sl 0 (.k 0) (.s n) 9 w0))).rel π y1 := by
    match hl : vs.toList, hargs with
    | [y1], ⟨a, _⟩ => exact ⟨y1, rfl, a⟩
    | [], h => exact h.elim
    | _ :: _ :: _, ⟨_, h⟩ => exact h.elim
  have hvt : vs = #[y1] := by rw [← Array.toList_inj]; exact hvt
  subst hvt
  obtain ⟨B, st, q, e, hb, _, _, hx⟩ := r1
  obtain ⟨rfl, hle, hown, cs, hcl, hcs, h1c⟩ := row_at (b := 0) hg hH rfl hb
  have hcsK : ∀ b, b < [[Sg.a (.s n) (colsI gs)]].length → [Ch.keep][b]? = some .keep ∨ [Ch.keep][b]? = some .kill := fun b hb => by
    match b, hb with
    | 0, _ => exact .inl rfl
    | b + 1, h => exact absurd h (by simp)
  have hE := iE
  obtain ⟨i0, z0, hi0, hzz, hsz0, hby0, hzl0⟩ := hE
  have hbyt : (Tryz.prog.info? 70).map (·.bytes) = some 72 := by rw [hi0]; exact congrArg some hby0
  obtain ⟨zv, hzv, hzvl⟩ : ∃ zv, zeroT Tryz.prog 70 = some zv ∧ Blk.size zv.blk = 9 := by
    have h : (zeroT Tryz.prog 70).map (fun z => Blk.size z.blk) = some 9 := by kernel_rfl
    cases hz : zeroT Tryz.prog 70 with
    | none => rw [hz] at h; cases h
    | some z => rw [hz] at h; exact ⟨z, rfl, by simpa using h⟩
  obtain ⟨w1, hw1⟩ : ∃ w1, w1 = w.alloc (.cells #[] 70) := ⟨_, rfl⟩
  have hs1 : w1.heap.size = w.heap.size + 1 := by rw [hw1]; exact World.size_alloc ..
  have am1 : AmbOK w1 := by rw [hw1]; exact hH.am.alloc _ _
  have f1 : FrameOK w (foot π 1 (chD [.keep])) w1 := by rw [hw1]; exact (FrameOK.refl w _).alloc _ _
  -- no samples
  have none_ : n = 0 → ∀ (a : Addr) (c : Nat), Calls Tryz.prog 120 #[.slice (some a) 0 c] w (CallPost π w [[.a (.s n) (colsI gs)]] ⟨.r (.c (.sl 1 (.k 0) (.s n) 9 true)), [.keep], [[.a (.s n) (colsI gs)]]⟩) := fun h0 a c => by
    subst h0
    refine Calls.mono (clone_some a 0 c w _ _ fun ty => run_append_in (P := Tryz.prog) (ty := ty) uT uE (B := w.heap.size) (q := 0) (n := 0) (cap := 0) (m := 0) (c := c) (ad := a) (news := []) (by omega) rfl (w.alloc (.cells #[] 70)) (fun j v hj => by simp at hj) (fun v hv => by cases hv) (fun j hj => by simp at hj)) ?_
    rintro ev W ⟨rfl, rfl⟩
    rw [← hw1]
    exact post_empty (P := Tryz.prog) hg hH hdom hcsK f1 am1
  rcases hx with ⟨h0, a, rfl⟩ | ⟨cap, hcap, rfl, hce⟩
  · have h0 : n = 0 := h0
    cases a with
    | none =>
      subst h0
      refine Calls.mono (clone_nil w) ?_
      rintro ev W ⟨rfl, rfl⟩
      exact post_empty (P := Tryz.prog) hg hH hdom hcsK (FrameOK.refl _ _) hH.am
    | some b => exact none_ h0 b 0
  · show Calls Tryz.prog 120 #[.slice (some ⟨B, st, none⟩) n cap] w _
    rcases Nat.eq_zero_or_pos n with h0 | hn
    · subst h0
      exact none_ rfl ⟨B, st, none⟩ cap
    · have hbw : B < w.heap.size := cl_lt (hown st (Nat.le_refl _) (by omega)).1
      obtain ⟨gc, arr, hrun, hgc, hsz, rest, hlist⟩ := run_append_new (P := Tryz.prog) (ty := 0) uT uE hbyt hzv hzvl (by omega) (sv := .slice (some ⟨w.heap.size, 0, none⟩) 0 0) (n := 0) (cap := 0) (m := n) (c := cap) (ad := ⟨B, st, none⟩) (olds := []) (news := cs) w1 (.inr ⟨_, rfl, fun j v hj => by simp at hj⟩) rfl hcl (fun j v hj => by
        rw [Addr.add_lit, hw1]
        exact (World.cell?_alloc_past (w := w) _ B _ hbw).trans (hcs j v hj).1) (by omega) hn (by omega)
      rw [Nat.zero_add] at hrun hgc
      have hrun : ∀ ty, (Builtin.append_ #[121, 121] ty #[.slice (some ⟨w.heap.size, 0, none⟩) 0 0, .slice (some ⟨B, st, none⟩) n cap]).run Tryz.prog (w.alloc (.cells #[] 70)) = .ok (.slice (some ⟨w1.heap.size, 0, none⟩) n gc) (w1.drew.alloc (.cells arr 70)) := fun ty => by rw [← hw1]; unfold Builtin.append_ at hrun ⊢; exact hrun
      refine Calls.mono (clone_some ⟨B, st, none⟩ n cap w _ _ hrun) ?_
      rintro ev W ⟨rfl, rfl⟩
      have hcl2 : ∀ j, cl (w1.drew.alloc (.cells arr 70)) w1.heap.size j = arr[j]? := fun j => World.cell?_alloc_at (w := w1.drew) arr _ w1.heap.size j rfl
      refine post_fresh (P := Tryz.prog) hg hH hdom hcsK (by omega) ((f1.drew).alloc _ _) (fun k hk => ⟨by rw [hcl2, Array.getElem?_eq_getElem (by omega)]; rfl, World.frozen?_alloc_at (w := w1.drew) arr _ w1.heap.size k rfl⟩) ((am1.same (w' := w1.drew) rfl).alloc _ _) (fun J hJ => ?_) hgc
      have hjj : cs[J]? = some (cs[J]'(by omega)) := List.getElem?_eq_getElem _
      refine ⟨_, ?_, (hcs _ _ hjj).2⟩
      rw [hcl2]
      have := (get_app3 hlist).2 hjj
      simpa using this
end Go.Proofs.YtphkdkkbbfnkaaaGreat
set_option maxRecDepth 100000
set_option maxHeartbeats 4000000
set_option linter.unusedVariables false
noncomputable section
namespace Go.Proofs.YtphkdkkbbfnkaaaGreat
open Go.Ab Go.Ab.Pg
theorem cond_some {α : Type} {c : Bool} {v d : α} (h : cond c (some v) none = some d) : c = true ∧ v = d := by
  cases c with
  | true => exact ⟨rfl, Option.some.inj h⟩
  | false => cases h
theorem FC_eval1 {β δ : Type} {Q : Rq (List AV × List Blk) β} {R : δ → Go.Ab.T} {f : β → Option δ} {a : List AV} {h : List Blk} {r : Res} (hr : (FC Q R f a h).eval = some r) :
    ∃ b d, (a, h) = Q.em b ∧ f b = some d ∧ (R d).eval = some r := by
  unfold FC at hr
  split at hr
  · rename_i b hb
    obtain ⟨t, b⟩ := b
    obtain ⟨h1, hr1⟩ := tests_eval hr
    rw [opt_eval2] at hr1
    obtain ⟨d, e1, e2⟩ := Option.bind_eq_some_iff.1 hr1
    exact ⟨b, d, Q.ok _ _ _ hb h1, e1, e2⟩
  · cases hr
def Q_Dg := (open Go.Ab.Rq in (dp (c (ac (slc 0 9)) (c ai (cl (ac (slc 1 9)) nil))) fun a => (c (cl (gs a.1.1 (c kci (c kci (c kci (c kci (c kci (c kci (c kci (c kci (cl kci nil)))))))))) nil) (cl (cl (gs a.2.2.1 (c kci (c kci (c kci (c kci (c kci (c kci (c kci (c kci (cl kci nil)))))))))) nil) nil))) : Rq (List AV × List Blk) _)
def RR_Dg := (open Go.Ab.Rq in (res (pr (ac (slo 2 9)) (pu (cu chx (cu chk nil)) (cl (cl (ga (pr (szs hole) (c kci (c kci (c kci (c kci (c kci (c kci (c kci (c kci (cl kci nil))))))))))) nil) nil)))) : Rq (Res) _)
abbrev D_Dg := Nat × (Nat → Int) × (Nat → Int) × (Nat → Int) × (Nat → Int) × (Nat → Int) × (Nat → Int) × (Nat → Int) × (Nat → Int) × (Nat → Int)
def R_Dg (d : D_Dg) : T := (fun d => .leaf (RR_Dg.em (d.1, d))) d
abbrev G_Dg := Nat → Int → (Nat → Int) → (Nat → Int) → (Nat → Int) → (Nat → Int) → (Nat → Int) → (Nat → Int) → (Nat → Int) → (Nat → Int) → (Nat → Int) → (Nat → Int) → (Nat → Int) → (Nat → Int) → (Nat → Int) → (Nat → Int) → (Nat → Int) → (Nat → Int) → (Nat → Int) → (Nat → Int) → Nat → Bool → Bool → Option D_Dg
def e_Dg (g : G_Dg) : Ct := (87, nilF 0 [.i .i64, .i .i64, .i .i64, .i .i64, .i .i64, .i .i64, .i .i64, .i .i64, .i .i64] (FC Q_Dg R_Dg (fun b => g b.1.1.1 b.1.2.1 b.2.1.1 b.2.1.2.1 b.2.1.2.2.1 b.2.1.2.2.2.1 b.2.1.2.2.2.2.1 b.2.1.2.2.2.2.2.1 b.2.1.2.2.2.2.2.2.1 b.2.1.2.2.2.2.2.2.2.1 b.2.1.2.2.2.2.2.2.2.2 b.2.2.1 b.2.2.2.1 b.2.2.2.2.1 b.2.2.2.2.2.1 b.2.2.2.2.2.2.1 b.2.2.2.2.2.2.2.1 b.2.2.2.2.2.2.2.2.1 b.2.2.2.2.2.2.2.2.2.1 b.2.2.2.2.2.2.2.2.2.2 b.1.2.2.1 b.1.1.2 b.1.2.2.2)))
def f_Dg (x0 : Nat) (x1 : Int) (x2 x3 x4 x5 x6 x7 x8 x9 x10 x11 x12 x13 x14 x15 x16 x17 x18 x19 : Nat → Int) (x20 : Nat) (w0 w1 : Bool) : Option D_Dg :=
  bif Nat.beq x20 1 && (w0 && (decide (0 ≤ x1) && (Nat.ble (Int.toNat x1) x0 && Nat.ble ((x0 + 1) * 72) 140737488355328))) then some (x0 + 1, insC (Int.toNat x1) x2 x11, insC (Int.toNat x1) x3 x12, insC (Int.toNat x1) x4 x13, insC (Int.toNat x1) x5 x14, insC (Int.toNat x1) x6 x15, insC (Int.toNat x1) x7 x16, insC (Int.toNat x1) x8 x17, insC (Int.toNat x1) x9 x18, insC (Int.toNat x1) x10 x19) else none
theorem qa_Dg : ∀ b, (Q_Dg).em b = ([.r (.c (.sl 0 (.k 0) (.s b.1.1.1) 9 b.1.1.2)), .r (.c (.f (.i .i64 b.1.2.1))), .r (.c (.sl 1 (.k 0) (.s b.1.2.2.1) 9 b.1.2.2.2))], [[.a (.s b.1.1.1) [.i .i64 b.2.1.1, .i .i64 b.2.1.2.1, .i .i64 b.2.1.2.2.1, .i .i64 b.2.1.2.2.2.1, .i .i64 b.2.1.2.2.2.2.1, .i .i64 b.2.1.2.2.2.2.2.1, .i .i64 b.2.1.2.2.2.2.2.2.1, .i .i64 b.2.1.2.2.2.2.2.2.2.1, .i .i64 b.2.1.2.2.2.2.2.2.2.2]], [.a (.s b.1.2.2.1) [.i .i64 b.2.2.1, .i .i64 b.2.2.2.1, .i .i64 b.2.2.2.2.1, .i .i64 b.2.2.2.2.2.1, .i .i64 b.2.2.2.2.2.2.1, .i .i64 b.2.2.2.2.2.2.2.1, .i .i64 b.2.2.2.2.2.2.2.2.1, .i .i64 b.2.2.2.2.2.2.2.2.2.1, .i .i64 b.2.2.2.2.2.2.2.2.2.2]]]) := fun b => by kernel_rfl
theorem s_Dg [Amb] : Snd Tryz.prog (e_Dg f_Dg) := Sound.nil 0 [.i .i64, .i .i64, .i .i64, .i .i64, .i .i64, .i .i64, .i .i64, .i .i64, .i .i64] <| fun args h r hr w π vs hargs hH hdom => by
  obtain ⟨b, d, e, hd, hq⟩ := FC_eval1 hr
  rw [qa_Dg] at e
  obtain ⟨hc, rfl⟩ := cond_some hd
  simp only [Bool.and_eq_true, decide_eq_true_eq] at hc
  obtain ⟨h0, h1, h2, h3, h4⟩ := hc
  rw [Nat.eq_of_beq_eq_true h0] at e
  obtain ⟨rfl, rfl⟩ := Prod.mk.inj e
  rw [h1, show b.1.2.1 = ((Int.toNat b.1.2.1 : Nat) : Int) by omega] at hargs
  have hr2 : RR_Dg.em (_, _) = r := Option.some.inj hq
  subst hr2
  exact .inl ⟨callable_run (by kernel_rfl) _ _, insert_calls (gs := [b.2.1.1, b.2.1.2.1, b.2.1.2.2.1, b.2.1.2.2.2.1, b.2.1.2.2.2.2.1, b.2.1.2.2.2.2.2.1, b.2.1.2.2.2.2.2.2.1, b.2.1.2.2.2.2.2.2.2.1, b.2.1.2.2.2.2.2.2.2.2]) (vs9 := [b.2.2.1, b.2.2.2.1, b.2.2.2.2.1, b.2.2.2.2.2.1, b.2.2.2.2.2.2.1, b.2.2.2.2.2.2.2.1, b.2.2.2.2.2.2.2.2.1, b.2.2.2.2.2.2.2.2.2.1, b.2.2.2.2.2.2.2.2.2.2]) rfl rfl _ _ (Nat.le_of_ble_eq_true h3) (Nat.le_of_ble_eq_true h4) _ w π vs hargs hH fun b hb => hdom b hb⟩
def Q_CS := (open Go.Ab.Rq in (dp (c (ac (slc 0 9)) (c ai (cl ai nil))) fun a => (cl (cl (gs a.1.1 (c kci (c kci (c kci (c kci (c kci (c kci (c kci (c kci (cl kci nil)))))))))) nil) nil)) : Rq (List AV × List Blk) _)
def RR_CS := (open Go.Ab.Rq in (res (pr (ac (slo 1 9)) (pu (cu chx nil) (cl (cl (ga (pr (szs hole) (c kci (c kci (c kci (c kci (c kci (c kci (c kci (c kci (cl kci nil))))))))))) nil) nil)))) : Rq (Res) _)
abbrev D_CS := Nat × (Nat → Int) × (Nat → Int) × (Nat → Int) × (Nat → Int) × (Nat → Int) × (Nat → Int) × (Nat → Int) × (Nat → Int) × (Nat → Int)
def R_CS (d : D_CS) : T := (fun d => .leaf (RR_CS.em (d.1, d))) d
abbrev G_CS := Nat → Int → Int → (Nat → Int) → (Nat → Int) → (Nat → Int) → (Nat → Int) → (Nat → Int) → (Nat → Int) → (Nat → Int) → (Nat → Int) → (Nat → Int) → Bool → Option D_CS
def e_CS (g : G_CS) : Ct := (88, nilF 0 [.i .i64, .i .i64, .i .i64, .i .i64, .i .i64, .i .i64, .i .i64, .i .i64, .i .i64] (FC Q_CS R_CS (fun b => g b.1.1.1 b.1.2.1 b.1.2.2 b.2.1 b.2.2.1 b.2.2.2.1 b.2.2.2.2.1 b.2.2.2.2.2.1 b.2.2.2.2.2.2.1 b.2.2.2.2.2.2.2.1 b.2.2.2.2.2.2.2.2.1 b.2.2.2.2.2.2.2.2.2 b.1.1.2)))
def f_CS (x0 : Nat) (x1 x2 : Int) (x3 x4 x5 x6 x7 x8 x9 x10 x11 : Nat → Int) (w0 : Bool) : Option D_CS :=
  bif w0 && (decide (0 ≤ x1) && (Nat.ble (Int.toNat x1) (Int.toNat x2) && (decide (0 ≤ x2) && Nat.ble (Int.toNat x2) x0))) then some (Int.toNat x1 + (x0 - Int.toNat x2), delC (Int.toNat x1) (Int.toNat x2 - Int.toNat x1) x3, delC (Int.toNat x1) (Int.toNat x2 - Int.toNat x1) x4, delC (Int.toNat x1) (Int.toNat x2 - Int.toNat x1) x5, delC (Int.toNat x1) (Int.toNat x2 - Int.toNat x1) x6, delC (Int.toNat x1) (Int.toNat x2 - Int.toNat x1) x7, delC (Int.toNat x1) (Int.toNat x2 - Int.toNat x1) x8, delC (Int.toNat x1) (Int.toNat x2 - Int.toNat x1) x9, delC (Int.toNat x1) (Int.toNat x2 - Int.toNat x1) x10, delC (Int.toNat x1) (Int.toNat x2 - Int.toNat x1) x11) else none
theorem qa_CS : ∀ b, (Q_CS).em b = ([.r (.c (.sl 0 (.k 0) (.s b.1.1.1) 9 b.1.1.2)), .r (.c (.f (.i .i64 b.1.2.1))), .r (.c (.f (.i .i64 b.1.2.2)))], [[.a (.s b.1.1.1) [.i .i64 b.2.1, .i .i64 b.2.2.1, .i .i64 b.2.2.2.1, .i .i64 b.2.2.2.2.1, .i .i64 b.2.2.2.2.2.1, .i .i64 b.2.2.2.2.2.2.1, .i .i64 b.2.2.2.2.2.2.2.1, .i .i64 b.2.2.2.2.2.2.2.2.1, .i .i64 b.2.2.2.2.2.2.2.2.2]]]) := fun b => by kernel_rfl
theorem s_CS [Amb] : Snd Tryz.prog (e_CS f_CS) := Sound.nil 0 [.i .i64, .i .i64, .i .i64, .i .i64, .i .i64, .i .i64, .i .i64, .i .i64, .i .i64] <| fun args h r hr w π vs hargs hH hdom => by
  obtain ⟨b, d, e, hd, hq⟩ := FC_eval1 hr
  rw [qa_CS] at e
  obtain ⟨hc, rfl⟩ := cond_some hd
  simp only [Bool.and_eq_true, decide_eq_true_eq] at hc
  obtain ⟨h1, h2, h3, h4, h5⟩ := hc
  obtain ⟨rfl, rfl⟩ := Prod.mk.inj e
  have e2 : b.1.2.1 = ((Int.toNat b.1.2.1 : Nat) : Int) := by omega
  have e3 : b.1.2.2 = ((Int.toNat b.1.2.2 : Nat) : Int) := by omega
  have hr2 : RR_CS.em (_, _) = r := Option.some.inj hq
  subst hr2
  exact .inl ⟨callable_run (by kernel_rfl) _ _, delete_calls (gs := [b.2.1, b.2.2.1, b.2.2.2.1, b.2.2.2.2.1, b.2.2.2.2.2.1, b.2.2.2.2.2.2.1, b.2.2.2.2.2.2.2.1, b.2.2.2.2.2.2.2.2.1, b.2.2.2.2.2.2.2.2.2]) rfl _ (Int.toNat b.1.2.1) (Int.toNat b.1.2.2) (Nat.le_of_ble_eq_true h3) (Nat.le_of_ble_eq_true h5) w π vs (by rw [← e2, ← e3, ← h1]; exact hargs) hH fun b hb => hdom b hb⟩
def Q_DV := (open Go.Ab.Rq in (dp (cl (ac (slc 0 9)) nil) fun a => (cl (cl (gs a.1 (c kci (c kci (c kci (c kci (c kci (c kci (c kci (c kci (cl kci nil)))))))))) nil) nil)) : Rq (List AV × List Blk) _)
def RR_DV := (open Go.Ab.Rq in (res (pr (ac (slo 1 9)) (pu (cu chk nil) (cl (cl (ga (pr (szs hole) (c kci (c kci (c kci (c kci (c kci (c kci (c kci (c kci (cl kci nil))))))))))) nil) nil)))) : Rq (Res) _)
abbrev D_DV := Nat × (Nat → Int) × (Nat → Int) × (Nat → Int) × (Nat → Int) × (Nat → Int) × (Nat → Int) × (Nat → Int) × (Nat → Int) × (Nat → Int)
def R_DV (d : D_DV) : T := (fun d => .leaf (RR_DV.em (d.1, d))) d
abbrev G_DV := Nat → (Nat → Int) → (Nat → Int) → (Nat → Int) → (Nat → Int) → (Nat → Int) → (Nat → Int) → (Nat → Int) → (Nat → Int) → (Nat → Int) → Bool → Option D_DV
def e_DV (g : G_DV) : Ct := (120, nilF 0 [.i .i64, .i .i64, .i .i64, .i .i64, .i .i64, .i .i64, .i .i64, .i .i64, .i .i64] (FC Q_DV R_DV (fun b => g b.1.1 b.2.1 b.2.2.1 b.2.2.2.1 b.2.2.2.2.1 b.2.2.2.2.2.1 b.2.2.2.2.2.2.1 b.2.2.2.2.2.2.2.1 b.2.2.2.2.2.2.2.2.1 b.2.2.2.2.2.2.2.2.2 b.1.2)))
def f_DV (x0 : Nat) (x1 x2 x3 x4 x5 x6 x7 x8 x9 : Nat → Int) (w0 : Bool) : Option D_DV :=
  bif Nat.ble (x0 * 72) 140737488355328 then some (x0, x1, x2, x3, x4, x5, x6, x7, x8, x9) else none
theorem qa_DV : ∀ b, (Q_DV).em b = ([.r (.c (.sl 0 (.k 0) (.s b.1.1) 9 b.1.2))], [[.a (.s b.1.1) [.i .i64 b.2.1, .i .i64 b.2.2.1, .i .i64 b.2.2.2.1, .i .i64 b.2.2.2.2.1, .i .i64 b.2.2.2.2.2.1, .i .i64 b.2.2.2.2.2.2.1, .i .i64 b.2.2.2.2.2.2.2.1, .i .i64 b.2.2.2.2.2.2.2.2.1, .i .i64 b.2.2.2.2.2.2.2.2.2]]]) := fun b => by kernel_rfl
theorem s_DV [Amb] : Snd Tryz.prog (e_DV f_DV) := Sound.nil 0 [.i .i64, .i .i64, .i .i64, .i .i64, .i .i64, .i .i64, .i .i64, .i .i64, .i .i64] <| fun args h r hr w π vs hargs hH hdom => by
  obtain ⟨b, d, e, hd, hq⟩ := FC_eval1 hr
  rw [qa_DV] at e
  obtain ⟨hc, rfl⟩ := cond_some hd
  obtain ⟨rfl, rfl⟩ := Prod.mk.inj e
  have hr2 : RR_DV.em (_, _) = r := Option.some.inj hq
  subst hr2
  exact .inl ⟨callable_run (by kernel_rfl) _ _, clone_calls (gs := [b.2.1, b.2.2.1, b.2.2.2.1, b.2.2.2.2.1, b.2.2.2.2.2.1, b.2.2.2.2.2.2.1, b.2.2.2.2.2.2.2.1, b.2.2.2.2.2.2.2.2.1, b.2.2.2.2.2.2.2.2.2]) rfl _ (Nat.le_of_ble_eq_true hc) _ w π vs hargs hH fun b hb => hdom b hb⟩
end Go.Proofs.YtphkdkkbbfnkaaaGreat
