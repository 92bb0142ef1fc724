/-
  Contracts of slices.Insert, Delete, Clone, of samples.
-/
import Derived.Test.YthbnojedlbeglaaSLC
set_option linter.unusedVariables false
set_option linter.unusedSimpArgs false
namespace Go.Ab
variable [Amb]
/-- a slice of samples that lies where a block that is dropped lay -/
theorem post_place {P : Program} {π : Pi} {w W : World} {h : List Blk} {cs : List Ch} {out : List (Nat → Int)} {n cap B st q e b0 : Nat} (ho : out.length = 9) (hH : HRel π (hC (h.map some)) (hZ (h.map some)) w) (hdom : ∀ b, π b ≠ none → b < h.length)
    (hcs : ∀ b, b < h.length → cs[b]? = some .keep ∨ cs[b]? = some .kill) (hb0 : b0 < h.length) (hk0 : cs[b0]? = some .kill) (hp : π b0 = some (B, st, q, e)) (hfr : FrameOK w (foot π h.length (chD cs)) W)
    (hown : ∀ i, st ≤ i → i < e → (cl W B i).isSome = true ∧ fz W B i = false) (ham : AmbOK W) (hc : ∀ J, J < n * 9 → ∃ v, cl W B (st + J) = some v ∧ (rget (colsI out) J).rel π v) (hn : n ≤ cap) (hce : st + cap * 9 ≤ e) :
    Post P π w h ⟨.r (.c (.sl h.length (.k 0) (.s n) 9 true)), cs, [[.a (.s n) (colsI out)]]⟩ (.returned (.slice (some ⟨B, st, none⟩) n cap)) W := by
  have hsz := size_colsI ho n
  have hz0 : hZ (h.map some) b0 ≠ none := by rw [hZ_map, List.getElem?_eq_getElem hb0]; simp
  have hne : n * 9 ≤ cap * 9 := Nat.mul_le_mul_right _ hn
  refine post_gen (P := P) (B := B) (s := st) (e := e) hH hdom hcs hfr (by rw [hsz]; omega) hown (fun j hj => ?_) (.inr ⟨b0, st, q, e, hb0, hk0, hp, Nat.le_refl _, Nat.le_refl _⟩) ham (fun hse => hH.lb b0 B st q e hz0 hp hse) fun π' hx hp' => ?_
  · rw [hsz] at hj
    rw [get_colsI ho hj]; exact hc j hj
  · rw [hsz] at hp'
    exact ⟨B, st, n * 9, e, hp', by simp [Off.val, Sz.val], fun _ => by simp [Off.val, Sz.val], .inr ⟨cap, hn, rfl, fun _ => by simpa [Off.val] using hce⟩⟩
/-- one that lies in new memory -/
theorem post_fresh {P : Program} {π : Pi} {w W : World} {h : List Blk} {cs : List Ch} {out : List (Nat → Int)} {n cap B : Nat} (ho : out.length = 9) (hH : HRel π (hC (h.map some)) (hZ (h.map some)) w) (hdom : ∀ b, π b ≠ none → b < h.length)
    (hcs : ∀ b, b < h.length → cs[b]? = some .keep ∨ cs[b]? = some .kill) (hB : w.heap.size ≤ B) (hfr : FrameOK w (foot π h.length (chD cs)) W)
    (hown : ∀ i, i < cap * 9 → (cl W B i).isSome = true ∧ fz W B i = false) (ham : AmbOK W) (hc : ∀ J, J < n * 9 → ∃ v, cl W B J = some v ∧ (rget (colsI out) J).rel π v) (hn : n ≤ cap) :
    Post P π w h ⟨.r (.c (.sl h.length (.k 0) (.s n) 9 true)), cs, [[.a (.s n) (colsI out)]]⟩ (.returned (.slice (some ⟨B, 0, none⟩) n cap)) W := by
  have hsz := size_colsI ho n
  have hne : n * 9 ≤ cap * 9 := Nat.mul_le_mul_right _ hn
  refine post_gen (P := P) (B := B) (s := 0) (e := cap * 9) hH hdom hcs hfr (by rw [hsz]; omega) (fun i _ hi => hown i hi) (fun j hj => ?_) (.inl hB) ham (fun hse => Nat.le_trans hH.am.sz hB) fun π' hx hp' => ?_
  · rw [hsz] at hj
    rw [get_colsI ho hj, Nat.zero_add]; exact hc j hj
  · rw [hsz] at hp'
    exact ⟨B, 0, n * 9, cap * 9, hp', by simp [Off.val, Sz.val], fun _ => by simp [Off.val, Sz.val], .inr ⟨cap, hn, rfl, fun _ => by simp [Off.val]⟩⟩
/-- one without samples, wherever -/
theorem post_empty {P : Program} {π : Pi} {w W : World} {h : List Blk} {cs : List Ch} {out : List (Nat → Int)} {a : Option Addr} (ho : out.length = 9) (hH : HRel π (hC (h.map some)) (hZ (h.map some)) w) (hdom : ∀ b, π b ≠ none → b < h.length)
    (hcs : ∀ b, b < h.length → cs[b]? = some .keep ∨ cs[b]? = some .kill) (hfr : FrameOK w (foot π h.length (chD cs)) W) (ham : AmbOK W) :
    Post P π w h ⟨.r (.c (.sl h.length (.k 0) (.s 0) 9 true)), cs, [[.a (.s 0) (colsI out)]]⟩ (.returned (.slice a 0 0)) W := by
  have hsz := size_colsI ho 0
  refine post_gen (P := P) (B := w.heap.size) (s := 0) (e := 0) hH hdom hcs hfr (by rw [hsz]; omega) (fun i _ hi => by omega) (fun j hj => by rw [hsz] at hj; omega) (.inl (Nat.le_refl _)) ham (fun hse => by omega) fun π' hx hp' => ?_
  rw [hsz] at hp'
  exact ⟨w.heap.size, 0, 0 * 9, 0, hp', by simp [Off.val, Sz.val], fun _ => by simp [Off.val, Sz.val], .inl ⟨rfl, a, rfl⟩⟩
/-- what a row of samples stands for -/
theorem row_at {π : Pi} {w : World} {h : List Blk} {l : List (Nat → Int)} {n b B st q e : Nat} (hl : l.length = 9) (hH : HRel π (hC (h.map some)) (hZ (h.map some)) w) (hb : h[b]? = some [.a (.s n) (colsI l)]) (hp : π b = some (B, st, q, e)) :
    q = n * 9 ∧ st + n * 9 ≤ e ∧ (∀ i, st ≤ i → i < e → (cl w B i).isSome = true ∧ fz w B i = false) ∧ ∃ cs : List Value, cs.length = n * 9 ∧ (∀ j v, cs[j]? = some v → w.cell? ⟨B, st + j, none⟩ = some v ∧ (rget (colsI l) j).rel π v) ∧ ∀ v ∈ cs, v.oneCell' = true := by
  have hz : hZ (h.map some) b = some (n * 9) := by rw [hZ_map, hb]; exact congrArg some (size_colsI hl n)
  obtain ⟨B', s', e', hb', hse, k1, k2⟩ := hH.hp b _ hz
  rw [hp] at hb'; cases hb'
  refine ⟨rfl, hse, k1, cells_list fun j hj => ?_⟩
  obtain ⟨v, hv, hr⟩ := k2 j hj
  rw [hC_map hb (by rw [size_colsI hl]; exact hj), get_colsI hl hj] at hr
  exact ⟨v, hv, hr⟩
end Go.Ab
namespace Go.Proofs.Ythbnojedlbeglaa
open Go.RowKit Go.Lib Go.Ab
variable [Amb]
omit [Amb] in
theorem run_overlaps_same {P : Program} (w : World) (tS tR e : TypeId) (ht : P.underlying tS = some (.slice e)) (size : Nat) (hz : ∀ w, (Go.sizeOf e).run P w = .ok size w) (B oa ob la ca lb cb : Nat) (hd : oa + la * size ≤ ob ∨ ob + lb * size ≤ oa) :
    (Extern.SlicesOverlaps.overlaps #[tS, tS] #[tR] #[.slice (some ⟨B, oa, none⟩) la ca, .slice (some ⟨B, ob, none⟩) lb cb]).run P w = .ok (.bool false) w := by
  change Sem.run P (α := Value) (do
    let some t := (#[tS, tS] : Array TypeId)[0]? | stuck "slices.overlaps: no parameter types"
    let .slice elem ← underlying t | stuck "slices.overlaps: slice type expected"
    let size ← sizeOf elem
    match (some ⟨B, oa, none⟩ : Option Addr), (some ⟨B, ob, none⟩ : Option Addr) with
    | some a, some b =>
      if la = 0 ∨ lb = 0 ∨ size = 0 then pure (Value.bool false)
      else if a.block != b.block && (← frozen a) && (← frozen b) then unsupported .addressObserved
      else do
        if a.block != b.block then do
          noView a; noView b
          if ← mayBeOne a b then return Value.bool ((← choose (.extern "sameAddr.stringBytes" 2)) == 1)
        pure (Value.bool (a.block == b.block && a.off < b.off + lb * size && b.off < a.off + la * size))
    | _, _ => pure (Value.bool false)) w = _
  by_cases h0 : la = 0 ∨ lb = 0 ∨ size = 0
  · simp [run_underlying ht, hz, h0]
  · simp [run_underlying ht, hz, h0, frozen, Sem.run]
    omega
omit [Amb] in
/-- slices.overlaps of two slices that don't: what the model's entry answers -/
theorem overlaps_no {w : World} {vb voff vc b o lb cb : Nat} (hd : vb = b → voff + 9 ≤ o ∨ o + lb * 9 ≤ voff) {va vb2 : Value} (ha : w.cell? ⟨vb, voff, none⟩ = some va) (hb : w.cell? ⟨b, o, none⟩ = some vb2) (hfa : ∀ i, w.frozen? ⟨vb, i, none⟩ = false) :
    (callFunc 74 #[.slice (some ⟨vb, voff, none⟩) 1 vc, .slice (some ⟨b, o, none⟩) lb cb]).run Try.prog w = .ok (.value (.bool false)) w := by
  rw [run_callFunc_extern Try.func74 (by kernel_rfl) (by kernel_rfl) (by kernel_rfl) (e := Extern.SlicesOverlaps.overlaps #[35, 35] #[4]) (by kernel_rfl)]
  obtain ⟨tA, kA, sA, _⟩ := shape_of ha
  obtain ⟨tB, kB, sB, nB⟩ := shape_of hb
  by_cases hne : vb = b
  · subst hne
    have h2 := hd rfl
    rw [run_overlaps_same w 35 4 30 uT 9 (fun w => Ab.run_sizeOf uE w) vb voff o 1 vc lb cb (by omega)]
    rfl
  · rw [Lib.run_overlaps_apart w 35 4 30 uT 9 (fun w => Ab.run_sizeOf uE w) ⟨vb, voff, none⟩ ⟨b, o, none⟩ 1 vc lb cb hne tA tB kA kB sA sB nB (hfa voff) (hfa kA)]
    rfl
end Go.Proofs.Ythbnojedlbeglaa
