/-
  Contracts of slices.Delete and Clone, of samples.
-/
import Derived.Test.YthbnojedlbeglaaSLE
set_option linter.unusedVariables false
set_option linter.unusedSimpArgs false
set_option maxRecDepth 100000
set_option maxHeartbeats 4000000
namespace Go.Proofs.Ythbnojedlbeglaa
open Go.RowKit Go.Lib Go.Ab
theorem zS [Amb] : ∃ z, (∀ w, (Go.zeroValue 30).run Try.prog w = .ok z w) ∧ z.cells.size = 9 ∧ ∀ v ∈ z.cells.toList, v.oneCell' = true := by
  have h : (Try.prog.info? 30).map (fun i => i.zero.map fun z => (z.cells.size, z.cells.toList.all fun v => v.oneCell')) = some (some (9, true)) := by kernel_rfl
  obtain ⟨zv, hzv⟩ : ∃ zv, zeroT Try.prog 30 = some zv := by
    have h : (zeroT Try.prog 30).isSome = true := by kernel_rfl
    exact Option.isSome_iff_exists.1 h
  cases hi : Try.prog.info? 30 with
  | none => rw [hi] at h; cases h
  | some i =>
    rw [hi] at h
    simp only [Option.map_some, Option.some.injEq] at h
    cases hz : i.zero with
    | none => rw [hz] at h; cases h
    | some z =>
      rw [hz] at h
      simp only [Option.map_some, Option.some.injEq, Prod.mk.injEq] at h
      refine ⟨z, fun w => ?_, h.1, List.all_eq_true.1 h.2⟩
      obtain ⟨x, hx, ⟨it, hi2, hz2⟩, _⟩ := run_zero hzv w
      rw [hi] at hi2
      cases hi2
      rw [hz] at hz2
      cases hz2
      exact hx
theorem clear_9 [Amb] (w : World) (ty : TypeId) (b o n c : Nat) (hn : 0 < n) (hc : ∀ j, j < n * 9 → (w.cell? ⟨b, o + j, none⟩).isSome = true) (hf : ∀ j, j < n * 9 → w.frozen? ⟨b, o + j, none⟩ = false) :
    ∃ zs : List Value, zs.length = n * 9 ∧ (Builtin.clear_ #[35] ty #[.slice (some ⟨b, o, none⟩) n c]).run Try.prog w = .ok (.tuple #[]) (w.setCells b o zs) := by
  obtain ⟨z, hz, hs, h1⟩ := zS
  have hl : (Builtin.zeroCells z.cells n).toList.length = n * 9 := by rw [Array.length_toList, size_zeroCells, hs]
  refine ⟨(Builtin.zeroCells z.cells n).toList, hl, ?_⟩
  have hst := run_storeCells_cells (P := Try.prog) b o (Builtin.zeroCells z.cells n).toList 0 w (by rw [hl]; simpa using hc) (by rw [hl]; simpa using hf) (by
    intro v hv
    unfold Builtin.zeroCells at hv
    rw [Array.toList_map] at hv
    obtain ⟨i, hi, rfl⟩ := List.mem_map.1 hv
    have hlt : i % z.cells.size < z.cells.size := Nat.mod_lt _ (by omega)
    have e : z.cells[i % z.cells.size]! = z.cells[i % z.cells.size] := getElem!_pos z.cells (i % z.cells.size) hlt
    rw [e]
    exact h1 _ (Array.getElem_mem_toList hlt))
  simp only [Nat.add_zero] at hst
  obtain ⟨m, rfl⟩ : ∃ m, n = m + 1 := ⟨n - 1, by omega⟩
  simp [Builtin.clear_, run_underlying uT, hz, hst]
/-- some samples taken out -/
theorem delete_calls [Amb] {gs : List (Nat → Int)} (hg : gs.length = 9) (n i j : Nat) (hij : i ≤ j) (hj : j ≤ n) (w : World) (π : Pi) (vs : Array Value)
    (hargs : All2 (AV.rel π) [.r (.c (.sl 0 (.k 0) (.s n) 9 true)), .r (.c (.f (.i .i64 (i : Int)))), .r (.c (.f (.i .i64 (j : Int))))] vs.toList)
    (hH : HRel π (hC ([[.a (.s n) (colsI gs)]].map some)) (hZ ([[.a (.s n) (colsI gs)]].map some)) w) (hdom : ∀ b, π b ≠ none → b < 1) :
    Calls Try.prog 50 vs w (CallPost π w [[.a (.s n) (colsI gs)]] ⟨.r (.c (.sl 1 (.k 0) (.s (i + (n - j))) 9 true)), [.kill], [[.a (.s (i + (n - j))) (colsI (gs.map (delC i (j - i))))]]⟩) := by
  obtain ⟨y1, y2, y3, hvt, r1, r2, r3⟩ : ∃ y1 y2 y3, vs.toList = [y1, y2, y3] ∧ (AV.r (.c (.sl 0 (.k 0) (.s n) 9 true))).rel π y1 ∧ (AV.r (.c (.f (.i .i64 (i : Int))))).rel π y2 ∧ (AV.r (.c (.f (.i .i64 (j : Int))))).rel π y3 := by
    match hl : vs.toList, hargs with
    | [y1, y2, y3], ⟨a, b, c, _⟩ => exact ⟨y1, y2, y3, rfl, a, b, c⟩
    | [], h => exact h.elim
    | [_], ⟨_, h⟩ => exact h.elim
    | [_, _], ⟨_, _, h⟩ => exact h.elim
    | _ :: _ :: _ :: _ :: _, ⟨_, _, _, h⟩ => exact h.elim
  have hvt : vs = #[y1, y2, y3] := by rw [← Array.toList_inj]; exact hvt
  subst hvt
  have r2 : y2 = .int .i64 (i : Int) := r2
  have r3 : y3 = .int .i64 (j : Int) := r3
  subst r2 r3
  obtain ⟨B, st, q, e, hb, _, _, hx⟩ := r1
  obtain ⟨rfl, hle, hown, cs, hcl, hcs, h1c⟩ := row_at (b := 0) hg hH rfl hb
  have hz0 : hZ ([[.a (.s n) (colsI gs)]].map some) 0 ≠ none := by simp [hZ]
  have ho : (gs.map (delC i (j - i))).length = 9 := by simp [hg]
  have hcsK : ∀ b, b < [[Sg.a (.s n) (colsI gs)]].length → [Ch.kill][b]? = some .keep ∨ [Ch.kill][b]? = some .kill := fun b hb => by
    match b, hb with
    | 0, _ => exact .inr rfl
    | b + 1, h => exact absurd h (by simp)
  have hft : ∀ i, st ≤ i → i < e → foot π 1 (chD [.kill]) B i := fun i h1 h2 => ⟨0, st, _, e, by omega, by simp [chD], hb, h1, h2⟩
  rcases hx with ⟨h0, a, rfl⟩ | ⟨cap, hcap, rfl, hce⟩
  · have h0 : n = 0 := h0
    subst h0
    have hi0 : i = 0 := by omega
    have hj0 : j = 0 := by omega
    subst hi0 hj0
    refine Calls.mono (del_none a 0 0 0 w (by omega) (by omega)) ?_
    rintro ev W ⟨rfl, rfl⟩
    exact post_empty (P := Try.prog) ho hH hdom hcsK (FrameOK.refl _ _) hH.am
  · have hcap : n ≤ cap := hcap
    have hce : st + cap * 9 ≤ e := by have := hce rfl; simpa [Off.val] using this
    have hcap9 : n * 9 ≤ cap * 9 := Nat.mul_le_mul_right _ hcap
    show Calls Try.prog 50 #[.slice (some ⟨B, st, none⟩) n cap, .int .i64 (i : Int), .int .i64 (j : Int)] w _
    rcases Nat.eq_or_lt_of_le hij with hij0 | hlt
    · subst hij0
      refine Calls.mono (del_none _ n cap i w hj hcap) ?_
      rintro ev W ⟨rfl, rfl⟩
      have hn : i + (n - i) = n := by omega
      rw [hn]
      refine post_place (P := Try.prog) (q := n * 9) ho hH hdom hcsK (by simp) rfl hb (FrameOK.refl _ _) hown hH.am (fun J hJ => ?_) hcap hce
      rw [rget_del hg]
      have hjj : cs[J]? = some (cs[J]'(by omega)) := List.getElem?_eq_getElem _
      refine ⟨_, (hcs _ _ hjj).1, ?_⟩
      have := (hcs _ _ hjj).2
      split
      · exact this
      · rw [Nat.sub_self, Nat.zero_mul, Nat.add_zero]; exact this
    · have hm9 : (i + (n - j)) * 9 ≤ n * 9 := Nat.mul_le_mul_right _ (by omega)
      have hdl : (cs.drop (j * 9)).length = (n - j) * 9 := by rw [List.length_drop, hcl]; omega
      have i1 : ∀ k, k < (cs.drop (j * 9)).length → (cl w.drew B (st + i * 9 + k)).isSome = true := fun k hk => (hown _ (by omega) (by omega)).1
      obtain ⟨w2, hw2⟩ : ∃ w2, w2 = w.drew.setCells B (st + i * 9) (cs.drop (j * 9)) := ⟨_, rfl⟩
      have s2 : ∀ k, st ≤ k → k < e → (cl w2 B k).isSome = true ∧ fz w2 B k = false := fun k k1 k2 => by
        rw [hw2]
        exact ⟨Ab.isSome_setCells i1 (hown k k1 k2).1, by rw [fz_setCells]; exact (hown k k1 k2).2⟩
      obtain ⟨zs, hzl, hclr⟩ : ∃ zs : List Value, zs.length = (n - (i + (n - j))) * 9 ∧ ∀ ty, (Builtin.clear_ #[35] ty #[.slice (some ⟨B, st + (i + (n - j)) * 9, none⟩) (n - (i + (n - j))) (cap - (i + (n - j)))]).run Try.prog w2 = .ok (.tuple #[]) (w2.setCells B (st + (i + (n - j)) * 9) zs) := by
        obtain ⟨zs, h1, h2⟩ := clear_9 w2 0 B (st + (i + (n - j)) * 9) (n - (i + (n - j))) (cap - (i + (n - j))) (by omega) (fun k hk => (s2 _ (by omega) (by omega)).1) (fun k hk => (s2 _ (by omega) (by omega)).2)
        exact ⟨zs, h1, fun ty => by unfold Builtin.clear_ at h2 ⊢; exact h2⟩
      have hC := del_some B st n cap i j w w2 (w2.setCells B (st + (i + (n - j)) * 9) zs) hlt hj hcap (fun ty => by
        rw [hw2]
        exact run_append_in (P := Try.prog) (ty := ty) uT uE (B := B) (q := st) (n := i) (cap := cap) (m := n - j) (c := cap - j) (news := cs.drop (j * 9)) (by omega) hdl w.drew (fun k v hk => by
          have hk2 := (List.getElem?_eq_some_iff.1 hk).1
          rw [List.getElem?_drop] at hk
          have := (hcs _ _ hk).1
          split
          · omega
          · rw [Addr.add_lit, Nat.add_assoc]; exact this) (fun v hv => h1c v (List.mem_of_mem_drop hv)) (fun k hk => hown _ (by omega) (by omega))) hclr
      refine Calls.mono hC ?_
      rintro ev W ⟨rfl, rfl⟩
      have i2 : ∀ k, k < zs.length → (cl w2 B (st + (i + (n - j)) * 9 + k)).isSome = true := fun k hk => (s2 _ (by omega) (by omega)).1
      have hlb : 0 < n → Amb.h0 ≤ B := fun _ => hH.lb 0 B st _ e hz0 hb (by omega)
      have am2 : AmbOK w2 := by rw [hw2]; exact (hH.am.same (w' := w.drew) rfl).setCells fun _ => hlb (by omega)
      have f2 : FrameOK w (foot π 1 (chD [.kill])) w2 := by rw [hw2]; exact ((FrameOK.refl w _).drew).setCells (.inr fun k hk => hft _ (by omega) (by omega))
      refine post_place (P := Try.prog) (q := n * 9) ho hH hdom hcsK (by simp) rfl hb (f2.setCells (.inr fun k hk => hft _ (by omega) (by omega))) (fun k k1 k2 => ⟨Ab.isSome_setCells i2 (s2 k k1 k2).1, by rw [fz_setCells]; exact (s2 k k1 k2).2⟩) (am2.setCells fun _ => hlb (by omega)) (fun J hJ => ?_) (by omega) hce
      rw [rget_del hg, cl_setCells_out (fun _ => by omega), hw2]
      by_cases h1 : J < i * 9
      · rw [if_pos h1, cl_setCells_out (fun _ => by omega)]
        have hjj : cs[J]? = some (cs[J]'(by omega)) := List.getElem?_eq_getElem _
        exact ⟨_, (hcs _ _ hjj).1, (hcs _ _ hjj).2⟩
      · rw [if_neg h1]
        have hJ2 : J - i * 9 < (cs.drop (j * 9)).length := by omega
        have h3 := cl_setCells_in i1 hJ2
        rw [show st + i * 9 + (J - i * 9) = st + J by omega] at h3
        refine ⟨_, h3, ?_⟩
        have hjj : cs[J + (j - i) * 9]? = some ((cs.drop (j * 9))[J - i * 9]) := by
          rw [← List.getElem?_eq_getElem, List.getElem?_drop]
          congr 1
          have : (j - i) * 9 = j * 9 - i * 9 := by omega
          omega
        exact (hcs _ _ hjj).2
/-- a copy of samples -/
theorem clone_calls [Amb] {gs : List (Nat → Int)} (hg : gs.length = 9) (n : Nat) (hbig : n * 72 ≤ 140737488355328) (w0 : Bool) (w : World) (π : Pi) (vs : Array Value)
    (hargs : All2 (AV.rel π) [.r (.c (.sl 0 (.k 0) (.s n) 9 w0))] vs.toList)
    (hH : HRel π (hC ([[.a (.s n) (colsI gs)]].map some)) (hZ ([[.a (.s n) (colsI gs)]].map some)) w) (hdom : ∀ b, π b ≠ none → b < 1) :
    Calls Try.prog 51 vs w (CallPost π w [[.a (.s n) (colsI gs)]] ⟨.r (.c (.sl 1 (.k 0) (.s n) 9 true)), [.keep], [[.a (.s n) (colsI gs)]]⟩) := by
  obtain ⟨y1, hvt, r1⟩ : ∃ y1, vs.toList = [y1] ∧ (AV.r (.c (.sl 0 (.k 0) (.s n) 9 w0))).rel π y1 := by
    match hl : vs.toList, hargs with
    | [y1], ⟨a, _⟩ => exact ⟨y1, rfl, a⟩
    | [], h => exact h.elim
    | _ :: _ :: _, ⟨_, h⟩ => exact h.elim
  have hvt : vs = #[y1] := by rw [← Array.toList_inj]; exact hvt
  subst hvt
  obtain ⟨B, st, q, e, hb, _, _, hx⟩ := r1
  obtain ⟨rfl, hle, hown, cs, hcl, hcs, h1c⟩ := row_at (b := 0) hg hH rfl hb
  have hcsK : ∀ b, b < [[Sg.a (.s n) (colsI gs)]].length → [Ch.keep][b]? = some .keep ∨ [Ch.keep][b]? = some .kill := fun b hb => by
    match b, hb with
    | 0, _ => exact .inl rfl
    | b + 1, h => exact absurd h (by simp)
  have hE := iE
  obtain ⟨i0, z0, hi0, hzz, hsz0, hby0, hzl0⟩ := hE
  have hbyt : (Try.prog.info? 30).map (·.bytes) = some 72 := by rw [hi0]; exact congrArg some hby0
  obtain ⟨zv, hzv, hzvl⟩ : ∃ zv, zeroT Try.prog 30 = some zv ∧ Blk.size zv.blk = 9 := by
    have h : (zeroT Try.prog 30).map (fun z => Blk.size z.blk) = some 9 := by kernel_rfl
    cases hz : zeroT Try.prog 30 with
    | none => rw [hz] at h; cases h
    | some z => rw [hz] at h; exact ⟨z, rfl, by simpa using h⟩
  obtain ⟨w1, hw1⟩ : ∃ w1, w1 = w.alloc (.cells #[] 30) := ⟨_, rfl⟩
  have hs1 : w1.heap.size = w.heap.size + 1 := by rw [hw1]; exact World.size_alloc ..
  have am1 : AmbOK w1 := by rw [hw1]; exact hH.am.alloc _ _
  have f1 : FrameOK w (foot π 1 (chD [.keep])) w1 := by rw [hw1]; exact (FrameOK.refl w _).alloc _ _
  -- no samples
  have none_ : n = 0 → ∀ (a : Addr) (c : Nat), Calls Try.prog 51 #[.slice (some a) 0 c] w (CallPost π w [[.a (.s n) (colsI gs)]] ⟨.r (.c (.sl 1 (.k 0) (.s n) 9 true)), [.keep], [[.a (.s n) (colsI gs)]]⟩) := fun h0 a c => by
    subst h0
    refine Calls.mono (clone_some a 0 c w _ _ fun ty => run_append_in (P := Try.prog) (ty := ty) uT uE (B := w.heap.size) (q := 0) (n := 0) (cap := 0) (m := 0) (c := c) (ad := a) (news := []) (by omega) rfl (w.alloc (.cells #[] 30)) (fun j v hj => by simp at hj) (fun v hv => by cases hv) (fun j hj => by simp at hj)) ?_
    rintro ev W ⟨rfl, rfl⟩
    rw [← hw1]
    exact post_empty (P := Try.prog) hg hH hdom hcsK f1 am1
  rcases hx with ⟨h0, a, rfl⟩ | ⟨cap, hcap, rfl, hce⟩
  · have h0 : n = 0 := h0
    cases a with
    | none =>
      subst h0
      refine Calls.mono (clone_nil w) ?_
      rintro ev W ⟨rfl, rfl⟩
      exact post_empty (P := Try.prog) hg hH hdom hcsK (FrameOK.refl _ _) hH.am
    | some b => exact none_ h0 b 0
  · show Calls Try.prog 51 #[.slice (some ⟨B, st, none⟩) n cap] w _
    rcases Nat.eq_zero_or_pos n with h0 | hn
    · subst h0
      exact none_ rfl ⟨B, st, none⟩ cap
    · have hbw : B < w.heap.size := cl_lt (hown st (Nat.le_refl _) (by omega)).1
      obtain ⟨gc, arr, hrun, hgc, hsz, rest, hlist⟩ := run_append_new (P := Try.prog) (ty := 0) uT uE hbyt hzv hzvl (by omega) (sv := .slice (some ⟨w.heap.size, 0, none⟩) 0 0) (n := 0) (cap := 0) (m := n) (c := cap) (ad := ⟨B, st, none⟩) (olds := []) (news := cs) w1 (.inr ⟨_, rfl, fun j v hj => by simp at hj⟩) rfl hcl (fun j v hj => by
        rw [Addr.add_lit, hw1]
        exact (World.cell?_alloc_past (w := w) _ B _ hbw).trans (hcs j v hj).1) (by omega) hn (by omega)
      rw [Nat.zero_add] at hrun hgc
      have hrun : ∀ ty, (Builtin.append_ #[35, 35] ty #[.slice (some ⟨w.heap.size, 0, none⟩) 0 0, .slice (some ⟨B, st, none⟩) n cap]).run Try.prog (w.alloc (.cells #[] 30)) = .ok (.slice (some ⟨w1.heap.size, 0, none⟩) n gc) (w1.drew.alloc (.cells arr 30)) := fun ty => by rw [← hw1]; unfold Builtin.append_ at hrun ⊢; exact hrun
      refine Calls.mono (clone_some ⟨B, st, none⟩ n cap w _ _ hrun) ?_
      rintro ev W ⟨rfl, rfl⟩
      have hcl2 : ∀ j, cl (w1.drew.alloc (.cells arr 30)) w1.heap.size j = arr[j]? := fun j => World.cell?_alloc_at (w := w1.drew) arr _ w1.heap.size j rfl
      refine post_fresh (P := Try.prog) hg hH hdom hcsK (by omega) ((f1.drew).alloc _ _) (fun k hk => ⟨by rw [hcl2, Array.getElem?_eq_getElem (by omega)]; rfl, World.frozen?_alloc_at (w := w1.drew) arr _ w1.heap.size k rfl⟩) ((am1.same (w' := w1.drew) rfl).alloc _ _) (fun J hJ => ?_) hgc
      have hjj : cs[J]? = some (cs[J]'(by omega)) := List.getElem?_eq_getElem _
      refine ⟨_, ?_, (hcs _ _ hjj).2⟩
      rw [hcl2]
      have := (get_app3 hlist).2 hjj
      simpa using this
end Go.Proofs.Ythbnojedlbeglaa
