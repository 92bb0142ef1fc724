/-
  What slices.Insert does with one sample: in place, where there is room; in a new row, where there is none. (The walks follow the library's own worked ones for elements of one cell.)
-/
import Derived.Test.YthbnojedlbeglaaSLA
import Derived.Shelf.Spec.SlicesInsertGrow
set_option linter.unusedVariables false
set_option linter.unusedSimpArgs false
namespace Go.Proofs.Ythbnojedlbeglaa
open Go.RowKit Go.Lib Go.Ab
theorem run_copy_z {P : Program} (w : World) (dT sT ty e : TypeId) (z b o dLen dCap : Nat) (a : Addr) (sLen sCap : Nat) (cs : List Value) (hu : P.underlying dT = some (.slice e)) (hz : sizeT P e = some z) (hn : cs.length = Nat.min sLen dLen * z)
    (hsrc : ∀ j v, cs[j]? = some v → w.cell? (a.add j) = some v) (hc : ∀ j, j < cs.length → (w.cell? ⟨b, o + j, none⟩).isSome = true) (hf : ∀ j, j < cs.length → w.frozen? ⟨b, o + j, none⟩ = false) (h1 : ∀ v ∈ cs, v.oneCell' = true) :
    (Builtin.copy_ #[dT, sT] ty #[.slice (some ⟨b, o, none⟩) dLen dCap, .slice (some a) sLen sCap]).run P w = .ok (goInt (Nat.min sLen dLen)) (w.setCells b o cs) := by
  have hl := run_firstCells_some (P := P) w z (Nat.min sLen dLen) a sLen sCap cs hn hsrc
  have hst := run_storeCells_cells (P := P) b o cs 0 w (by simpa using hc) (by simpa using hf) h1
  simp [Builtin.copy_, run_underlying hu, Builtin.lenOf, Ab.run_sizeOf hz, hl, hst]
theorem uT : Try.prog.underlying 35 = some (.slice 30) := by kernel_rfl
theorem uE : sizeT Try.prog 30 = some 9 := by kernel_rfl

set_option maxHeartbeats 4000000 in
set_option maxRecDepth 100000 in
theorem ins_shift (b off n c i vb voff vc : Nat) (cs vs : List Value) (w : World) (hi : i < n) (hroom : n + 1 ≤ c) (hvb : vb = b → voff + 9 ≤ off ∨ off + (n + 1) * 9 ≤ voff) (hcl : cs.length = n * 9) (hvl : vs.length = 9) (hn63 : n + 1 ≤ 9223372036854775807)
    (hcs : ∀ j v, cs[j]? = some v → w.cell? ⟨b, off + j, none⟩ = some v) (hsp : ∀ j, j < (n + 1) * 9 → (w.cell? ⟨b, off + j, none⟩).isSome = true) (hfz : ∀ j, j < (n + 1) * 9 → w.frozen? ⟨b, off + j, none⟩ = false)
    (hvs : ∀ j v, vs[j]? = some v → w.cell? ⟨vb, voff + j, none⟩ = some v) (h1c : ∀ v ∈ cs, v.oneCell' = true) (h1v : ∀ v ∈ vs, v.oneCell' = true)
    (hov : ∀ cb, (callFunc 74 #[.slice (some ⟨vb, voff, none⟩) 1 vc, .slice (some ⟨b, off + (i + 1) * 9, none⟩) (n - i) cb]).run Try.prog w = .ok (.value (.bool false)) w) :
    Calls Try.prog 49 #[.slice (some ⟨b, off, none⟩) n c, .int .i64 i, .slice (some ⟨vb, voff, none⟩) 1 vc] w fun e w' =>
      e = .returned (.slice (some ⟨b, off, none⟩) (n + 1) c) ∧ w' = (w.drew.setCells b (off + (i + 1) * 9) (cs.drop (i * 9))).setCells b (off + i * 9) vs := by
  have mixed := mixed
  have hz2 : ¬ ((i : Int) = (n : Int)) := by omega
  have hdl : (cs.drop (i * 9)).length = (n - i) * 9 := by rw [List.length_drop, hcl]; omega
  have hw1 : IntKind.i64.wrap ((i : Int) + 1) = (i : Int) + 1 := by rw [IntKind.wrap_i64]; omega
  have hw2 : IntKind.i64.wrap ((n : Int) + 1) = (n : Int) + 1 := by rw [IntKind.wrap_i64]; omega
  have hb1 : (0 : Int) ≤ (i : Int) + 1 := by omega
  have hin : i ≤ n := by omega
  have htn : ((i : Int) + 1).toNat = i + 1 := by omega
  have hb2 : ¬ (c = i + 1) := by omega
  have hb3 : (i : Int) ≤ (n : Int) + 1 := by omega
  have hb4 : ¬ (c = i) := by omega
  have hb5 : ¬ ((c : Int) < (n : Int) + 1) := by omega
  have hcp1 : ∀ ty dc sc, (Builtin.copy_ #[35, 35] ty #[.slice (some ⟨b, off + (i + 1) * 9, none⟩) (n - i) dc, .slice (some ⟨b, off + i * 9, none⟩) (n + 1 - i) sc]).run Try.prog w.drew = .ok (goInt (Nat.min (n + 1 - i) (n - i))) (w.drew.setCells b (off + (i + 1) * 9) (cs.drop (i * 9))) := fun ty dc sc =>
    run_copy_z w.drew _ _ ty 30 9 b (off + (i + 1) * 9) (n - i) dc ⟨b, off + i * 9, none⟩ (n + 1 - i) sc (cs.drop (i * 9)) uT uE (by rw [hdl]; simp only [Nat.min_def]; split <;> omega)
      (fun j v hj => by rw [Addr.add_lit, Nat.add_assoc]; exact hcs (i * 9 + j) v (by rwa [List.getElem?_drop] at hj))
      (fun j hj => by rw [Nat.add_assoc]; exact hsp _ (by omega)) (fun j hj => by rw [Nat.add_assoc]; exact hfz _ (by omega)) (fun v hv => h1c v (List.mem_of_mem_drop hv))
  obtain ⟨W1, hW1⟩ : ∃ W1, W1 = w.drew.setCells b (off + (i + 1) * 9) (cs.drop (i * 9)) := ⟨_, rfl⟩
  have hsp1 : ∀ k, k < (n + 1) * 9 → (W1.cell? ⟨b, off + k, none⟩).isSome = true := fun k hk => by
    rw [hW1]
    exact Go.Proofs.isSome_setCells b _ _ _ (fun j hj => by rw [Nat.add_assoc]; exact hsp _ (by omega)) _ (hsp k hk)
  have hcp2 : ∀ (W : World), (∀ x, W.cell? x = W1.cell? x) → (∀ x, W.frozen? x = W1.frozen? x) → ∀ ty dc, (Builtin.copy_ #[35, 35] ty #[.slice (some ⟨b, off + i * 9, none⟩) (n + 1 - i) dc, .slice (some ⟨vb, voff, none⟩) 1 vc]).run Try.prog W = .ok (goInt (Nat.min 1 (n + 1 - i))) (W.setCells b (off + i * 9) vs) := fun W hWc hWf ty dc =>
    run_copy_z W _ _ ty 30 9 b (off + i * 9) (n + 1 - i) dc ⟨vb, voff, none⟩ 1 vc vs uT uE (by rw [hvl]; simp only [Nat.min_def]; split <;> omega)
      (fun j v hj => by
        have hj9 := (List.getElem?_eq_some_iff.1 hj).1
        rw [Addr.add_lit, hWc, hW1, World.cell?_setCells_out b _ _ _ _ (fun h _ => by
          have := hvb h
          show voff + j < _ ∨ _ ≤ voff + j
          omega)]
        exact hvs j v hj)
      (fun j hj => by rw [hWc, Nat.add_assoc]; exact hsp1 _ (by omega)) (fun j hj => by rw [hWf, hW1, World.frozen?_setCells, Nat.add_assoc]; exact hfz _ (by omega)) h1v
  rw [← hW1] at hcp1
  go_enter Try.func49, Try.ntmps49
  go_wp2_with (simp only [hov])
  go_region_law_o (refine step_copy_runI rfl _ _ 35 35 rfl _ _ (by simp [Act.eval, Act.put]) (by simp [Act.eval, Act.put]) (hcp1 _ _ _) ?_)
  go_wp2_with (at_builtin; refine wpList_copy_runI _ rfl _ _ 35 35 rfl _ _ rfl rfl (hcp2 _ (fun _ => rfl) (fun _ => rfl) _ _) ?_)
  go_ret
  first | exact ⟨rfl, rfl⟩ | exact ⟨rfl, by rw [hW1]⟩

set_option maxHeartbeats 4000000 in
set_option maxRecDepth 100000 in
theorem ins_end (base : Option Addr) (n c vb voff vc : Nat) (w w2 : World) (v2 : Value)
    (hrz : ∀ ty, (Builtin.append_ #[35, 35] ty #[.slice base n c, .slice (some ⟨vb, voff, none⟩) 1 vc]).run Try.prog w = .ok v2 w2) :
    Calls Try.prog 49 #[.slice base n c, .int .i64 n, .slice (some ⟨vb, voff, none⟩) 1 vc] w fun e w' => e = .returned v2 ∧ w' = w2 := by
  have mixed := mixed
  go_enter Try.func49, Try.ntmps49
  go_wp2_with (at_builtin; refine Lib.wpList_append_run _ rfl _ _ _ _ rfl _ _ rfl rfl _ _ (hrz _) ?_)
  all_goals (go_ret; exact ⟨rfl, rfl⟩)

theorem iE : ∃ i z, Try.prog.info? 30 = some i ∧ i.zero = some z ∧ i.size = 9 ∧ i.bytes = 72 ∧ z.cells.size = 9 := by
  have h : (Try.prog.info? 30).map (fun i => (i.size, i.bytes, (i.zero.map fun z => z.cells.size))) = some (9, 72, some 9) := by kernel_rfl
  cases hi : Try.prog.info? 30 with
  | none => rw [hi] at h; cases h
  | some i =>
    rw [hi] at h
    simp only [Option.map_some, Option.some.injEq, Prod.mk.injEq] at h
    obtain ⟨h1, h2, h3⟩ := h
    cases hz : i.zero with
    | none => rw [hz] at h3; cases h3
    | some z => rw [hz] at h3; exact ⟨i, z, rfl, hz, h1, h2, by simpa using h3⟩
theorem uI : Try.prog.underlying 3 = some (.int .i64) := by kernel_rfl

set_option maxHeartbeats 4000000 in
set_option maxRecDepth 100000 in
theorem ins_grow (b off n c i vb voff vc : Nat) (cs vs : List Value) (w : World) (hi : i < n) (hnc : n ≤ c) (hroom : c < n + 1) (hbig : (n + 1) * 72 ≤ 140737488355328) (hcl : cs.length = n * 9) (hvl : vs.length = 9)
    (hcs : ∀ j v, cs[j]? = some v → w.cell? ⟨b, off + j, none⟩ = some v) (hvs : ∀ j v, vs[j]? = some v → w.cell? ⟨vb, voff + j, none⟩ = some v) (h1c : ∀ v ∈ cs, v.oneCell' = true) (h1v : ∀ v ∈ vs, v.oneCell' = true) :
    ∃ G ROW, n + 1 ≤ G ∧ ROW.size = G * 9 ∧ (∀ j v, j < i * 9 → cs[j]? = some v → ROW[j]? = some v) ∧
    Calls Try.prog 49 #[.slice (some ⟨b, off, none⟩) n c, .int .i64 i, .slice (some ⟨vb, voff, none⟩) 1 vc] w fun e w' =>
      e = .returned (.slice (some ⟨w.heap.size, 0, none⟩) (n + 1) G) ∧
      w' = (((w.alloc (.cells ROW 30)).drew.setCells w.heap.size (i * 9) vs).drew).setCells w.heap.size ((i + 1) * 9) (cs.drop (i * 9)) := by
  have mixed := mixed
  obtain ⟨i0, z0, hi0, hz0, hzs, hzb, hzl⟩ := iE
  have hz2 : ¬ ((i : Int) = (n : Int)) := by omega
  have hz3 : (c : Int) < (n : Int) + 1 := by omega
  have hbw : b < w.heap.size := block_lt_of_cell (hcs 0 _ (List.getElem?_eq_getElem (by omega)))
  have hvw : vb < w.heap.size := block_lt_of_cell (hvs 0 _ (List.getElem?_eq_getElem (by omega)))
  have hkk : (n : Int) + 1 - (i : Int) = ((n + 1 - i : Nat) : Int) := by omega
  have hik : i + (n + 1 - i) = n + 1 := by omega
  have htl : (cs.take (i * 9)).length = i * 9 := by rw [List.length_take]; omega
  have hold : (Builtin.firstCells i0.size i (.slice (some ⟨b, off, none⟩) i c)).run Try.prog w.drew = .ok (cs.take (i * 9)).toArray w.drew := by
    rw [hzs]
    exact run_firstCells_some w.drew 9 i ⟨b, off, none⟩ i c (cs.take (i * 9)) htl (fun j v hj => by
      rw [Addr.add_lit]
      rw [List.getElem?_take] at hj
      split at hj
      · exact hcs j v hj
      · cases hj)
  have hrz : ∀ ty, (Builtin.append_ #[35, 3] ty #[.slice (some ⟨b, off, none⟩) i c, .int .i64 ((n : Int) + 1 - (i : Int))]).run Try.prog w =
      .ok (.slice (some ⟨w.heap.size, 0, none⟩) (n + 1) (grownCap w (n + 1) c 30)) (w.drew.alloc (.cells ((cs.take (i * 9)).toArray ++ Builtin.zeroCells z0.cells (n + 1 - i) ++ Builtin.zeroCells z0.cells (grownCap w (n + 1) c 30 - (n + 1))) 30)) := fun ty => by
    have h := Lib.run_append_grow_zeros w 35 3 ty 30 i0 _ .i64 .i64 uT uI hi0 hz0 (some ⟨b, off, none⟩) i c (cs.take (i * 9)) hold (n + 1 - i) (by omega) (by omega) (by omega) (by omega) (by rw [hzb]; omega) (by rw [hzb, hik]; exact growslice_fits hroom hbig)
    rw [hik] at h
    rw [hkk]
    exact h
  have hGn : n + 1 ≤ grownCap w (n + 1) c 30 := grownCap_ge w _ _ _
  obtain ⟨G, hG⟩ : ∃ G, G = grownCap w (n + 1) c 30 := ⟨_, rfl⟩
  obtain ⟨ROW, hROW⟩ : ∃ ROW : Array Value, ROW = (cs.take (i * 9)).toArray ++ Builtin.zeroCells z0.cells (n + 1 - i) ++ Builtin.zeroCells z0.cells (G - (n + 1)) := ⟨_, rfl⟩
  rw [← hG] at hrz hGn
  rw [← hROW] at hrz
  have hRs : ROW.size = G * 9 := by
    rw [hROW]
    simp only [Array.size_append, List.size_toArray, htl, size_zeroCells, hzl]
    omega
  refine ⟨G, ROW, hGn, hRs, fun j v hj hv => ?_, ?_⟩
  · rw [hROW, Array.getElem?_append_left (by simp [htl]; omega), Array.getElem?_append_left (by simp [htl]; omega)]
    simp only [List.getElem?_toArray]
    rw [List.getElem?_take, if_pos hj]; exact hv
  have hRl : (n + 1) * 9 ≤ ROW.size := by rw [hRs]; exact Nat.mul_le_mul_right _ hGn
  obtain ⟨W1, hW1⟩ : ∃ W1, W1 = w.drew.alloc (.cells ROW 30) := ⟨_, rfl⟩
  rw [← hW1] at hrz
  have hN : ∀ j, j < (n + 1) * 9 → (W1.cell? ⟨w.heap.size, j, none⟩).isSome = true := fun j hj => by
    rw [hW1, World.cell?_alloc_at (w := w.drew) ROW _ w.heap.size j rfl, Array.getElem?_eq_getElem (by omega)]; rfl
  have hNf : ∀ j, W1.frozen? ⟨w.heap.size, j, none⟩ = false := fun j => by rw [hW1]; exact World.frozen?_alloc_at (w := w.drew) ROW _ w.heap.size j rfl
  have hOb : ∀ j v, w.cell? ⟨b, j, none⟩ = some v → W1.cell? ⟨b, j, none⟩ = some v := fun j v h => by rw [hW1, World.cell?_alloc_past (w := w.drew) _ b j hbw]; exact h
  have hOv : ∀ j v, w.cell? ⟨vb, j, none⟩ = some v → W1.cell? ⟨vb, j, none⟩ = some v := fun j v h => by rw [hW1, World.cell?_alloc_past (w := w.drew) _ vb j hvw]; exact h
  have hcpA : ∀ (W : World), (∀ x, W.cell? x = W1.cell? x) → (∀ x, W.frozen? x = W1.frozen? x) → ∀ ty dc, (Builtin.copy_ #[35, 35] ty #[.slice (some ⟨w.heap.size, i * 9, none⟩) (n + 1 - i) dc, .slice (some ⟨vb, voff, none⟩) 1 vc]).run Try.prog W = .ok (goInt (Nat.min 1 (n + 1 - i))) (W.setCells w.heap.size (i * 9) vs) := fun W hWc hWf ty dc =>
    run_copy_z W _ _ ty 30 9 w.heap.size (i * 9) (n + 1 - i) dc ⟨vb, voff, none⟩ 1 vc vs uT uE (by rw [hvl]; simp only [Nat.min_def]; split <;> omega)
      (fun j v hj => by rw [Addr.add_lit, hWc]; exact hOv _ v (hvs j v hj))
      (fun j hj => by rw [hWc]; exact hN _ (by omega)) (fun j hj => by rw [hWf]; exact hNf _) h1v
  have hGi : ¬ (G = i) := by omega
  have hGim : ¬ (G = i + 1) := by omega
  have hci : ¬ (c = i) := by omega
  have hbN : b ≠ w.heap.size := by omega
  have hdl : (cs.drop (i * 9)).length = (n - i) * 9 := by rw [List.length_drop, hcl]; omega
  have hcpB : ∀ (W : World), (∀ x, W.cell? x = (W1.setCells w.heap.size (i * 9) vs).cell? x) → (∀ x, W.frozen? x = (W1.setCells w.heap.size (i * 9) vs).frozen? x) → ∀ ty dc sc, (Builtin.copy_ #[35, 35] ty #[.slice (some ⟨w.heap.size, (i + 1) * 9, none⟩) (n - i) dc, .slice (some ⟨b, off + i * 9, none⟩) (n - i) sc]).run Try.prog W = .ok (goInt (Nat.min (n - i) (n - i))) (W.setCells w.heap.size ((i + 1) * 9) (cs.drop (i * 9))) := fun W hWc hWf ty dc sc =>
    run_copy_z W _ _ ty 30 9 w.heap.size ((i + 1) * 9) (n - i) dc ⟨b, off + i * 9, none⟩ (n - i) sc (cs.drop (i * 9)) uT uE (by rw [hdl]; simp only [Nat.min_def]; split <;> omega)
      (fun j v hj => by
        rw [Addr.add_lit, hWc, World.cell?_setCells_out _ _ _ _ _ (fun h _ => absurd h hbN), Nat.add_assoc]
        exact hOb _ v (hcs (i * 9 + j) v (by rwa [List.getElem?_drop] at hj)))
      (fun j hj => by rw [hWc]; exact Go.Proofs.isSome_setCells _ _ _ _ (fun t ht => hN _ (by omega)) _ (hN _ (by omega)))
      (fun j hj => by rw [hWf, World.frozen?_setCells]; exact hNf _) (fun v hv => h1c v (List.mem_of_mem_drop hv))
  subst hW1
  have hE1 : ∀ x, ((w.alloc (.cells ROW 30)).drew).cell? x = (w.drew.alloc (.cells ROW 30)).cell? x := fun x => rfl
  have hE2 : ∀ x, ((w.alloc (.cells ROW 30)).drew).frozen? x = (w.drew.alloc (.cells ROW 30)).frozen? x := fun x => rfl
  have hF1 : ∀ x, (((w.alloc (.cells ROW 30)).drew.setCells w.heap.size (i * 9) vs).drew).cell? x = ((w.drew.alloc (.cells ROW 30)).setCells w.heap.size (i * 9) vs).cell? x := fun x => rfl
  have hF2 : ∀ x, (((w.alloc (.cells ROW 30)).drew.setCells w.heap.size (i * 9) vs).drew).frozen? x = ((w.drew.alloc (.cells ROW 30)).setCells w.heap.size (i * 9) vs).frozen? x := fun x => rfl
  have hw1 : IntKind.i64.wrap ((i : Int) + 1) = (i : Int) + 1 := by rw [IntKind.wrap_i64]; omega
  have hw2 : IntKind.i64.wrap ((n : Int) + 1) = (n : Int) + 1 := by rw [IntKind.wrap_i64]; omega
  have hw3 : IntKind.i64.wrap ((n : Int) + 1 - (i : Int)) = (n : Int) + 1 - (i : Int) := by rw [IntKind.wrap_i64]; omega
  have hb1 : (0 : Int) ≤ (i : Int) + 1 := by omega
  have hin : i ≤ n := by omega
  have htn : ((i : Int) + 1).toNat = i + 1 := by omega
  have hb3 : (i : Int) ≤ (n : Int) := by omega
  clear hkk hik hold hROW hG hRl hRs
  go_enter Try.func49, Try.ntmps49
  go_wp2_with (first
    | (at_builtin; refine Lib.wpList_append_run _ rfl _ _ _ _ rfl _ _ rfl rfl _ _ (hrz _) ?_)
    | (at_builtin; refine wpList_copy_runI _ rfl _ _ 35 35 rfl _ _ rfl rfl (hcpA _ hE1 hE2 _ _) ?_)
    | (at_builtin; refine wpList_copy_runI _ rfl _ _ 35 35 rfl _ _ rfl rfl (hcpB _ (fun _ => rfl) (fun _ => rfl) _ _ _) ?_))
  go_region_law_o (refine step_copy_runI rfl _ _ 35 35 rfl (.slice (some ⟨w.heap.size, (i + 1) * 9, none⟩) (n - i) (G - (i + 1))) (.slice (some ⟨b, off + i * 9, none⟩) (n - i) (c - i)) (by simp [Act.eval, Act.put]) (by simp [Act.eval, Act.put]) (hcpB _ hF1 hF2 3 (G - (i + 1)) (c - i)) ?_)
  go_wp2
  go_ret
  exact ⟨rfl, rfl⟩

/-- an append, as one step of a region that draws, where its run is known -/
theorem step_append_runI {P : Program} {ops : Array Oper} {o : Oper} {a : Act} {w : World} {K : Act → World → Prop} {Q : Exit → Act → World → Prop} {E : Prop}
    (hg : o.guard = none) (d x : Operand) (dT sT : TypeId) (hop : o.op = Op.call { callee := Callee.builtin Builtin.append, args := #[d, x], argTypes := #[dT, sT] })
    (v u : Value) (hd : a.eval d = v) (hx : a.eval x = u) {v' : Value} {w' : World} (hr : (Builtin.append_ #[dT, sT] o.type #[v, u]).run P w = .ok v' w') (hK : K (a.put o.dst v') w') :
    if Region.wanted o (yielded ops a.tmps) = true then Oper.wp P o a w K Q else E := by
  have hw : Region.wanted o (yielded ops a.tmps) = true := by simp [Region.wanted, hg]
  rw [if_pos hw]
  unfold Oper.wp
  simp [execOp, hop, resolve, invoke, builtin, hd, hx, hr, Result.andThen]
  exact hK
theorem wp_clear_runI {P : Program} (w : World) {o : Oper} {a : Act} {K : Act → World → Prop} {Q : Exit → Act → World → Prop} (d : Operand) (t : TypeId)
    (ho : o.op = .call { callee := .builtin .clear, args := #[d], argTypes := #[t] }) (v : Value) (hd : a.eval d = v) {v' : Value} {w' : World}
    (hr : (Builtin.clear_ #[t] o.type #[v]).run P w = .ok v' w') (h : K (a.put o.dst v') w') : o.wp P a w K Q := by
  unfold Oper.wp execOp
  simp only [ho, resolve, invoke, builtin, Sem.run_bind, Sem.run_pure, Result.andThen_ok, List.map_toArray, List.map_cons, List.map_nil, hd, hr]
  exact h
theorem wpList_clear_runI {P : Program} (w : World) {ops : Array Oper} {rest : List Oper} {o : Oper} {a : Act} {Q : Exit → Act → World → Prop} (hgd : o.guard = none) (d : Operand) (t : TypeId)
    (ho : o.op = .call { callee := .builtin .clear, args := #[d], argTypes := #[t] }) (v : Value) (hd : a.eval d = v) {v' : Value} {w' : World}
    (hr : (Builtin.clear_ #[t] o.type #[v]).run P w = .ok v' w') (h : wpList P ops Q rest (a.put o.dst v') w') : wpList P ops Q (o :: rest) a w :=
  wpList_plain hgd fun _ hK => wp_clear_runI w d t ho v hd hr (hK _ _ h)

set_option maxHeartbeats 4000000 in
set_option maxRecDepth 100000 in
theorem del_none (base : Option Addr) (n c i : Nat) (w : World) (hi : i ≤ n) (hc : n ≤ c) :
    Calls Try.prog 50 #[.slice base n c, .int .i64 i, .int .i64 i] w fun e w' => e = .returned (.slice base n c) ∧ w' = w := by
  have mixed := mixed
  have h1 : (i : Int) ≤ (n : Int) := by omega
  have h2 : (n : Int) ≤ (c : Int) := by omega
  go_enter Try.func50, Try.ntmps50
  go_wp2
  all_goals (go_ret; exact ⟨rfl, rfl⟩)

set_option maxHeartbeats 4000000 in
set_option maxRecDepth 100000 in
theorem del_some (b off n c i j : Nat) (w w2 w3 : World) (hij : i < j) (hj : j ≤ n) (hc : n ≤ c)
    (hrz : ∀ ty, (Builtin.append_ #[35, 35] ty #[.slice (some ⟨b, off, none⟩) i c, .slice (some (if c = j then ⟨b, off, none⟩ else ⟨b, off + j * 9, none⟩)) (n - j) (c - j)]).run Try.prog w.drew = .ok (.slice (some ⟨b, off, none⟩) (i + (n - j)) c) w2)
    (hcl : ∀ ty, (Builtin.clear_ #[35] ty #[.slice (some ⟨b, off + (i + (n - j)) * 9, none⟩) (n - (i + (n - j))) (c - (i + (n - j)))]).run Try.prog w2 = .ok (.tuple #[]) w3) :
    Calls Try.prog 50 #[.slice (some ⟨b, off, none⟩) n c, .int .i64 i, .int .i64 j] w fun e w' => e = .returned (.slice (some ⟨b, off, none⟩) (i + (n - j)) c) ∧ w' = w3 := by
  have mixed := mixed
  have h0 : ¬ ((i : Int) = (j : Int)) := by omega
  have h1 : (i : Int) ≤ (j : Int) := by omega
  have h2 : (j : Int) ≤ (n : Int) := by omega
  have h3 : (n : Int) ≤ (c : Int) := by omega
  have h4 : (i : Int) ≤ (c : Int) := by omega
  have h5 : ¬ (c = i + (n - j)) := by omega
  go_enter Try.func50, Try.ntmps50
  go_wp2
  go_region_law_o (refine step_append_runI rfl _ _ 35 35 rfl _ _ (by simp [Act.eval, Act.put]) (by simp [Act.eval, Act.put]; split <;> rfl) (hrz _) ?_)
  go_wp2_with (at_builtin; refine wpList_clear_runI _ rfl _ 35 rfl _ rfl (hcl _) ?_)
  all_goals (go_ret; exact ⟨rfl, rfl⟩)

set_option maxHeartbeats 4000000 in
set_option maxRecDepth 100000 in
theorem clone_nil (w : World) : Calls Try.prog 51 #[.slice none 0 0] w fun e w' => e = .returned (.slice none 0 0) ∧ w' = w := by
  have mixed := mixed
  have heq : ∀ w : World, (Go.binOp .eql 35 (.slice none 0 0) (.slice none 0 0)).run Try.prog w = .ok (.bool true) w := fun w => by kernel_rfl
  go_enter Try.func51, Try.ntmps51
  go_wp2
  go_ret
  exact ⟨rfl, rfl⟩
set_option maxHeartbeats 4000000 in
set_option maxRecDepth 100000 in
theorem clone_some (a : Addr) (n c : Nat) (w w2 : World) (v2 : Value)
    (hrz : ∀ ty, (Builtin.append_ #[35, 35] ty #[.slice (some ⟨w.heap.size, 0, none⟩) 0 0, .slice (some a) n c]).run Try.prog (w.alloc (.cells #[] 30)) = .ok v2 w2) :
    Calls Try.prog 51 #[.slice (some a) n c] w fun e w' => e = .returned v2 ∧ w' = w2 := by
  have mixed := mixed
  have heq : ∀ w : World, (Go.binOp .eql 35 (.slice (some a) n c) (.slice none 0 0)).run Try.prog w = .ok (.bool false) w := fun w => by kernel_rfl
  go_enter Try.func51, Try.ntmps51
  go_wp2_with (at_builtin; refine Lib.wpList_append_run _ rfl _ _ _ _ rfl _ _ rfl rfl _ _ (hrz _) ?_)
  go_ret
  exact ⟨rfl, rfl⟩
end Go.Proofs.Ythbnojedlbeglaa
