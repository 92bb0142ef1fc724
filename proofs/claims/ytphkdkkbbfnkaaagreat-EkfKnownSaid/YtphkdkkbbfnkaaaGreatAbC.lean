/-
  The abstract machine and the model: append and copy.
-/
import Derived.Test.YtphkdkkbbfnkaaaGreatAbB
namespace Go.Ab
variable [Amb]
section
variable {P : Program} {o : Oper} {X : Cx} {D : Nat → Prop} {nid : Nat} {us : List Up} {g : Gt}

theorem Rel.setTail {π : Pi} {a : Act} {w : World} (R : Rel X D π g a w) {b n B s e lo : Nat} {xs : List Value} (hz : g.z b = some n) (hb : π b = some (B, s, n, e)) (h0 : n ≤ lo) (hn : s + lo + xs.length ≤ e)
    (hD : b < X.k → D b) : Rel X D π g a (w.setCells B (s + lo) xs) := by
  obtain ⟨B', s', e', hb', hle, h1, h2⟩ := R.hp.hp b n hz
  rw [hb] at hb'; cases hb'
  have hin : ∀ j, j < xs.length → (cl w B (s + lo + j)).isSome = true := fun j hj => (h1 _ (by omega) (by omega)).1
  refine ⟨R.tm, R.nt, R.df, ⟨R.hp.am.setCells fun hl => R.hp.lb b B s n e (by rw [hz]; simp) hb (by omega), R.hp.lb, fun b' n' hz' => ?_, R.hp.dj⟩, R.old, R.ft, R.fr.setCells ?_⟩
  · obtain ⟨B2, s2, e2, hb2, hle2, k1, k2⟩ := R.hp.hp b' n' hz'
    refine ⟨B2, s2, e2, hb2, hle2, fun i hi he => ⟨isSome_setCells hin (k1 i hi he).1, by rw [fz_setCells]; exact (k1 i hi he).2⟩, fun j hj => ?_⟩
    rw [cl_setCells_out]
    · exact k2 j hj
    · intro e3; subst e3
      by_cases eb : b' = b
      · subst eb
        rw [hb] at hb2; cases hb2
        omega
      · by_cases hc : s + lo ≤ s2 + j ∧ s2 + j < s + lo + xs.length
        · exact (R.hp.dj b' b B2 s2 _ e2 s _ e eb (by simp [hz']) (by simp [hz]) hb2 hb (s2 + j) (by omega) (by omega) (by omega) (by omega)).elim
        · omega
  · rcases Nat.lt_or_ge B X.w0.heap.size with hB | hB
    · right
      intro j hj
      rcases Nat.lt_or_ge b X.k with hk | hk
      · exact ⟨b, s, n, e, hk, hD hk, (R.old b hk).symm.trans hb, by omega, by omega⟩
      · exact R.ft b B s n e hk (by simp [hz]) hb hB _ (by omega) (by omega)
    · exact .inl hB

theorem src_run {z : Nat} {x : CV} {xb : Sz × Blk} {l : List Fp} (h : Ran (slB z x) g xb l) {π : Pi} {a : Act} {w : World} (R : Rel X D π g a w) {xv : Value} (hx : x.rel π xv) :
    ∃ news : List Value, news.length = xb.1.val * z ∧ xb.2.size = xb.1.val * z ∧ (∀ j, j < xb.1.val * z → ∃ v, news[j]? = some v ∧ (xb.2.get j).rel π v) ∧ (∀ v ∈ news, v.oneCell' = true) ∧
      ((xb.1.val = 0 ∧ ∃ y c, xv = .slice y 0 c) ∨ ∃ ad c, xv = .slice (some ad) xb.1.val c ∧ ∀ j v, news[j]? = some v → w.cell? (ad.add j) = some v) := by
  cases x <;> simp only [slB] at h
  case sl b q n z' own =>
    obtain ⟨_, ⟨_, h1⟩, _, h2⟩ := Ran.bind' h
    clear h
    have hz' : z = z' := Nat.eq_of_beq_eq_true h1.must
    subst hz'
    cases h2 with | vw r v hz hs hv h3 =>
    cases h3
    obtain ⟨B2, s2, q2, e2, hb2, hm, _, ⟨h0, y, rfl⟩ | ⟨cap, hcap, rfl, _⟩⟩ := hx
    · exact ⟨[], by simp [h0], hs, fun j hj => by simp only [h0, Nat.zero_mul] at hj; omega, by simp, .inl ⟨h0, y, 0, rfl⟩⟩
    · obtain ⟨_, xs, hl, hxs, hc⟩ := R.view hz hs hv hb2 hm
      have hone : ∀ v ∈ xs, v.oneCell' = true := fun v hv => by
        obtain ⟨i, hi⟩ := List.mem_iff_getElem?.1 hv
        obtain ⟨c, _, hr⟩ := hxs.get' hi
        exact CV.rel_one hr
      refine ⟨xs, hl, hs, fun j hj => (list_rel hxs).2 j (by rw [hs]; exact hj), hone, .inr ⟨_, cap, rfl, fun j v hj => by rw [add_none]; exact hc j v hj⟩⟩
  case nils =>
    cases h
    have hx : xv = .slice none 0 0 := hx
    exact ⟨[], by simp [Sz.val], by simp [Blk.size, Sz.val], fun j hj => by simp [Sz.val] at hj, by simp, .inl ⟨rfl, none, 0, hx⟩⟩
  case fs n z' cols =>
    obtain ⟨_, ⟨_, h1⟩, _, h2⟩ := Ran.bind' h
    clear h
    have hz' : z = z' := Nat.eq_of_beq_eq_true h1.must
    subst hz'
    cases h2
    obtain ⟨hz, hx⟩ := hx
    have hs : Blk.size [.a (.s n) cols] = n * z := by rw [Blk.size_cons, Blk.size_nil, Sg.size_a, hz]; rfl
    rcases hx with ⟨h0, y, rfl⟩ | ⟨B, s, cap, hcap, rfl, hc⟩
    · exact ⟨[], by simp [h0, Sz.val], hs, fun j hj => by simp only [h0, Sz.val, Nat.zero_mul] at hj; omega, by simp, .inl ⟨h0, y, 0, rfl⟩⟩
    · have cell : ∀ j, j < n * z → ∃ v, cl w B (s + j) = some v ∧ (rget cols j).rel π v := fun j hj => by
        obtain ⟨f, v, e1, e2, e3⟩ := hc j hj
        exact ⟨v, (R.hp.am.st _ _ _ e2).2, by rw [e1]; exact e3⟩
      have hat : ∀ j v, ((List.range (n * z)).map fun j => (cl w B (s + j)).getD undef)[j]? = some v → j < n * z ∧ cl w B (s + j) = some v := fun j v hv => by
        have hjn : j < n * z := by
          have := (List.getElem?_eq_some_iff.1 hv).1; simpa using this
        obtain ⟨u, hu, _⟩ := cell j hjn
        simp [hjn, hu] at hv
        exact ⟨hjn, by rw [hu, hv]⟩
      refine ⟨(List.range (n * z)).map fun j => (cl w B (s + j)).getD undef, by simp [Sz.val], hs, fun j hj => ?_, fun v hv => ?_, .inr ⟨_, cap, rfl, fun j v hv => by rw [add_none]; exact (hat j v hv).2⟩⟩
      · obtain ⟨v, hv, hr⟩ := cell j hj
        refine ⟨v, ?_, by rw [Blk.get_lt (by rw [Sg.size_a, hz]; exact hj), Sg.get_a]; exact hr⟩
        have hj' : j < n * z := hj
        rw [List.getElem?_map, List.getElem?_range hj']; simp [hv]
      · obtain ⟨i, hi⟩ := List.mem_iff_getElem?.1 hv
        obtain ⟨h1, h2⟩ := hat i v hi
        obtain ⟨u, hu, hr⟩ := cell i h1
        rw [h2] at hu; cases hu
        exact CV.rel_one hr
  all_goals cases h

omit [Amb] in
theorem run_first0 {z : Nat} {y : Option Addr} {c : Nat} (w : World) : (Builtin.firstCells z 0 (.slice y 0 c)).run P w = .ok #[] w := by
  cases y <;> simp [Builtin.firstCells, loadCells, loadCellsFrom]
omit [Amb] in
theorem run_append0 {t ty e : TypeId} {z : Nat} (ht : P.underlying t = some (.slice e)) (hz : sizeT P e = some z) {base y : Option Addr} {n cap c : Nat} (h : n ≤ cap) (w : World) :
    (Builtin.append_ #[t, t] ty #[.slice base n cap, .slice y 0 c]).run P w = .ok (.slice base n cap) w := by
  cases base <;> simp [Builtin.append_, run_underlying ht, run_sizeOf hz, Builtin.lenOf, h, run_first0, storeCells]
omit [Amb] in
theorem run_append_in {t ty e : TypeId} {z : Nat} (ht : P.underlying t = some (.slice e)) (hz : sizeT P e = some z) {B q n cap m c : Nat} {ad : Addr} {news : List Value} (h : n + m ≤ cap) (hl : news.length = m * z) (w : World)
    (hn : ∀ j v, news[j]? = some v → w.cell? (ad.add j) = some v) (h1 : ∀ v ∈ news, v.oneCell' = true) (hc : ∀ j, j < news.length → (cl w B (q + n * z + j)).isSome = true ∧ fz w B (q + n * z + j) = false) :
    (Builtin.append_ #[t, t] ty #[.slice (some ⟨B, q, none⟩) n cap, .slice (some ad) m c]).run P w = .ok (.slice (some ⟨B, q, none⟩) (n + m) cap) (w.setCells B (q + n * z) news) := by
  have hf := run_firstCells_some (P := P) w z m ad m c news hl hn
  have hst := run_storeCells_cells (P := P) B (q + n * z) news 0 w (fun j hj => by have := (hc j hj).1; simpa [cl] using this) (fun j hj => by have := (hc j hj).2; simpa [fz] using this) h1
  simp [Builtin.append_, run_underlying ht, run_sizeOf hz, Builtin.lenOf, h, hf, add_none, hst]
theorem run_append_new {t ty e : TypeId} {z by_ : Nat} {zv : RV} (ht : P.underlying t = some (.slice e)) (hz : sizeT P e = some z) (hb : (P.info? e).map (·.bytes) = some by_) (hv : zeroT P e = some zv) (hl0 : Blk.size zv.blk = z) (hby : 1 ≤ by_)
    {sv : Value} {n cap m c : Nat} {ad : Addr} {olds news : List Value} (w : World) (hs : (sv = .slice none 0 0 ∧ n = 0 ∧ cap = 0) ∨ ∃ b, sv = .slice (some b) n cap ∧ ∀ j v, olds[j]? = some v → w.cell? (b.add j) = some v)
    (hlo : olds.length = n * z) (hl : news.length = m * z) (hn : ∀ j v, news[j]? = some v → w.cell? (ad.add j) = some v) (hg : cap < n + m) (hm : 0 < m) (hbig : (n + m) * by_ ≤ 140737488355328) :
    ∃ gc arr, (Builtin.append_ #[t, t] ty #[sv, .slice (some ad) m c]).run P w = .ok (.slice (some ⟨w.heap.size, 0, none⟩) (n + m) gc) (w.drew.alloc (.cells arr e)) ∧ n + m ≤ gc ∧ arr.size = gc * z ∧ ∃ rest, arr.toList = olds ++ news ++ rest := by
  obtain ⟨zx, _, ⟨i, hi, hzz⟩, hzr⟩ := run_zero hv w
  rw [hi] at hb
  have hzs : i.size = z := by unfold sizeT at hz; rw [hi] at hz; simpa using hz
  have hbs : i.bytes = by_ := by simpa using hb
  have hzc : zx.cells.size = z := by
    have := (list_rel (RV.rel_cells (hzr fun _ => none))).1
    simp only [Array.length_toList] at this; omega
  have hle : n + m ≤ (n + m) * by_ := Nat.le_mul_of_pos_right _ (by omega)
  have hsz : ∀ (old gc : Nat), n + m ≤ gc → (olds.toArray ++ news.toArray ++ Builtin.zeroCells zx.cells (gc - (n + m))).size = gc * z := fun old gc hgc => by
    simp only [Array.size_append, List.size_toArray, size_zeroCells, hzc, hlo, hl, ← Nat.add_mul]
    congr 1; omega
  rcases hs with ⟨rfl, rfl, rfl⟩ | ⟨b, rfl, ho⟩
  · have ho : olds = [] := List.eq_nil_of_length_eq_zero (by simpa using hlo)
    subst ho
    have hr := run_append_nil (P := P) w t ty e i zx ht hi hzz ad m c news (by rw [hzs]; exact hl) hn hm (by omega) (by rw [hbs]; simp only [Nat.zero_add] at hbig; omega)
    have hge := grownCap_ge w m 0 e
    refine ⟨_, _, by simpa using hr, by simpa using hge, ?_, Builtin.zeroCells zx.cells (grownCap w m 0 e - m) |>.toList, ?_⟩
    · have := hsz 0 (grownCap w m 0 e) (by simpa using hge)
      simpa using this
    · simp
  · have hr := run_append_grow (P := P) w t ty e i zx ht hi hzz b n cap olds (by rw [hzs]; exact hlo) ho ad m c news (by rw [hzs]; exact hl) hn hg (by omega) (growslice_fits hg (by rw [hbs]; exact hbig))
    have hge := grownCap_ge w (n + m) cap e
    refine ⟨_, _, hr, hge, hsz 0 _ hge, Builtin.zeroCells zx.cells (grownCap w (n + m) cap e - (n + m)) |>.toList, ?_⟩
    simp

omit [Amb] in
theorem ran_bytes {e : TypeId} {n : Nat} {l : List Fp} (h : Ran (Ab.ofO ((P.info? e).map (·.bytes))) g n l) : (P.info? e).map (·.bytes) = some n := h.ofO
omit [Amb] in
theorem get_app3 {olds news rest : List Value} {arr : Array Value} (h : arr.toList = olds ++ news ++ rest) {j : Nat} {v : Value} : (olds[j]? = some v → arr[j]? = some v) ∧ (news[j]? = some v → arr[olds.length + j]? = some v) := by
  refine ⟨fun hj => ?_, fun hj => ?_⟩
  · have hlt := (List.getElem?_eq_some_iff.1 hj).1
    rw [← Array.getElem?_toList, h, List.getElem?_append_left (by simp; omega), List.getElem?_append_left hlt, hj]
  · have hlt := (List.getElem?_eq_some_iff.1 hj).1
    rw [← Array.getElem?_toList, h, List.getElem?_append_left (by simp; omega), List.getElem?_append_right (by omega), show olds.length + j - olds.length = j by omega, hj]
theorem sims_append {c : Call} {t : TypeId} {sa xa : AV} {args : List AV} {fp l0 : List Fp} (ho : o.op = .call c) (hc : c.callee = .builtin .append) (ha : Ran (Ab.mapRd Ab.opd c.args.toList) g args l0) (hargs : args = [sa, xa])
    (hts : c.argTypes = #[t, t]) {s x : CV} (hs : sa = .r (.c s)) (hx : xa = .r (.c x)) (h : Ran (appendV P t s x o.dst nid) g us fp) : Sims P o X D nid us g := by
  subst hs hx hargs
  unfold appendV at h
  split at h
  case h_2 => cases h
  rename_i e hu
  obtain ⟨z, ⟨_, h1⟩, _, h⟩ := Ran.bind' h
  obtain ⟨by_, ⟨_, h2⟩, _, h⟩ := Ran.bind' h
  obtain ⟨zv, ⟨_, h3⟩, _, h⟩ := Ran.bind' h
  obtain ⟨_, ⟨_, h4⟩, _, h⟩ := Ran.bind' h
  obtain ⟨⟨xn, xk⟩, ⟨_, h5⟩, _, h⟩ := Ran.bind' h
  have h1 := h1.ofO
  have h2 := ran_bytes h2
  have h3 := h3.ofO
  have h4 := h4.must
  simp only [Bool.and_eq_true, ble_iff, beq_iff] at h4
  have hzv := h4.2.2
  simp only [] at h
  cases s with
  | nils =>
    simp only [] at h
    obtain ⟨_, ⟨_, h6⟩, _, h⟩ := Ran.bind' h
    cases h
    have h6 : xn.val * by_ ≤ 140737488355328 := Nat.le_of_ble_eq_true h6.must
    intro π a w next Q R hk hf hd hD hn
    obtain ⟨y1, y2, hy, hr1, hr2⟩ := all2_two (args_rel ha R)
    have hy := arr2 hy
    have hr1 : y1 = .slice none 0 0 := hr1
    subst hr1
    obtain ⟨news, n1, n2, n3, n4, n5⟩ := src_run h5 R hr2
    simp only at n1 n2 n3 n4 n5
    obtain ⟨cs, er⟩ := run_bi (P := P) a w ho hc
    have hcn : cnt (dstU o.dst (.r (.c (.sl nid (.k 0) xn z true))) ++ [Up.new nid xk]) = 1 := by unfold dstU cnt; cases o.dst <;> rfl
    have h0 := hf nid (Nat.le_refl _) (by omega)
    by_cases hm : xn.val = 0
    · obtain ⟨y, c', rfl⟩ : ∃ y c', y2 = .slice y 0 c' := by
        rcases n5 with ⟨_, y, c', rfl⟩ | ⟨ad, c', rfl, _⟩
        · exact ⟨y, c', rfl⟩
        · exact ⟨some ad, c', by rw [hm]⟩
      have hrun := run_append0 (P := P) (ty := o.type) hu h1 (base := none) (y := y) (n := 0) (cap := 0) (c := c') (Nat.le_refl _) w
      have hx0 := upd_ext h0 (0, 0, Blk.size xk, 0)
      have R1 := (R.mono_pi hx0 (fun b hb => by simp only [upd]; rw [if_neg (by omega)])).new (k := xk) (upd_self π nid (0, 0, Blk.size xk, 0)) hk (by rw [n2, hm]; omega) (fun i _ i2 => by omega) (fun j hj => by rw [n2, hm] at hj; omega)
        (fun _ _ _ _ _ _ _ _ _ i2 => by omega) (fun _ _ _ i2 => by omega)
      have R2 := R1.dst hd (v := .r (.c (.sl nid (.k 0) xn z true))) (x := .slice none 0 0) ⟨_, _, _, _, upd_self _ _ _, by simp only [Off.val, n2]; omega, fun _ => by simp only [Off.val, n2]; omega, .inl ⟨hm, none, rfl⟩⟩
      refine wp_val (x := .slice none 0 0) (w' := w) ?_ (hn _ _ (upd π nid (0, 0, Blk.size xk, 0)) hx0 (upd_dom ⟨Nat.le_refl _, by omega⟩) ?_)
      · rw [er, hy, hts]
        simp [builtin, hrun]
      · rw [dst_new _ _ _ _ (by simp)]; exact R2
    · obtain ⟨ad, c', rfl, hn5⟩ : ∃ ad c', y2 = .slice (some ad) xn.val c' ∧ ∀ j v, news[j]? = some v → w.cell? (ad.add j) = some v := by
        rcases n5 with ⟨h, _⟩ | h
        · exact absurd h hm
        · exact h
      obtain ⟨gc, arr, hrun, hgc, hsz, rest, hlist⟩ := run_append_new (P := P) (ty := o.type) hu h1 h2 h3 hzv h4.2.1 (sv := .slice none 0 0) (n := 0) (cap := 0) (m := xn.val) (c := c') (ad := ad) (olds := []) (news := news) w (.inl ⟨rfl, rfl, rfl⟩) (by simp) n1 hn5 (by omega) (by omega) (by simpa using h6)
      simp only [Nat.zero_add] at hrun hgc
      have R1 := (R.drew).row (k := xk) (n := xn) (q := z) (cap := gc) (arr := arr) (t := e) hd h0 hk hgc (by omega) n2 (fun j hj => by
        rw [n2] at hj
        obtain ⟨v, hv, hr⟩ := n3 j hj
        exact ⟨v, by simpa using (get_app3 hlist).2 hv, hr⟩)
      refine wp_val (x := .slice (some ⟨w.heap.size, 0, none⟩) xn.val gc) (w' := w.drew.alloc (.cells arr e)) ?_ (hn _ _ (upd π nid (w.heap.size, 0, Blk.size xk, gc * z)) (upd_ext h0 _) (upd_dom ⟨Nat.le_refl _, by omega⟩) ?_)
      · rw [er, hy, hts]
        simp [builtin, hrun]
      · rw [dst_new _ _ _ _ (by simp)]; exact R1
  | sl b q n z' own =>
    cases own with
    | false => cases h
    | true =>
    simp only [] at h
    obtain ⟨_, ⟨_, h6⟩, _, h⟩ := Ran.bind' h
    obtain ⟨_, ⟨_, h7⟩, _, h⟩ := Ran.bind' h
    cases h with | sz r hz h =>
    cases h with | vw r' sb hz' hsb hvb h =>
    obtain ⟨nb, ⟨_, h9⟩, _, h⟩ := Ran.bind' h
    obtain ⟨_, ⟨_, h10⟩, _, h⟩ := Ran.bind' h
    cases h
    have h6 : z = z' := Nat.eq_of_beq_eq_true h6.must
    subst h6
    have h7 : (n.val + xn.val) * by_ ≤ 140737488355328 := Nat.le_of_ble_eq_true h7.must
    rw [hz] at hz'; cases hz'
    have hadd : (n.add xn).val = n.val + xn.val := by cases n <;> cases xn <;> rfl
    intro π a w next Q R hk hf hd hD hn
    obtain ⟨y1, y2, hy, hr1, hr2⟩ := all2_two (args_rel ha R)
    have hy := arr2 hy
    obtain ⟨news, n1, n2, n3, n4, n5⟩ := src_run h5 R hr2
    simp only at n1 n2 n3 n4 n5
    obtain ⟨cs, er⟩ := run_bi (P := P) a w ho hc
    have happ := Blk.app_spec h9.ofO
    have hcn : cnt (dstU o.dst (.r (.c (.sl nid (.k 0) (n.add xn) z true))) ++ [Up.kill b, Up.new nid nb]) = 1 := by unfold dstU cnt; cases o.dst <;> rfl
    have h0 := hf nid (Nat.le_refl _) (by omega)
    have hDb : b < X.k → D b := hD (.kill b) (by simp)
    obtain ⟨B, s, e', hb, hle, k1, k2⟩ := R.hp.hp b _ hz
    have hne : nid ≠ b := fun e => by rw [e, hb] at h0; cases h0
    have hmul : (n.val + xn.val) * z = n.val * z + xn.val * z := Nat.add_mul _ _ _
    have hsize : Blk.size nb = (n.val + xn.val) * z := by rw [happ.1, hsb, n2, hmul]
    -- a place within the old block
    have within : ∀ (w' : World) (y : Value) (cap : Nat), Rel X D π g a w' → (n.val + xn.val) ≤ cap → s + q.val + cap * z ≤ e' → y = .slice (some ⟨B, s + q.val, none⟩) (n.val + xn.val) cap →
        (∀ i, s + q.val ≤ i → i < e' → (cl w' B i).isSome = true ∧ fz w' B i = false) → (∀ j, j < (n.val + xn.val) * z → ∃ v, cl w' B (s + q.val + j) = some v ∧ (Blk.get nb j).rel π v) →
        (execOp a.eval o).run P w = .ok (.value y) w' → o.wp P a w next Q := by
      intro w' y cap R' hcap hce hyy hc1 hc2 hrun
      have hcz : (n.val + xn.val) * z ≤ cap * z := Nat.mul_le_mul_right _ hcap
      have hx0 := upd_ext h0 (B, s + q.val, Blk.size nb, e')
      have R1 := ((R'.kill b).mono_pi hx0 (fun b hb => by simp only [upd]; rw [if_neg (by omega)])).new (k := nb) (upd_self π nid (B, s + q.val, Blk.size nb, e')) hk (by rw [hsize]; omega) hc1
        (fun j hj => by
          rw [hsize] at hj
          obtain ⟨v, hv, hr⟩ := hc2 j hj
          exact ⟨v, hv, CV.rel_mono hx0 _ _ hr⟩)
        (fun b' s1 q1 e1 hne' hz1 hb1 i i1 i2 i3 i4 => by
          simp only [upd, hne', if_false] at hb1
          have hbb : b' ≠ b := fun e => hz1 (by simp [Up.appG, e])
          have hz2 : g.z b' ≠ none := by simpa [Up.appG, hbb] using hz1
          exact R'.hp.dj b' b B s1 q1 e1 s _ e' hbb hz2 (by simp [hz]) hb1 hb i i3 i4 (by omega) i2)
        (fun hB i i1 i2 => by
          rcases Nat.lt_or_ge b X.k with hbk | hbk
          · exact ⟨b, s, _, e', hbk, hDb hbk, (R'.old b hbk).symm.trans hb, by omega, i2⟩
          · exact R'.ft b B s _ e' hbk (by simp [hz]) hb hB i (by omega) i2)
        (fun h => R'.hp.lb b B s _ e' (by simp [hz]) hb (by omega))
      have R2 := R1.dst hd (v := .r (.c (.sl nid (.k 0) (n.add xn) z true))) (x := y) ⟨_, _, _, _, upd_self _ _ _, by rw [hadd, hsize]; simp only [Off.val]; omega, fun _ => by rw [hadd, hsize]; simp only [Off.val]; omega, .inr ⟨cap, by rw [hadd]; exact hcap, by rw [hadd]; exact hyy, fun _ => hce⟩⟩
      refine wp_val hrun (hn _ _ (upd π nid (B, s + q.val, Blk.size nb, e')) hx0 (upd_dom ⟨Nat.le_refl _, by omega⟩) ?_)
      rw [dst_new _ _ _ _ (by simp)]; exact R2
    -- a new array
    have grows : ∀ (sv : Value) (cap : Nat) (xs : List Value) (ad : Addr) (c' : Nat), y1 = sv → y2 = .slice (some ad) xn.val c' → (∀ j v, news[j]? = some v → w.cell? (ad.add j) = some v) → xs.length = n.val * z → (∀ j, j < n.val * z → ∃ v, xs[j]? = some v ∧ (Blk.get sb j).rel π v) →
        ((sv = .slice none 0 0 ∧ n.val = 0 ∧ cap = 0) ∨ ∃ b, sv = .slice (some b) n.val cap ∧ ∀ j v, xs[j]? = some v → w.cell? (b.add j) = some v) → 0 < xn.val → cap < n.val + xn.val → o.wp P a w next Q := by
      intro sv cap xs ad c' hsv hy2 hn5 hxl hold hss hm hcap
      subst hy2
      obtain ⟨gc, arr, hrun, hgc, hsz, rest, hlist⟩ := run_append_new (P := P) (ty := o.type) hu h1 h2 h3 hzv h4.2.1 (c := c') (ad := ad) (olds := xs) (news := news) w hss hxl n1 hn5 hcap hm h7
      have R1 := ((R.drew).kill b).row (k := nb) (n := n.add xn) (q := z) (cap := gc) (arr := arr) (t := e) hd h0 hk (by rw [hadd]; exact hgc) (by omega) (by rw [hsize, hadd]) (fun j hj => by
        rw [hsize] at hj
        rw [happ.2 j (by omega), hsb]
        by_cases hjn : j < n.val * z
        · obtain ⟨v, hv, hr⟩ := hold j hjn
          rw [if_pos hjn]
          exact ⟨v, (get_app3 hlist).1 hv, hr⟩
        · rw [if_neg hjn]
          obtain ⟨v, hv, hr⟩ := n3 (j - n.val * z) (by omega)
          have := (get_app3 hlist).2 hv
          rw [hxl, show n.val * z + (j - n.val * z) = j by omega] at this
          exact ⟨v, this, hr⟩)
      refine wp_val (x := .slice (some ⟨w.heap.size, 0, none⟩) (n.val + xn.val) gc) (w' := w.drew.alloc (.cells arr e)) ?_ (hn _ _ (upd π nid (w.heap.size, 0, Blk.size nb, gc * z)) (upd_ext h0 _) (upd_dom ⟨Nat.le_refl _, by omega⟩) ?_)
      · rw [er, hy, hts, hsv]
        simp [builtin, hrun]
      · rw [dst_new _ _ _ _ (by simp), ← hadd]; exact R1
    have src0 : xn.val = 0 → ∃ y c', y2 = .slice y 0 c' := fun hm => by
      rcases n5 with ⟨_, y, c', rfl⟩ | ⟨ad, c', rfl, _⟩
      · exact ⟨y, c', rfl⟩
      · exact ⟨some ad, c', by rw [hm]⟩
    have src1 : xn.val ≠ 0 → ∃ ad c', y2 = .slice (some ad) xn.val c' ∧ ∀ j v, news[j]? = some v → w.cell? (ad.add j) = some v := fun hm => by
      rcases n5 with ⟨h, _⟩ | h
      · exact absurd h hm
      · exact h
    obtain ⟨B2, s2, q2, e2, hb2, hmq, hown1, ⟨hn0, y0, rfl⟩ | ⟨cap, hcap, rfl, hown2⟩⟩ := hr1
    · by_cases hm : xn.val = 0
      · obtain ⟨y, c', rfl⟩ := src0 hm
        have hrun := run_append0 (P := P) (ty := o.type) hu h1 (base := y0) (y := y) (n := 0) (cap := 0) (c := c') (Nat.le_refl _) w
        have hs0 : Blk.size nb = 0 := by rw [hsize, hm, hn0]; omega
        have hx0 := upd_ext h0 (0, 0, Blk.size nb, 0)
        have R1 := ((R.kill b).mono_pi hx0 (fun b hb => by simp only [upd]; rw [if_neg (by omega)])).new (k := nb) (upd_self π nid (0, 0, Blk.size nb, 0)) hk (by omega) (fun i _ i2 => by omega) (fun j hj => by omega)
          (fun _ _ _ _ _ _ _ _ _ i2 => by omega) (fun _ _ _ i2 => by omega)
        have R2 := R1.dst hd (v := .r (.c (.sl nid (.k 0) (n.add xn) z true))) (x := .slice y0 0 0) ⟨_, _, _, _, upd_self _ _ _, by rw [hadd, hs0, hm, hn0]; simp [Off.val], fun _ => by rw [hadd, hs0, hm, hn0]; simp [Off.val], .inl ⟨by omega, y0, rfl⟩⟩
        refine wp_val (x := .slice y0 0 0) (w' := w) ?_ (hn _ _ (upd π nid (0, 0, Blk.size nb, 0)) hx0 (upd_dom ⟨Nat.le_refl _, by omega⟩) ?_)
        · rw [er, hy, hts]
          simp [builtin, hrun]
        · rw [dst_new _ _ _ _ (by simp)]; exact R2
      · obtain ⟨ad, c', hy2, hn5⟩ := src1 hm
        cases y0 with
        | none => exact grows _ 0 [] ad c' rfl hy2 hn5 (by simp [hn0]) (fun j hj => by simp only [hn0, Nat.zero_mul] at hj; omega) (.inl ⟨rfl, hn0, rfl⟩) (by omega) (by omega)
        | some ad0 => exact grows _ 0 [] ad c' rfl hy2 hn5 (by simp [hn0]) (fun j hj => by simp only [hn0, Nat.zero_mul] at hj; omega) (.inr ⟨ad0, by rw [hn0], fun j v hj => by simp at hj⟩) (by omega) (by omega)
    · rw [hb] at hb2; cases hb2
      have how1 := hown1 rfl
      have how2 := hown2 rfl
      obtain ⟨_, xs, hxl, hxs, hxc⟩ := R.view hz hsb hvb hb hmq
      have hold : ∀ j, j < n.val * z → ∃ v, xs[j]? = some v ∧ (Blk.get sb j).rel π v ∧ cl w B (s + q.val + j) = some v := fun j hj => by
        obtain ⟨v, hv, hr⟩ := (list_rel hxs).2 j (by rw [hsb]; exact hj)
        exact ⟨v, hv, hr, hxc j v hv⟩
      by_cases hm : xn.val = 0
      · obtain ⟨y, c', rfl⟩ := src0 hm
        have hrun := run_append0 (P := P) (ty := o.type) hu h1 (base := some ⟨B, s + q.val, none⟩) (y := y) (n := n.val) (cap := cap) (c := c') hcap w
        refine within w _ cap R (by omega) how2 (by rw [hm, Nat.add_zero]) (fun i i1 i2 => k1 i (by omega) i2) (fun j hj => ?_) (by rw [er, hy, hts]; simp [builtin, hrun])
        have hj' : j < n.val * z := by rw [hm] at hj; simpa using hj
        obtain ⟨v, _, hr, hc⟩ := hold j hj'
        exact ⟨v, hc, by rw [happ.2 j (by omega), if_pos (by omega)]; exact hr⟩
      · obtain ⟨ad, c', hy2, hn5⟩ := src1 hm
        by_cases hroom : n.val + xn.val ≤ cap
        · subst hy2
          have hcz : (n.val + xn.val) * z ≤ cap * z := Nat.mul_le_mul_right _ hroom
          have hin : ∀ j, j < news.length → (cl w B (s + q.val + n.val * z + j)).isSome = true ∧ fz w B (s + q.val + n.val * z + j) = false := fun j hj => k1 _ (by omega) (by omega)
          have hrun := run_append_in (P := P) (ty := o.type) hu h1 (B := B) (q := s + q.val) (n := n.val) (cap := cap) (m := xn.val) (c := c') (ad := ad) hroom n1 w hn5 n4 hin
          have R' := R.setTail (lo := q.val + n.val * z) (xs := news) hz hb (by omega) (by omega) hDb
          rw [show s + (q.val + n.val * z) = s + q.val + n.val * z by omega] at R'
          refine within _ _ cap R' hroom how2 rfl (fun i i1 i2 => ⟨isSome_setCells (fun j hj => (hin j hj).1) (k1 i (by omega) i2).1, by rw [fz_setCells]; exact (k1 i (by omega) i2).2⟩) (fun j hj => ?_) (by rw [er, hy, hts]; simp [builtin, hrun])
          rw [happ.2 j (by omega), hsb]
          by_cases hjn : j < n.val * z
          · obtain ⟨v, hv, hr, hc⟩ := hold j hjn
            rw [if_pos hjn]
            exact ⟨v, by rw [cl_setCells_out (fun _ => by omega)]; exact hc, hr⟩
          · rw [if_neg hjn]
            obtain ⟨v, hv, hr⟩ := n3 (j - n.val * z) (by omega)
            have hlt := (List.getElem?_eq_some_iff.1 hv)
            have := cl_setCells_in (w := w) (B := B) (o := s + q.val + n.val * z) (vs := news) (fun j hj => (hin j hj).1) hlt.1
            rw [show s + q.val + n.val * z + (j - n.val * z) = s + q.val + j by omega, hlt.2] at this
            exact ⟨v, this, hr⟩
        · exact grows _ cap xs ad c' rfl hy2 hn5 hxl (fun j hj => let ⟨v, hv, hr, _⟩ := hold j hj; ⟨v, hv, hr⟩) (.inr ⟨_, rfl, fun j v hj => by rw [add_none]; exact hxc j v hj⟩) (by omega) (by omega)
  | _ => cases h
omit [Amb] in
theorem Ran.selN {v : Nat} : ∀ {k j : Nat} {l : List Fp}, Ran (selN v k) g j l → j = Nat.min v k
  | 0, j, l, h => by cases h; simp
  | k + 1, j, l, h => by
    cases h with | test h =>
    cases hx : Nat.ble (k + 1) v with
    | true =>
      rw [hx] at h; cases h
      have := Nat.le_of_ble_eq_true hx
      show k + 1 = min v (k + 1)
      omega
    | false =>
      rw [hx] at h
      have h0 : ¬ k + 1 ≤ v := fun h => by rw [Nat.ble_eq_true_of_le h] at hx; cases hx
      have e := Ran.selN h
      rw [e]
      show min v k = min v (k + 1)
      omega
omit [Amb] in
theorem Ran.cntC {n n' : Sz} {m : Bool × Sz} {l : List Fp} (h : Ran (cntC n n') g m l) : m.2.val = Nat.min n'.val n.val := by
  have least : ∀ n n' : Sz, (Sz.least n' n).val = Nat.min n'.val n.val := fun n n' => by cases n <;> cases n' <;> rfl
  unfold Ab.cntC at h
  split at h
  · split at h
    · obtain ⟨j, ⟨_, h1⟩, _, h2⟩ := Ran.bind' h
      cases h2
      exact Ran.selN h1
    · cases h; rfl
  · cases h; exact least _ _
theorem sims_copy {c : Call} {t : TypeId} {da xa : AV} {args : List AV} {fp l0 : List Fp} (ho : o.op = .call c) (hc : c.callee = .builtin .copy) (ha : Ran (Ab.mapRd Ab.opd c.args.toList) g args l0) (hargs : args = [da, xa])
    (hts : c.argTypes[0]? = some t) {d x : CV} (hs : da = .r (.c d)) (hx : xa = .r (.c x)) (h : Ran (copyV P t d x o.dst) g us fp) : Sims P o X D nid us g := by
  subst hs hx hargs
  unfold copyV at h
  split at h
  case h_2 => cases h
  rename_i e hu
  obtain ⟨z, ⟨_, h1⟩, _, h⟩ := Ran.bind' h
  have h1 := h1.ofO
  split at h
  case h_2 => cases h
  rename_i b q n z1 w1 b' q' n' z2 w2 _
  obtain ⟨_, ⟨_, h2⟩, _, h'⟩ := Ran.bind' h
  clear h
  obtain ⟨_, ⟨_, h3⟩, _, h⟩ := Ran.bind' h'
  clear h'
  have h2 := h2.must
  simp only [Bool.and_eq_true, beq_iff] at h2
  obtain ⟨e1, e2⟩ := h2
  obtain ⟨⟨fl, m⟩, ⟨_, h6⟩, _, h'⟩ := Ran.bind' h
  clear h
  have hmv : m.val = Nat.min n'.val n.val := h6.cntC
  clear h6
  cases h' with | vw r' v0 hz' hs0 hv0 h =>
  cases h with | sz r hz h =>
  cases h
  have hsv : Blk.size (cond fl (flatB v0) v0) = Blk.size v0 ∧ ∀ j, j < Blk.size v0 → Blk.get (cond fl (flatB v0) v0) j = Blk.get v0 j := by
    cases fl
    · exact ⟨rfl, fun _ _ => rfl⟩
    · exact flatB_spec v0
  have hs : Blk.size (cond fl (flatB v0) v0) = m.val * z := hsv.1.trans hs0
  have hv : q'.val + m.val * z ≤ r' → ∀ j, j < m.val * z → Blk.get (cond fl (flatB v0) v0) j = g.c b' (q'.val + j) := fun hb j hj => (hsv.2 j (by rw [hs0]; exact hj)).trans (hv0 hb j hj)
  generalize cond fl (flatB v0) v0 = v at hs hv ⊢
  clear hsv hs0 hv0
  subst e1 e2
  intro π a w next Q R hk hf hd hD hn
  obtain ⟨y1, y2, hy, hr1, hr2⟩ := all2_two (args_rel ha R)
  have hy := arr2 hy
  obtain ⟨cs, er⟩ := run_bi (P := P) a w ho hc
  have key : ∀ (w' : World) (g' : Gt), (execOp a.eval o).run P w = .ok (.value (.int .i64 ((m.val : Nat) : Int))) w' → Rel X D π g' a w' →
      appGs [Up.c b q v] g = g' → o.wp P a w next Q := by
    intro w' g' hrun R' hg
    refine wp_val hrun (hn _ _ π (Ext.refl _) (fun b h => .inl h) ?_)
    rw [dst_new _ _ _ _ (by simp), hg]
    exact R'.dst hd rfl
  by_cases hm : m.val = 0
  · have hv0 : Blk.size v = 0 := by rw [hs, hm, Nat.zero_mul]
    have hg : appGs [Up.c b q v] g = g := by
      show (Up.c b q v).appG g = g
      simp only [Up.appG]
      have : (fun b' j => if b' = b ∧ q.val ≤ j ∧ j < q.val + Blk.size v then Blk.get v (j - q.val) else g.c b' j) = g.c := by
        funext b' j; rw [if_neg (by omega)]
      rw [this]
    have hvv : ∀ {b q n z own} {y : Value}, CV.rel π (.sl b q n z own) y → ∃ ad cap, y = .slice ad n.val cap := fun hr => by
      obtain ⟨_, _, _, _, _, _, _, ⟨h, y, rfl⟩ | ⟨cap, _, rfl, _⟩⟩ := hr
      · exact ⟨_, _, by rw [h]⟩
      · exact ⟨_, _, rfl⟩
    obtain ⟨ad1, c1, rfl⟩ := hvv hr1
    obtain ⟨ad2, c2, rfl⟩ := hvv hr2
    have hf0 : (Builtin.firstCells z 0 (.slice ad2 n'.val c2)).run P w = .ok #[] w := by
      cases ad2 <;> simp [Builtin.firstCells, loadCells, loadCellsFrom]
    refine key w g ?_ R hg
    rw [er, hy]
    rw [hmv] at hm
    have hc0 : (Builtin.copy_ c.argTypes o.type #[.slice ad1 n.val c1, .slice ad2 n'.val c2]).run P w = .ok (goInt 0) w := by
      cases ad1 <;> simp [Builtin.copy_, hts, run_underlying hu, run_sizeOf h1, Builtin.lenOf, hm, hf0, storeCells]
    simp [builtin, hc0, hm, hmv, goInt]
  · have hne : n.val ≠ 0 ∧ n'.val ≠ 0 := by
      rw [hmv] at hm
      constructor <;> (intro e; apply hm; rw [e]; simp [Nat.min_def])
    obtain ⟨B, s, r1, e1, hb, hm1, _, ⟨h, _⟩ | ⟨c1, hc1, rfl, _⟩⟩ := hr1
    · exact absurd h hne.1
    obtain ⟨B', s', r2, e1', hb', hm2, _, ⟨h, _⟩ | ⟨c2, hc2, rfl, _⟩⟩ := hr2
    · exact absurd h hne.2
    have l1 : m.val * z ≤ n.val * z := Nat.mul_le_mul_right _ (by rw [hmv]; exact Nat.min_le_right _ _)
    have l2 : m.val * z ≤ n'.val * z := Nat.mul_le_mul_right _ (by rw [hmv]; exact Nat.min_le_left _ _)
    obtain ⟨_, xs, hxl, hxs, hxc⟩ := R.view hz' hs hv hb' (by omega)
    rw [hmv] at hxl
    have hfc := run_firstCells_some (P := P) w z (Nat.min n'.val n.val) ⟨B', s' + q'.val, none⟩ n'.val c2 xs hxl (fun j v hj => by rw [add_none]; exact hxc j v hj)
    obtain ⟨B0, s0, e0, hb0, hle, k1, k2⟩ := R.hp.hp b _ hz
    rw [hb] at hb0; cases hb0
    rw [hmv] at l1 hs
    have hst := run_storeCells_cells (P := P) B (s + q.val) xs 0 w (fun j hj => (k1 _ (by omega) (by omega)).1) (fun j hj => (k1 _ (by omega) (by omega)).2) (fun v hv => by
      obtain ⟨i, hi⟩ := List.mem_iff_getElem?.1 hv
      obtain ⟨c, _, hr⟩ := hxs.get' hi
      exact CV.rel_one hr)
    have R' := R.set (o := q) hz hb (by omega) hxs (hD (.c b q v) (by simp))
    refine key _ _ ?_ R' rfl
    rw [er, hy]
    simp [builtin, Builtin.copy_, hts, run_underlying hu, run_sizeOf h1, Builtin.lenOf, hfc, hst, goInt, hmv]
end
end Go.Ab
