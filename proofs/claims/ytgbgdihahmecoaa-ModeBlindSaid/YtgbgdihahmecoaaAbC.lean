/-
  The abstract machine and the model: append and copy.
-/
import Derived.Test.YtgbgdihahmecoaaAbB
namespace Go.Ab
section
variable {P : Program} {o : Oper} {X : Cx} {D : Nat → Prop} {nid : Nat} {us : List Up} {g : Gt}

/-- cells behind a live block's last one, which are its own, written -/
theorem Rel.setTail {π : Pi} {a : Act} {w : World} (R : Rel X D π g a w) {b n B s e lo : Nat} {xs : List Value} (hz : g.z b = some n) (hb : π b = some (B, s, e)) (h0 : n ≤ lo) (hn : s + lo + xs.length ≤ e)
    (hD : b < X.k → D b) : Rel X D π g a (w.setCells B (s + lo) xs) := by
  obtain ⟨B', s', e', hb', hle, h1, h2⟩ := R.hp.hp b n hz
  rw [hb] at hb'; cases hb'
  have hin : ∀ j, j < xs.length → (cl w B (s + lo + j)).isSome = true := fun j hj => (h1 _ (by omega) (by omega)).1
  refine ⟨R.tm, R.nt, R.df, ⟨fun b' n' hz' => ?_, R.hp.dj⟩, R.old, R.ft, R.fr.setCells ?_⟩
  · obtain ⟨B2, s2, e2, hb2, hle2, k1, k2⟩ := R.hp.hp b' n' hz'
    refine ⟨B2, s2, e2, hb2, hle2, fun i hi he => ⟨isSome_setCells hin (k1 i hi he).1, by rw [fz_setCells]; exact (k1 i hi he).2⟩, fun j hj => ?_⟩
    rw [cl_setCells_out]
    · exact k2 j hj
    · intro e3; subst e3
      by_cases eb : b' = b
      · subst eb
        rw [hb] at hb2; cases hb2
        rw [hz] at hz'; cases hz'
        omega
      · by_cases hc : s + lo ≤ s2 + j ∧ s2 + j < s + lo + xs.length
        · exact (R.hp.dj b' b B2 s2 e2 s e eb (by simp [hz']) (by simp [hz]) hb2 hb (s2 + j) (by omega) (by omega) (by omega) (by omega)).elim
        · omega
  · rcases Nat.lt_or_ge B X.w0.heap.size with hB | hB
    · right
      intro j hj
      rcases Nat.lt_or_ge b X.k with hk | hk
      · exact ⟨b, s, e, hk, hD hk, (R.old b hk).symm.trans hb, by omega, by omega⟩
      · exact R.ft b B s e hk (by simp [hz]) hb hB _ (by omega) (by omega)
    · exact .inl hB

theorem isFB_get {k : Blk} (h : isFB k = true) {j : Nat} (hj : j < k.size) : CV.f (k.get j).fv = k.get j := by
  cases k with
  | mix cs =>
    apply CV.isF_fv
    simp only [Blk.size] at hj
    have : cs.getD j (.f .u) ∈ cs := by
      simp only [List.getD, List.getElem?_eq_getElem hj, Option.getD_some]
      exact List.getElem_mem hj
    exact List.all_eq_true.1 h _ this
  | fnb n g => rfl
theorem Blk.app_get {a b : Blk} (h : appOk a b = true) : (a.app b).size = a.size + b.size ∧ ∀ j, j < a.size + b.size → (a.app b).get j = if j < a.size then a.get j else b.get (j - a.size) := by
  have gen : isFB a = true → isFB b = true → ∀ j, j < a.size + b.size → CV.f (match Nat.blt j a.size with | true => (a.get j).fv | false => (b.get (j - a.size)).fv) = if j < a.size then a.get j else b.get (j - a.size) := fun ha hb j hj => by
    by_cases hc : j < a.size
    · have : Nat.blt j a.size = true := by simp [Nat.blt]; omega
      rw [this, if_pos hc]; exact isFB_get ha hc
    · have : Nat.blt j a.size = false := by rw [Bool.eq_false_iff]; intro e; simp [Nat.blt] at e; omega
      rw [this, if_neg hc]; exact isFB_get hb (by omega)
  cases a with
  | mix x =>
    cases b with
    | mix y =>
      refine ⟨by simp [Blk.app, Blk.size], fun j hj => ?_⟩
      simp only [Blk.app, Blk.get, Blk.size, List.getD, List.getElem?_append]
      by_cases hc : j < x.length <;> simp [hc]
    | fnb n g =>
      simp only [appOk, Bool.and_eq_true] at h
      exact ⟨rfl, gen h.1 h.2⟩
  | fnb n g =>
    have h' : isFB (.fnb n g) = true ∧ isFB b = true := by cases b <;> simpa [appOk] using h
    exact ⟨by cases b <;> rfl, by cases b <;> exact gen h'.1 h'.2⟩

/-- what is appended -/
theorem src_run {z : Nat} {x : CV} {xb : Nat × Blk} {l : List Fp} (h : Ran (slB z x) g xb l) {π : Pi} {a : Act} {w : World} (R : Rel X D π g a w) {xv : Value} (hx : x.rel π xv) :
    ∃ news : List Value, news.length = xb.1 * z ∧ xb.2.size = xb.1 * z ∧ (∀ j, j < xb.1 * z → ∃ v, news[j]? = some v ∧ (xb.2.get j).rel π v) ∧ (∀ v ∈ news, v.oneCell' = true) ∧
      ((xb.1 = 0 ∧ ∃ y c, xv = .slice y 0 c) ∨ ∃ ad c, xv = .slice (some ad) xb.1 c ∧ ∀ j v, news[j]? = some v → w.cell? (ad.add j) = some v) := by
  cases x <;> simp only [slB] at h
  case sl b q n z' own =>
    obtain ⟨_, ⟨_, h1⟩, _, h⟩ := Ran.bind' h
    have hz' : z = z' := Nat.eq_of_beq_eq_true h1.must
    cases h with | vw r v hz hn hs hv h =>
    cases h
    have : ∃ B s e, π b = some (B, s, e) := by obtain ⟨B, s, e, hb, _⟩ := R.hp.hp b _ hz; exact ⟨B, s, e, hb⟩
    obtain ⟨B, s, e, hb⟩ := this
    obtain ⟨xs, hl, hxs, hc⟩ := R.cells hz hn hb
    have hone : ∀ v ∈ xs, v.oneCell' = true := fun v hv => by
      obtain ⟨i, hi⟩ := List.mem_iff_getElem?.1 hv
      obtain ⟨c, _, hr⟩ := hxs.get' hi
      exact CV.rel_one hr
    refine ⟨xs, hl, hs, fun j hj => ?_, hone, ?_⟩
    · have hj' : ((List.range (n * z)).map fun j => g.c b (q + j))[j]? = some (g.c b (q + j)) := by simp [hj]
      obtain ⟨y, hy, hr⟩ := hxs.get hj'
      exact ⟨y, hy, by rw [hv j hj]; exact hr⟩
    · rcases hx with ⟨h0, y, rfl⟩ | ⟨B2, s2, e2, cap, hb2, hcap, rfl, _⟩
      · exact .inl ⟨h0, y, 0, rfl⟩
      · rw [hb] at hb2; cases hb2
        exact .inr ⟨_, cap, rfl, fun j v hj => by rw [add_none]; exact hc j v hj⟩
  case nils =>
    cases h
    have hx : xv = .slice none 0 0 := hx
    exact ⟨[], by simp, by simp [Blk.size], fun j hj => by simp at hj, by simp, .inl ⟨rfl, none, 0, hx⟩⟩
  all_goals cases h

theorem run_first0 {z : Nat} {y : Option Addr} {c : Nat} (w : World) : (Builtin.firstCells z 0 (.slice y 0 c)).run P w = .ok #[] w := by
  cases y <;> simp [Builtin.firstCells, loadCells, loadCellsFrom]
/-- nothing is appended -/
theorem run_append0 {t ty e : TypeId} {z : Nat} (ht : P.underlying t = some (.slice e)) (hz : sizeT P e = some z) {base y : Option Addr} {n cap c : Nat} (h : n ≤ cap) (w : World) :
    (Builtin.append_ #[t, t] ty #[.slice base n cap, .slice y 0 c]).run P w = .ok (.slice base n cap) w := by
  cases base <;> simp [Builtin.append_, run_underlying ht, run_sizeOf hz, Builtin.lenOf, h, run_first0, storeCells]
theorem run_append_in {t ty e : TypeId} {z : Nat} (ht : P.underlying t = some (.slice e)) (hz : sizeT P e = some z) {B q n cap m c : Nat} {ad : Addr} {news : List Value} (h : n + m ≤ cap) (hl : news.length = m * z) (w : World)
    (hn : ∀ j v, news[j]? = some v → w.cell? (ad.add j) = some v) (h1 : ∀ v ∈ news, v.oneCell' = true) (hc : ∀ j, j < news.length → (cl w B (q + n * z + j)).isSome = true ∧ fz w B (q + n * z + j) = false) :
    (Builtin.append_ #[t, t] ty #[.slice (some ⟨B, q, none⟩) n cap, .slice (some ad) m c]).run P w = .ok (.slice (some ⟨B, q, none⟩) (n + m) cap) (w.setCells B (q + n * z) news) := by
  have hf := run_firstCells_some (P := P) w z m ad m c news hl hn
  have hst := run_storeCells_cells (P := P) B (q + n * z) news 0 w (fun j hj => by have := (hc j hj).1; simpa [cl] using this) (fun j hj => by have := (hc j hj).2; simpa [fz] using this) h1
  simp [Builtin.append_, run_underlying ht, run_sizeOf hz, Builtin.lenOf, h, hf, add_none, hst]
/-- a new array -/
theorem run_append_new {t ty e : TypeId} {z by_ : Nat} {zv : RV} (ht : P.underlying t = some (.slice e)) (hz : sizeT P e = some z) (hb : (P.info? e).map (·.bytes) = some by_) (hv : zeroT P e = some zv) (hl0 : zv.cells.length = z) (hby : 1 ≤ by_)
    {sv : Value} {n cap m c : Nat} {ad : Addr} {olds news : List Value} (w : World) (hs : (sv = .slice none 0 0 ∧ n = 0 ∧ cap = 0) ∨ ∃ b, sv = .slice (some b) n cap ∧ ∀ j v, olds[j]? = some v → w.cell? (b.add j) = some v)
    (hlo : olds.length = n * z) (hl : news.length = m * z) (hn : ∀ j v, news[j]? = some v → w.cell? (ad.add j) = some v) (hg : cap < n + m) (hm : 0 < m) (hbig : (n + m) * by_ ≤ 140737488355328) :
    ∃ gc arr, (Builtin.append_ #[t, t] ty #[sv, .slice (some ad) m c]).run P w = .ok (.slice (some ⟨w.heap.size, 0, none⟩) (n + m) gc) (w.drew.alloc (.cells arr e)) ∧ n + m ≤ gc ∧ arr.size = gc * z ∧ ∃ rest, arr.toList = olds ++ news ++ rest := by
  unfold zeroT at hv
  cases hi : P.info? e with
  | none => rw [hi] at hv; cases hv
  | some i =>
  rw [hi] at hv hb
  simp only [Option.bind_some] at hv
  cases hzz : i.zero with
  | none => rw [hzz] at hv; cases hv
  | some zx =>
  rw [hzz] at hv
  have hzs : i.size = z := by unfold sizeT at hz; rw [hi] at hz; simpa using hz
  have hbs : i.bytes = by_ := by simpa using hb
  have hzc : zx.cells.size = z := by
    have := (RV.rel_cells (ofR_rel (π := fun _ => none) hv)).length
    simp only [Array.length_toList] at this; omega
  have hle : n + m ≤ (n + m) * by_ := Nat.le_mul_of_pos_right _ (by omega)
  have hsz : ∀ (old gc : Nat), n + m ≤ gc → (olds.toArray ++ news.toArray ++ Builtin.zeroCells zx.cells (gc - (n + m))).size = gc * z := fun old gc hgc => by
    simp only [Array.size_append, List.size_toArray, size_zeroCells, hzc, hlo, hl, ← Nat.add_mul]
    congr 1; omega
  rcases hs with ⟨rfl, rfl, rfl⟩ | ⟨b, rfl, ho⟩
  · have ho : olds = [] := List.eq_nil_of_length_eq_zero (by simpa using hlo)
    subst ho
    have hr := run_append_nil (P := P) w t ty e i zx ht hi hzz ad m c news (by rw [hzs]; exact hl) hn hm (by omega) (by rw [hbs]; simp only [Nat.zero_add] at hbig; omega)
    have hge := grownCap_ge w m 0 e
    refine ⟨_, _, by simpa using hr, by simpa using hge, ?_, Builtin.zeroCells zx.cells (grownCap w m 0 e - m) |>.toList, ?_⟩
    · have := hsz 0 (grownCap w m 0 e) (by simpa using hge)
      simpa using this
    · simp
  · have hr := run_append_grow (P := P) w t ty e i zx ht hi hzz b n cap olds (by rw [hzs]; exact hlo) ho ad m c news (by rw [hzs]; exact hl) hn hg (by omega) (growslice_fits hg (by rw [hbs]; exact hbig))
    have hge := grownCap_ge w (n + m) cap e
    refine ⟨_, _, hr, hge, hsz 0 _ hge, Builtin.zeroCells zx.cells (grownCap w (n + m) cap e - (n + m)) |>.toList, ?_⟩
    simp

theorem ran_bytes {e : TypeId} {n : Nat} {l : List Fp} (h : Ran (Ab.ofO ((P.info? e).map (·.bytes))) g n l) : (P.info? e).map (·.bytes) = some n := h.ofO
theorem get_app3 {olds news rest : List Value} {arr : Array Value} (h : arr.toList = olds ++ news ++ rest) {j : Nat} {v : Value} : (olds[j]? = some v → arr[j]? = some v) ∧ (news[j]? = some v → arr[olds.length + j]? = some v) := by
  refine ⟨fun hj => ?_, fun hj => ?_⟩
  · have hlt := (List.getElem?_eq_some_iff.1 hj).1
    rw [← Array.getElem?_toList, h, List.getElem?_append_left (by simp; omega), List.getElem?_append_left hlt, hj]
  · have hlt := (List.getElem?_eq_some_iff.1 hj).1
    rw [← Array.getElem?_toList, h, List.getElem?_append_left (by simp; omega), List.getElem?_append_right (by omega), show olds.length + j - olds.length = j by omega, hj]
theorem sims_append {c : Call} {t : TypeId} {sa xa : AV} {args : List AV} {fp l0 : List Fp} (ho : o.op = .call c) (hc : c.callee = .builtin .append) (ha : Ran (Ab.mapRd Ab.opd c.args.toList) g args l0) (hargs : args = [sa, xa])
    (hts : c.argTypes = #[t, t]) {s x : CV} (hs : sa = .r (.c s)) (hx : xa = .r (.c x)) (h : Ran (appendV P t s x o.dst nid) g us fp) : Sims P o X D nid us g := by
  subst hs hx hargs
  unfold appendV at h
  split at h
  case h_2 => cases h
  rename_i e hu
  obtain ⟨z, ⟨_, h1⟩, _, h⟩ := Ran.bind' h
  obtain ⟨by_, ⟨_, h2⟩, _, h⟩ := Ran.bind' h
  obtain ⟨zv, ⟨_, h3⟩, _, h⟩ := Ran.bind' h
  obtain ⟨_, ⟨_, h4⟩, _, h⟩ := Ran.bind' h
  obtain ⟨xb, ⟨_, h5⟩, _, h⟩ := Ran.bind' h
  have h1 := h1.ofO
  have h2 := ran_bytes h2
  have h3 := h3.ofO
  have h4 := h4.must
  simp only [Bool.and_eq_true, Nat.ble_eq] at h4
  have hzv : zv.cells.length = z := Nat.eq_of_beq_eq_true h4.2.2
  cases s with
  | nils =>
    simp only [] at h
    obtain ⟨_, ⟨_, h6⟩, _, h⟩ := Ran.bind' h
    cases h
    have h6 : xb.1 * by_ ≤ 140737488355328 := Nat.le_of_ble_eq_true h6.must
    intro π a w next Q R hk hf hd hD hn
    obtain ⟨y1, y2, hy, hr1, hr2⟩ := all2_two (args_rel ha R)
    have hy := arr2 hy
    have hr1 : y1 = .slice none 0 0 := hr1
    subst hr1
    obtain ⟨news, n1, n2, n3, n4, n5⟩ := src_run h5 R hr2
    obtain ⟨cs, er⟩ := run_bi (P := P) a w ho hc
    have hcn : cnt (dstU o.dst (.r (.c (.sl nid 0 xb.1 z true))) ++ [Up.new nid xb.2]) = 1 := by unfold dstU cnt; cases o.dst <;> rfl
    have h0 := hf nid (Nat.le_refl _) (by omega)
    by_cases hm : xb.1 = 0
    · obtain ⟨y, c', rfl⟩ : ∃ y c', y2 = .slice y 0 c' := by
        rcases n5 with ⟨_, y, c', rfl⟩ | ⟨ad, c', rfl, _⟩
        · exact ⟨y, c', rfl⟩
        · exact ⟨some ad, c', by rw [hm]⟩
      have hrun := run_append0 (P := P) (ty := o.type) hu h1 (base := none) (y := y) (n := 0) (cap := 0) (c := c') (Nat.le_refl _) w
      have hx0 := upd_ext h0 (0, 0, 0)
      have R1 := (R.mono_pi hx0 (fun b hb => by simp only [upd]; rw [if_neg (by omega)])).new (k := xb.2) (upd_self π nid (0, 0, 0)) hk (by rw [n2, hm]; omega) (fun i _ i2 => by omega) (fun j hj => by rw [n2, hm] at hj; omega)
        (fun _ _ _ _ _ _ _ _ i2 => by omega) (fun _ _ _ i2 => by omega)
      have R2 := R1.dst hd (v := .r (.c (.sl nid 0 xb.1 z true))) (x := .slice none 0 0) (.inl ⟨hm, none, rfl⟩)
      refine wp_val (x := .slice none 0 0) (w' := w) ?_ (hn _ _ (upd π nid (0, 0, 0)) hx0 (upd_dom ⟨Nat.le_refl _, by omega⟩) ?_)
      · rw [er, hy, hts]
        simp [builtin, hrun]
      · rw [dst_new _ _ _ _ (by simp)]; exact R2
    · obtain ⟨ad, c', rfl, hn5⟩ : ∃ ad c', y2 = .slice (some ad) xb.1 c' ∧ ∀ j v, news[j]? = some v → w.cell? (ad.add j) = some v := by
        rcases n5 with ⟨h, _⟩ | h
        · exact absurd h hm
        · exact h
      obtain ⟨gc, arr, hrun, hgc, hsz, rest, hlist⟩ := run_append_new (P := P) (ty := o.type) hu h1 h2 h3 hzv h4.2.1 (sv := .slice none 0 0) (n := 0) (cap := 0) (m := xb.1) (c := c') (ad := ad) (olds := []) (news := news) w (.inl ⟨rfl, rfl, rfl⟩) (by simp) n1 hn5 (by omega) (by omega) (by simpa using h6)
      simp only [Nat.zero_add] at hrun hgc
      have R1 := (R.drew).row (k := xb.2) (n := xb.1) (q := z) (cap := gc) (arr := arr) (t := e) hd h0 hk hgc (by omega) (by rw [n2]; exact Nat.mul_le_mul_right _ hgc) (fun j hj => by
        rw [n2] at hj
        obtain ⟨v, hv, hr⟩ := n3 j hj
        exact ⟨v, by simpa using (get_app3 hlist).2 hv, hr⟩) rfl
      refine wp_val (x := .slice (some ⟨w.heap.size, 0, none⟩) xb.1 gc) (w' := w.drew.alloc (.cells arr e)) ?_ (hn _ _ (upd π nid (w.heap.size, 0, gc * z)) (upd_ext h0 _) (upd_dom ⟨Nat.le_refl _, by omega⟩) ?_)
      · rw [er, hy, hts]
        simp [builtin, hrun]
      · rw [dst_new _ _ _ _ (by simp)]; exact R1
  | sl b q n z' own =>
    cases own with
    | false => cases h
    | true =>
    simp only [] at h
    obtain ⟨_, ⟨_, h6⟩, _, h⟩ := Ran.bind' h
    obtain ⟨_, ⟨_, h7⟩, _, h⟩ := Ran.bind' h
    cases h with | sz r hz h =>
    obtain ⟨_, ⟨_, h8⟩, _, h⟩ := Ran.bind' h
    cases h with | vw r' sb hz' hnr hsb hvb h =>
    obtain ⟨_, ⟨_, h9⟩, _, h⟩ := Ran.bind' h
    obtain ⟨_, ⟨_, h10⟩, _, h⟩ := Ran.bind' h
    cases h
    have h6 : z = z' := Nat.eq_of_beq_eq_true h6.must
    subst h6
    have h7 : (n + xb.1) * by_ ≤ 140737488355328 := Nat.le_of_ble_eq_true h7.must
    have h8 : q + n * z = r := Nat.eq_of_beq_eq_true h8.must
    rw [hz] at hz'; cases hz'
    intro π a w next Q R hk hf hd hD hn
    obtain ⟨y1, y2, hy, hr1, hr2⟩ := all2_two (args_rel ha R)
    have hy := arr2 hy
    obtain ⟨news, n1, n2, n3, n4, n5⟩ := src_run h5 R hr2
    obtain ⟨cs, er⟩ := run_bi (P := P) a w ho hc
    have happ := Blk.app_get h9.must
    have hcn : cnt (dstU o.dst (.r (.c (.sl nid 0 (n + xb.1) z true))) ++ [Up.kill b, Up.new nid (sb.app xb.2)]) = 1 := by unfold dstU cnt; cases o.dst <;> rfl
    have h0 := hf nid (Nat.le_refl _) (by omega)
    have hDb : b < X.k → D b := hD (.kill b) (by simp)
    obtain ⟨B, s, e', hb, hle, k1, k2⟩ := R.hp.hp b _ hz
    have hne : nid ≠ b := fun e => by rw [e, hb] at h0; cases h0
    have hmul : (n + xb.1) * z = n * z + xb.1 * z := Nat.add_mul _ _ _
    have hsize : (sb.app xb.2).size = (n + xb.1) * z := by rw [happ.1, hsb, n2, hmul]
    obtain ⟨xs, hxl, hxs, hxc⟩ := R.cells hz hnr hb
    have hold : ∀ j, j < n * z → ∃ v, xs[j]? = some v ∧ (sb.get j).rel π v ∧ cl w B (s + q + j) = some v := fun j hj => by
      have hj' : ((List.range (n * z)).map fun j => g.c b (q + j))[j]? = some (g.c b (q + j)) := by simp [hj]
      obtain ⟨v, hv, hr⟩ := hxs.get hj'
      exact ⟨v, hv, by rw [hvb j hj]; exact hr, hxc j v hv⟩
    -- a place within the old block
    have within : ∀ (w' : World) (y : Value) (cap : Nat), Rel X D π g a w' → (n + xb.1) ≤ cap → s + q + cap * z ≤ e' → y = .slice (some ⟨B, s + q, none⟩) (n + xb.1) cap →
        (∀ i, s + q ≤ i → i < e' → (cl w' B i).isSome = true ∧ fz w' B i = false) → (∀ j, j < (n + xb.1) * z → ∃ v, cl w' B (s + q + j) = some v ∧ ((sb.app xb.2).get j).rel π v) →
        (execOp a.eval o).run P w = .ok (.value y) w' → o.wp P a w next Q := by
      intro w' y cap R' hcap hce hyy hc1 hc2 hrun
      have hcz : (n + xb.1) * z ≤ cap * z := Nat.mul_le_mul_right _ hcap
      have hx0 := upd_ext h0 (B, s + q, e')
      have R1 := ((R'.kill b).mono_pi hx0 (fun b hb => by simp only [upd]; rw [if_neg (by omega)])).new (k := sb.app xb.2) (upd_self π nid (B, s + q, e')) hk (by rw [hsize]; omega) hc1
        (fun j hj => by
          rw [hsize] at hj
          obtain ⟨v, hv, hr⟩ := hc2 j hj
          exact ⟨v, hv, CV.rel_mono hx0 _ _ hr⟩)
        (fun b' s1 e1 hne' hz1 hb1 i i1 i2 i3 i4 => by
          simp only [upd, hne', if_false] at hb1
          have hbb : b' ≠ b := fun e => hz1 (by simp [Up.appG, e])
          have hz2 : g.z b' ≠ none := by simpa [Up.appG, hbb] using hz1
          exact R'.hp.dj b' b B s1 e1 s e' hbb hz2 (by simp [hz]) hb1 hb i i3 i4 (by omega) i2)
        (fun hB i i1 i2 => by
          rcases Nat.lt_or_ge b X.k with hbk | hbk
          · exact ⟨b, s, e', hbk, hDb hbk, (R'.old b hbk).symm.trans hb, by omega, i2⟩
          · exact R'.ft b B s e' hbk (by simp [hz]) hb hB i (by omega) i2)
      have R2 := R1.dst hd (v := .r (.c (.sl nid 0 (n + xb.1) z true))) (x := y) (.inr ⟨_, _, _, cap, upd_self _ _ _, hcap, hyy, fun _ => hce⟩)
      refine wp_val hrun (hn _ _ (upd π nid (B, s + q, e')) hx0 (upd_dom ⟨Nat.le_refl _, by omega⟩) ?_)
      rw [dst_new _ _ _ _ (by simp)]; exact R2
    by_cases hm : xb.1 = 0
    · obtain ⟨y, c', rfl⟩ : ∃ y c', y2 = .slice y 0 c' := by
        rcases n5 with ⟨_, y, c', rfl⟩ | ⟨ad, c', rfl, _⟩
        · exact ⟨y, c', rfl⟩
        · exact ⟨some ad, c', by rw [hm]⟩
      rcases hr1 with ⟨hn0, y0, rfl⟩ | ⟨B2, s2, e2, cap, hb2, hcap, rfl, hown⟩
      · have hrun := run_append0 (P := P) (ty := o.type) hu h1 (base := y0) (y := y) (n := 0) (cap := 0) (c := c') (Nat.le_refl _) w
        have hx0 := upd_ext h0 (0, 0, 0)
        have hs0 : (sb.app xb.2).size = 0 := by rw [hsize, hm, hn0]; omega
        have R1 := ((R.kill b).mono_pi hx0 (fun b hb => by simp only [upd]; rw [if_neg (by omega)])).new (k := sb.app xb.2) (upd_self π nid (0, 0, 0)) hk (by omega) (fun i _ i2 => by omega) (fun j hj => by omega)
          (fun _ _ _ _ _ _ _ _ i2 => by omega) (fun _ _ _ i2 => by omega)
        have R2 := R1.dst hd (v := .r (.c (.sl nid 0 (n + xb.1) z true))) (x := .slice y0 0 0) (.inl ⟨by omega, y0, rfl⟩)
        refine wp_val (x := .slice y0 0 0) (w' := w) ?_ (hn _ _ (upd π nid (0, 0, 0)) hx0 (upd_dom ⟨Nat.le_refl _, by omega⟩) ?_)
        · rw [er, hy, hts]
          simp [builtin, hrun]
        · rw [dst_new _ _ _ _ (by simp)]; exact R2
      · rw [hb] at hb2; cases hb2
        have hrun := run_append0 (P := P) (ty := o.type) hu h1 (base := some ⟨B, s + q, none⟩) (y := y) (n := n) (cap := cap) (c := c') hcap w
        refine within w _ cap R (by omega) (hown rfl) (by rw [hm, Nat.add_zero]) (fun i i1 i2 => k1 i (by omega) i2) (fun j hj => ?_) (by rw [er, hy, hts]; simp [builtin, hrun])
        have hj' : j < n * z := by rw [hm] at hj; simpa using hj
        obtain ⟨v, _, hr, hc⟩ := hold j hj'
        exact ⟨v, hc, by rw [happ.2 j (by omega), if_pos (by omega)]; exact hr⟩
    · obtain ⟨ad, c', rfl, hn5⟩ : ∃ ad c', y2 = .slice (some ad) xb.1 c' ∧ ∀ j v, news[j]? = some v → w.cell? (ad.add j) = some v := by
        rcases n5 with ⟨h, _⟩ | h
        · exact absurd h hm
        · exact h
      -- a new array
      have grows : ∀ (sv : Value) (cap : Nat), y1 = sv → ((sv = .slice none 0 0 ∧ n = 0 ∧ cap = 0) ∨ ∃ b, sv = .slice (some b) n cap ∧ ∀ j v, xs[j]? = some v → w.cell? (b.add j) = some v) → cap < n + xb.1 → o.wp P a w next Q := by
        intro sv cap hsv hss hcap
        obtain ⟨gc, arr, hrun, hgc, hsz, rest, hlist⟩ := run_append_new (P := P) (ty := o.type) hu h1 h2 h3 hzv h4.2.1 (c := c') (ad := ad) (olds := xs) (news := news) w hss hxl n1 hn5 hcap (by omega) h7
        have R1 := ((R.drew).kill b).row (k := sb.app xb.2) (n := n + xb.1) (q := z) (cap := gc) (arr := arr) (t := e) hd h0 hk hgc (by omega) (by rw [hsize]; exact Nat.mul_le_mul_right _ hgc) (fun j hj => by
          rw [hsize] at hj
          rw [happ.2 j (by omega), hsb]
          by_cases hjn : j < n * z
          · obtain ⟨v, hv, hr, _⟩ := hold j hjn
            rw [if_pos hjn]
            exact ⟨v, (get_app3 hlist).1 hv, hr⟩
          · rw [if_neg hjn]
            obtain ⟨v, hv, hr⟩ := n3 (j - n * z) (by omega)
            have := (get_app3 hlist).2 hv
            rw [hxl, show n * z + (j - n * z) = j by omega] at this
            exact ⟨v, this, hr⟩) rfl
        refine wp_val (x := .slice (some ⟨w.heap.size, 0, none⟩) (n + xb.1) gc) (w' := w.drew.alloc (.cells arr e)) ?_ (hn _ _ (upd π nid (w.heap.size, 0, gc * z)) (upd_ext h0 _) (upd_dom ⟨Nat.le_refl _, by omega⟩) ?_)
        · rw [er, hy, hts, hsv]
          simp [builtin, hrun]
        · rw [dst_new _ _ _ _ (by simp)]; exact R1
      rcases hr1 with ⟨hn0, y0, rfl⟩ | ⟨B2, s2, e2, cap, hb2, hcap, rfl, hown⟩
      · have hxs0 : xs = [] := List.eq_nil_of_length_eq_zero (by rw [hxl, hn0]; omega)
        cases y0 with
        | none => exact grows _ 0 rfl (.inl ⟨rfl, hn0, rfl⟩) (by omega)
        | some ad0 => exact grows _ 0 rfl (.inr ⟨ad0, by rw [hn0], fun j v hj => by rw [hxs0] at hj; simp at hj⟩) (by omega)
      · rw [hb] at hb2; cases hb2
        by_cases hroom : n + xb.1 ≤ cap
        · have hcz : (n + xb.1) * z ≤ cap * z := Nat.mul_le_mul_right _ hroom
          have how := hown rfl
          have hin : ∀ j, j < news.length → (cl w B (s + q + n * z + j)).isSome = true ∧ fz w B (s + q + n * z + j) = false := fun j hj => k1 _ (by omega) (by omega)
          have hrun := run_append_in (P := P) (ty := o.type) hu h1 (B := B) (q := s + q) (n := n) (cap := cap) (m := xb.1) (c := c') (ad := ad) hroom n1 w hn5 n4 hin
          have R' := R.setTail (lo := q + n * z) (xs := news) hz hb (by omega) (by omega) hDb
          rw [show s + (q + n * z) = s + q + n * z by omega] at R'
          refine within _ _ cap R' hroom how rfl (fun i i1 i2 => ⟨isSome_setCells (fun j hj => (hin j hj).1) (k1 i (by omega) i2).1, by rw [fz_setCells]; exact (k1 i (by omega) i2).2⟩) (fun j hj => ?_) (by rw [er, hy, hts]; simp [builtin, hrun])
          rw [happ.2 j (by omega), hsb]
          by_cases hjn : j < n * z
          · obtain ⟨v, hv, hr, hc⟩ := hold j hjn
            rw [if_pos hjn]
            exact ⟨v, by rw [cl_setCells_out (fun _ => by omega)]; exact hc, hr⟩
          · rw [if_neg hjn]
            obtain ⟨v, hv, hr⟩ := n3 (j - n * z) (by omega)
            have hlt := (List.getElem?_eq_some_iff.1 hv)
            have := cl_setCells_in (w := w) (B := B) (o := s + q + n * z) (vs := news) (fun j hj => (hin j hj).1) hlt.1
            rw [show s + q + n * z + (j - n * z) = s + q + j by omega, hlt.2] at this
            exact ⟨v, this, hr⟩
        · exact grows _ cap rfl (.inr ⟨_, rfl, fun j v hj => by rw [add_none]; exact hxc j v hj⟩) (by omega)
  | _ => cases h
theorem sims_copy {c : Call} {t : TypeId} {da xa : AV} {args : List AV} {fp l0 : List Fp} (ho : o.op = .call c) (hc : c.callee = .builtin .copy) (ha : Ran (Ab.mapRd Ab.opd c.args.toList) g args l0) (hargs : args = [da, xa])
    (hts : c.argTypes[0]? = some t) {d x : CV} (hs : da = .r (.c d)) (hx : xa = .r (.c x)) (h : Ran (copyV P t d x o.dst) g us fp) : Sims P o X D nid us g := by
  subst hs hx hargs
  unfold copyV at h
  split at h
  case h_2 => cases h
  rename_i e hu
  obtain ⟨z, ⟨_, h1⟩, _, h⟩ := Ran.bind' h
  have h1 := h1.ofO
  split at h
  case h_2 => cases h
  rename_i b q n z1 w1 b' q' n' z2 w2 _
  obtain ⟨_, ⟨_, h2⟩, _, h⟩ := Ran.bind' h
  obtain ⟨_, ⟨_, h3⟩, _, h⟩ := Ran.bind' h
  cases h with | rng r' hz' hn' h =>
  cases h with | sz r hz h =>
  obtain ⟨_, ⟨_, h4⟩, _, h⟩ := Ran.bind' h
  cases h
  have h4 : q + Nat.min n' n * z ≤ r := Nat.le_of_ble_eq_true h4.must
  intro π a w next Q R hk hf hd hD hn
  obtain ⟨y1, y2, hy, hr1, hr2⟩ := all2_two (args_rel ha R)
  have hy := arr2 hy
  obtain ⟨cs, er⟩ := run_bi (P := P) a w ho hc
  have key : ∀ (w' : World) (g' : Gt), (execOp a.eval o).run P w = .ok (.value (.int .i64 ((Nat.min n' n : Nat) : Int))) w' → Rel X D π g' a w' →
      appGs [Up.c b q ((List.range (Nat.min n' n * z)).map fun j => g.c b' (q' + j))] g = g' → o.wp P a w next Q := by
    intro w' g' hrun R' hg
    refine wp_val hrun (hn _ _ π (Ext.refl _) (fun b h => .inl h) ?_)
    rw [dst_new _ _ _ _ (by simp), hg]
    exact R'.dst hd rfl
  by_cases hm : Nat.min n' n = 0
  · have hg : appGs [Up.c b q ((List.range (Nat.min n' n * z)).map fun j => g.c b' (q' + j))] g = g := by
      rw [hm, Nat.zero_mul]
      show (Up.c b q []).appG g = g
      simp only [Up.appG, List.length_nil, Nat.add_zero]
      have : (fun b' j => if b' = b ∧ q ≤ j ∧ j < q then ([] : List CV).getD (j - q) (.f .u) else g.c b' j) = g.c := by
        funext b' j; rw [if_neg (by omega)]
      rw [this]
    have hv : ∀ {b q n z own} {y : Value}, CV.rel π (.sl b q n z own) y → ∃ ad cap, y = .slice ad n cap := fun hr => by
      rcases hr with ⟨rfl, y, rfl⟩ | ⟨_, _, _, cap, _, _, rfl, _⟩ <;> exact ⟨_, _, rfl⟩
    obtain ⟨ad1, c1, rfl⟩ := hv hr1
    obtain ⟨ad2, c2, rfl⟩ := hv hr2
    have hf0 : (Builtin.firstCells z 0 (.slice ad2 n' c2)).run P w = .ok #[] w := by
      cases ad2 <;> simp [Builtin.firstCells, loadCells, loadCellsFrom]
    refine key w g ?_ R hg
    rw [er, hy]
    have hc0 : (Builtin.copy_ c.argTypes o.type #[.slice ad1 n c1, .slice ad2 n' c2]).run P w = .ok (goInt 0) w := by
      cases ad1 <;> simp [Builtin.copy_, hts, run_underlying hu, run_sizeOf h1, Builtin.lenOf, hm, hf0, storeCells]
    simp [builtin, hc0, hm, goInt]
  · have hne : n ≠ 0 ∧ n' ≠ 0 := by
      constructor <;> (intro e; apply hm; subst e; simp [Nat.min_def])
    rcases hr1 with ⟨h, _⟩ | ⟨B, s, e1, c1, hb, hc1, rfl, _⟩
    · exact absurd h hne.1
    rcases hr2 with ⟨h, _⟩ | ⟨B', s', e1', c2, hb', hc2, rfl, _⟩
    · exact absurd h hne.2
    obtain ⟨xs, hxl, hxs, hxc⟩ := R.cells hz' hn' hb'
    have hfc := run_firstCells_some (P := P) w z (Nat.min n' n) ⟨B', s' + q', none⟩ n' c2 xs hxl (fun j v hj => by rw [add_none]; exact hxc j v hj)
    obtain ⟨B0, s0, e0, hb0, hle, k1, k2⟩ := R.hp.hp b _ hz
    rw [hb] at hb0; cases hb0
    have hst := run_storeCells_cells (P := P) B (s + q) xs 0 w (fun j hj => (k1 _ (by omega) (by omega)).1) (fun j hj => (k1 _ (by omega) (by omega)).2) (fun v hv => by
      obtain ⟨i, hi⟩ := List.mem_iff_getElem?.1 hv
      obtain ⟨c, _, hr⟩ := hxs.get' hi
      exact CV.rel_one hr)
    have R' := R.set (lo := q) hz hb (by simp; omega) hxs (hD (.c b q ((List.range (Nat.min n' n * z)).map fun j => g.c b' (q' + j))) (by simp))
    refine key _ _ ?_ R' rfl
    rw [er, hy]
    simp [builtin, Builtin.copy_, hts, run_underlying hu, run_sizeOf h1, Builtin.lenOf, hfc, hst, goInt]
end
end Go.Ab
