/-
  The abstract machine and the model: a call is what its contract says.
-/
import Derived.Test.YtphkdkkbbfnkaaaGreatAbE
namespace Go.Ab
variable [Amb]

omit [Amb] in
theorem cnt_append (a b : List Up) : cnt (a ++ b) = cnt a + cnt b := by simp [cnt]
omit [Amb] in
theorem cnt_dst (dst : Option Tmp) (v : AV) : cnt (dstU dst v) = 0 := by cases dst <;> rfl
omit [Amb] in
theorem cnt_zero {us : List Up} (h : ∀ u ∈ us, ∀ b k, u ≠ .new b k) : cnt us = 0 := by
  induction us with
  | nil => rfl
  | cons u us ih =>
    have h1 := ih fun v hv => h v (by simp [hv])
    have h2 := h u (by simp)
    cases u with
    | new b k => exact absurd rfl (h2 b k)
    | _ => simpa [cnt] using h1
omit [Amb] in
theorem killsU_mem : ∀ {vs : List Vw} {cs : List Ch} {u : Up}, u ∈ killsU vs cs → ∃ b, u = .kill b
  | [], [], u, h => by simp [killsU] at h
  | v0 :: vs, c :: cs, u, h => by
    by_cases hc : c = .kill
    · subst hc
      rcases List.mem_cons.1 h with rfl | h
      · exact ⟨_, rfl⟩
      · exact killsU_mem h
    · have e : killsU (v0 :: vs) (c :: cs) = killsU vs cs := by cases c <;> first | rfl | exact absurd rfl hc
      rw [e] at h; exact killsU_mem h
  | [], _ :: _, u, h => by simp [killsU] at h
  | _ :: _, [], u, h => by simp [killsU] at h
omit [Amb] in
theorem killsU_has : ∀ {vs : List Vw} {cs : List Ch} {j : Nat} {v : Vw}, vs[j]? = some v → cs[j]? = some .kill → Up.kill v.b ∈ killsU vs cs
  | v0 :: vs, c :: cs, 0, v, h1, h2 => by
    simp at h1 h2; subst h1 h2; simp [killsU]
  | v0 :: vs, c :: cs, j + 1, v, h1, h2 => by
    have := killsU_has (vs := vs) (cs := cs) (j := j) (v := v) (by simpa using h1) (by simpa using h2)
    cases c <;> simp [killsU, this]
  | [], _, j, v, h, _ => by simp at h
  | _ :: _, [], j, v, _, h => by simp at h
omit [Amb] in
theorem setsU_has {all : List Vw} {nid : Nat} : ∀ {vs : List Vw} {cs : List Ch} {g : Bool} {us : List Up}, setsU all nid vs cs = some (g, us) → ∀ {j : Nat} {v : Vw} {b : Blk}, vs[j]? = some v → cs[j]? = some (.set b) → Up.c v.b v.o (mapB (bckC all nid) b) ∈ us
  | [], [], g, us, _, j, v, b, h, _ => by simp at h
  | v0 :: vs, .keep :: cs, g, us, h, j, v, b, h1, h2 => by
    cases j with
    | zero => simp at h2
    | succ j => exact setsU_has (vs := vs) (cs := cs) h (by simpa using h1) (by simpa using h2)
  | v0 :: vs, .kill :: cs, g, us, h, j, v, b, h1, h2 => by
    cases j with
    | zero => simp at h2
    | succ j => exact setsU_has (vs := vs) (cs := cs) h (by simpa using h1) (by simpa using h2)
  | v0 :: vs, .set b0 :: cs, g, us, h, j, v, b, h1, h2 => by
    simp only [setsU] at h
    split at h
    · rename_i p hu
      simp only [Option.some.injEq, Prod.mk.injEq] at h
      obtain ⟨_, rfl⟩ := h
      cases j with
      | zero => simp at h1 h2; subst h1 h2; simp
      | succ j => exact List.mem_cons_of_mem _ (setsU_has (g := p.1) (us := p.2) hu (by simpa using h1) (by simpa using h2))
    · cases h
  | [], _ :: _, _, _, h, _, _, _, _, _ => by simp [setsU] at h
  | _ :: _, [], _, _, h, _, _, _, _, _ => by simp [setsU] at h
omit [Amb] in
theorem newsU_mem {vs : List Vw} {nid : Nat} : ∀ {bs : List Blk} {j0 : Nat} {u : Up}, u ∈ newsU vs nid bs j0 → ∃ b k, u = .new b k
  | [], _, _, h => by simp [newsU] at h
  | b0 :: bs, j0, u, h => by
    rcases List.mem_cons.1 h with rfl | h
    · exact ⟨_, _, rfl⟩
    · exact newsU_mem h
omit [Amb] in
theorem FrameOK.isSome {w0 w : World} {S : Nat → Nat → Prop} (h : FrameOK w0 S w) {B i : Nat} (hi : (Ab.cl w0 B i).isSome = true) : (Ab.cl w B i).isSome = true := by
  have hB := cl_lt hi
  simp only [Ab.cl, World.cell?] at hi ⊢
  cases hh : w0.heap[B]? with
  | none => rw [hh] at hi; cases hi
  | some x =>
    rw [hh] at hi
    cases x with
    | cells c t f =>
      obtain ⟨c', e, z, _⟩ := h.row B c t f hh
      simp only [e]
      simp only [Option.isSome_none, Bool.false_eq_true, if_false] at hi ⊢
      have : i < c.size := by
        rcases Nat.lt_or_ge i c.size with h' | h'
        · exact h'
        · rw [Array.getElem?_eq_none h'] at hi; cases hi
      rw [Array.getElem?_eq_getElem (by omega)]; rfl
    | _ => cases hi
omit [Amb] in
theorem after_get : ∀ {h : List Blk} {cs : List Ch} {j : Nat}, (∀ b, cs[j]? = some (.set b) → j < h.length → (after h cs)[j]? = some (some b)) ∧ (cs[j]? = some .keep → ∀ b, h[j]? = some b → (after h cs)[j]? = some (some b))
  | [], cs, j => ⟨fun b _ h => by simp at h, fun _ b h => by simp at h⟩
  | b0 :: bs, [], j => ⟨fun b h => by simp at h, fun h => by simp at h⟩
  | b0 :: bs, c :: cs, 0 => by cases c <;> simp [after]
  | b0 :: bs, c :: cs, j + 1 => by
    have := after_get (h := bs) (cs := cs) (j := j)
    cases c <;> simpa [after] using this
omit [Amb] in
theorem res_heap_new {r : Res} {h : List Blk} {k : Nat} {b : Blk} (hk : r.news[k]? = some b) : (r.heap h)[h.length + k]? = some (some b) := by
  unfold Res.heap
  rw [List.getElem?_append_right (by rw [after_length]; omega), after_length, show h.length + k - h.length = k by omega]
  simp [hk]
omit [Amb] in
theorem res_heap_old {r : Res} {h : List Blk} {j : Nat} (hj : j < h.length) : (r.heap h)[j]? = (after h r.chg)[j]? := by
  unfold Res.heap
  rw [List.getElem?_append_left (by rw [after_length]; omega)]
omit [Amb] in
theorem hZ_get {l : List (Option Blk)} {j : Nat} {b : Blk} (h : l[j]? = some (some b)) : hZ l j = some (Blk.size b) := by simp [hZ, h]
omit [Amb] in
theorem hC_get {l : List (Option Blk)} {j i : Nat} {b : Blk} (h : l[j]? = some (some b)) (hi : i < Blk.size b) : hC l j i = Blk.get b i := by simp [hC, h, hi]

omit [Amb] in
theorem setsU_nonew {all : List Vw} {nid : Nat} : ∀ {vs : List Vw} {cs : List Ch} {g : Bool} {us : List Up}, setsU all nid vs cs = some (g, us) → ∀ u ∈ us, ∀ b k, u ≠ .new b k
  | [], [], g, us, h => by
    simp only [setsU, Option.some.injEq, Prod.mk.injEq] at h
    obtain ⟨_, rfl⟩ := h
    intro u hu; simp at hu
  | v0 :: vs, .keep :: cs, g, us, h => setsU_nonew (vs := vs) (cs := cs) h
  | v0 :: vs, .kill :: cs, g, us, h => setsU_nonew (vs := vs) (cs := cs) h
  | v0 :: vs, .set b0 :: cs, g, us, h => by
    simp only [setsU] at h
    split at h
    · rename_i p hu
      simp only [Option.some.injEq, Prod.mk.injEq] at h
      obtain ⟨_, rfl⟩ := h
      intro u hu' b k e
      rcases List.mem_cons.1 hu' with rfl | hu'
      · cases e
      · exact setsU_nonew (g := p.1) (us := p.2) hu u hu' b k e
    · cases h
  | [], _ :: _, _, _, h => by simp [setsU] at h
  | _ :: _, [], _, _, h => by simp [setsU] at h
section
variable {P : Program} {o : Oper} {X : Cx} {D : Nat → Prop} {nid : Nat} {us : List Up} {g : Gt}
theorem sims_call {E : Env} (hE : ∀ f F, E f = some F → Sound P f F) {c : Call} {fo : Operand} {f : Nat} {caps : List RV} {args : List AV} {fp l0 l1 : List Fp} (ho : o.op = .call c) (hc : c.callee = .value fo) (ha : Ran (Ab.mapRd Ab.opd c.args.toList) g args l0) {fv : AV} (hfo : Ran (Ab.opd fo) g fv l1) (hrel : ∀ (π : Pi) (x : Value), fv.rel π x → ∃ arr : Array Value, x = .func (.func f) #[] arr ∧ All2 (RV.rel π) caps arr.toList)
    (h : Ran (callV E f (args ++ caps.map .r) o.dst nid) g us fp) : Sims P o X D nid us g := by
  obtain ⟨x, ⟨_, h1⟩, _, h⟩ := Ran.bind' h
  obtain ⟨y, ⟨_, h2⟩, _, h⟩ := Ran.bind' h
  cases hEf : E f with
  | none => rw [hEf] at h; cases h
  | some F =>
  rw [hEf] at h
  obtain ⟨r, ⟨_, h3⟩, _, h⟩ := Ran.bind' h
  obtain ⟨⟨gd, sets⟩, ⟨_, h4⟩, _, h⟩ := Ran.bind' h
  obtain ⟨_, ⟨_, h5⟩, _, h⟩ := Ran.bind' h
  cases h
  have h5 : gd = true := h5.must
  subst h5
  have S0 := hE f F hEf
  have heval := T.rd_eval h3
  have h4 := h4.ofO
  obtain ⟨lh, vs⟩ := y
  simp only at h3 h4
  have hcnt : cnt (dstU o.dst (bckA vs nid r.val) ++ (sets ++ (killsU vs r.chg ++ newsU vs nid r.news 0))) = r.news.length := by
    rw [cnt_append, cnt_append, cnt_append, cnt_dst, cnt_zero (setsU_nonew h4), cnt_zero (fun u hu b k e => by obtain ⟨_, rfl⟩ := killsU_mem hu; cases e), (newsU_spec (vs := vs) (nid := nid) (bs := r.news) (j0 := 0) g).2.2.2]
    omega
  intro π a w next Q R hk hfr hd hD hn
  simp only at hfr hn hD
  rw [hcnt] at hfr hn
  obtain ⟨arr, hfv, hcaps⟩ := hrel _ _ (hfo.opd R)
  have hargs : All2 (AV.rel π) (args ++ caps.map .r) (c.args.map a.eval ++ arr).toList := by
    rw [Array.toList_append]
    exact (args_rel ha R).append (all2_map_l (f := AV.r) (R' := AV.rel π) (fun a c h => h) hcaps)
  obtain ⟨a1, a2⟩ := locAs_spec (cs' := x.1) (vs' := x.2) h1 hargs
  obtain ⟨ok0, a4⟩ := a2 (VsOk.nil π)
  obtain ⟨b1, hok, b3, b4⟩ := locH_spec R.hp (lh := lh) (vs' := vs) h2 rfl (Nat.zero_le _) ok0 (fun j v k _ hk => by simp at hk)
  obtain ⟨c1, c2, c3, c4, c5⟩ := setsU_spec h4 (fun i j v v' hij hi hj hb => (hok.1 i j v v' hij hi hj hb).1)
  have hargs' : All2 (AV.rel (piL π vs)) x.1 (c.args.map a.eval ++ arr).toList := a4.imp fun v z hr => AV.rel_mono b1.ext v z hr
  have hloc := R.hp.local hok b3 b4
  have hdom : ∀ b, piL π vs b ≠ none → b < lh.length := fun b hb => by
    rw [b3]
    unfold piL at hb
    cases hv : vs[b]? with
    | none => rw [hv] at hb; exact absurd rfl hb
    | some v => exact (List.getElem?_eq_some_iff.1 hv).1
  have hsound := S0 x.1 lh r heval w (piL π vs) _ hargs' hloc hdom
  suffices key : ∀ (v : Value) (w' : World), CallPost (piL π vs) w lh r (.returned v) w' → next (a.put o.dst v) w' by
    rcases hsound with ⟨S1, S2⟩ | ⟨v, S1, S2⟩
    · have hrun : (execOp a.eval o).run P w = .ok (.enter f (c.args.map a.eval ++ arr)) w := by
        simp [execOp, ho, resolve, hc, hfv, Deferred.ofValue, invoke, S1]
      unfold Oper.wp
      rw [hrun]
      refine Calls.mono S2 ?_
      intro e w' hp
      have hp' := hp
      obtain ⟨_, v, rfl, _⟩ := hp'
      exact key v w' hp
    · have hrun : (execOp a.eval o).run P w = .ok (.value v) w := by
        simp [execOp, ho, resolve, hc, hfv, Deferred.ofValue, invoke, S1]
      unfold Oper.wp
      rw [hrun]
      exact key v w S2
  rintro v w' ⟨πL, v', hv', hext, hval, hHL, hFr, hdomL, hins⟩
  cases hv'
  -- the views
  have live : ∀ (j : Nat) u, vs[j]? = some u → ∃ q B s e, g.z u.b = some q ∧ u.o.val + u.n ≤ q ∧ π u.b = some (B, s, q, e) ∧ s + q ≤ e ∧ (u.own = true → u.o.val + u.n = q) := fun j u hu => by
    have hj : j < lh.length := by rw [b3]; exact (List.getElem?_eq_some_iff.1 hu).1
    obtain ⟨q, hq⟩ := (b4 j u _ hu (List.getElem?_eq_getElem hj)).live
    obtain ⟨B, s, e, hb, hse, _⟩ := R.hp.hp _ _ hq
    obtain ⟨_, _, _, _, hb', hle, how⟩ := hok.2 j u hu
    rw [hb] at hb'; cases hb'
    exact ⟨q, B, s, e, hq, hle, hb, hse, how⟩
  have K : Bck π πL vs nid r.news.length := ⟨hext, fun b hb => by have := hdomL b hb; omega, hfr, fun j u hu => let ⟨q, B, s, e, _, hle, hb, _, how⟩ := live j u hu; ⟨B, s, q, e, hb, hle, how⟩⟩
  -- a dirty view's cells
  have dirty : ∀ B i, foot (piL π vs) lh.length (chD r.chg) B i → ∃ (j : Nat) (u : Vw) (q s e : Nat), vs[j]? = some u ∧ g.z u.b = some q ∧ π u.b = some (B, s, q, e) ∧ s + q ≤ e ∧ s + u.o.val ≤ i ∧ i < (if u.own then e else s + u.o.val + u.n) ∧ i < e ∧ (u.own = true → u.o.val + u.n = q) ∧ u.o.val + u.n ≤ q ∧ (r.chg[j]? = some .kill ∨ ∃ b, r.chg[j]? = some (.set b)) := by
    rintro B i ⟨j, s1, q1, e1, hj, hD1, hp, i1, i2⟩
    have hu : vs[j]? = some (vs[j]'(by omega)) := List.getElem?_eq_getElem _
    obtain ⟨q, B0, s, e, hq, hle, hb, hse, how⟩ := live j _ hu
    rw [piL_get hu hb] at hp
    simp only [Option.some.injEq, Prod.mk.injEq] at hp
    obtain ⟨rfl, hs1, _, he1⟩ := hp
    rw [← hs1] at i1
    rw [← he1] at i2
    refine ⟨j, _, q, s, e, hu, hq, hb, hse, i1, i2, ?_, how, hle, ?_⟩
    · split at i2 <;> omega
    · have hcj : r.chg[j]? = some (r.chg[j]'(by omega)) := List.getElem?_eq_getElem _
      rw [hcj]
      cases hch : r.chg[j]'(by omega) with
      | keep => exact absurd (by rw [hcj, hch]) hD1
      | set b => exact .inr ⟨b, rfl⟩
      | kill => exact .inl rfl
  have permD : ∀ (j : Nat) (u : Vw), vs[j]? = some u → (r.chg[j]? = some .kill ∨ ∃ b, r.chg[j]? = some (.set b)) → u.b < X.k → D u.b := fun j u hu hch => by
    rcases hch with hch | ⟨b, hch⟩
    · exact hD (.kill u.b) (by simp [killsU_has hu hch])
    · exact hD (.c u.b u.o (mapB (bckC vs nid) b)) (by simp [setsU_has h4 hu hch])
  have footOK : ∀ B i, B < X.w0.heap.size → foot (piL π vs) lh.length (chD r.chg) B i → foot X.p0 X.k D B i := fun B i hB hft => by
    obtain ⟨j, u, q, s, e, hu, hq, hb, hse, i1, _, i3, _, _, hch⟩ := dirty B i hft
    rcases Nat.lt_or_ge u.b X.k with hbk | hbk
    · exact ⟨u.b, s, q, e, hbk, permD j u hu hch hbk, (R.old u.b hbk).symm.trans hb, by omega, i3⟩
    · exact R.ft u.b B s q e hbk (by simp [hq]) hb hB i (by omega) i3
  -- the state behind
  generalize hg1 : appGs sets g = g1
  generalize hg2 : appGs (killsU vs r.chg) g1 = g2
  generalize hg3 : appGs (newsU vs nid r.news 0) g2 = g3
  have G1 := c4 g
  rw [hg1] at G1
  have G2 := killsU_spec (vs := vs) (cs := r.chg) g1 c1
  rw [hg2] at G2
  obtain ⟨N0, N1, N2, _⟩ := newsU_spec (vs := vs) (nid := nid) (bs := r.news) (j0 := 0) g2
  rw [hg3] at N0 N1 N2
  -- old live blocks
  have old : ∀ b n, ¬ (nid ≤ b ∧ b < nid + r.news.length) → g3.z b = some n → g.z b = some n ∧ (¬ ∃ (j : Nat) (v : Vw), vs[j]? = some v ∧ r.chg[j]? = some .kill ∧ v.b = b) ∧ ∀ i, g3.c b i = g1.c b i := fun b n hb hz => by
    obtain ⟨n1, n2⟩ := N2 b (by omega)
    rw [n1] at hz
    by_cases hkl : ∃ (j : Nat) (v : Vw), vs[j]? = some v ∧ r.chg[j]? = some .kill ∧ v.b = b
    · rw [G2.2.1 b hkl] at hz; cases hz
    · obtain ⟨k1, k2⟩ := G2.2.2 b hkl
      rw [k1, G1.1] at hz
      exact ⟨hz, hkl, fun i => (n2 i).trans (k2 i)⟩
  -- new blocks
  have new : ∀ k, k < r.news.length → ∃ b, r.news[k]? = some b ∧ g3.z (nid + k) = some (Blk.size b) ∧ (∀ i, i < Blk.size b → g3.c (nid + k) i = bckC vs nid (Blk.get b i)) ∧ hZ (r.heap lh) (lh.length + k) = some (Blk.size b) := fun k hk' => by
    have hb : r.news[k]? = some (r.news[k]'hk') := List.getElem?_eq_getElem _
    have := N1 k _ hb
    rw [Nat.zero_add] at this
    exact ⟨_, hb, this.1, this.2, hZ_get (res_heap_new hb)⟩
  have idx : ∀ b, nid ≤ b ∧ b < nid + r.news.length → ∃ k, k < r.news.length ∧ b = nid + k := fun b hb => ⟨b - nid, by omega, by omega⟩
  have H3 : HRel (piB π πL vs.length nid r.news.length) g3.c g3.z w' := by
    refine ⟨hHL.am, fun b B s q e hz hp hse => ?_, fun b n hz => ?_, ?_⟩
    · by_cases hb : nid ≤ b ∧ b < nid + r.news.length
      · obtain ⟨k, hk', rfl⟩ := idx b hb
        obtain ⟨blk, hblk, z1, z2, z3⟩ := new k hk'
        rw [piB_new hk', ← b3] at hp
        exact hHL.lb _ B s q e (by rw [z3]; simp) hp hse
      · cases hh : g3.z b with
        | none => exact absurd hh hz
        | some n =>
          obtain ⟨hz0, hkl, hc3⟩ := old b n hb hh
          obtain ⟨B1, s1, e1, hp1, _⟩ := R.hp.hp b n hz0
          have e2 := K.old hp1
          rw [hp] at e2; cases e2
          exact R.hp.lb b B s q e (by rw [hz0]; simp) hp1 hse
    · by_cases hb : nid ≤ b ∧ b < nid + r.news.length
      · obtain ⟨k, hk', rfl⟩ := idx b hb
        obtain ⟨blk, hblk, z1, z2, z3⟩ := new k hk'
        rw [z1] at hz; cases hz
        obtain ⟨B, s, e, hp, hle, k1, k2⟩ := hHL.hp _ _ z3
        refine ⟨B, s, e, by rw [piB_new hk', ← b3]; exact hp, hle, k1, fun j hj => ?_⟩
        obtain ⟨x, hx, hr⟩ := k2 j hj
        rw [hC_get (res_heap_new hblk) hj] at hr
        exact ⟨x, hx, by rw [z2 j hj]; exact K.relC _ _ hr⟩
      · obtain ⟨hz0, hkl, hc3⟩ := old b n hb hz
        obtain ⟨B, s, e, hp, hle, k1, k2⟩ := R.hp.hp b n hz0
        refine ⟨B, s, e, K.old hp, hle, fun i i1 i2 => ?_, fun j hj => ?_⟩
        · have := k1 i i1 i2
          exact ⟨hFr.isSome this.1, by rw [hFr.fz (cl_lt this.1)]; exact this.2⟩
        · rw [hc3]
          by_cases hcov : ∃ (jv : Nat) (u : Vw) (blk : Blk), vs[jv]? = some u ∧ r.chg[jv]? = some (.set blk) ∧ u.b = b ∧ u.o.val ≤ j ∧ j < u.o.val + u.n
          · obtain ⟨jv, u, blk, hu, hch, rfl, j1, j2⟩ := hcov
            have e1 := c5 g jv u blk j hu hch j1 j2
            rw [hg1] at e1
            rw [e1]
            have hsz := c2 jv u blk hu hch
            have hjv : jv < lh.length := by rw [b3]; exact (List.getElem?_eq_some_iff.1 hu).1
            have hget : (r.heap lh)[jv]? = some (some blk) := by rw [res_heap_old hjv]; exact after_get.1 blk hch hjv
            obtain ⟨B1, s1, e1', hp1, hle1, _, m2⟩ := hHL.hp jv _ (hZ_get hget)
            have := hext _ _ (piL_get hu hp)
            rw [hp1] at this
            simp only [Option.some.injEq, Prod.mk.injEq] at this
            obtain ⟨rfl, rfl, _, _⟩ := this
            obtain ⟨x, hx, hr⟩ := m2 (j - u.o.val) (by omega)
            rw [hC_get hget (by omega)] at hr
            exact ⟨x, by rw [show s + j = s + u.o.val + (j - u.o.val) by omega]; exact hx, K.relC _ _ hr⟩
          · obtain ⟨x, hx, hr⟩ := k2 j hj
            have hnt := appGs_at_of_not (us := sets) (g := g) (p := .c b j) (fun u hu ht => by
              obtain ⟨jv, v', blk, e1, e2, rfl⟩ := c3 u hu
              simp only [Up.touch, mapB_size, c2 jv v' blk e1 e2] at ht
              exact hcov ⟨jv, v', blk, e1, e2, ht.1, ht.2.1, ht.2.2⟩)
            simp only [Gt.at, PV.c.injEq, hg1] at hnt
            rw [hnt]
            refine ⟨x, ?_, CV.rel_mono K.ext' _ _ hr⟩
            rw [hFr.cl (cl_lt (by rw [hx]; rfl)), hx]
            intro hft
            obtain ⟨jv, u, q, s0, e0, hu, hq, hb0, hse, i1, i2, i3, how, hle0, hch⟩ := dirty _ _ hft
            by_cases hbb : u.b = b
            · subst hbb
              rw [hp] at hb0; cases hb0
              rw [hz0] at hq; cases hq
              rcases hch with hch | ⟨blk, hch⟩
              · exact hkl ⟨jv, u, hu, hch, rfl⟩
              · refine hcov ⟨jv, u, blk, hu, hch, rfl, by omega, ?_⟩
                cases how' : u.own
                · simp only [how', Bool.false_eq_true, if_false] at i2; omega
                · have := how how'; omega
            · exact R.hp.dj u.b b B s0 _ e0 s _ e hbb (by simp [hq]) (by simp [hz0]) hb0 hp (s + j) (by omega) i3 (by omega) (by omega)
    · -- new against old
      have no : ∀ k b' B s q e s' q' e', k < r.news.length → ¬ (nid ≤ b' ∧ b' < nid + r.news.length) → g3.z b' ≠ none → πL (vs.length + k) = some (B, s, q, e) → π b' = some (B, s', q', e') → ∀ i, s ≤ i → i < e → s' ≤ i → i < e' → False := by
        intro k b' B s qq e s' q' e' hk' hb' hz' hp hp' i i1 i2 i3 i4
        cases hzz : g3.z b' with
        | none => exact hz' hzz
        | some n' =>
        obtain ⟨hz0, hkl, _⟩ := old b' n' hb' hzz
        obtain ⟨_, _, _, hp0, _, k1, _⟩ := R.hp.hp b' n' hz0
        rw [hp'] at hp0; cases hp0
        have hB := cl_lt (k1 i i3 i4).1
        obtain ⟨jv, u, q, s0, e0, hu, hq, hb0, hse, m1, m2, m3, how, hle0, hch⟩ := dirty _ _ (hins (vs.length + k) B s qq e (by omega) hp hB i i1 i2)
        by_cases hbb : u.b = b'
        · subst hbb
          rcases hch with hch | ⟨blk, hch⟩
          · exact hkl ⟨jv, u, hu, hch, rfl⟩
          · have hjv : jv < lh.length := by rw [b3]; exact (List.getElem?_eq_some_iff.1 hu).1
            have hget : (r.heap lh)[jv]? = some (some blk) := by rw [res_heap_old hjv]; exact after_get.1 blk hch hjv
            obtain ⟨_, _, _, _, z3⟩ := new k hk'
            rw [b3] at z3
            exact hHL.dj (vs.length + k) jv B s qq e _ _ _ (by omega) (by simp [z3]) (by simp [hZ_get hget]) hp (hext _ _ (piL_get hu hb0)) i i1 i2 m1 m2
        · exact R.hp.dj u.b b' B s0 _ e0 s' _ e' hbb (by simp [hq]) (by simp [hz0]) hb0 hp' i (by omega) m3 i3 i4
      intro b b' B s qq e s' q' e' hne hz hz' hp hp' i i1 i2 i3 i4
      by_cases hb : nid ≤ b ∧ b < nid + r.news.length
      · obtain ⟨k, hk', rfl⟩ := idx b hb
        rw [piB_new hk'] at hp
        by_cases hb' : nid ≤ b' ∧ b' < nid + r.news.length
        · obtain ⟨k', hk'', rfl⟩ := idx b' hb'
          rw [piB_new hk''] at hp'
          obtain ⟨_, _, _, _, z3⟩ := new k hk'
          obtain ⟨_, _, _, _, z3'⟩ := new k' hk''
          rw [b3] at z3 z3'
          exact hHL.dj (vs.length + k) (vs.length + k') B s qq e s' q' e' (by omega) (by simp [z3]) (by simp [z3']) hp hp' i i1 i2 i3 i4
        · rw [piB_old hb'] at hp'
          exact no k b' B s qq e s' q' e' hk' hb' hz' hp hp' i i1 i2 i3 i4
      · rw [piB_old hb] at hp
        by_cases hb' : nid ≤ b' ∧ b' < nid + r.news.length
        · obtain ⟨k', hk'', rfl⟩ := idx b' hb'
          rw [piB_new hk''] at hp'
          exact no k' b B s' q' e' s qq e hk'' hb hz hp' hp i i3 i4 i1 i2
        · rw [piB_old hb'] at hp'
          cases hzz : g3.z b with
          | none => exact hz hzz
          | some n =>
          cases hzz' : g3.z b' with
          | none => exact hz' hzz'
          | some n' =>
          exact R.hp.dj b b' B s qq e s' q' e' hne (by simp [(old b n hb hzz).1]) (by simp [(old b' n' hb' hzz').1]) hp hp' i i1 i2 i3 i4
  have R3 : Rel X D (piB π πL vs.length nid r.news.length) g3 a w' := by
    refine ⟨fun i => ?_, R.nt, R.df, H3, fun b hb => ?_, fun b B s qq e hkb hz hp hB i i1 i2 => ?_, R.fr.trans hFr footOK⟩
    · rw [N0, G2.1, G1.2]
      exact AV.rel_mono K.ext' _ _ (R.tm i)
    · rw [piB_old (by omega)]; exact R.old b hb
    · by_cases hb : nid ≤ b ∧ b < nid + r.news.length
      · obtain ⟨k, hk', rfl⟩ := idx b hb
        rw [piB_new hk'] at hp
        exact footOK B i hB (hins (vs.length + k) B s qq e (by omega) hp (Nat.lt_of_lt_of_le hB R.fr.size) i i1 i2)
      · rw [piB_old hb] at hp
        cases hzz : g3.z b with
        | none => exact absurd hzz hz
        | some n => exact R.ft b B s qq e hkb (by simp [(old b n hb hzz).1]) hp hB i i1 i2
  refine hn _ _ (piB π πL vs.length nid r.news.length) K.ext' (fun b hb => ?_) ?_
  · by_cases hb' : nid ≤ b ∧ b < nid + r.news.length
    · exact .inr hb'
    · rw [piB_old hb'] at hb; exact .inl hb
  · have e3 : appGs (dstU o.dst (bckA vs nid r.val) ++ (sets ++ (killsU vs r.chg ++ newsU vs nid r.news 0))) g = appGs (dstU o.dst (bckA vs nid r.val)) g3 := by
      rw [dst_new _ _ _ _ (fun u hu i x e => by
        rcases List.mem_append.1 hu with hu | hu
        · obtain ⟨_, _, _, _, _, rfl⟩ := c3 u hu; cases e
        · rcases List.mem_append.1 hu with hu | hu
          · obtain ⟨_, rfl⟩ := killsU_mem hu; cases e
          · obtain ⟨_, _, rfl⟩ := newsU_mem hu; cases e)]
      rw [appGs_append, appGs_append, hg1, hg2, hg3]
    rw [e3]
    exact R3.dst hd (K.relA _ _ hval)
end
end Go.Ab
