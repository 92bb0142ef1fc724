/-
  The abstract machine and the model: slices, what is built, len, min, max, append, copy.
-/
import Derived.Test.YtphkdkkbbfnkaaaGreatAbP
namespace Go.Ab
variable [Amb]
section
variable {P : Program} {o : Oper} {X : Cx} {D : Nat → Prop} {nid : Nat} {us : List Up} {g : Gt}

def OI (x : Option Int) (v : Option Value) : Prop := (x = none ∧ v = none) ∨ ∃ k i, x = some i ∧ v = some (.int k i)
theorem Ran.optI' {x : Option Operand} {v : Option Int} {l : List Fp} {π : Pi} {a : Act} {w : World} (h : Ran (Ab.optI x) g v l) (R : Rel X D π g a w) : OI v (x.map a.eval) := by
  rcases h.optI R with ⟨rfl, rfl⟩ | ⟨y, k, i, rfl, rfl, e⟩
  · exact .inl ⟨rfl, rfl⟩
  · exact .inr ⟨k, i, rfl, by simp [e]⟩
omit [Amb] in
theorem run_sliceBounds {lo hi : Option Int} {n cap : Nat} {lh : Nat × Nat} {l : List Fp} (h : Ran (Ab.bnds lo hi n) g lh l) (hc : n ≤ cap) {lv hv : Option Value} (h1 : OI lo lv) (h2 : OI hi hv) (isS : Bool) (w : World) :
    (Instr.sliceBounds isS n cap lv hv none).run P w = .ok (lh.1, lh.2, cap) w := by
  obtain ⟨b1, b2, b3, b4⟩ := h.bnds
  have eh : ∀ code, (match hv with
      | some v => Instr.sliceBound v cap code
      | none => (pure n : Sem Nat)).run P w = .ok lh.2 w := fun code => by
    rcases h2 with ⟨rfl, rfl⟩ | ⟨k, i, rfl, rfl⟩
    · rcases b3 with ⟨_, e⟩ | ⟨i, e, _⟩
      · simp [e]
      · cases e
    · rcases b3 with ⟨e, _⟩ | ⟨i', e, c1, c2, c3⟩
      · cases e
      · cases e
        simp only [Instr.sliceBound, asIntOf, Sem.run_bind, Sem.run_pure, Result.andThen_ok]
        rw [if_pos ⟨c1, by omega⟩, c3]; exact Sem.run_pure ..
  have el : ∀ code, (match lv with
      | some v => Instr.sliceBound v lh.2 code
      | none => (pure 0 : Sem Nat)).run P w = .ok lh.1 w := fun code => by
    rcases h1 with ⟨rfl, rfl⟩ | ⟨k, i, rfl, rfl⟩
    · rcases b4 with ⟨_, e⟩ | ⟨i, e, _⟩
      · simp [e]
      · cases e
    · rcases b4 with ⟨e, _⟩ | ⟨i', e, c1, c2, c3⟩
      · cases e
      · cases e
        simp only [Instr.sliceBound, asIntOf, Sem.run_bind, Sem.run_pure, Result.andThen_ok]
        rw [if_pos ⟨c1, c2⟩, c3]; exact Sem.run_pure ..
  have eh' := eh (if isS then .sliceAcap else .sliceAlen)
  have el' := el .sliceB
  cases hv <;> cases lv <;> simp_all [Instr.sliceBounds]
omit [Amb] in
theorem szQ_val (q : Bool) (n : Nat) : (szQ q n).val = n := by cases q <;> rfl
omit [Amb] in
theorem lenOf_val {q : Bool} {lo hi : Option Int} {n : Sz} {lh : Nat × Nat} {l : List Fp} (h : Ran (Ab.bnds lo hi n.val) g lh l) : (lenOf q lo hi n lh).val = lh.2 - lh.1 := by
  obtain ⟨b1, b2, b3, b4⟩ := h.bnds
  cases lo <;> cases hi <;> simp only [lenOf, szQ_val]
  · rcases b3 with ⟨_, e⟩ | ⟨i, e, _⟩
    · rcases b4 with ⟨_, e'⟩ | ⟨i, e', _⟩
      · omega
      · cases e'
    · cases e
  · rcases b4 with ⟨_, e'⟩ | ⟨i, e', _⟩
    · omega
    · cases e'
omit [Amb] in
theorem offOf_val {qq : Bool} {lo hi : Option Int} {n : Nat} {lh : Nat × Nat} {l : List Fp} (h : Ran (Ab.bnds lo hi n) g lh l) (o : Off) (z : Nat) : (offOf qq lo o lh.1 z).val = o.val + lh.1 * z := by
  obtain ⟨b1, b2, b3, b4⟩ := h.bnds
  cases lo <;> simp only [offOf]
  · rcases b4 with ⟨_, e'⟩ | ⟨i, e', _⟩
    · rw [e']; omega
    · cases e'
  · cases qq
    · exact Off.idxS_val ..
    · exact Off.add_val ..
theorem sims_slice {t : TypeId} {x : Operand} {lo hi : Option Operand} {fp : List Fp} (ho : o.op = .slice t x lo hi none)
    (h : Ran ((opdC x).bind fun c => (Ab.optI lo).bind fun l => (Ab.optI hi).bind fun h => (sliceV P t c (litO lo && litO hi) l h).bind fun v => .ret (dstU o.dst (.r (.c v)))) g us fp) : Sims P o X D nid us g := by
  obtain ⟨r, ⟨_, h1⟩, _, h⟩ := Ran.bind' h
  obtain ⟨l, ⟨_, h2⟩, _, h⟩ := Ran.bind' h
  obtain ⟨hh, ⟨_, h3⟩, _, h⟩ := Ran.bind' h
  obtain ⟨v, ⟨_, h4⟩, _, h⟩ := Ran.bind' h
  cases h
  refine sims_val fun π a w R => ?_
  have ha := h1.opdC R
  have ol := h2.optI' R
  have oh := h3.optI' R
  unfold sliceV at h4
  split at h4
  · rename_i n e b q m hu _ _
    obtain ⟨z, ⟨_, h5⟩, _, h4⟩ := Ran.bind' h4
    obtain ⟨_, ⟨_, h7⟩, _, h4⟩ := Ran.bind' h4
    obtain ⟨lh, ⟨_, h6⟩, _, h4⟩ := Ran.bind' h4
    cases h4
    have h7 := ble_iff.1 h7.must
    obtain ⟨B, s, q', e', hb, ha, hm⟩ := ha
    have hr := run_sliceBounds (P := P) h6 (Nat.le_refl n) ol oh false w
    obtain ⟨b1, b2, _, _⟩ := h6.bnds
    have hl := lenOf_val (q := litO lo && litO hi) (n := .l n) h6
    have hoff := offOf_val (qq := litO lo && litO hi) h6 q z
    refine ⟨_, by simp [execOp, ho, Instr.sliceAt, run_underlying hu, ha, Instr.sureAddr, hr, run_sizeOf h5.ofO]; rfl, ?_⟩
    show CV.rel π (.sl b (offOf (litO lo && litO hi) l q lh.1 z) (lenOf (litO lo && litO hi) l hh (.l n) lh) z false) _
    have hbd : (offOf (litO lo && litO hi) l q lh.1 z).val + (lenOf (litO lo && litO hi) l hh (.l n) lh).val * z ≤ q' := by
      rw [hl, hoff]
      have : lh.1 * z + (lh.2 - lh.1) * z = lh.2 * z := by rw [← Nat.add_mul]; congr 1; omega
      have := Nat.mul_le_mul_right z b2
      omega
    refine ⟨B, s, q', e', hb, hbd, (fun h => by cases h), ?_⟩
    by_cases hm2 : n = lh.1
    · left
      refine ⟨by omega, some ⟨B, s + q.val, none⟩, ?_⟩
      rw [if_pos hm2]
      have e1 : lh.2 - lh.1 = 0 := by omega
      have e2 : n - lh.1 = 0 := by omega
      rw [e1, e2]
    · right
      refine ⟨n - lh.1, by omega, ?_, fun h => by cases h⟩
      rw [if_neg hm2, add_none, Nat.add_assoc, hl, hoff]
  · rename_i e b q len z own hu _ _
    obtain ⟨z', ⟨_, h5⟩, _, h4⟩ := Ran.bind' h4
    obtain ⟨_, ⟨_, h7⟩, _, h4⟩ := Ran.bind' h4
    obtain ⟨lh, ⟨_, h6⟩, _, h4⟩ := Ran.bind' h4
    cases h4
    have hz : z = z' := beq_iff.1 h7.must
    subst hz
    obtain ⟨b1, b2, b3, b4⟩ := h6.bnds
    have hl := lenOf_val (q := litS (litO lo && litO hi) len) h6
    have hoff := offOf_val (qq := litS (litO lo && litO hi) len) h6 q z
    have e4 : lh.1 * z + (lh.2 - lh.1) * z = lh.2 * z := by rw [← Nat.add_mul]; congr 1; omega
    obtain ⟨B, s, q', e', hb, hm, hown, ha⟩ := ha
    have hbd : (offOf (litS (litO lo && litO hi) len) l q lh.1 z).val + (lenOf (litS (litO lo && litO hi) len) l hh len lh).val * z ≤ q' := by
      clear ha
      rw [hl, hoff]
      have := Nat.mul_le_mul_right z b2
      omega
    have hfull : hh.isNone = true → lh.2 = len.val := fun h => by
      rcases b3 with ⟨_, e⟩ | ⟨i, e, _⟩
      · exact e
      · rw [e] at h; cases h
    have how2 : (own && hh.isNone) = true → (offOf (litS (litO lo && litO hi) len) l q lh.1 z).val + (lenOf (litS (litO lo && litO hi) len) l hh len lh).val * z = q' := fun h => by
      clear ha
      simp only [Bool.and_eq_true] at h
      have := hown h.1
      rw [hl, hoff]
      rw [hfull h.2] at e4 ⊢
      omega
    rcases ha with ⟨h0, y, ha⟩ | ⟨cap, hcap, ha, hown2⟩
    · have hr := run_sliceBounds (P := P) h6 (Nat.le_refl _) ol oh true w
      clear b3 b4
      have e1 : lh.1 = 0 := by omega
      have e2 : lh.2 = 0 := by omega
      rw [h0] at hr
      refine ⟨.slice y 0 0, by simp [execOp, ho, Instr.sliceAt, Instr.slice, run_underlying hu, ha, hr, run_sizeOf h5.ofO, e1, e2], B, s, q', e', hb, hbd, how2, .inl ⟨by omega, y, rfl⟩⟩
    · have hr := run_sliceBounds (P := P) h6 hcap ol oh true w
      refine ⟨_, by simp [execOp, ho, Instr.sliceAt, Instr.slice, run_underlying hu, ha, hr, run_sizeOf h5.ofO]; rfl, ?_⟩
      show CV.rel π (.sl b (offOf (litS (litO lo && litO hi) len) l q lh.1 z) (lenOf (litS (litO lo && litO hi) len) l hh len lh) z (own && hh.isNone)) _
      refine ⟨B, s, q', e', hb, hbd, how2, ?_⟩
      by_cases hm2 : cap = lh.1
      · left
        refine ⟨by omega, some ⟨B, s + q.val, none⟩, ?_⟩
        rw [if_pos hm2]
        have e1 : lh.2 - lh.1 = 0 := by omega
        have e2 : cap - lh.1 = 0 := by omega
        rw [e1, e2]
      · right
        refine ⟨cap - lh.1, by omega, ?_, fun h => ?_⟩
        · rw [if_neg hm2, add_none, Nat.add_assoc, hl, hoff]
        · simp only [Bool.and_eq_true] at h
          have hw2 := hown2 h.1
          have e3 : lh.1 * z + (cap - lh.1) * z = cap * z := by rw [← Nat.add_mul]; congr 1; omega
          rw [hoff]
          omega
  · rename_i e hu _ _
    obtain ⟨z, ⟨_, h5⟩, _, h4⟩ := Ran.bind' h4
    obtain ⟨lh, ⟨_, h6⟩, _, h4⟩ := Ran.bind' h4
    cases h4
    have ha : a.eval x = .slice none 0 0 := ha
    have hr := run_sliceBounds (P := P) h6 (Nat.le_refl 0) ol oh true w
    obtain ⟨b1, b2, b3, b4⟩ := h6.bnds
    have e1 : lh.1 = 0 := by omega
    have e2 : lh.2 = 0 := by omega
    exact ⟨.slice none 0 0, by simp [execOp, ho, Instr.sliceAt, Instr.slice, run_underlying hu, ha, hr, run_sizeOf h5.ofO, e1, e2], rfl⟩
  · rename_i e n z cols hu _ _
    obtain ⟨z', ⟨_, h5⟩, _, h4⟩ := Ran.bind' h4
    obtain ⟨_, ⟨_, h7⟩, _, h4⟩ := Ran.bind' h4
    obtain ⟨lh, ⟨_, h6⟩, _, h4⟩ := Ran.bind' h4
    cases h4
    have hz : z = z' := beq_iff.1 h7.must
    subst hz
    obtain ⟨b1, b2, b3, b4⟩ := h6.bnds
    have hl := lenOf_val (q := false) (n := .s n) h6
    have hfl : (fsFrom l lh.1 cols).length = cols.length := by unfold fsFrom; split <;> simp
    have hfg : ∀ j, rget (fsFrom l lh.1 cols) j = rget cols (lh.1 * cols.length + j) := fun j => by
      unfold fsFrom
      split
      · rcases b4 with ⟨_, e⟩ | ⟨i, e, _⟩
        · rw [e, Nat.zero_mul, Nat.zero_add]
        · cases e
      · exact rget_shift ..
    obtain ⟨hz, ha⟩ := ha
    rcases ha with ⟨h0, y, ha⟩ | ⟨B, s, cap, hcap, ha, hc⟩
    · have hr := run_sliceBounds (P := P) h6 (Nat.le_refl _) ol oh true w
      clear b3 b4
      have e1 : lh.1 = 0 := by omega
      have e2 : lh.2 = 0 := by omega
      rw [h0] at hr
      exact ⟨.slice y 0 0, by simp [execOp, ho, Instr.sliceAt, Instr.slice, run_underlying hu, ha, hr, run_sizeOf h5.ofO, e1, e2], hfl.trans hz, .inl ⟨by omega, y, rfl⟩⟩
    · have hr := run_sliceBounds (P := P) h6 hcap ol oh true w
      refine ⟨_, by simp [execOp, ho, Instr.sliceAt, Instr.slice, run_underlying hu, ha, hr, run_sizeOf h5.ofO]; rfl, hfl.trans hz, ?_⟩
      by_cases hm2 : cap = lh.1
      · left
        refine ⟨by omega, some ⟨B, s, none⟩, ?_⟩
        rw [if_pos hm2]
        have e1 : lh.2 - lh.1 = 0 := by omega
        have e2 : cap - lh.1 = 0 := by omega
        rw [e1, e2]
      · right
        refine ⟨B, s + lh.1 * z, cap - lh.1, by omega, by rw [if_neg hm2, add_none, hl], fun j hj => ?_⟩
        rw [hl] at hj
        have e4 : lh.1 * z + (lh.2 - lh.1) * z = lh.2 * z := by rw [← Nat.add_mul]; congr 1; omega
        have e5 := Nat.mul_le_mul_right z b2
        obtain ⟨f, v, f1, f2, f3⟩ := hc (lh.1 * z + j) (by omega)
        exact ⟨f, v, by rw [hfg, hz]; exact f1, by rw [Nat.add_assoc]; exact f2, f3⟩
  · cases h4

/-! what is built -/
omit [Amb] in
theorem setIf_getD (vs : List Value) : ∀ (off k : Nat) (cs : Array Value), off + k + vs.length ≤ cs.size →
    ((vs.zipIdx k).foldl (fun (cs : Array Value) (x : Value × Nat) => cs.setIfInBounds (off + x.2) x.1) cs).size = cs.size ∧
    ∀ i d, ((vs.zipIdx k).foldl (fun (cs : Array Value) (x : Value × Nat) => cs.setIfInBounds (off + x.2) x.1) cs).getD i d = if off + k ≤ i ∧ i < off + k + vs.length then vs.getD (i - (off + k)) d else cs.getD i d := by
  induction vs with
  | nil => intro off k cs _; refine ⟨rfl, fun i d => ?_⟩; rw [if_neg (by simp)]; rfl
  | cons v vs ih =>
    intro off k cs h
    simp only [List.length_cons] at h
    rw [List.zipIdx_cons, List.foldl_cons]
    obtain ⟨h1, h2⟩ := ih off (k + 1) (cs.setIfInBounds (off + k) v) (by simp; omega)
    refine ⟨by simpa using h1, fun i d => ?_⟩
    rw [h2]
    simp only [List.length_cons]
    by_cases c1 : off + (k + 1) ≤ i ∧ i < off + (k + 1) + vs.length
    · rw [if_pos c1, if_pos (by omega), show i - (off + k) = (i - (off + (k + 1))) + 1 by omega]
      simp [List.getD]
    · rw [if_neg c1]
      by_cases c2 : i = off + k
      · subst c2
        rw [if_pos (by omega)]
        simp [Array.getD, show off + k < cs.size by omega]
      · rw [if_neg (by omega)]
        simp [Array.getD_eq_getD_getElem?, Array.getElem?_setIfInBounds_ne (Ne.symm c2)]
omit [Amb] in
theorem all2_getD {R : CV → Value → Prop} {l : List CV} {m : Array Value} (h : l.length = m.size) (hg : ∀ i, i < l.length → R (l.getD i (.f .u)) (m.getD i undef)) : All2 R l m.toList := by
  refine All2.of_get (by simpa using h) fun i a b ha hb => ?_
  have hi : i < l.length := (List.getElem?_eq_some_iff.1 ha).1
  have := hg i hi
  have hb' : m[i]? = some b := by simpa using hb
  simpa [List.getD, ha, Array.getD_eq_getD_getElem?, hb'] using this
omit [Amb] in
theorem all2_getD' {R : CV → Value → Prop} {l : List CV} {m : List Value} (h : All2 R l m) {i : Nat} (hi : i < l.length) : R (l.getD i (.f .u)) (m.getD i undef) := by
  have ha : l[i]? = some (l[i]'hi) := List.getElem?_eq_getElem _
  obtain ⟨b, hb, hr⟩ := h.get ha
  simpa [List.getD, ha, hb] using hr
theorem put_rel {π : Pi} {cs cs' vs : Blk} {arr : Array Value} {xs : Array Value} {off : Nat} (h1 : All2 (CV.rel π) cs.list arr.toList) (h2 : All2 (CV.rel π) vs.list xs.toList) (hle : off + Blk.size vs ≤ Blk.size cs) (hu : updK cs off vs = some cs') :
    All2 (CV.rel π) cs'.list (xs.zipIdx.foldl (fun (cs : Array Value) (x : Value × Nat) => cs.setIfInBounds (off + x.2) x.1) arr).toList := by
  obtain ⟨l1, g1⟩ := list_rel h1
  obtain ⟨l2, g2⟩ := list_rel h2
  obtain ⟨u1, u2⟩ := updK_spec hu
  simp only [Array.length_toList] at l1 l2
  have key := setIf_getD xs.toList off 0 arr (by simp only [Array.length_toList]; omega)
  have e : (xs.zipIdx.foldl (fun (cs : Array Value) (x : Value × Nat) => cs.setIfInBounds (off + x.2) x.1) arr) = ((xs.toList.zipIdx 0).foldl (fun (cs : Array Value) (x : Value × Nat) => cs.setIfInBounds (off + x.2) x.1) arr) := by
    rw [← Array.foldl_toList]; simp
  rw [e]
  refine rel_list (by rw [Array.length_toList, key.1, u1, l1]) fun j hj => ?_
  rw [u1] at hj
  have hsz : j < ((xs.toList.zipIdx 0).foldl (fun (cs : Array Value) (x : Value × Nat) => cs.setIfInBounds (off + x.2) x.1) arr).size := by rw [key.1, l1]; exact hj
  have hk := key.2 j undef
  rw [Array.getD_eq_getD_getElem?, Array.getElem?_eq_getElem hsz, Option.getD_some] at hk
  refine ⟨_, by rw [Array.getElem?_toList, Array.getElem?_eq_getElem hsz], ?_⟩
  rw [hk, u2 j hj]
  simp only [Nat.add_zero, Array.length_toList, l2]
  by_cases c : off ≤ j ∧ j < off + Blk.size vs
  · rw [if_pos c, if_pos c]
    obtain ⟨x, hx, hr⟩ := g2 (j - off) (by omega)
    simp only [List.getD, hx, Option.getD_some]
    exact hr
  · rw [if_neg c, if_neg c]
    obtain ⟨x, hx, hr⟩ := g1 j hj
    rw [Array.getElem?_toList] at hx
    simp only [Array.getD_eq_getD_getElem?, hx, Option.getD_some]
    exact hr
theorem fillV_run {π : Pi} {pl : Nat → Option (Nat × Nat)} : ∀ {l : List (Nat × RV)} {l' : List (Nat × Value)} {cs cs' : Blk} {arr : Array Value}, All2 (fun (p : Nat × RV) (q : Nat × Value) => p.1 = q.1 ∧ p.2.rel π q.2) l l' → fillV pl cs l = some cs' → All2 (CV.rel π) cs.list arr.toList →
    ∃ arr', Instr.fill pl arr l' = some arr' ∧ All2 (CV.rel π) cs'.list arr'.toList ∧ Blk.size cs' = Blk.size cs
  | [], [], cs, cs', arr, _, h, ha => by simp [fillV] at h; subst h; exact ⟨arr, rfl, ha, rfl⟩
  | (i, v) :: l, (i', x) :: l', cs, cs', arr, ⟨⟨hi, hv⟩, hl⟩, h, ha => by
    have hi : i = i' := hi
    subst hi
    simp only [fillV] at h
    split at h
    · cases h
    · rename_i q n hpl
      split at h
      · rename_i hc
        simp only [Bool.and_eq_true, beq_iff, ble_iff] at hc
        obtain ⟨c1, c2⟩ := hc
        split at h
        · rename_i cs1 hu
          have hcx : All2 (CV.rel π) v.blk.list x.cells.toList := RV.rel_cells hv
          have l1 := (list_rel hcx).1
          have l2 := (list_rel ha).1
          simp only [Array.length_toList] at l1 l2
          obtain ⟨arr', h1, h2, h3⟩ := fillV_run (pl := pl) hl h (put_rel ha hcx (by omega) hu)
          refine ⟨arr', ?_, h2, h3.trans (updK_spec hu).1⟩
          simp only [Instr.fill, hpl]
          rw [if_neg (by simp; omega)]
          exact h1
        · cases h
      · cases h
  | [], _ :: _, _, _, _, h, _, _ => h.elim
  | _ :: _, [], _, _, _, h, _, _ => h.elim
theorem parts_rel {ps : Array (Nat × Operand)} {l : List (Nat × RV)} {fp : List Fp} {π : Pi} {a : Act} {w : World} (h : Ran (Ab.mapRd (fun p : Nat × Operand => (opdR p.2).bind fun v => .ret (p.1, v)) ps.toList) g l fp) (R : Rel X D π g a w) :
    All2 (fun (p : Nat × RV) (q : Nat × Value) => p.1 = q.1 ∧ p.2.rel π q.2) l (ps.map fun (i, x) => (i, a.eval x)).toList := by
  have := Ran.mapRd (ρ := fun (p : Nat × RV) (x : Nat × Operand) => p.1 = x.1 ∧ p.2.rel π (a.eval x.2)) (fun x v l hx => by
    obtain ⟨r, ⟨_, h1⟩, _, h2⟩ := Ran.bind' hx
    cases h2
    exact ⟨rfl, h1.opdR R⟩) h
  rw [Array.toList_map]
  exact all2_map this
theorem sims_build {t : TypeId} {ps : Array (Nat × Operand)} {fp : List Fp} (ho : o.op = .build t ps)
    (h : Ran ((Ab.ofO (zeroT P t)).bind fun z => (Ab.mapRd (fun p => (opdR p.2).bind fun v => .ret (p.1, v)) ps.toList).bind fun l => (Ab.ofO (placesOf P t)).bind fun pl => (Ab.ofO (fillV pl z.blk l)).bind fun cs => .ret (dstU o.dst (.r (.agg cs)))) g us fp) : Sims P o X D nid us g := by
  obtain ⟨z, ⟨_, h1⟩, _, h⟩ := Ran.bind' h
  obtain ⟨l, ⟨_, h2⟩, _, h⟩ := Ran.bind' h
  obtain ⟨pl, ⟨_, h3⟩, _, h⟩ := Ran.bind' h
  obtain ⟨cs, ⟨_, h4⟩, _, h⟩ := Ran.bind' h
  cases h
  refine sims_val fun π a w R => ?_
  have h3 := h3.ofO
  have h4 := h4.ofO
  have hp := parts_rel h2 R
  obtain ⟨zx, _, ⟨it, hi, hz⟩, hzr0⟩ := run_zero h1.ofO w
  have hzr := RV.rel_cells (hzr0 π)
  have hb : ∃ arr, P.built t (ps.map fun (i, x) => (i, a.eval x)).toList = some arr ∧ All2 (CV.rel π) cs.list arr.toList := by
    unfold placesOf at h3
    split at h3
    · rename_i fs hu
      cases hq : fs.toList.mapM (fun f => (P.info? f.type).map fun i => (f.offset, i.size)) with
      | none => rw [hq] at h3; cases h3
      | some places =>
        rw [hq] at h3
        cases h3
        obtain ⟨arr, e1, e2, _⟩ := fillV_run hp h4 hzr
        refine ⟨arr, ?_, e2⟩
        simp only [Program.built, hi, hu, hz, hq]
        rw [← e1]; congr 1; funext i; simp
    · rename_i n e hu
      cases hq : sizeT P e with
      | none => rw [hq] at h3; cases h3
      | some n =>
        rw [hq] at h3
        cases h3
        obtain ⟨ie, hie, rfl⟩ := info_of_size hq
        obtain ⟨arr, e1, e2, _⟩ := fillV_run hp h4 hzr
        exact ⟨arr, by simp only [Program.built, hi, hu, hz, hie]; exact e1, e2⟩
    · cases h3
  obtain ⟨arr, e1, e2⟩ := hb
  exact ⟨.agg arr, by simp [execOp, ho, run_build w t _ arr e1], arr, rfl, e2⟩

/-! rows: what is built at once, what grows -/
omit [Amb] in
theorem rep_size (n : Nat) (l : Blk) : Blk.size (rep n l) = n * Blk.size l := by
  induction n with
  | zero => rw [rep, Blk.size_nil, Nat.zero_mul]
  | succ n ih => rw [rep, Blk.size_append, ih, Nat.succ_mul]; omega
omit [Amb] in
theorem rep_get (n : Nat) (l : Blk) (i : Nat) (h : i < n * Blk.size l) : Blk.get (rep n l) i = Blk.get l (i % Blk.size l) := by
  induction n generalizing i with
  | zero => omega
  | succ n ih =>
    rw [rep, Blk.get_append]
    by_cases hi : i < Blk.size l
    · rw [if_pos hi, Nat.mod_eq_of_lt hi]
    · rw [if_neg hi, ih _ (by rw [Nat.succ_mul] at h; omega)]
      congr 1
      exact (Nat.mod_eq_sub_mod (by omega)).symm
theorem Rel.row {π : Pi} {a : Act} {w : World} {g : Gt} (R : Rel X D π g a w) {k : Blk} {n : Sz} {q cap : Nat} {arr : Array Value} {t : TypeId} {dst : Option Tmp} (hd : ∀ d, dst = some d → d < X.N) (h0 : π nid = none) (hk : X.k ≤ nid) (hn : n.val ≤ cap) (hc : cap * q ≤ arr.size) (hs : k.size = n.val * q)
    (h2 : ∀ j, j < k.size → ∃ v, arr[j]? = some v ∧ (k.get j).rel π v) :
    Rel X D (upd π nid (w.heap.size, 0, k.size, cap * q)) (appGs (dstU dst (.r (.c (.sl nid (.k 0) n q true)))) ((Up.new nid k).appG g)) (a.put dst (.slice (some ⟨w.heap.size, 0, none⟩) n.val cap)) (w.alloc (.cells arr t)) := by
  have hq := Nat.mul_le_mul_right q hn
  refine (R.alloc (k := k) (cs := arr) (t := t) (e := cap * q) h0 hk (by omega) hc h2).dst hd ?_
  exact ⟨_, _, _, _, upd_self _ _ _, by simp only [Off.val]; omega, fun _ => by simp only [Off.val]; omega, .inr ⟨cap, hn, rfl, fun _ => by simp only [Off.val]; omega⟩⟩
omit [Amb] in
theorem upd_dom {π : Pi} {b : Nat} {p : Nat × Nat × Nat × Nat} {nid c : Nat} (hb : nid ≤ b ∧ b < nid + c) : ∀ b', upd π b p b' ≠ none → π b' ≠ none ∨ (nid ≤ b' ∧ b' < nid + c) := by
  intro b' h
  simp only [upd] at h
  by_cases e : b' = b
  · subst e; exact .inr hb
  · simp only [e, if_false] at h; exact .inl h
omit [Amb] in
theorem dst_new (dst : Option Tmp) (v : AV) (us : List Up) (g : Gt) (hus : ∀ u ∈ us, ∀ i x, u ≠ .t i x) : appGs (dstU dst v ++ us) g = appGs (dstU dst v) (appGs us g) := by
  rw [appGs_append]
  cases dst with
  | none => rfl
  | some d =>
    show appGs us ((Up.t d v).appG g) = (Up.t d v).appG (appGs us g)
    induction us generalizing g with
    | nil => rfl
    | cons u us ih =>
      have hu := hus u (by simp)
      show appGs us (u.appG ((Up.t d v).appG g)) = (Up.t d v).appG (appGs us (u.appG g))
      rw [← ih _ fun x hx => hus x (by simp [hx])]
      cases u with
      | t i x => exact absurd rfl (hu i x)
      | _ => rfl
theorem sims_buildSlice {t : TypeId} {n : Nat} {ps : Array (Nat × Operand)} {fp : List Fp} (ho : o.op = .buildSlice t n ps)
    (h : Ran (match P.underlying t with
    | some (.slice e) => (Ab.ofO (zeroT P e)).bind fun z => (Ab.ofO (sizeT P e)).bind fun q =>
      (Ab.must (Nat.ble 1 q && Nat.ble (n * q) 16777216)).bind fun _ =>
      (Ab.mapRd (fun p => (opdR p.2).bind fun v => .ret (p.1, v)) ps.toList).bind fun l =>
      (Ab.must (Nat.beq (Blk.size z.blk) q)).bind fun _ => (Ab.ofO (fillV (fun i => some (i * q, q)) (rep n z.blk) l)).bind fun cs => .ret (dstU o.dst (.r (.c (.sl nid (.k 0) (.l n) q true))) ++ [.new nid (bigRow P e n q cs)])
    | _ => .fail) g us fp) : Sims P o X D nid us g := by
  split at h
  · rename_i e hu
    obtain ⟨z, ⟨_, h1⟩, _, h⟩ := Ran.bind' h
    obtain ⟨q, ⟨_, h2⟩, _, h⟩ := Ran.bind' h
    obtain ⟨_, ⟨_, h3⟩, _, h⟩ := Ran.bind' h
    obtain ⟨l, ⟨_, h4⟩, _, h⟩ := Ran.bind' h
    obtain ⟨_, ⟨_, h5⟩, _, h⟩ := Ran.bind' h
    obtain ⟨cs, ⟨_, h6⟩, _, h⟩ := Ran.bind' h
    cases h
    have h3 := h3.must
    simp only [Bool.and_eq_true, ble_iff] at h3
    have h5 : Blk.size z.blk = q := beq_iff.1 h5.must
    intro π a w next Q R hk hf hd hD hn
    obtain ⟨zx, hz1, _, hz2⟩ := run_zero h1.ofO w
    obtain ⟨zl, zg⟩ := list_rel (RV.rel_cells (hz2 π))
    rw [Array.length_toList] at zl
    have hp := parts_rel h4 R
    have hrow : All2 (CV.rel π) (Blk.list (rep n z.blk)) ((Array.range (n * q)).map (zx.cells[· % zx.cells.size]!)).toList := by
      refine rel_list (by simp [rep_size, h5]) fun j hj => ?_
      rw [rep_size, h5] at hj
      rw [rep_get _ _ _ (by rw [h5]; exact hj), h5]
      obtain ⟨y, hy, hr⟩ := zg (j % q) (by rw [h5]; exact Nat.mod_lt _ (by omega))
      refine ⟨y, ?_, hr⟩
      have e3 : zx.cells.size = q := zl.trans h5
      have e4 : zx.cells[j % q]? = some y := by simpa using hy
      simp [hj, e3, getElem!_def, e4]
    obtain ⟨arr, e1, e2, e3⟩ := fillV_run hp h6.ofO hrow
    have e1 : Instr.fill (fun i => some (i * q, q)) ((Array.range (n * q)).map (zx.cells[· % zx.cells.size]!)) (ps.toList.map fun x => (x.1, a.eval x.2)) = some arr := by rw [Array.toList_map] at e1; exact e1
    obtain ⟨cl1, cl2⟩ := list_rel e2
    rw [Array.length_toList] at cl1
    rw [rep_size, h5] at e3
    have hbr : Blk.size (bigRow P e n q cs) = Blk.size cs ∧ ∀ j, j < Blk.size cs → Blk.get (bigRow P e n q cs) j = Blk.get cs j := by
      unfold bigRow
      split
      · exact ⟨rfl, fun _ _ => rfl⟩
      · exact toRow_spec q cs
    generalize bigRow P e n q cs = kk at hbr hf hn
    obtain ⟨br1, br2⟩ := hbr
    have hcn : cnt (dstU o.dst (.r (.c (.sl nid (.k 0) (.l n) q true))) ++ [Up.new nid kk]) = 1 := by unfold dstU cnt; cases o.dst <;> rfl
    have h0 := hf nid (Nat.le_refl _) (by omega)
    have R1 := R.row (k := kk) (n := .l n) (q := q) (cap := n) (arr := arr) (t := e) hd h0 hk (Nat.le_refl _) (by omega) (br1.trans e3) (fun j hj => by
      rw [br1] at hj
      obtain ⟨y, hy, hr⟩ := cl2 j hj
      rw [br2 j hj]
      exact ⟨y, by simpa using hy, hr⟩)
    refine wp_val (x := .slice (some ⟨w.heap.size, 0, none⟩) n n) (w' := w.alloc (.cells arr e)) ?_ (hn _ _ (upd π nid (w.heap.size, 0, Blk.size kk, n * q)) (upd_ext h0 _) (upd_dom ⟨Nat.le_refl _, by omega⟩) ?_)
    · have h24 : ¬ (16777216 < n * q) := by omega
      simp only [execOp, ho, Instr.buildSlice, Sem.run_bind, run_underlying hu, Result.andThen_ok, run_sizeOf h2.ofO]
      by_cases hnq : n * q = 0
      · have hn0 : n = 0 := by
          rcases Nat.mul_eq_zero.1 hnq with h | h
          · exact h
          · omega
        subst hn0
        simp only [Nat.zero_mul] at e1 ⊢
        have hemp : (Array.range 0).map (zx.cells[· % zx.cells.size]!) = #[] := Array.eq_empty_of_size_eq_zero (by simp)
        have hr0 : Array.range 0 = #[] := Array.eq_empty_of_size_eq_zero (by simp)
        rw [hemp] at e1
        simp [e1, hr0, run_newRow']
      · simp [h24, hnq, hz1, e1, run_newRow']
    · rw [dst_new _ _ _ _ (by simp)]; exact R1
  · cases h
omit [Amb] in
theorem colsOf_len' {z : Nat} {b : Blk} {cols : List Col} (h : colsOf z b = some cols) : cols.length = z := colsOf_len h
theorem sims_makeSlice {t : TypeId} {n c : Operand} {fp : List Fp} (ho : o.op = .makeSlice t n c)
    (h : Ran (match P.underlying t with
    | some (.slice e) => (Ab.ofO (zeroT P e)).bind fun z => (Ab.ofO (sizeT P e)).bind fun q => (opdI n).bind fun n => (opdI c).bind fun c =>
      (Ab.must (decide (n.2 = 0) && decide (c.2 = 0))).bind fun _ => (Ab.ofO (colsOf q z.blk)).bind fun cols =>
      .ret (dstU o.dst (.r (.c (.sl nid (.k 0) (.s 0) q true))) ++ [.new nid [.a (.s 0) cols]])
    | _ => .fail) g us fp) : Sims P o X D nid us g := by
  split at h
  · rename_i e hu
    obtain ⟨z, ⟨_, h1⟩, _, h⟩ := Ran.bind' h
    obtain ⟨q, ⟨_, h2⟩, _, h⟩ := Ran.bind' h
    obtain ⟨nn, ⟨_, h3⟩, _, h⟩ := Ran.bind' h
    obtain ⟨cc, ⟨_, h4⟩, _, h⟩ := Ran.bind' h
    obtain ⟨_, ⟨_, h5⟩, _, h⟩ := Ran.bind' h
    obtain ⟨cols, ⟨_, h6⟩, _, h⟩ := Ran.bind' h
    cases h
    have h5 := h5.must
    simp only [Bool.and_eq_true, decide_eq_true_eq] at h5
    intro π a w next Q R hk hf hd hD hn
    have hv1 := h3.opdI R
    have hv2 := h4.opdI R
    rw [h5.1] at hv1
    rw [h5.2] at hv2
    have hcn : cnt (dstU o.dst (.r (.c (.sl nid (.k 0) (.s 0) q true))) ++ [Up.new nid [.a (.s 0) cols]]) = 1 := by unfold dstU cnt; cases o.dst <;> rfl
    have h0 := hf nid (Nat.le_refl _) (by omega)
    have hs0 : Blk.size [.a (.s 0) cols] = 0 := by simp [Blk.size, Sg.size, Sz.val]
    have R1 := R.row (k := [.a (.s 0) cols]) (n := .s 0) (q := q) (cap := 0) (arr := #[]) (t := e) hd h0 hk (Nat.le_refl _) (by simp) (by rw [hs0]; simp [Sz.val]) (fun j hj => by rw [hs0] at hj; omega)
    obtain ⟨i, hi, hby⟩ : ∃ i, P.info? e = some i ∧ True := by
      have := h2.ofO
      unfold sizeT at this
      cases hh : P.info? e with
      | none => rw [hh] at this; cases this
      | some i => exact ⟨i, rfl, trivial⟩
    refine wp_val (x := .slice (some ⟨w.heap.size, 0, none⟩) 0 0) (w' := w.alloc (.cells #[] e)) ?_ (hn _ _ (upd π nid (w.heap.size, 0, Blk.size [.a (.s 0) cols], 0 * q)) (upd_ext h0 _) (upd_dom ⟨Nat.le_refl _, by omega⟩) ?_)
    · have hw0 : IntKind.i64.wrap 0 = 0 := by decide
      simp [execOp, ho, Instr.makeSlice, run_underlying hu, hv1, hv2, asInt, asIntOf, typeInfo, hi, hw0, run_sizeOf h2.ofO, askRoom, run_newRow']
      rw [show Array.range 0 = #[] from Array.eq_empty_of_size_eq_zero (by simp), Array.map_empty]
    · rw [dst_new _ _ _ _ (by simp)]; exact R1
  · cases h
end
end Go.Ab
