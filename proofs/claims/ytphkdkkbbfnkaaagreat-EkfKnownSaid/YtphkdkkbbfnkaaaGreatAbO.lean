/-
  The abstract machine and the model: operations that only reckon, read, store or make a block.
-/
import Derived.Test.YtphkdkkbbfnkaaaGreatAbM
namespace Go.Ab
variable [Amb]

omit [Amb] in
theorem add_none (B o j : Nat) : (⟨B, o, none⟩ : Addr).add j = ⟨B, o + j, none⟩ := by
  unfold Addr.add; split <;> simp_all

/-! constants -/
theorem ofC_rel {v : Value} {c : CV} (h : ofC v = some c) (π : Pi) : c.rel π v := by
  unfold ofC at h
  split at h <;> first | (cases h; rfl) | cases h
omit [Amb] in
theorem list_cons (v : CV) (r : Blk) : Blk.list (.c v :: r) = v :: r.list := by
  apply List.ext_getElem?
  intro i
  rw [Blk.list_get?]
  cases i with
  | zero => rw [if_pos (by rw [Blk.size_cons, Sg.size_c]; omega)]; rfl
  | succ i =>
    rw [List.getElem?_cons_succ, Blk.list_get?]
    by_cases h : i < Blk.size r
    · rw [if_pos h, if_pos (by rw [Blk.size_cons, Sg.size_c]; omega), ← Blk.get_ge_c (l := r) (j' := i) (by omega) (by omega)]
    · rw [if_neg h, if_neg (by rw [Blk.size_cons, Sg.size_c]; omega)]
theorem ofCs_rel : ∀ {vs : List Value} {cs : Blk}, ofCs vs = some cs → ∀ π, All2 (CV.rel π) cs.list vs
  | [], cs, h, π => by simp [ofCs] at h; subst h; trivial
  | v :: vs, cs, h, π => by
    simp only [ofCs] at h
    split at h
    · rename_i c cs' h1 h2
      cases h
      rw [list_cons]
      exact ⟨ofC_rel h1 π, ofCs_rel h2 π⟩
    · cases h
theorem ofR_rel {v : Value} {r : RV} (h : ofR v = some r) (π : Pi) : r.rel π v := by
  have key : (ofC v).map RV.c = some r → r.rel π v := fun h => by
    cases hc : ofC v with
    | none => rw [hc] at h; cases h
    | some l => rw [hc] at h; cases h; exact ofC_rel hc π
  cases v with
  | agg cs =>
    simp only [ofR] at h
    cases hc : ofCs cs.toList with
    | none => rw [hc] at h; cases h
    | some l => rw [hc] at h; cases h; exact ⟨_, rfl, ofCs_rel hc π⟩
  | _ => simp only [ofR] at h; exact key h

/-! readings taken apart -/
omit [Amb] in
theorem Ran.ofO {α : Type} {x : Option α} {g : Gt} {a : α} {l : List Fp} (h : Ran (ofO x) g a l) : x = some a := by
  cases x with
  | none => cases h
  | some b => cases h; rfl
omit [Amb] in
theorem Ran.must {x : Bool} {g : Gt} {u : Unit} {l : List Fp} (h : Ran (must x) g u l) : x = true := by
  cases h with | test h => cases x with
    | true => rfl
    | false => cases h
omit [Amb] in
theorem Ran.ret' {α : Type} {b : α} {g : Gt} {a : α} {l : List Fp} (h : Ran (.ret b) g a l) : a = b := by cases h; rfl
omit [Amb] in
theorem Ran.asR {v : AV} {g : Gt} {a : RV} {l : List Fp} (h : Ran (asR v) g a l) : v = .r a := by
  unfold Ab.asR at h; split at h
  · cases h; rfl
  · cases h
omit [Amb] in
theorem Ran.asC {v : AV} {g : Gt} {a : CV} {l : List Fp} (h : Ran (asC v) g a l) : v = .r (.c a) := by
  unfold Ab.asC at h; split at h
  · cases h; rfl
  · cases h
omit [Amb] in
theorem Ran.asI {v : AV} {g : Gt} {a : IntKind × Int} {l : List Fp} (h : Ran (asI v) g a l) : v = .r (.c (.f (.i a.1 a.2))) := by
  unfold Ab.asI at h; split at h
  · cases h; rfl
  · cases h
omit [Amb] in
theorem Ran.asB {v : AV} {g : Gt} {a : Bool} {l : List Fp} (h : Ran (asB v) g a l) : v = .r (.c (.f (.b a))) := by
  unfold Ab.asB at h; split at h
  · cases h; rfl
  · cases h
omit [Amb] in
theorem Ran.asP {v : AV} {g : Gt} {a : Nat × Off × Nat} {l : List Fp} (h : Ran (asP v) g a l) : v = .r (.c (.ptr a.1 a.2.1 a.2.2)) := by
  unfold Ab.asP at h; split at h
  · cases h; rfl
  · cases h
section
variable {X : Cx} {D : Nat → Prop} {π : Pi} {g : Gt} {a : Act} {w : World}
theorem Ran.opd {x : Operand} {v : AV} {l : List Fp} (h : Ran (opd x) g v l) (R : Rel X D π g a w) : v.rel π (a.eval x) := by
  cases x with
  | tmp t => cases h with | tm h => cases h; exact R.tm t
  | const c =>
    obtain ⟨r, ⟨_, h1⟩, _, h2⟩ := Ran.bind' h
    cases h2
    exact ofR_rel h1.ofO π
  | func f => cases h; exact ⟨#[], rfl, trivial⟩
  | global g => cases h
theorem Ran.opdR {x : Operand} {v : RV} {l : List Fp} (h : Ran (opdR x) g v l) (R : Rel X D π g a w) : v.rel π (a.eval x) := by
  obtain ⟨r, ⟨_, h1⟩, _, h2⟩ := Ran.bind' h
  have := h1.opd R
  rw [h2.asR] at this; exact this
theorem Ran.opdS {x : Operand} {v : RV} {l : List Fp} (h : Ran (opdS x) g v l) (R : Rel X D π g a w) : v.rel π (a.eval x) := by
  obtain ⟨r, ⟨_, h1⟩, _, h2⟩ := Ran.bind' h
  have := h1.opd R
  unfold Ab.asS at h2
  split at h2
  · cases h2; exact this
  · cases h2
    obtain ⟨arr, hx, ha⟩ := this
    obtain ⟨arr⟩ := arr
    match arr, ha with
    | [y], ⟨hy, _⟩ =>
      obtain ⟨B, s, q, e, hb, rfl, hle⟩ := hy
      exact ⟨B, s, q, e, hb, hx, hle⟩
  · cases h2
theorem Ran.opdC {x : Operand} {v : CV} {l : List Fp} (h : Ran (opdC x) g v l) (R : Rel X D π g a w) : v.rel π (a.eval x) := by
  obtain ⟨r, ⟨_, h1⟩, _, h2⟩ := Ran.bind' h
  have := h1.opd R
  rw [h2.asC] at this; exact this
theorem Ran.opdI {x : Operand} {v : IntKind × Int} {l : List Fp} (h : Ran (opdI x) g v l) (R : Rel X D π g a w) : a.eval x = .int v.1 v.2 := by
  obtain ⟨r, ⟨_, h1⟩, _, h2⟩ := Ran.bind' h
  have := h1.opd R
  rw [h2.asI] at this; exact this
theorem Ran.opdB {x : Operand} {v : Bool} {l : List Fp} (h : Ran (opdB x) g v l) (R : Rel X D π g a w) : a.eval x = .bool v := by
  obtain ⟨r, ⟨_, h1⟩, _, h2⟩ := Ran.bind' h
  have := h1.opd R
  rw [h2.asB] at this; exact this
theorem Ran.opdP {x : Operand} {v : Nat × Off × Nat} {l : List Fp} (h : Ran (opdP x) g v l) (R : Rel X D π g a w) : ∃ B s q e, π v.1 = some (B, s, q, e) ∧ a.eval x = .pointer (some ⟨B, s + v.2.1.val, none⟩) ∧ v.2.1.val + v.2.2 ≤ q := by
  obtain ⟨r, ⟨_, h1⟩, _, h2⟩ := Ran.bind' h
  have := h1.opd R
  rw [h2.asP] at this; exact this
omit [Amb] in
theorem Ran.mapRd {α β : Type} {f : α → Rd β} {ρ : β → α → Prop} (hf : ∀ x v l, Ran (f x) g v l → ρ v x) : ∀ {xs : List α} {vs : List β} {l : List Fp}, Ran (mapRd f xs) g vs l → All2 ρ vs xs
  | [], vs, l, h => by cases h; trivial
  | x :: xs, vs, l, h => by
    obtain ⟨v, ⟨_, h1⟩, _, h2⟩ := Ran.bind' h
    obtain ⟨vs', ⟨_, h3⟩, _, h4⟩ := Ran.bind' h2
    cases h4
    exact ⟨hf x v _ h1, Ran.mapRd hf h3⟩

/-! types -/
omit [Amb] in
theorem run_isAgg {P : Program} {t : TypeId} {v : Bool} (h : aggT P t = some v) (w : World) : (isAgg t).run P w = .ok v w := by
  unfold aggT at h
  unfold isAgg
  cases hu : P.underlying t with
  | none => rw [hu] at h; cases h
  | some d => rw [hu] at h; cases d <;> simp [run_underlying hu] <;> simp_all
omit [Amb] in
theorem info_of_size {P : Program} {t : TypeId} {n : Nat} (h : sizeT P t = some n) : ∃ i, P.info? t = some i ∧ i.size = n := by
  unfold sizeT at h
  cases hi : P.info? t with
  | none => rw [hi] at h; cases h
  | some i => rw [hi] at h; exact ⟨i, rfl, by simpa using h⟩
omit [Amb] in
theorem run_typeInfo {P : Program} {t : TypeId} {i : TypeInfo} (h : P.info? t = some i) (w : World) : (typeInfo t).run P w = .ok i w := by simp [typeInfo, h]
omit [Amb] in
theorem run_sizeOf {P : Program} {t : TypeId} {n : Nat} (h : sizeT P t = some n) (w : World) : (sizeOf t).run P w = .ok n w := by
  obtain ⟨i, hi, rfl⟩ := info_of_size h
  simp [sizeOf, run_typeInfo hi]
theorem run_zero {P : Program} {t : TypeId} {r : RV} (h : zeroT P t = some r) (w : World) : ∃ x, (zeroValue t).run P w = .ok x w ∧ (∃ it : TypeInfo, P.info? t = some it ∧ it.zero = some x) ∧ ∀ π, r.rel π x := by
  unfold zeroT at h
  cases hi : P.info? t with
  | none => rw [hi] at h; cases h
  | some i =>
    rw [hi] at h
    simp only [Option.bind_some] at h
    cases hz : i.zero with
    | none => rw [hz] at h; cases h
    | some x =>
      rw [hz] at h
      simp only [Option.bind_some] at h
      refine ⟨x, by simp [zeroValue, run_typeInfo hi, hz], ⟨i, rfl, hz⟩, fun π => ?_⟩
      split at h
      · rename_i b hb
        simp only [Option.map_eq_some_iff] at h
        obtain ⟨b', h1, rfl⟩ := h
        obtain ⟨e1, e2⟩ := packZ_spec h1
        obtain ⟨arr, rfl, hr⟩ := ofR_rel hb π
        obtain ⟨l1, l2⟩ := list_rel hr
        exact ⟨arr, rfl, rel_list (by rw [l1, e1]) fun j hj => by rw [e2]; exact l2 j (by omega)⟩
      · exact ofR_rel h π

omit [Amb] in
theorem run_newObj' {P : Program} (ob : Obj) (w : World) : (newObj ob).run P w = .ok w.heap.size (w.alloc ob) := rfl
omit [Amb] in
theorem run_newRow' {P : Program} (t : TypeId) (cs : Array Value) (w : World) : (newRow t cs).run P w = .ok ⟨w.heap.size, 0, none⟩ (w.alloc (.cells cs t)) := by
  simp only [newRow, Sem.run_bind, run_newObj', Result.andThen_ok, Sem.run_pure]

/-! cells that are read -/
theorem Rel.view (R : Rel X D π g a w) {b q n : Nat} {o : Off} {v : Blk} (hz : g.z b = some q) (hs : Blk.size v = n) (hv : o.val + n ≤ q → ∀ j, j < n → Blk.get v j = g.c b (o.val + j)) {B s q' e : Nat} (hb : π b = some (B, s, q', e)) (hn : o.val + n ≤ q') :
    q' = q ∧ ∃ xs : List Value, xs.length = n ∧ All2 (CV.rel π) v.list xs ∧ ∀ j x, xs[j]? = some x → cl w B (s + o.val + j) = some x := by
  obtain ⟨B', s', e', hb', hle, _, h2⟩ := R.hp.hp b q hz
  rw [hb] at hb'; cases hb'
  have hv := hv hn
  have cell : ∀ j, j < n → ∃ x, cl w B (s + o.val + j) = some x ∧ (Blk.get v j).rel π x := fun j hj => by
    obtain ⟨x, hx, hr⟩ := h2 (o.val + j) (by omega)
    rw [← hv j hj] at hr
    exact ⟨x, by rw [show s + o.val + j = s + (o.val + j) by omega]; exact hx, hr⟩
  refine ⟨rfl, (List.range n).map fun j => (cl w B (s + o.val + j)).getD undef, by simp, rel_list (by simp [hs]) fun j hj => ?_, fun j x hx => ?_⟩
  · obtain ⟨x, hx, hr⟩ := cell j (by omega)
    refine ⟨x, ?_, hr⟩
    rw [List.getElem?_map, List.getElem?_range (by omega)]
    simp [hx]
  · have hjn : j < n := by
      have := (List.getElem?_eq_some_iff.1 hx).1; simpa using this
    obtain ⟨u, hu, _⟩ := cell j hjn
    simp [hjn, hu] at hx
    rw [hu, hx]
omit [Amb] in
theorem run_loadCells_at {P : Program} {w : World} {B o : Nat} {xs : List Value} (h : ∀ j v, xs[j]? = some v → cl w B (o + j) = some v) : (loadCells ⟨B, o, none⟩ xs.length).run P w = .ok xs.toArray w :=
  run_loadCells_list w _ xs fun j v hj => by rw [add_none]; exact h j v hj
omit [Amb] in
theorem Ran.cell1 {b : Blk} {v : RV} {l : List Fp} (h : Ran (cell1 b) g v l) : ∃ c, b = [.c c] ∧ v = .c c := by
  unfold Ab.cell1 at h
  split at h
  · cases h; exact ⟨_, rfl, rfl⟩
  · cases h
theorem Ran.valueU {P : Program} (R : Rel X D π g a w) {t : TypeId} {b m : Nat} {o : Off} {v : RV} {l : List Fp} (h : Ran (valueU P t b o m) g v l) {B s q' e : Nat} (hb : π b = some (B, s, q', e)) (hm : o.val + m ≤ q') :
    ∃ x, (loadVar t ⟨B, s + o.val, none⟩).run P w = .ok x w ∧ v.rel π x := by
  obtain ⟨ag, ⟨_, h1⟩, _, h⟩ := Ran.bind' h
  obtain ⟨n, ⟨_, h2⟩, _, h⟩ := Ran.bind' h
  have h1 := h1.ofO
  have h2 := h2.ofO
  cases ag with
  | true =>
    obtain ⟨_, ⟨_, h3⟩, _, h⟩ := Ran.bind' h
    have h3 := ble_iff.1 h3.must
    cases h with | vw q u hz hs hv h =>
    cases h
    simp only [Sz.val, Nat.one_mul] at hs hv
    obtain ⟨_, xs, hl, hx, hc⟩ := R.view hz hs hv hb (by omega)
    refine ⟨.agg xs.toArray, ?_, ⟨_, rfl, hx⟩⟩
    have := run_loadCells_at (P := P) hc
    rw [hl] at this
    simp [loadVar, run_isAgg h1, run_sizeOf h2, this]
  | false =>
    obtain ⟨_, ⟨_, h3⟩, _, h⟩ := Ran.bind' h
    have h3 := ble_iff.1 h3.must
    cases h with | vw q u hz hs hv h =>
    simp only [Sz.val, Nat.one_mul] at hs hv
    obtain ⟨_, xs, hl, hx, hc⟩ := R.view hz hs hv hb (by omega)
    obtain ⟨c, rfl, rfl⟩ := h.cell1
    rw [list_one] at hx
    obtain ⟨x, rfl⟩ : ∃ x, xs = [x] := by
      match xs, hl with
      | [x], _ => exact ⟨x, rfl⟩
    have hcx := hc 0 x rfl
    simp only [Nat.add_zero] at hcx
    refine ⟨x, ?_, hx.1⟩
    simp only [cl] at hcx
    simp [loadVar, run_isAgg h1, hcx]
omit [Amb] in
theorem Ran.subR {b v : Blk} {o : Off} {cnt : Sz} {z : Nat} {l : List Fp} (h : Ran (subR b o cnt z) g v l) : b.sub o cnt z = some (true, v) := by
  unfold Ab.subR at h
  split at h
  · rename_i p hp
    cases h with | test h =>
    obtain ⟨gg, u⟩ := p
    cases gg with
    | true => cases h; exact hp
    | false => cases h
  · cases h
theorem Ran.partU {P : Program} {t : TypeId} {cs : Blk} {o : Off} {v : RV} {l : List Fp} (h : Ran (partU P t cs o) g v l) {n : Nat} (hn : sizeT P t = some n) (hn1 : 1 ≤ n) (hle : o.val + n ≤ Blk.size cs) {xs : Array Value} (hx : All2 (CV.rel π) cs.list xs.toList) (w : World) :
    ∃ x, (part t xs o.val).run P w = .ok x w ∧ v.rel π x := by
  obtain ⟨ag, ⟨_, h1⟩, _, h⟩ := Ran.bind' h
  obtain ⟨n', ⟨_, h2⟩, _, h⟩ := Ran.bind' h
  have h1 := h1.ofO
  have h2 := h2.ofO
  rw [hn] at h2; cases h2
  obtain ⟨l1, l2⟩ := list_rel hx
  cases ag with
  | true =>
    obtain ⟨u, ⟨_, h3⟩, _, h⟩ := Ran.bind' h
    cases h
    obtain ⟨e1, e2⟩ := Blk.sub_spec h3.subR
    simp only [Sz.val, Nat.one_mul] at e1 e2
    have e2 := e2 hle
    refine ⟨.agg (xs.extract o.val (o.val + n)), by simp [part, run_isAgg h1, run_sizeOf hn], ⟨_, rfl, ?_⟩⟩
    have : (xs.extract o.val (o.val + n)).toList = (xs.toList.drop o.val).take n := by
      rw [Array.toList_extract]; simp [List.extract]
    rw [this]
    refine rel_list (by rw [List.length_take, List.length_drop, l1]; omega) fun j hj => ?_
    obtain ⟨x, hx1, hx2⟩ := l2 (o.val + j) (by omega)
    refine ⟨x, by rw [List.getElem?_take, if_pos (by omega), List.getElem?_drop]; exact hx1, ?_⟩
    rw [e2 j (by omega)]; exact hx2
  | false =>
    obtain ⟨u, ⟨_, h3⟩, _, h⟩ := Ran.bind' h
    obtain ⟨c, rfl, rfl⟩ := h.cell1
    obtain ⟨_, e2⟩ := Blk.sub_spec h3.subR
    have e2 := e2 (by simp only [Sz.val]; omega) 0 (by simp [Sz.val])
    obtain ⟨x, hx1, hx2⟩ := l2 o.val (by omega)
    refine ⟨x, ?_, ?_⟩
    · have : xs[o.val]? = some x := by simpa using hx1
      simp [part, run_isAgg h1, this]
    · rw [Nat.add_zero] at e2
      rw [← e2] at hx2; exact hx2
theorem q_rel {n : Nat} {q : Nat → Bool} {x : Value} (h : (CV.f (.q n q)).rel π x) : (CV.fs n 1 [.b q]).rel π x := by
  refine ⟨rfl, ?_⟩
  rcases h with h | ⟨B, s, cap, h1, h2, h3⟩
  · exact .inl h
  · refine .inr ⟨B, s, cap, h1, h2, fun j hj => ⟨.b (q j), .bool (q j), ?_, h3 j (by omega), rfl⟩⟩
    simp [rget, Nat.mod_one, Col.at]
omit [Amb] in
theorem Ran.typC0 {P : Program} {t : TypeId} {c c' : CV} {l : List Fp} (h : Ran (typC P t c) g c' l) : c' = c ∨ ∃ n q, c = .f (.q n q) ∧ c' = .fs n 1 [.b q] := by
  unfold Ab.typC at h
  generalize P.underlying t = u at h
  split at h
  · cases h with | @test x _ _ _ _ h =>
    cases hx : FV.isB _ <;> rw [hx] at h <;> cases h
    rename_i x; cases x <;> first | exact .inl rfl | cases hx
  · cases h with | @test x _ _ _ _ h =>
    cases hx : FV.isI _ _ <;> rw [hx] at h <;> cases h
    rename_i k x; cases x <;> first | (cases hx; done) | skip
    simp only [FV.isI, decide_eq_true_eq] at hx
    subst hx; exact .inl rfl
  · cases h with | @test x _ _ _ _ h =>
    cases hx : FV.isS _ <;> rw [hx] at h <;> cases h
    rename_i x; cases x <;> first | exact .inl rfl | cases hx
  · cases h; exact .inr ⟨_, _, rfl, rfl⟩
  · cases h; exact .inl rfl
theorem Ran.typC {P : Program} {t : TypeId} {c c' : CV} {l : List Fp} (h : Ran (typC P t c) g c' l) {x : Value} (hx : c.rel π x) : c'.rel π x := by
  rcases h.typC0 with rfl | ⟨n, q, rfl, rfl⟩
  · exact hx
  · exact q_rel hx
theorem Ran.typR {P : Program} {t : TypeId} {c c' : RV} {l : List Fp} (h : Ran (typR P t c) g c' l) {π : Pi} {x : Value} (hx : c.rel π x) : c'.rel π x := by
  cases c with
  | c c =>
    obtain ⟨v, ⟨_, h1⟩, _, h⟩ := Ran.bind' h
    cases h
    exact h1.typC hx
  | agg cs =>
    cases h
    obtain ⟨xs, rfl, hx⟩ := hx
    obtain ⟨l1, l2⟩ := list_rel hx
    obtain ⟨n1, n2⟩ := norm_spec P t cs
    refine ⟨xs, rfl, rel_list (by rw [l1, n1]) fun j hj => ?_⟩
    rw [n1] at hj
    rw [n2 j hj]
    exact l2 j hj
theorem Ran.valueOf {P : Program} (R : Rel X D π g a w) {t : TypeId} {b m : Nat} {o : Off} {v : RV} {l : List Fp} (h : Ran (valueOf P t b o m) g v l) {B s q' e : Nat} (hb : π b = some (B, s, q', e)) (hm : o.val + m ≤ q') :
    ∃ x, (loadVar t ⟨B, s + o.val, none⟩).run P w = .ok x w ∧ v.rel π x := by
  obtain ⟨u, ⟨_, h1⟩, _, h⟩ := Ran.bind' h
  obtain ⟨x, hx, hr⟩ := Ran.valueU R h1 hb hm
  exact ⟨x, hx, h.typR hr⟩
theorem Ran.partOf {P : Program} {t : TypeId} {cs : Blk} {o : Off} {v : RV} {l : List Fp} (h : Ran (partOf P t cs o) g v l) {n : Nat} (hn : sizeT P t = some n) (hn1 : 1 ≤ n) (hle : o.val + n ≤ Blk.size cs) {xs : Array Value} (hx : All2 (CV.rel π) cs.list xs.toList) (w : World) :
    ∃ x, (part t xs o.val).run P w = .ok x w ∧ v.rel π x := by
  obtain ⟨u, ⟨_, h1⟩, _, h⟩ := Ran.bind' h
  obtain ⟨x, hx1, hr⟩ := Ran.partU h1 hn hn1 hle hx w
  exact ⟨x, hx1, h.typR hr⟩
theorem Ran.partK {P : Program} {t : TypeId} {cs : Blk} {c : Nat} {v : RV} {l : List Fp} (h : Ran (partK P t cs c) g v l) {xs : Array Value} (hx : All2 (CV.rel π) cs.list xs.toList) (w : World) :
    ∃ x, (part t xs c).run P w = .ok x w ∧ v.rel π x := by
  obtain ⟨n, ⟨_, h1⟩, _, h⟩ := Ran.bind' h
  obtain ⟨_, ⟨_, h2⟩, _, h⟩ := Ran.bind' h
  have h2 := h2.must
  simp only [Bool.and_eq_true, ble_iff] at h2
  exact h.partOf h1.ofO h2.1 h2.2 hx w
end

/-! one operation -/
def cnt (us : List Up) : Nat := (us.filter fun | .new _ _ => true | _ => false).length
def Up.perm (k : Nat) (D : Nat → Prop) : Up → Prop
  | .c b _ _ | .kill b => b < k → D b
  | _ => True
def Sims (P : Program) (o : Oper) (X : Cx) (D : Nat → Prop) (nid : Nat) (us : List Up) (g : Gt) : Prop :=
  ∀ π a w (next : Act → World → Prop) (Q : Exit → Act → World → Prop), Rel X D π g a w → X.k ≤ nid → (∀ b, nid ≤ b → b < nid + cnt us → π b = none) → (∀ d, o.dst = some d → d < X.N) → (∀ u ∈ us, u.perm X.k D) →
    (∀ a' w' π', Ext π π' → (∀ b, π' b ≠ none → π b ≠ none ∨ (nid ≤ b ∧ b < nid + cnt us)) → Rel X D π' (appGs us g) a' w' → next a' w') → o.wp P a w next Q
section
variable {P : Program} {o : Oper} {X : Cx} {D : Nat → Prop} {nid : Nat} {us : List Up} {g : Gt}
omit [Amb] in
theorem wp_val {a : Act} {w w' : World} {x : Value} {next : Act → World → Prop} {Q : Exit → Act → World → Prop} (h : (execOp a.eval o).run P w = .ok (.value x) w') (hn : next (a.put o.dst x) w') : o.wp P a w next Q := by
  unfold Oper.wp; rw [h]; exact hn
omit [Amb] in
theorem wp_skp {a : Act} {w w' : World} {next : Act → World → Prop} {Q : Exit → Act → World → Prop} (h : (execOp a.eval o).run P w = .ok .skip w') (hn : next (a.put o.dst undef) w') : o.wp P a w next Q := by
  unfold Oper.wp; rw [h]; exact hn
theorem sims_val {v : AV} (h : ∀ π a w, Rel X D π g a w → ∃ x, (execOp a.eval o).run P w = .ok (.value x) w ∧ v.rel π x) : Sims P o X D nid (dstU o.dst v) g := by
  intro π a w next Q R hk hf hd hD hn
  obtain ⟨x, h1, h2⟩ := h π a w R
  exact wp_val h1 (hn _ _ π (Ext.refl _) (fun b h => .inl h) (R.dst hd h2))
theorem undef_rel (π : Pi) : udf.rel π undef := ⟨#[], rfl, trivial⟩

theorem sims_move {x : Operand} {fp : List Fp} (ho : o.op = .move x ∨ o.op = .assign x) (h : Ran ((opd x).bind fun v => .ret (dstU o.dst v)) g us fp) : Sims P o X D nid us g := by
  obtain ⟨v, ⟨_, h1⟩, _, h2⟩ := Ran.bind' h
  cases h2
  refine sims_val fun π a w R => ⟨a.eval x, ?_, h1.opd R⟩
  rcases ho with ho | ho <;> simp [execOp, ho]
theorem sims_pick {c x y : Operand} {fp : List Fp} (ho : o.op = .pick c x y) (h : Ran ((opdB c).bind fun z => .test z fun | true => (opd x).bind fun v => .ret (dstU o.dst v) | false => (opd y).bind fun v => .ret (dstU o.dst v)) g us fp) : Sims P o X D nid us g := by
  obtain ⟨z, ⟨_, h1⟩, _, h2⟩ := Ran.bind' h
  cases h2 with | test h2 =>
  cases z with
  | true =>
    obtain ⟨v, ⟨_, h3⟩, _, h4⟩ := Ran.bind' h2
    cases h4
    refine sims_val fun π a w R => ⟨a.eval x, ?_, h3.opd R⟩
    simp [execOp, ho, h1.opdB R, asBool]
  | false =>
    obtain ⟨v, ⟨_, h3⟩, _, h4⟩ := Ran.bind' h2
    cases h4
    refine sims_val fun π a w R => ⟨a.eval y, ?_, h3.opd R⟩
    simp [execOp, ho, h1.opdB R, asBool]
theorem sims_new {v : RV} {t : TypeId} (h : ∀ π a w, Rel X D π g a w → ∃ x, v.rel π x ∧ (execOp a.eval o).run P w = .ok (.value (.pointer (some ⟨w.heap.size, 0, none⟩))) (w.alloc (.cells x.cells t))) :
    Sims P o X D nid (newU o.dst nid (Blk.size v.blk) v.blk) g := by
  intro π a w next Q R hk hf hd hD hn
  obtain ⟨x, hx, h1⟩ := h π a w R
  obtain ⟨hl, hc⟩ := list_rel (RV.rel_cells hx)
  have hl' : x.cells.size = Blk.size v.blk := by simpa using hl
  have hcn : cnt (newU o.dst nid (Blk.size v.blk) v.blk) = 1 := by unfold newU dstU cnt; cases o.dst <;> rfl
  have h0 := hf nid (Nat.le_refl _) (by omega)
  have R1 := R.alloc (k := v.blk) (cs := x.cells) (t := t) (e := x.cells.size) h0 hk (by omega) (Nat.le_refl _) (fun j hj => by
    obtain ⟨y, hy, hr⟩ := hc j hj
    exact ⟨y, by simpa using hy, hr⟩)
  refine wp_val h1 (hn _ _ (upd π nid (w.heap.size, 0, Blk.size v.blk, x.cells.size)) (upd_ext h0 _) (fun b hb => ?_) ?_)
  · simp only [upd] at hb
    by_cases e : b = nid
    · subst e; exact .inr ⟨Nat.le_refl _, by omega⟩
    · simp only [e, if_false] at hb; exact .inl hb
  · have R2 := R1.dst hd (v := .r (.c (.ptr nid (.k 0) (Blk.size v.blk)))) (x := .pointer (some ⟨w.heap.size, 0, none⟩)) ⟨_, _, _, _, upd_self _ _ _, rfl, by simp [Off.val]⟩
    have e : appGs (newU o.dst nid (Blk.size v.blk) v.blk) g = appGs (dstU o.dst (.r (.c (.ptr nid (.k 0) (Blk.size v.blk))))) ((Up.new nid v.blk).appG g) := by
      unfold newU dstU; cases o.dst <;> rfl
    rw [e]; exact R2
theorem denil_spec : ∀ (ks : List (Option (Nat × List CK))) (b : Blk) (nid : Nat), Blk.size (denil ks b nid).1 = Blk.size b ∧ (∀ e ∈ (denil ks b nid).2, Blk.size e = 0) ∧
    ∀ π : Pi, (∀ i, i < (denil ks b nid).2.length → π (nid + i) = some (0, 0, 0, 0)) → ∀ j, j < Blk.size b → ∀ v, (Blk.get b j).rel π v → (Blk.get (denil ks b nid).1 j).rel π v
  | _, [], _ => ⟨rfl, fun e h => by simp [denil] at h, fun _ _ _ _ _ h => h⟩
  | ks, .a n cols :: r, b => by
    obtain ⟨h1, h2, h3⟩ := denil_spec (ks.drop (n.val * cols.length)) r b
    refine ⟨by rw [denil, Blk.size_cons, Blk.size_cons, h1], h2, fun π hp j hj v hv => ?_⟩
    rw [Blk.size_cons] at hj
    rw [denil]
    by_cases hj2 : j < (Sg.a n cols).size
    · rw [Blk.get_lt hj2] at hv ⊢; exact hv
    · rw [Blk.get_ge (by omega)] at hv ⊢
      exact h3 π hp _ (by omega) v hv
  | ks, .c v :: r, b => by
    unfold denil
    split
    · rename_i z k ks
      obtain ⟨h1, h2, h3⟩ := denil_spec ks r (b + 1)
      refine ⟨by rw [Blk.size_cons, Blk.size_cons, h1]; rfl, fun e he => ?_, fun π hp j hj v hv => ?_⟩
      · rcases List.mem_cons.1 he with rfl | he
        · simp [Blk.size, Sg.size, Sz.val]
        · exact h2 e he
      · rw [Blk.size_cons, Sg.size_c] at hj
        cases j with
        | zero =>
          have hv : v = .slice none 0 0 := hv
          subst hv
          exact ⟨0, 0, 0, 0, by simpa using hp 0 (by simp), by simp [Off.val, Sz.val], fun _ => by simp [Off.val, Sz.val], .inl ⟨rfl, none, rfl⟩⟩
        | succ j =>
          rw [Blk.get_ge (by rw [Sg.size_c]; omega)] at hv ⊢
          exact h3 π (fun i hi => by have := hp (i + 1) (by simpa using hi); rwa [show b + 1 + i = b + (i + 1) by omega]) _ (by rw [Sg.size_c]; omega) v hv
    · obtain ⟨h1, h2, h3⟩ := denil_spec (ks.drop 1) r b
      refine ⟨by rw [Blk.size_cons, Blk.size_cons, h1], h2, fun π hp j hj v hv => ?_⟩
      rw [Blk.size_cons, Sg.size_c] at hj
      cases j with
      | zero => exact hv
      | succ j =>
        rw [Blk.get_ge (by rw [Sg.size_c]; omega)] at hv ⊢
        exact h3 π hp _ (by rw [Sg.size_c]; omega) v hv
theorem nilOut_spec (P : Program) (t : TypeId) (b : Blk) (nid : Nat) : Blk.size (nilOut P t b nid).1 = Blk.size b ∧ (∀ e ∈ (nilOut P t b nid).2, Blk.size e = 0) ∧
    ∀ π : Pi, (∀ i, i < (nilOut P t b nid).2.length → π (nid + i) = some (0, 0, 0, 0)) → ∀ xs, All2 (CV.rel π) b.list xs → All2 (CV.rel π) (Blk.list (nilOut P t b nid).1) xs := by
  unfold nilOut
  split
  · obtain ⟨h1, h2, h3⟩ := denil_spec (nilKs P 30 t) b nid
    refine ⟨h1, h2, fun π hp xs hx => ?_⟩
    obtain ⟨l1, l2⟩ := list_rel hx
    refine rel_list (by rw [h1, l1]) fun j hj => ?_
    rw [h1] at hj
    obtain ⟨x, hx1, hx2⟩ := l2 j hj
    exact ⟨x, hx1, h3 π hp j hj x hx2⟩
  · exact ⟨rfl, fun e he => by simp at he, fun _ _ _ h => h⟩
omit [Amb] in
theorem cnt_appO (us vs : List Up) : cnt (us ++ vs) = cnt us + cnt vs := by simp [cnt]
omit [Amb] in
theorem cnt_newsN : ∀ (es : List Blk) (nid : Nat), cnt (newsN es nid) = es.length
  | [], _ => rfl
  | e :: es, nid => by
    have := cnt_newsN es (nid + 1)
    unfold cnt at this ⊢
    simp only [newsN, List.filter_cons, if_true, List.length_cons, this]
omit [Amb] in
theorem appGs_app (us vs : List Up) (g : Gt) : appGs (us ++ vs) g = appGs vs (appGs us g) := by simp [appGs]
theorem Rel.empties {a : Act} {w : World} : ∀ {es : List Blk} {nid : Nat} {π : Pi} {g : Gt}, (∀ e ∈ es, Blk.size e = 0) → Rel X D π g a w → X.k ≤ nid → (∀ b, nid ≤ b → b < nid + es.length → π b = none) →
    ∃ π', Ext π π' ∧ (∀ b, π' b ≠ none → π b ≠ none ∨ (nid ≤ b ∧ b < nid + es.length)) ∧ (∀ i, i < es.length → π' (nid + i) = some (0, 0, 0, 0)) ∧ Rel X D π' (appGs (newsN es nid) g) a w
  | [], nid, π, g, _, R, _, _ => ⟨π, Ext.refl _, fun _ h => .inl h, fun i hi => by simp at hi, R⟩
  | e :: es, nid, π, g, he, R, hk, hf => by
    have h0 := hf nid (Nat.le_refl _) (by simp)
    have he0 := he e (by simp)
    have hx0 := upd_ext h0 (0, 0, Blk.size e, 0)
    have R1 := (R.mono_pi hx0 (fun b hb => by simp only [upd]; rw [if_neg (by omega)])).new (k := e) (upd_self π nid (0, 0, Blk.size e, 0)) hk (by omega) (fun i _ i2 => by omega) (fun j hj => by omega)
        (fun _ _ _ _ _ _ _ _ _ i2 => by omega) (fun _ _ _ i2 => by omega)
    obtain ⟨π', e1, e2, e3, R2⟩ := Rel.empties (es := es) (nid := nid + 1) (fun e h => he e (by simp [h])) R1 (by omega) (fun b h1 h2 => by
      simp only [upd]
      rw [if_neg (by omega)]
      exact hf b (by omega) (by simp only [List.length_cons]; omega))
    refine ⟨π', hx0.trans e1, fun b hb => ?_, fun i hi => ?_, R2⟩
    · rcases e2 b hb with h | h
      · simp only [upd] at h
        by_cases eb : b = nid
        · right; simp only [List.length_cons]; omega
        · rw [if_neg eb] at h; exact .inl h
      · right; simp only [List.length_cons]; omega
    · cases i with
      | zero =>
        have := e1 nid _ (upd_self π nid (0, 0, Blk.size e, 0))
        rw [he0] at this
        simpa using this
      | succ i =>
        have := e3 i (by simpa using hi)
        rwa [show nid + 1 + i = nid + (i + 1) by omega] at this
theorem sims_newN {v : RV} {t : TypeId} (h : ∀ π a w, Rel X D π g a w → ∃ x, v.rel π x ∧ (execOp a.eval o).run P w = .ok (.value (.pointer (some ⟨w.heap.size, 0, none⟩))) (w.alloc (.cells x.cells t))) :
    Sims P o X D nid (newsN (nilOut P t v.blk nid).2 nid ++ newU o.dst (nid + (nilOut P t v.blk nid).2.length) (Blk.size (nilOut P t v.blk nid).1) (nilOut P t v.blk nid).1) g := by
  obtain ⟨n1, n2, n3⟩ := nilOut_spec P t v.blk nid
  generalize (nilOut P t v.blk nid).1 = k at n1 n2 n3
  generalize (nilOut P t v.blk nid).2 = es at n1 n2 n3
  intro π a w next Q R hk hf hd hD hn
  obtain ⟨x, hx, h1⟩ := h π a w R
  have hcn : cnt (newsN es nid ++ newU o.dst (nid + es.length) (Blk.size k) k) = es.length + 1 := by
    rw [cnt_appO, cnt_newsN]; unfold newU dstU cnt; cases o.dst <;> rfl
  rw [hcn] at hf hn
  obtain ⟨π1, e1, e2, e3, R1⟩ := R.empties n2 hk (fun b h1 h2 => hf b h1 (by omega))
  obtain ⟨hl, hc⟩ := list_rel (n3 π1 e3 _ (RV.rel_cells (RV.rel_mono e1 _ _ hx)))
  have hl' : x.cells.size = Blk.size k := by simpa using hl
  have h0 : π1 (nid + es.length) = none := by
    cases hh : π1 (nid + es.length) with
    | none => rfl
    | some p =>
      rcases e2 (nid + es.length) (by rw [hh]; simp) with h | h
      · exact absurd (hf _ (by omega) (by omega)) h
      · omega
  have R2 := R1.alloc (k := k) (cs := x.cells) (t := t) (e := x.cells.size) h0 (by omega) (by omega) (Nat.le_refl _) (fun j hj => by
    obtain ⟨y, hy, hr⟩ := hc j hj
    exact ⟨y, by simpa using hy, hr⟩)
  refine wp_val h1 (hn _ _ (upd π1 (nid + es.length) (w.heap.size, 0, Blk.size k, x.cells.size)) (e1.trans (upd_ext h0 _)) (fun b hb => ?_) ?_)
  · simp only [upd] at hb
    by_cases e : b = nid + es.length
    · subst e; exact .inr ⟨by omega, by omega⟩
    · simp only [e, if_false] at hb
      rcases e2 b hb with h | h
      · exact .inl h
      · exact .inr ⟨h.1, by omega⟩
  · have R3 := R2.dst hd (v := .r (.c (.ptr (nid + es.length) (.k 0) (Blk.size k)))) (x := .pointer (some ⟨w.heap.size, 0, none⟩)) ⟨_, _, _, _, upd_self _ _ _, rfl, by simp [Off.val]⟩
    have e : appGs (newsN es nid ++ newU o.dst (nid + es.length) (Blk.size k) k) g = appGs (dstU o.dst (.r (.c (.ptr (nid + es.length) (.k 0) (Blk.size k))))) ((Up.new (nid + es.length) k).appG (appGs (newsN es nid) g)) := by
      rw [appGs_app]; unfold newU dstU; cases o.dst <;> rfl
    rw [e]; exact R3
theorem sims_alloc {e : TypeId} {fp : List Fp} (ho : o.op = .alloc e) (h : Ran ((Ab.ofO (zeroT P e)).bind fun z => .ret (newsN (nilOut P e z.blk nid).2 nid ++ newU o.dst (nid + (nilOut P e z.blk nid).2.length) (Blk.size (nilOut P e z.blk nid).1) (nilOut P e z.blk nid).1)) g us fp) : Sims P o X D nid us g := by
  obtain ⟨z, ⟨_, h1⟩, _, h2⟩ := Ran.bind' h
  cases h2
  refine sims_newN (t := e) fun π a w R => ?_
  obtain ⟨x, hx, _, hr⟩ := run_zero h1.ofO w
  refine ⟨x, hr π, ?_⟩
  simp [execOp, ho, Instr.alloc, hx, newVar, run_newRow']
theorem sims_box {t : TypeId} {x : Operand} {fp : List Fp} (ho : o.op = .box t x) (h : Ran ((opdR x).bind fun v => .ret (newsN (nilOut P t v.blk nid).2 nid ++ newU o.dst (nid + (nilOut P t v.blk nid).2.length) (Blk.size (nilOut P t v.blk nid).1) (nilOut P t v.blk nid).1)) g us fp) : Sims P o X D nid us g := by
  obtain ⟨z, ⟨_, h1⟩, _, h2⟩ := Ran.bind' h
  cases h2
  refine sims_newN (t := t) fun π a w R => ⟨_, h1.opdR R, ?_⟩
  simp [execOp, ho, Instr.box, newVar, run_newRow']
theorem fp_cells {π : Pi} {a : Act} {w : World} (R : Rel X D π g a w) {l : List FV} {B s : Nat} (h : ∀ j f, l[j]? = some f → ∃ v, Amb.fs B (s + j) = some v ∧ f.rel v) : ∃ xs : List Value, xs.length = l.length ∧ All2 (CV.rel π) (Blk.list (fvBlk l)) xs ∧ ∀ j v, xs[j]? = some v → cl w B (s + j) = some v := by
  have cell : ∀ j f, l[j]? = some f → ∃ v, cl w B (s + j) = some v ∧ f.rel v := fun j f hj => by
    obtain ⟨v, h1, h2⟩ := h j f hj
    exact ⟨v, (R.hp.am.st _ _ _ h1).2, h2⟩
  have hsz : Blk.size (fvBlk l) = l.length := (get_cells (fun v : FV => CV.f v) l 0).1
  refine ⟨(List.range l.length).map fun j => (cl w B (s + j)).getD undef, by simp, rel_list (by simp [hsz]) fun j hj => ?_, fun j v hv => ?_⟩
  · rw [hsz] at hj
    obtain ⟨v, hv, hr⟩ := cell j _ (List.getElem?_eq_getElem hj)
    refine ⟨v, ?_, ?_⟩
    · rw [List.getElem?_map, List.getElem?_range hj]; simp [hv]
    · rw [show fvBlk l = l.map fun v => Sg.c (.f v) from rfl, (get_cells (fun v : FV => CV.f v) l j).2 _ (List.getElem?_eq_getElem hj)]; exact hr
  · have hjn : j < l.length := by
      have := (List.getElem?_eq_some_iff.1 hv).1; simpa using this
    obtain ⟨u, hu, _⟩ := cell j _ (List.getElem?_eq_getElem hjn)
    simp [hjn, hu] at hv
    rw [hu, hv]
theorem Ran.fpVal {P : Program} {π : Pi} {a : Act} {w : World} (R : Rel X D π g a w) {t : TypeId} {fl : List FV} {v : RV} {l : List Fp} (h : Ran (fpVal P t fl) g v l) {x : Value} (hx : (CV.fp fl).rel π x) :
    ∃ B s y, x = .pointer (some ⟨B, s, none⟩) ∧ (loadVar t ⟨B, s, none⟩).run P w = .ok y w ∧ v.rel π y := by
  obtain ⟨B, s, rfl, hc⟩ := hx
  obtain ⟨xs, hl, hx, hcl⟩ := fp_cells R hc
  obtain ⟨ag, ⟨_, h1⟩, _, h⟩ := Ran.bind' h
  obtain ⟨n, ⟨_, h2⟩, _, h⟩ := Ran.bind' h
  have h1 := h1.ofO
  have h2 := h2.ofO
  cases ag with
  | true =>
    obtain ⟨_, ⟨_, h3⟩, _, h⟩ := Ran.bind' h
    have h3 := beq_iff.1 h3.must
    refine ⟨B, s, .agg xs.toArray, rfl, ?_, h.typR ⟨_, rfl, hx⟩⟩
    have := run_loadCells_at (P := P) hcl
    rw [hl, ← h3] at this
    simp [loadVar, run_isAgg h1, run_sizeOf h2, this]
  | false =>
    cases fl with
    | nil => cases h
    | cons f fl =>
      match xs, hl with
      | x :: xs, _ =>
        have hcx := hcl 0 x rfl
        simp only [Nat.add_zero] at hcx
        refine ⟨B, s, x, rfl, ?_, ?_⟩
        · simp only [cl] at hcx
          simp [loadVar, run_isAgg h1, hcx]
        · have := (list_rel hx).2 0 (by rw [show fvBlk (f :: fl) = (f :: fl).map fun v => Sg.c (.f v) from rfl, (get_cells (fun v : FV => CV.f v) (f :: fl) 0).1]; simp)
          obtain ⟨y, hy, hr⟩ := this
          cases hy
          exact Ran.typR (c := .c (.f f)) h hr
theorem sims_load {t : TypeId} {x : Operand} {fp : List Fp} (ho : o.op = .load t x) (h : Ran ((opdC x).bind fun
    | .ptr b q n => (valueOf P t b q n).bind fun v => .ret (dstU o.dst (.r v))
    | .fp l => (fpVal P t l).bind fun v => .ret (dstU o.dst (.r v))
    | _ => .fail) g us fp) : Sims P o X D nid us g := by
  obtain ⟨p, ⟨_, h1⟩, _, h2⟩ := Ran.bind' h
  split at h2
  · obtain ⟨v, ⟨_, h3⟩, _, h4⟩ := Ran.bind' h2
    cases h4
    refine sims_val fun π a w R => ?_
    obtain ⟨B, s, q, e, hb, ha, hm⟩ := h1.opdC R
    obtain ⟨y, hy, hr⟩ := Ran.valueOf R h3 hb hm
    refine ⟨y, ?_, hr⟩
    simp [execOp, ho, Instr.loadAt, ha, Instr.sureAddr, hy]
  · obtain ⟨v, ⟨_, h3⟩, _, h4⟩ := Ran.bind' h2
    cases h4
    refine sims_val fun π a w R => ?_
    obtain ⟨B, s, y, ha, hy, hr⟩ := Ran.fpVal R h3 (h1.opdC R)
    refine ⟨y, ?_, hr⟩
    simp [execOp, ho, Instr.loadAt, ha, Instr.sureAddr, hy]
  · cases h2
end
end Go.Ab
