/-
  The abstract machine and the model: operations that only reckon, read, store or make a block.
-/
import Derived.Test.YtcalippagaaikaaAbM
namespace Go.Ab

theorem add_none (B o j : Nat) : (⟨B, o, none⟩ : Addr).add j = ⟨B, o + j, none⟩ := by
  unfold Addr.add; split <;> simp_all

/-! constants -/
theorem ofC_rel {v : Value} {c : CV} (h : ofC v = some c) (π : Pi) : c.rel π v := by
  unfold ofC at h
  split at h <;> first | (cases h; rfl) | cases h
theorem list_cons (v : CV) (r : Blk) : Blk.list (.c v :: r) = v :: r.list := by
  apply List.ext_getElem?
  intro i
  rw [Blk.list_get?]
  cases i with
  | zero => rw [if_pos (by rw [Blk.size_cons, Sg.size_c]; omega)]; rfl
  | succ i =>
    rw [List.getElem?_cons_succ, Blk.list_get?]
    by_cases h : i < Blk.size r
    · rw [if_pos h, if_pos (by rw [Blk.size_cons, Sg.size_c]; omega), ← Blk.get_ge_c (l := r) (j' := i) (by omega) (by omega)]
    · rw [if_neg h, if_neg (by rw [Blk.size_cons, Sg.size_c]; omega)]
theorem ofCs_rel : ∀ {vs : List Value} {cs : Blk}, ofCs vs = some cs → ∀ π, All2 (CV.rel π) cs.list vs
  | [], cs, h, π => by simp [ofCs] at h; subst h; trivial
  | v :: vs, cs, h, π => by
    simp only [ofCs] at h
    split at h
    · rename_i c cs' h1 h2
      cases h
      rw [list_cons]
      exact ⟨ofC_rel h1 π, ofCs_rel h2 π⟩
    · cases h
theorem ofR_rel {v : Value} {r : RV} (h : ofR v = some r) (π : Pi) : r.rel π v := by
  have key : (ofC v).map RV.c = some r → r.rel π v := fun h => by
    cases hc : ofC v with
    | none => rw [hc] at h; cases h
    | some l => rw [hc] at h; cases h; exact ofC_rel hc π
  cases v with
  | agg cs =>
    simp only [ofR] at h
    cases hc : ofCs cs.toList with
    | none => rw [hc] at h; cases h
    | some l => rw [hc] at h; cases h; exact ⟨_, rfl, ofCs_rel hc π⟩
  | _ => simp only [ofR] at h; exact key h

/-! readings taken apart -/
theorem Ran.ofO {α : Type} {x : Option α} {g : Gt} {a : α} {l : List Fp} (h : Ran (ofO x) g a l) : x = some a := by
  cases x with
  | none => cases h
  | some b => cases h; rfl
theorem Ran.must {x : Bool} {g : Gt} {u : Unit} {l : List Fp} (h : Ran (must x) g u l) : x = true := by
  cases h with | test h => cases x with
    | true => rfl
    | false => cases h
theorem Ran.ret' {α : Type} {b : α} {g : Gt} {a : α} {l : List Fp} (h : Ran (.ret b) g a l) : a = b := by cases h; rfl
theorem Ran.asR {v : AV} {g : Gt} {a : RV} {l : List Fp} (h : Ran (asR v) g a l) : v = .r a := by
  unfold Ab.asR at h; split at h
  · cases h; rfl
  · cases h
theorem Ran.asC {v : AV} {g : Gt} {a : CV} {l : List Fp} (h : Ran (asC v) g a l) : v = .r (.c a) := by
  unfold Ab.asC at h; split at h
  · cases h; rfl
  · cases h
theorem Ran.asI {v : AV} {g : Gt} {a : IntKind × Int} {l : List Fp} (h : Ran (asI v) g a l) : v = .r (.c (.f (.i a.1 a.2))) := by
  unfold Ab.asI at h; split at h
  · cases h; rfl
  · cases h
theorem Ran.asB {v : AV} {g : Gt} {a : Bool} {l : List Fp} (h : Ran (asB v) g a l) : v = .r (.c (.f (.b a))) := by
  unfold Ab.asB at h; split at h
  · cases h; rfl
  · cases h
theorem Ran.asP {v : AV} {g : Gt} {a : Nat × Off × Nat} {l : List Fp} (h : Ran (asP v) g a l) : v = .r (.c (.ptr a.1 a.2.1 a.2.2)) := by
  unfold Ab.asP at h; split at h
  · cases h; rfl
  · cases h
section
variable {X : Cx} {D : Nat → Prop} {π : Pi} {g : Gt} {a : Act} {w : World}
theorem Ran.opd {x : Operand} {v : AV} {l : List Fp} (h : Ran (opd x) g v l) (R : Rel X D π g a w) : v.rel π (a.eval x) := by
  cases x with
  | tmp t => cases h with | tm h => cases h; exact R.tm t
  | const c =>
    obtain ⟨r, ⟨_, h1⟩, _, h2⟩ := Ran.bind' h
    cases h2
    exact ofR_rel h1.ofO π
  | func f => cases h; exact ⟨#[], rfl, trivial⟩
  | global g => cases h
theorem Ran.opdR {x : Operand} {v : RV} {l : List Fp} (h : Ran (opdR x) g v l) (R : Rel X D π g a w) : v.rel π (a.eval x) := by
  obtain ⟨r, ⟨_, h1⟩, _, h2⟩ := Ran.bind' h
  have := h1.opd R
  rw [h2.asR] at this; exact this
theorem Ran.opdS {x : Operand} {v : RV} {l : List Fp} (h : Ran (opdS x) g v l) (R : Rel X D π g a w) : v.rel π (a.eval x) := by
  obtain ⟨r, ⟨_, h1⟩, _, h2⟩ := Ran.bind' h
  have := h1.opd R
  unfold Ab.asS at h2
  split at h2
  · cases h2; exact this
  · cases h2
    obtain ⟨arr, hx, ha⟩ := this
    obtain ⟨arr⟩ := arr
    match arr, ha with
    | [y], ⟨hy, _⟩ =>
      obtain ⟨B, s, q, e, hb, rfl, hle⟩ := hy
      exact ⟨B, s, q, e, hb, hx, hle⟩
  · cases h2
theorem Ran.opdC {x : Operand} {v : CV} {l : List Fp} (h : Ran (opdC x) g v l) (R : Rel X D π g a w) : v.rel π (a.eval x) := by
  obtain ⟨r, ⟨_, h1⟩, _, h2⟩ := Ran.bind' h
  have := h1.opd R
  rw [h2.asC] at this; exact this
theorem Ran.opdI {x : Operand} {v : IntKind × Int} {l : List Fp} (h : Ran (opdI x) g v l) (R : Rel X D π g a w) : a.eval x = .int v.1 v.2 := by
  obtain ⟨r, ⟨_, h1⟩, _, h2⟩ := Ran.bind' h
  have := h1.opd R
  rw [h2.asI] at this; exact this
theorem Ran.opdB {x : Operand} {v : Bool} {l : List Fp} (h : Ran (opdB x) g v l) (R : Rel X D π g a w) : a.eval x = .bool v := by
  obtain ⟨r, ⟨_, h1⟩, _, h2⟩ := Ran.bind' h
  have := h1.opd R
  rw [h2.asB] at this; exact this
theorem Ran.opdP {x : Operand} {v : Nat × Off × Nat} {l : List Fp} (h : Ran (opdP x) g v l) (R : Rel X D π g a w) : ∃ B s q e, π v.1 = some (B, s, q, e) ∧ a.eval x = .pointer (some ⟨B, s + v.2.1.val, none⟩) ∧ v.2.1.val + v.2.2 ≤ q := by
  obtain ⟨r, ⟨_, h1⟩, _, h2⟩ := Ran.bind' h
  have := h1.opd R
  rw [h2.asP] at this; exact this
theorem Ran.mapRd {α β : Type} {f : α → Rd β} {ρ : β → α → Prop} (hf : ∀ x v l, Ran (f x) g v l → ρ v x) : ∀ {xs : List α} {vs : List β} {l : List Fp}, Ran (mapRd f xs) g vs l → All2 ρ vs xs
  | [], vs, l, h => by cases h; trivial
  | x :: xs, vs, l, h => by
    obtain ⟨v, ⟨_, h1⟩, _, h2⟩ := Ran.bind' h
    obtain ⟨vs', ⟨_, h3⟩, _, h4⟩ := Ran.bind' h2
    cases h4
    exact ⟨hf x v _ h1, Ran.mapRd hf h3⟩

/-! types -/
theorem run_isAgg {P : Program} {t : TypeId} {v : Bool} (h : aggT P t = some v) (w : World) : (isAgg t).run P w = .ok v w := by
  unfold aggT at h
  unfold isAgg
  cases hu : P.underlying t with
  | none => rw [hu] at h; cases h
  | some d => rw [hu] at h; cases d <;> simp [run_underlying hu] <;> simp_all
theorem info_of_size {P : Program} {t : TypeId} {n : Nat} (h : sizeT P t = some n) : ∃ i, P.info? t = some i ∧ i.size = n := by
  unfold sizeT at h
  cases hi : P.info? t with
  | none => rw [hi] at h; cases h
  | some i => rw [hi] at h; exact ⟨i, rfl, by simpa using h⟩
theorem run_typeInfo {P : Program} {t : TypeId} {i : TypeInfo} (h : P.info? t = some i) (w : World) : (typeInfo t).run P w = .ok i w := by simp [typeInfo, h]
theorem run_sizeOf {P : Program} {t : TypeId} {n : Nat} (h : sizeT P t = some n) (w : World) : (sizeOf t).run P w = .ok n w := by
  obtain ⟨i, hi, rfl⟩ := info_of_size h
  simp [sizeOf, run_typeInfo hi]
theorem run_zero {P : Program} {t : TypeId} {r : RV} (h : zeroT P t = some r) (w : World) : ∃ x, (zeroValue t).run P w = .ok x w ∧ (∃ it : TypeInfo, P.info? t = some it ∧ it.zero = some x) ∧ ∀ π, r.rel π x := by
  unfold zeroT at h
  cases hi : P.info? t with
  | none => rw [hi] at h; cases h
  | some i =>
    rw [hi] at h
    simp only [Option.bind_some] at h
    cases hz : i.zero with
    | none => rw [hz] at h; cases h
    | some x =>
      rw [hz] at h
      simp only [Option.bind_some] at h
      refine ⟨x, by simp [zeroValue, run_typeInfo hi, hz], ⟨i, rfl, hz⟩, fun π => ?_⟩
      split at h
      · rename_i b hb
        simp only [Option.map_eq_some_iff] at h
        obtain ⟨b', h1, rfl⟩ := h
        obtain ⟨e1, e2⟩ := packZ_spec h1
        obtain ⟨arr, rfl, hr⟩ := ofR_rel hb π
        obtain ⟨l1, l2⟩ := list_rel hr
        exact ⟨arr, rfl, rel_list (by rw [l1, e1]) fun j hj => by rw [e2]; exact l2 j (by omega)⟩
      · exact ofR_rel h π

theorem run_newObj' {P : Program} (ob : Obj) (w : World) : (newObj ob).run P w = .ok w.heap.size (w.alloc ob) := rfl
theorem run_newRow' {P : Program} (t : TypeId) (cs : Array Value) (w : World) : (newRow t cs).run P w = .ok ⟨w.heap.size, 0, none⟩ (w.alloc (.cells cs t)) := by
  simp only [newRow, Sem.run_bind, run_newObj', Result.andThen_ok, Sem.run_pure]

/-! cells that are read -/
theorem Rel.view (R : Rel X D π g a w) {b q n : Nat} {o : Off} {v : Blk} (hz : g.z b = some q) (hs : Blk.size v = n) (hv : o.val + n ≤ q → ∀ j, j < n → Blk.get v j = g.c b (o.val + j)) {B s q' e : Nat} (hb : π b = some (B, s, q', e)) (hn : o.val + n ≤ q') :
    q' = q ∧ ∃ xs : List Value, xs.length = n ∧ All2 (CV.rel π) v.list xs ∧ ∀ j x, xs[j]? = some x → cl w B (s + o.val + j) = some x := by
  obtain ⟨B', s', e', hb', hle, _, h2⟩ := R.hp.hp b q hz
  rw [hb] at hb'; cases hb'
  have hv := hv hn
  have cell : ∀ j, j < n → ∃ x, cl w B (s + o.val + j) = some x ∧ (Blk.get v j).rel π x := fun j hj => by
    obtain ⟨x, hx, hr⟩ := h2 (o.val + j) (by omega)
    rw [← hv j hj] at hr
    exact ⟨x, by rw [show s + o.val + j = s + (o.val + j) by omega]; exact hx, hr⟩
  refine ⟨rfl, (List.range n).map fun j => (cl w B (s + o.val + j)).getD undef, by simp, rel_list (by simp [hs]) fun j hj => ?_, fun j x hx => ?_⟩
  · obtain ⟨x, hx, hr⟩ := cell j (by omega)
    refine ⟨x, ?_, hr⟩
    rw [List.getElem?_map, List.getElem?_range (by omega)]
    simp [hx]
  · have hjn : j < n := by
      have := (List.getElem?_eq_some_iff.1 hx).1; simpa using this
    obtain ⟨u, hu, _⟩ := cell j hjn
    simp [hjn, hu] at hx
    rw [hu, hx]
theorem run_loadCells_at {P : Program} {w : World} {B o : Nat} {xs : List Value} (h : ∀ j v, xs[j]? = some v → cl w B (o + j) = some v) : (loadCells ⟨B, o, none⟩ xs.length).run P w = .ok xs.toArray w :=
  run_loadCells_list w _ xs fun j v hj => by rw [add_none]; exact h j v hj
theorem Ran.cell1 {b : Blk} {v : RV} {l : List Fp} (h : Ran (cell1 b) g v l) : ∃ c, b = [.c c] ∧ v = .c c := by
  unfold Ab.cell1 at h
  split at h
  · cases h; exact ⟨_, rfl, rfl⟩
  · cases h
theorem Ran.valueU {P : Program} (R : Rel X D π g a w) {t : TypeId} {b m : Nat} {o : Off} {v : RV} {l : List Fp} (h : Ran (valueU P t b o m) g v l) {B s q' e : Nat} (hb : π b = some (B, s, q', e)) (hm : o.val + m ≤ q') :
    ∃ x, (loadVar t ⟨B, s + o.val, none⟩).run P w = .ok x w ∧ v.rel π x := by
  obtain ⟨ag, ⟨_, h1⟩, _, h⟩ := Ran.bind' h
  obtain ⟨n, ⟨_, h2⟩, _, h⟩ := Ran.bind' h
  have h1 := h1.ofO
  have h2 := h2.ofO
  cases ag with
  | true =>
    obtain ⟨_, ⟨_, h3⟩, _, h⟩ := Ran.bind' h
    have h3 := ble_iff.1 h3.must
    cases h with | vw q u hz hs hv h =>
    cases h
    simp only [Sz.val, Nat.one_mul] at hs hv
    obtain ⟨_, xs, hl, hx, hc⟩ := R.view hz hs hv hb (by omega)
    refine ⟨.agg xs.toArray, ?_, ⟨_, rfl, hx⟩⟩
    have := run_loadCells_at (P := P) hc
    rw [hl] at this
    simp [loadVar, run_isAgg h1, run_sizeOf h2, this]
  | false =>
    obtain ⟨_, ⟨_, h3⟩, _, h⟩ := Ran.bind' h
    have h3 := ble_iff.1 h3.must
    cases h with | vw q u hz hs hv h =>
    simp only [Sz.val, Nat.one_mul] at hs hv
    obtain ⟨_, xs, hl, hx, hc⟩ := R.view hz hs hv hb (by omega)
    obtain ⟨c, rfl, rfl⟩ := h.cell1
    rw [list_one] at hx
    obtain ⟨x, rfl⟩ : ∃ x, xs = [x] := by
      match xs, hl with
      | [x], _ => exact ⟨x, rfl⟩
    have hcx := hc 0 x rfl
    simp only [Nat.add_zero] at hcx
    refine ⟨x, ?_, hx.1⟩
    simp only [cl] at hcx
    simp [loadVar, run_isAgg h1, hcx]
theorem Ran.subR {b v : Blk} {o : Off} {cnt : Sz} {z : Nat} {l : List Fp} (h : Ran (subR b o cnt z) g v l) : b.sub o cnt z = some (true, v) := by
  unfold Ab.subR at h
  split at h
  · rename_i p hp
    cases h with | test h =>
    obtain ⟨gg, u⟩ := p
    cases gg with
    | true => cases h; exact hp
    | false => cases h
  · cases h
theorem Ran.partU {P : Program} {t : TypeId} {cs : Blk} {o : Off} {v : RV} {l : List Fp} (h : Ran (partU P t cs o) g v l) {n : Nat} (hn : sizeT P t = some n) (hn1 : 1 ≤ n) (hle : o.val + n ≤ Blk.size cs) {xs : Array Value} (hx : All2 (CV.rel π) cs.list xs.toList) (w : World) :
    ∃ x, (part t xs o.val).run P w = .ok x w ∧ v.rel π x := by
  obtain ⟨ag, ⟨_, h1⟩, _, h⟩ := Ran.bind' h
  obtain ⟨n', ⟨_, h2⟩, _, h⟩ := Ran.bind' h
  have h1 := h1.ofO
  have h2 := h2.ofO
  rw [hn] at h2; cases h2
  obtain ⟨l1, l2⟩ := list_rel hx
  cases ag with
  | true =>
    obtain ⟨u, ⟨_, h3⟩, _, h⟩ := Ran.bind' h
    cases h
    obtain ⟨e1, e2⟩ := Blk.sub_spec h3.subR
    simp only [Sz.val, Nat.one_mul] at e1 e2
    have e2 := e2 hle
    refine ⟨.agg (xs.extract o.val (o.val + n)), by simp [part, run_isAgg h1, run_sizeOf hn], ⟨_, rfl, ?_⟩⟩
    have : (xs.extract o.val (o.val + n)).toList = (xs.toList.drop o.val).take n := by
      rw [Array.toList_extract]; simp [List.extract]
    rw [this]
    refine rel_list (by rw [List.length_take, List.length_drop, l1]; omega) fun j hj => ?_
    obtain ⟨x, hx1, hx2⟩ := l2 (o.val + j) (by omega)
    refine ⟨x, by rw [List.getElem?_take, if_pos (by omega), List.getElem?_drop]; exact hx1, ?_⟩
    rw [e2 j (by omega)]; exact hx2
  | false =>
    obtain ⟨u, ⟨_, h3⟩, _, h⟩ := Ran.bind' h
    obtain ⟨c, rfl, rfl⟩ := h.cell1
    obtain ⟨_, e2⟩ := Blk.sub_spec h3.subR
    have e2 := e2 (by simp only [Sz.val]; omega) 0 (by simp [Sz.val])
    obtain ⟨x, hx1, hx2⟩ := l2 o.val (by omega)
    refine ⟨x, ?_, ?_⟩
    · have : xs[o.val]? = some x := by simpa using hx1
      simp [part, run_isAgg h1, this]
    · rw [Nat.add_zero] at e2
      rw [← e2] at hx2; exact hx2
theorem Ran.typC {P : Program} {t : TypeId} {c c' : CV} {l : List Fp} (h : Ran (typC P t c) g c' l) : c' = c := by
  unfold Ab.typC at h
  generalize P.underlying t = u at h
  split at h
  · cases h with | @test x _ _ _ _ h =>
    cases hx : FV.isB _ <;> rw [hx] at h <;> cases h
    rename_i x; cases x <;> first | rfl | cases hx
  · cases h with | @test x _ _ _ _ h =>
    cases hx : FV.isI _ _ <;> rw [hx] at h <;> cases h
    rename_i k x; cases x <;> first | (cases hx; done) | skip
    simp only [FV.isI, decide_eq_true_eq] at hx
    subst hx; rfl
  · cases h with | @test x _ _ _ _ h =>
    cases hx : FV.isS _ <;> rw [hx] at h <;> cases h
    rename_i x; cases x <;> first | rfl | cases hx
  · cases h; rfl
theorem Ran.typR {P : Program} {t : TypeId} {c c' : RV} {l : List Fp} (h : Ran (typR P t c) g c' l) : c' = c := by
  cases c with
  | c c =>
    obtain ⟨v, ⟨_, h1⟩, _, h⟩ := Ran.bind' h
    cases h
    rw [h1.typC]
  | agg cs => cases h; rfl
theorem Ran.valueOf {P : Program} (R : Rel X D π g a w) {t : TypeId} {b m : Nat} {o : Off} {v : RV} {l : List Fp} (h : Ran (valueOf P t b o m) g v l) {B s q' e : Nat} (hb : π b = some (B, s, q', e)) (hm : o.val + m ≤ q') :
    ∃ x, (loadVar t ⟨B, s + o.val, none⟩).run P w = .ok x w ∧ v.rel π x := by
  obtain ⟨u, ⟨_, h1⟩, _, h⟩ := Ran.bind' h
  rw [h.typR]
  exact Ran.valueU R h1 hb hm
theorem Ran.partOf {P : Program} {t : TypeId} {cs : Blk} {o : Off} {v : RV} {l : List Fp} (h : Ran (partOf P t cs o) g v l) {n : Nat} (hn : sizeT P t = some n) (hn1 : 1 ≤ n) (hle : o.val + n ≤ Blk.size cs) {xs : Array Value} (hx : All2 (CV.rel π) cs.list xs.toList) (w : World) :
    ∃ x, (part t xs o.val).run P w = .ok x w ∧ v.rel π x := by
  obtain ⟨u, ⟨_, h1⟩, _, h⟩ := Ran.bind' h
  rw [h.typR]
  exact Ran.partU h1 hn hn1 hle hx w
theorem Ran.partK {P : Program} {t : TypeId} {cs : Blk} {c : Nat} {v : RV} {l : List Fp} (h : Ran (partK P t cs c) g v l) {xs : Array Value} (hx : All2 (CV.rel π) cs.list xs.toList) (w : World) :
    ∃ x, (part t xs c).run P w = .ok x w ∧ v.rel π x := by
  obtain ⟨n, ⟨_, h1⟩, _, h⟩ := Ran.bind' h
  obtain ⟨_, ⟨_, h2⟩, _, h⟩ := Ran.bind' h
  have h2 := h2.must
  simp only [Bool.and_eq_true, ble_iff] at h2
  exact h.partOf h1.ofO h2.1 h2.2 hx w
end

/-! one operation -/
def cnt (us : List Up) : Nat := (us.filter fun | .new _ _ => true | _ => false).length
def Up.perm (k : Nat) (D : Nat → Prop) : Up → Prop
  | .c b _ _ | .kill b => b < k → D b
  | _ => True
/-- what is to be shown of an operation -/
def Sims (P : Program) (o : Oper) (X : Cx) (D : Nat → Prop) (nid : Nat) (us : List Up) (g : Gt) : Prop :=
  ∀ π a w (next : Act → World → Prop) (Q : Exit → Act → World → Prop), Rel X D π g a w → X.k ≤ nid → (∀ b, nid ≤ b → b < nid + cnt us → π b = none) → (∀ d, o.dst = some d → d < X.N) → (∀ u ∈ us, u.perm X.k D) →
    (∀ a' w' π', Ext π π' → (∀ b, π' b ≠ none → π b ≠ none ∨ (nid ≤ b ∧ b < nid + cnt us)) → Rel X D π' (appGs us g) a' w' → next a' w') → o.wp P a w next Q
section
variable {P : Program} {o : Oper} {X : Cx} {D : Nat → Prop} {nid : Nat} {us : List Up} {g : Gt}
theorem wp_val {a : Act} {w w' : World} {x : Value} {next : Act → World → Prop} {Q : Exit → Act → World → Prop} (h : (execOp a.eval o).run P w = .ok (.value x) w') (hn : next (a.put o.dst x) w') : o.wp P a w next Q := by
  unfold Oper.wp; rw [h]; exact hn
theorem wp_skp {a : Act} {w w' : World} {next : Act → World → Prop} {Q : Exit → Act → World → Prop} (h : (execOp a.eval o).run P w = .ok .skip w') (hn : next (a.put o.dst undef) w') : o.wp P a w next Q := by
  unfold Oper.wp; rw [h]; exact hn
/-- an operation that only yields a value -/
theorem sims_val {v : AV} (h : ∀ π a w, Rel X D π g a w → ∃ x, (execOp a.eval o).run P w = .ok (.value x) w ∧ v.rel π x) : Sims P o X D nid (dstU o.dst v) g := by
  intro π a w next Q R hk hf hd hD hn
  obtain ⟨x, h1, h2⟩ := h π a w R
  exact wp_val h1 (hn _ _ π (Ext.refl _) (fun b h => .inl h) (R.dst hd h2))
theorem undef_rel (π : Pi) : udf.rel π undef := ⟨#[], rfl, trivial⟩

theorem sims_move {x : Operand} {fp : List Fp} (ho : o.op = .move x ∨ o.op = .assign x) (h : Ran ((opd x).bind fun v => .ret (dstU o.dst v)) g us fp) : Sims P o X D nid us g := by
  obtain ⟨v, ⟨_, h1⟩, _, h2⟩ := Ran.bind' h
  cases h2
  refine sims_val fun π a w R => ⟨a.eval x, ?_, h1.opd R⟩
  rcases ho with ho | ho <;> simp [execOp, ho]
theorem sims_pick {c x y : Operand} {fp : List Fp} (ho : o.op = .pick c x y) (h : Ran ((opdB c).bind fun z => .test z fun | true => (opd x).bind fun v => .ret (dstU o.dst v) | false => (opd y).bind fun v => .ret (dstU o.dst v)) g us fp) : Sims P o X D nid us g := by
  obtain ⟨z, ⟨_, h1⟩, _, h2⟩ := Ran.bind' h
  cases h2 with | test h2 =>
  cases z with
  | true =>
    obtain ⟨v, ⟨_, h3⟩, _, h4⟩ := Ran.bind' h2
    cases h4
    refine sims_val fun π a w R => ⟨a.eval x, ?_, h3.opd R⟩
    simp [execOp, ho, h1.opdB R, asBool]
  | false =>
    obtain ⟨v, ⟨_, h3⟩, _, h4⟩ := Ran.bind' h2
    cases h4
    refine sims_val fun π a w R => ⟨a.eval y, ?_, h3.opd R⟩
    simp [execOp, ho, h1.opdB R, asBool]
/-- a new variable -/
theorem sims_new {v : RV} {t : TypeId} (h : ∀ π a w, Rel X D π g a w → ∃ x, v.rel π x ∧ (execOp a.eval o).run P w = .ok (.value (.pointer (some ⟨w.heap.size, 0, none⟩))) (w.alloc (.cells x.cells t))) :
    Sims P o X D nid (newU o.dst nid (Blk.size v.blk) v.blk) g := by
  intro π a w next Q R hk hf hd hD hn
  obtain ⟨x, hx, h1⟩ := h π a w R
  obtain ⟨hl, hc⟩ := list_rel (RV.rel_cells hx)
  have hl' : x.cells.size = Blk.size v.blk := by simpa using hl
  have hcn : cnt (newU o.dst nid (Blk.size v.blk) v.blk) = 1 := by unfold newU dstU cnt; cases o.dst <;> rfl
  have h0 := hf nid (Nat.le_refl _) (by omega)
  have R1 := R.alloc (k := v.blk) (cs := x.cells) (t := t) (e := x.cells.size) h0 hk (by omega) (Nat.le_refl _) (fun j hj => by
    obtain ⟨y, hy, hr⟩ := hc j hj
    exact ⟨y, by simpa using hy, hr⟩)
  refine wp_val h1 (hn _ _ (upd π nid (w.heap.size, 0, Blk.size v.blk, x.cells.size)) (upd_ext h0 _) (fun b hb => ?_) ?_)
  · simp only [upd] at hb
    by_cases e : b = nid
    · subst e; exact .inr ⟨Nat.le_refl _, by omega⟩
    · simp only [e, if_false] at hb; exact .inl hb
  · have R2 := R1.dst hd (v := .r (.c (.ptr nid (.k 0) (Blk.size v.blk)))) (x := .pointer (some ⟨w.heap.size, 0, none⟩)) ⟨_, _, _, _, upd_self _ _ _, rfl, by simp [Off.val]⟩
    have e : appGs (newU o.dst nid (Blk.size v.blk) v.blk) g = appGs (dstU o.dst (.r (.c (.ptr nid (.k 0) (Blk.size v.blk))))) ((Up.new nid v.blk).appG g) := by
      unfold newU dstU; cases o.dst <;> rfl
    rw [e]; exact R2
theorem sims_alloc {e : TypeId} {fp : List Fp} (ho : o.op = .alloc e) (h : Ran ((Ab.ofO (zeroT P e)).bind fun z => .ret (newU o.dst nid (Blk.size z.blk) z.blk)) g us fp) : Sims P o X D nid us g := by
  obtain ⟨z, ⟨_, h1⟩, _, h2⟩ := Ran.bind' h
  cases h2
  refine sims_new (t := e) fun π a w R => ?_
  obtain ⟨x, hx, _, hr⟩ := run_zero h1.ofO w
  refine ⟨x, hr π, ?_⟩
  simp [execOp, ho, Instr.alloc, hx, newVar, run_newRow']
theorem sims_box {t : TypeId} {x : Operand} {fp : List Fp} (ho : o.op = .box t x) (h : Ran ((opdR x).bind fun v => .ret (newU o.dst nid (Blk.size v.blk) v.blk)) g us fp) : Sims P o X D nid us g := by
  obtain ⟨z, ⟨_, h1⟩, _, h2⟩ := Ran.bind' h
  cases h2
  refine sims_new (t := t) fun π a w R => ⟨_, h1.opdR R, ?_⟩
  simp [execOp, ho, Instr.box, newVar, run_newRow']
theorem sims_load {t : TypeId} {x : Operand} {fp : List Fp} (ho : o.op = .load t x) (h : Ran ((opdP x).bind fun p => (valueOf P t p.1 p.2.1 p.2.2).bind fun v => .ret (dstU o.dst (.r v))) g us fp) : Sims P o X D nid us g := by
  obtain ⟨p, ⟨_, h1⟩, _, h2⟩ := Ran.bind' h
  obtain ⟨v, ⟨_, h3⟩, _, h4⟩ := Ran.bind' h2
  cases h4
  refine sims_val fun π a w R => ?_
  obtain ⟨B, s, q, e, hb, ha, hm⟩ := h1.opdP R
  obtain ⟨y, hy, hr⟩ := Ran.valueOf R h3 hb hm
  refine ⟨y, ?_, hr⟩
  simp [execOp, ho, Instr.loadAt, ha, Instr.sureAddr, hy]
end
end Go.Ab
