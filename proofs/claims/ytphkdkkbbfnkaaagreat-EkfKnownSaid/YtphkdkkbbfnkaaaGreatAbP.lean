/-
  The abstract machine and the model: stores, arithmetic, addresses, parts, what is built.
-/
import Derived.Test.YtphkdkkbbfnkaaaGreatAbO
import Derived.Laws.StructEq
import Derived.Laws.Tables
namespace Go.Ab
variable [Amb]
section
variable {P : Program} {o : Oper} {X : Cx} {D : Nat → Prop} {nid : Nat} {us : List Up} {g : Gt}

omit [Amb] in
theorem dstU_z (dst : Option Tmp) (v : AV) (g : Gt) : (appGs (dstU dst v) g).z = g.z := by cases dst <;> rfl
omit [Amb] in
theorem appGs_append (us vs : List Up) (g : Gt) : appGs (us ++ vs) g = appGs vs (appGs us g) := by simp [appGs]
theorem sims_store {t : TypeId} {x y : Operand} {fp : List Fp} (ho : o.op = .store t x y)
    (h : Ran ((opdP x).bind fun p => (opdS y).bind fun v => (Ab.ofO (sizeT P t)).bind fun n => (Ab.must (Nat.beq (Blk.size v.blk) n && Nat.ble n p.2.2)).bind fun _ => .sz p.1 <| .ret (newsN (nilOut P t v.blk nid).2 nid ++ (dstU o.dst udf ++ [.c p.1 p.2.1 (nilOut P t v.blk nid).1]))) g us fp) : Sims P o X D nid us g := by
  obtain ⟨p, ⟨_, h1⟩, _, h⟩ := Ran.bind' h
  obtain ⟨v, ⟨_, h2⟩, _, h⟩ := Ran.bind' h
  obtain ⟨n, ⟨_, h3⟩, _, h⟩ := Ran.bind' h
  obtain ⟨_, ⟨_, h4⟩, _, h⟩ := Ran.bind' h
  cases h with | sz q hz h =>
  cases h
  have h4 := h4.must
  simp only [Bool.and_eq_true, beq_iff, ble_iff] at h4
  obtain ⟨h4, h5⟩ := h4
  obtain ⟨n1, n2, n3⟩ := nilOut_spec P t v.blk nid
  generalize (nilOut P t v.blk nid).1 = k at n1 n2 n3
  generalize (nilOut P t v.blk nid).2 = es at n1 n2 n3
  intro π a w next Q R hk hf hd hD hn
  obtain ⟨B, s, q', e, hb, ha, hm⟩ := h1.opdP R
  have hc := RV.rel_cells (h2.opdS R)
  have hl := (list_rel hc).1
  obtain ⟨B', s', e', hb', hle, k1, k2⟩ := R.hp.hp _ _ hz
  rw [hb] at hb'; cases hb'
  have hcn : cnt (newsN es nid ++ (dstU o.dst udf ++ [.c p.1 p.2.1 k])) = es.length := by
    rw [cnt_appO, cnt_newsN]; unfold dstU cnt; cases o.dst <;> rfl
  rw [hcn] at hf hn
  obtain ⟨π1, e1, e2, e3, R1⟩ := R.empties n2 hk hf
  have hc1 := n3 π1 e3 _ (hc.imp (CV.rel_mono e1))
  have hz1 : (appGs (newsN es nid) g).z p.1 = some q := by
    have key : ∀ (es : List Blk) (nid : Nat) (g : Gt), g.z p.1 = some q → (∀ b, nid ≤ b → b < nid + es.length → b ≠ p.1) → (appGs (newsN es nid) g).z p.1 = some q := by
      intro es
      induction es with
      | nil => intro nid g h _; exact h
      | cons x es ih =>
        intro nid g h hne
        refine ih (nid + 1) _ ?_ (fun b h1 h2 => hne b (by omega) (by simp only [List.length_cons]; omega))
        have := hne nid (Nat.le_refl _) (by simp)
        simp only [Up.appG]
        rw [if_neg (by omega)]; exact h
    refine key es nid g hz fun b h1 h2 hbp => ?_
    have := hf b h1 h2
    rw [hbp, hb] at this; cases this
  have R2 := R1.set hz1 (e1 _ _ hb) (o := p.2.1) (vs := k) (by rw [n1]; omega) hc1 (hD (.c p.1 p.2.1 k) (by simp))
  have R3 := R2.dst hd (undef_rel π1)
  refine wp_skp (w' := w.setCells B (s + p.2.1.val) (a.eval y).cells.toList) ?_ (hn _ _ π1 e1 e2 ?_)
  · have hst := run_storeCells_cells (P := P) B (s + p.2.1.val) (a.eval y).cells.toList 0 w
      (fun j hj => (k1 (s + p.2.1.val + 0 + j) (by omega) (by omega)).1) (fun j hj => (k1 (s + p.2.1.val + 0 + j) (by omega) (by omega)).2)
      (fun x hx => by
        obtain ⟨i, hi⟩ := List.mem_iff_getElem?.1 hx
        obtain ⟨c, _, hr⟩ := hc.get' hi
        exact CV.rel_one hr)
    have hsz : (a.eval y).cells.size = n := by rw [← Array.length_toList]; omega
    simp [execOp, ho, Instr.storeAt, ha, Instr.sureAddr, storeVar, run_sizeOf h3.ofO, hsz, hst]
  · have e1 : appGs (newsN es nid ++ (dstU o.dst udf ++ [.c p.1 p.2.1 k])) g = appGs (dstU o.dst udf) ((Up.c p.1 p.2.1 k).appG (appGs (newsN es nid) g)) := by
      rw [appGs_app]; cases o.dst <;> rfl
    rw [e1]; exact R3

theorem sims_nilCheck {x : Operand} {fp : List Fp} (ho : o.op = .nilCheck x)
    (h : Ran ((opdC x).bind fun | .ptr b q n => .ret (dstU o.dst (.r (.c (.ptr b q n)))) | .fp l => .ret (dstU o.dst (.r (.c (.fp l)))) | _ => .fail) g us fp) : Sims P o X D nid us g := by
  obtain ⟨v, ⟨_, h1⟩, _, h⟩ := Ran.bind' h
  split at h
  · rename_i b q n
    cases h
    refine sims_val fun π a w R => ?_
    obtain ⟨B, s, q', e, hb, ha, hm⟩ := h1.opdC R
    refine ⟨_, ?_, B, s, q', e, hb, rfl, hm⟩
    simp [execOp, ho, ha]
  · cases h
    refine sims_val fun π a w R => ?_
    obtain ⟨B, s, ha, hc⟩ := h1.opdC R
    refine ⟨_, ?_, B, s, rfl, hc⟩
    simp [execOp, ho, ha]
  · cases h

/-! arithmetic -/
theorem intV_run {op : BinOp} {k : IntKind} {x y : Int} {v : FV} {fp : List Fp} (hs : op ≠ .shl ∧ op ≠ .shr) (h : Ran (intV op k x y) g v fp) (t : TypeId) (w : World) :
    ∃ z, (binOp op t (.int k x) (.int k y)).run P w = .ok z w ∧ v.rel z := by
  unfold intV at h
  cases op <;> simp only [] at h
  case shl => exact absurd rfl hs.1
  case shr => exact absurd rfl hs.2
  case quo =>
    obtain ⟨_, ⟨_, h1⟩, _, h⟩ := Ran.bind' h
    cases h
    have h1 : ¬ y = 0 := by simpa using h1.must
    exact ⟨_, by simp [binOp, Op.intDiv, h1], rfl⟩
  case rem =>
    obtain ⟨_, ⟨_, h1⟩, _, h⟩ := Ran.bind' h
    cases h
    have h1 : ¬ y = 0 := by simpa using h1.must
    exact ⟨_, by simp [binOp, Op.intDiv, h1], rfl⟩
  case and => obtain ⟨n, ⟨_, h1⟩, _, h⟩ := Ran.bind' h; cases h; have h1 := h1.ofO; simp only [bitsV, Option.some.injEq] at h1; subst h1; exact ⟨_, by simp [binOp, Op.intBits], rfl⟩
  case or => obtain ⟨n, ⟨_, h1⟩, _, h⟩ := Ran.bind' h; cases h; have h1 := h1.ofO; simp only [bitsV, Option.some.injEq] at h1; subst h1; exact ⟨_, by simp [binOp, Op.intBits], rfl⟩
  case xor => obtain ⟨n, ⟨_, h1⟩, _, h⟩ := Ran.bind' h; cases h; have h1 := h1.ofO; simp only [bitsV, Option.some.injEq] at h1; subst h1; exact ⟨_, by simp [binOp, Op.intBits], rfl⟩
  case andNot => obtain ⟨n, ⟨_, h1⟩, _, h⟩ := Ran.bind' h; cases h; have h1 := h1.ofO; simp only [bitsV, Option.some.injEq] at h1; subst h1; exact ⟨_, by simp [binOp, Op.intBits], rfl⟩
  all_goals (cases h; exact ⟨_, by simp [binOp, Op.intArith, Op.intCmp], rfl⟩)
theorem shiftV_run {op : BinOp} {k k' : IntKind} {x y : Int} {v : FV} {fp : List Fp} (h : Ran (shiftV op k x y) g v fp) (t : TypeId) (w : World) :
    ∃ z, (binOp op t (.int k x) (.int k' y)).run P w = .ok z w ∧ v.rel z := by
  obtain ⟨_, ⟨_, h1⟩, _, h⟩ := Ran.bind' h
  have h1 : ¬ y < 0 := by simpa using h1.must
  cases op <;> simp only [] at h
  case shl => cases h; exact ⟨_, by simp only [binOp, Op.shift, h1, if_false]; exact Sem.run_pure .., rfl⟩
  case shr => cases h; exact ⟨_, by simp only [binOp, Op.shift, h1, if_false]; exact Sem.run_pure .., rfl⟩
  all_goals cases h
omit [Amb] in
theorem eqGuard_int (op : BinOp) (t : TypeId) (x y : Operand) (k k' : IntKind) (m n : Int) (w : World) : (eqGuard op t x y (.int k m) (.int k' n)).run P w = .ok () w := by
  cases op <;> simp [eqGuard]
omit [Amb] in
theorem eqGuard_bool (op : BinOp) (t : TypeId) (x y : Operand) (m n : Bool) (w : World) : (eqGuard op t x y (.bool m) (.bool n)).run P w = .ok () w := by
  cases op <;> simp [eqGuard]
omit [Amb] in
theorem eqGuard_ptr (op : BinOp) (t : TypeId) (x y : Operand) (m n : Option Addr) (w : World) : (eqGuard op t x y (.pointer m) (.pointer n)).run P w = .ok () w := by
  cases op <;> simp [eqGuard]
omit [Amb] in
theorem eql_run {t : TypeId} {x y : Value} {r : Bool} {w : World} (hi : (∀ k n, x ≠ .int k n)) (hs : ∀ s, x ≠ .string s) (hf : ∀ k n, x ≠ .float k n) (hc : ∀ k n m, x ≠ .complex k n m) (h : (Op.equal t x y).run P w = .ok r w) : (binOp .eql t x y).run P w = .ok (.bool r) w ∧ (binOp .neq t x y).run P w = .ok (.bool (!r)) w := by
  cases x <;> first
    | exact absurd rfl (hi _ _)
    | exact absurd rfl (hs _)
    | exact absurd rfl (hf _ _)
    | exact absurd rfl (hc _ _ _)
    | (simp only [binOp]; simp [h])

theorem binV_run {op : BinOp} {t : TypeId} {x y : RV} {v : RV} {fp : List Fp} (h : Ran (binV P op t x y) g v fp) (heq : ∀ r l, Ran (eqV P t x y) g r l → ∀ π a b w, x.rel π a → y.rel π b → (∀ (op : BinOp) (p q : Operand), (eqGuard op t p q a b).run P w = .ok () w) ∧ (binOp .eql t a b).run P w = .ok (.bool r) w ∧ (binOp .neq t a b).run P w = .ok (.bool (!r)) w)
    {π : Pi} {a b : Value} (hx : x.rel π a) (hy : y.rel π b) (p q : Operand) (w : World) :
    ∃ z, (do eqGuard op t p q a b; binOp op t a b : Sem Value).run P w = .ok z w ∧ v.rel π z := by
  unfold binV at h
  split at h
  · rename_i k m k' n
    have ha : a = .int k m := hx
    have hb : b = .int k' n := hy
    subst ha hb
    split at h
    · obtain ⟨r, ⟨_, h1⟩, _, h⟩ := Ran.bind' h
      cases h
      obtain ⟨z, hz, hr⟩ := shiftV_run (P := P) (k' := k') h1 t w
      exact ⟨z, by simp [eqGuard_int, hz], hr⟩
    · obtain ⟨r, ⟨_, h1⟩, _, h⟩ := Ran.bind' h
      cases h
      obtain ⟨z, hz, hr⟩ := shiftV_run (P := P) (k' := k') h1 t w
      exact ⟨z, by simp [eqGuard_int, hz], hr⟩
    · rename_i n1 n2
      split at h
      · rename_i hk
        subst hk
        obtain ⟨r, ⟨_, h1⟩, _, h⟩ := Ran.bind' h
        cases h
        obtain ⟨z, hz, hr⟩ := intV_run (P := P) ⟨fun e => n1 e, fun e => n2 e⟩ h1 t w
        exact ⟨z, by simp [eqGuard_int, hz], hr⟩
      · cases h
  · split at h
    · obtain ⟨r, ⟨l1, h1⟩, _, h⟩ := Ran.bind' h
      cases h
      obtain ⟨e1, e2, _⟩ := heq r _ h1 π a b w hx hy
      exact ⟨.bool r, by simp [e1, e2], rfl⟩
    · obtain ⟨r, ⟨l1, h1⟩, _, h⟩ := Ran.bind' h
      cases h
      obtain ⟨e1, _, e2⟩ := heq r _ h1 π a b w hx hy
      exact ⟨.bool (!r), by simp [e1, e2], rfl⟩
    · cases h
theorem sims_unOp {op : UnOp} {t : TypeId} {x : Operand} {fp : List Fp} (ho : o.op = .unOp op t x)
    (h : Ran ((opdR x).bind fun a => (unV op a).bind fun v => .ret (dstU o.dst (.r v))) g us fp) : Sims P o X D nid us g := by
  obtain ⟨r, ⟨_, h1⟩, _, h⟩ := Ran.bind' h
  obtain ⟨v, ⟨_, h2⟩, _, h⟩ := Ran.bind' h
  cases h
  refine sims_val fun π a w R => ?_
  have ha := h1.opdR R
  unfold unV at h2
  split at h2
  · have ha : a.eval x = _ := ha
    cases h2
    exact ⟨_, by simp [execOp, ho, ha, Op.unary, Op.intArith], rfl⟩
  · have ha : a.eval x = _ := ha
    obtain ⟨n, ⟨_, h3⟩, _, h2⟩ := Ran.bind' h2
    cases h2
    have h3 := h3.ofO
    simp only [bitsV, Option.some.injEq] at h3
    subst h3
    exact ⟨_, by simp [execOp, ho, ha, Op.unary, Op.intBits], rfl⟩
  · have ha : a.eval x = _ := ha
    cases h2
    exact ⟨_, by simp [execOp, ho, ha, Op.unary], rfl⟩
  · cases h2
theorem sims_convert {s d : TypeId} {x : Operand} {fp : List Fp} (ho : o.op = .convert s d x)
    (h : Ran ((opdR x).bind fun a => (convV P s d a).bind fun v => .ret (dstU o.dst (.r v))) g us fp) : Sims P o X D nid us g := by
  obtain ⟨r, ⟨_, h1⟩, _, h⟩ := Ran.bind' h
  obtain ⟨v, ⟨_, h2⟩, _, h⟩ := Ran.bind' h
  cases h
  refine sims_val fun π a w R => ?_
  have ha := h1.opdR R
  unfold convV at h2
  split at h2
  · rename_i d1 k k' n hs hd
    have ha : a.eval x = _ := ha
    cases h2
    exact ⟨_, by simp [execOp, ho, ha, convert, run_underlying hs, run_underlying hd, Conv.intToInt], rfl⟩
  · cases h2
theorem sims_arrayPtr {t : TypeId} {x : Operand} {fp : List Fp} (ho : o.op = .sliceToArrayPointer t x)
    (h : Ran ((opdC x).bind fun c => match P.underlying t, c with
      | some (.array n _), .sl b q len z _ => (Ab.must (Nat.ble 1 n && Nat.ble n len.val)).bind fun _ => (Rd.ret (CV.ptr b q (n * z))).bind fun v => .ret (dstU o.dst (.r (.c v)))
      | _, _ => .fail) g us fp) : Sims P o X D nid us g := by
  obtain ⟨r, ⟨_, h1⟩, _, h⟩ := Ran.bind' h
  split at h
  · rename_i n e b q len z own hu
    obtain ⟨_, ⟨_, h2⟩, _, h⟩ := Ran.bind' h
    cases h
    have h2 := h2.must
    simp only [Bool.and_eq_true, Nat.ble_eq] at h2
    refine sims_val fun π a w R => ?_
    obtain ⟨B, s, q', e, hb, hm, _, ⟨h0, _⟩ | ⟨cap, hcap, ha, _⟩⟩ := h1.opdC R
    · omega
    · exact ⟨_, by simp [execOp, ho, ha, Instr.arrayAt, run_underlying hu]; intro hlt; omega, B, s, q', e, hb, rfl, by
        have := Nat.mul_le_mul_right z h2.2
        omega⟩
  · cases h
omit [Amb] in
theorem all2_map {α β γ : Type} {R : α → γ → Prop} {f : β → γ} : ∀ {l : List α} {m : List β}, All2 (fun a b => R a (f b)) l m → All2 R l (m.map f)
  | [], [], _ => trivial
  | _ :: _, _ :: _, ⟨a, b⟩ => ⟨a, all2_map b⟩
  | [], _ :: _, h => h.elim
  | _ :: _, [], h => h.elim
theorem sims_makeFunc {f : FuncId} {fs caps : Array Operand} {fp : List Fp} (ho : o.op = .makeFunc (.func f) fs caps)
    (h : Ran (match fs.toList with
      | [] => (Ab.mapRd Ab.opdR caps.toList).bind fun l => .ret (dstU o.dst (.fn f l))
      | _ => .fail) g us fp) : Sims P o X D nid us g := by
  split at h
  · rename_i hfs
    obtain ⟨r, ⟨_, h1⟩, _, h⟩ := Ran.bind' h
    cases h
    refine sims_val fun π a w R => ⟨.func (.func f) #[] (caps.map a.eval), ?_, _, rfl, ?_⟩
    · have : fs = #[] := by
        rw [← Array.toList_inj]; exact hfs
      simp [execOp, ho, this, Instr.makeFunc]
    · have := Ran.mapRd (ρ := fun v x => v.rel π (a.eval x)) (fun x v l hx => Ran.opdR hx R) h1
      rw [Array.toList_map]
      exact all2_map this
  · cases h
theorem sims_field {t : TypeId} {x : Operand} {i : Nat} {fp : List Fp} (ho : o.op = .field t x i)
    (h : Ran ((opdR x).bind fun | .agg cs => (Ab.ofO (fieldT P t i)).bind fun f => (partK P f.type cs f.offset).bind fun v => .ret (dstU o.dst (.r v)) | _ => .fail) g us fp) : Sims P o X D nid us g := by
  obtain ⟨r, ⟨_, h1⟩, _, h⟩ := Ran.bind' h
  split at h
  · rename_i cs
    obtain ⟨f, ⟨_, h2⟩, _, h⟩ := Ran.bind' h
    obtain ⟨v, ⟨_, h3⟩, _, h⟩ := Ran.bind' h
    cases h
    refine sims_val fun π a w R => ?_
    obtain ⟨arr, ha, hx⟩ := h1.opdR R
    obtain ⟨y, hy, hr⟩ := h3.partK hx w
    refine ⟨y, ?_, hr⟩
    have h2 := h2.ofO
    unfold fieldT at h2
    split at h2
    · rename_i fs hu
      simp [execOp, ho, Instr.field, run_underlying hu, h2, ha, asAgg, hy]
    · cases h2
  · cases h
omit [Amb] in
theorem Ran.selL {i : Int} : ∀ {n j : Nat} {l : List Fp}, Ran (selL i n) g j l → 0 ≤ i → i < (n : Int) + 1 → j = i.toNat
  | 0, j, l, h, h1, h2 => by cases h; omega
  | n + 1, j, l, h, h1, h2 => by
    cases h with | test h =>
    cases hx : i == ((n + 1 : Nat) : Int) with
    | true =>
      rw [hx] at h; cases h
      have := eq_of_beq hx
      omega
    | false =>
      rw [hx] at h
      have := ne_of_beq_false hx
      exact Ran.selL h h1 (by omega)
omit [Amb] in
theorem Off.add_val (o : Off) (d : Nat) : (o.add d).val = o.val + d := by
  cases o <;> simp only [Off.add, Off.val] <;> omega
omit [Amb] in
theorem Off.idx_val (o : Off) (j z n : Nat) : (o.idx j z n).val = o.val + j * z := by
  cases o with
  | k c => rfl
  | x c i y =>
    simp only [Off.idx]
    split
    · rename_i hy
      rw [beq_iff] at hy
      subst hy
      simp only [Off.val]
      rw [Nat.add_mul, ← Nat.mul_assoc]; omega
    · simp only [Off.val]; omega
omit [Amb] in
theorem Off.idxS_val (o : Off) (j z : Nat) : (o.idxS j z).val = o.val + j * z := by
  cases o with
  | k c => rfl
  | x c i y =>
    simp only [Off.idxS]
    split
    · rename_i hy
      rw [beq_iff] at hy
      subst hy
      simp only [Off.val]
      rw [Nat.add_mul]; omega
    · simp only [Off.val]; omega
omit [Amb] in
theorem Ran.sel {o : Off} {i : Int} {n : Nat} {e : TypeId} {z : Nat} {o' : Off} {l : List Fp} (h : Ran (sel P o i n e z) g o' l) (h1 : 0 ≤ i) (h2 : i < (n : Int)) : o'.val = o.val + i.toNat * z := by
  unfold Ab.sel at h
  split at h
  · cases h; exact Off.idx_val ..
  · split at h
    · obtain ⟨j, ⟨_, h3⟩, _, h⟩ := Ran.bind' h
      cases h
      rw [h3.selL h1 (by omega), Off.add_val]
    · cases h; exact Off.idx_val ..
omit [Amb] in
theorem Ran.selS {o : Off} {i : Int} {n : Sz} {e : TypeId} {z : Nat} {o' : Off} {l : List Fp} (h : Ran (selS P o i n e z) g o' l) (h1 : 0 ≤ i) (h2 : i < (n.val : Int)) : o'.val = o.val + i.toNat * z := by
  unfold Ab.selS at h
  split at h
  · split at h
    · obtain ⟨j, ⟨_, h3⟩, _, h⟩ := Ran.bind' h
      cases h
      simp only [Sz.val] at h2
      rw [h3.selL h1 (by omega), Off.add_val]
    · cases h; exact Off.idxS_val ..
  · cases h; exact Off.idxS_val ..
theorem sims_index {t : TypeId} {x i : Operand} {fp : List Fp} (ho : o.op = .index t x i)
    (h : Ran ((opdR x).bind fun v => (opdI i).bind fun i => match P.underlying t, v with
      | some (.array n e), .agg cs => (Ab.ofO (sizeT P e)).bind fun z => (Ab.must (Nat.ble 1 z && Nat.ble (n * z) (Blk.size cs))).bind fun _ => (Ab.must (inR i.2 n)).bind fun _ => (Ab.sel P (.k 0) i.2 n e z).bind fun o' => (partOf P e cs o').bind fun v => .ret (dstU o.dst (.r v))
      | some .string, .c (.f (.s b)) => (Ab.must (inR i.2 b.size)).bind fun _ => .ret (dstU o.dst (.r (.c (.f (.i .u8 (byteAt b i.2.toNat))))))
      | _, _ => .fail) g us fp) : Sims P o X D nid us g := by
  obtain ⟨r, ⟨_, h1⟩, _, h⟩ := Ran.bind' h
  obtain ⟨j, ⟨_, h2⟩, _, h⟩ := Ran.bind' h
  split at h
  · rename_i n e cs hu _
    obtain ⟨z, ⟨_, h3⟩, _, h⟩ := Ran.bind' h
    obtain ⟨_, ⟨_, h7⟩, _, h⟩ := Ran.bind' h
    obtain ⟨_, ⟨_, h4⟩, _, h⟩ := Ran.bind' h
    obtain ⟨i', ⟨_, h6⟩, _, h⟩ := Ran.bind' h
    obtain ⟨v, ⟨_, h5⟩, _, h⟩ := Ran.bind' h
    cases h
    refine sims_val fun π a w R => ?_
    obtain ⟨arr, ha, hx⟩ := h1.opdR R
    have h4 := h4.must
    simp only [inR, Bool.and_eq_true, decide_eq_true_eq] at h4
    have h7 := h7.must
    simp only [Bool.and_eq_true, ble_iff] at h7
    have hi : i'.val = j.2.toNat * z := (h6.sel h4.1 h4.2).trans (Nat.zero_add _)
    have hb : j.2.toNat * z + z ≤ n * z := by
      have := Nat.mul_le_mul_right z (show j.2.toNat + 1 ≤ n by omega)
      rw [Nat.add_mul] at this; omega
    obtain ⟨y, hy, hr⟩ := h5.partOf h3.ofO h7.1 (by rw [hi]; omega) hx w
    rw [hi] at hy
    refine ⟨y, ?_, hr⟩
    simp [execOp, ho, Instr.index, run_underlying hu, h2.opdI R, ha, asIntOf, h4, run_sizeOf h3.ofO, hy]
  · rename_i b hu _
    obtain ⟨_, ⟨_, h4⟩, _, h⟩ := Ran.bind' h
    cases h
    refine sims_val fun π a w R => ?_
    have ha : a.eval x = .string b := h1.opdR R
    have h4 := h4.must
    simp only [inR, Bool.and_eq_true, decide_eq_true_eq] at h4
    have hb : b[j.2.toNat]? = some (b[j.2.toNat]'(by omega)) := getElem?_pos ..
    refine ⟨.int .u8 (byteAt b j.2.toNat), ?_, rfl⟩
    unfold byteAt
    rw [hb]
    simp [execOp, ho, Instr.index, run_underlying hu, h2.opdI R, ha, asIntOf, h4.1, hb]
  · cases h
theorem sims_extract {x : Operand} {i : Nat} {fp : List Fp} (ho : o.op = .extract x i)
    (h : Ran ((opd x).bind fun | .tup vs => (Ab.ofO (vs[i]?)).bind fun v => .ret (dstU o.dst (.r v)) | _ => .fail) g us fp) : Sims P o X D nid us g := by
  obtain ⟨r, ⟨_, h1⟩, _, h⟩ := Ran.bind' h
  split at h
  · rename_i vs
    obtain ⟨v, ⟨_, h2⟩, _, h⟩ := Ran.bind' h
    cases h
    refine sims_val fun π a w R => ?_
    obtain ⟨arr, ha, hx⟩ := h1.opd R
    obtain ⟨y, hy, hr⟩ := hx.get h2.ofO
    refine ⟨y, ?_, hr⟩
    have hy : arr[i]? = some y := by simpa using hy
    simp [execOp, ho, Instr.extract, ha, hy]
  · cases h
theorem sims_fieldAddr {t : TypeId} {x : Operand} {i : Nat} {fp : List Fp} (ho : o.op = .fieldAddr t x i)
    (h : Ran ((opdC x).bind fun c => (fieldAtV P t c i).bind fun v => .ret (dstU o.dst (.r (.c v)))) g us fp) : Sims P o X D nid us g := by
  obtain ⟨r, ⟨_, h1⟩, _, h⟩ := Ran.bind' h
  obtain ⟨v, ⟨_, h2⟩, _, h⟩ := Ran.bind' h
  cases h
  refine sims_val fun π a w R => ?_
  have ha := h1.opdC R
  unfold fieldAtV at h2
  split at h2
  · rename_i l
    obtain ⟨f, ⟨_, h3⟩, _, h2⟩ := Ran.bind' h2
    obtain ⟨n, ⟨_, h4⟩, _, h2⟩ := Ran.bind' h2
    obtain ⟨_, ⟨_, h5⟩, _, h2⟩ := Ran.bind' h2
    cases h2
    obtain ⟨B, s, ha, hc⟩ := ha
    have h3 := h3.ofO
    have h5 := h5.must
    simp only [Bool.and_eq_true, ble_iff] at h5
    have hn : n ≠ 0 := by omega
    unfold fieldT at h3
    split at h3
    · rename_i fs hu
      refine ⟨.pointer (some ⟨B, s + f.offset, none⟩), ?_, B, s + f.offset, rfl, fun j v hj => ?_⟩
      · simp [execOp, ho, Instr.fieldAt, run_underlying hu, h3, ha, Instr.sureAddr, fieldPlace, run_sizeOf h4.ofO, hn, add_none]
      · rw [List.getElem?_take] at hj
        split at hj
        · rw [List.getElem?_drop] at hj
          rw [Nat.add_assoc]; exact hc _ v hj
        · cases hj
    · cases h3
  · rename_i b q m
    obtain ⟨f, ⟨_, h3⟩, _, h2⟩ := Ran.bind' h2
    obtain ⟨n, ⟨_, h4⟩, _, h2⟩ := Ran.bind' h2
    obtain ⟨_, ⟨_, h5⟩, _, h2⟩ := Ran.bind' h2
    cases h2
    obtain ⟨B, s, q', e, hb, ha, hm⟩ := ha
    have h3 := h3.ofO
    have h5 := h5.must
    simp only [Bool.and_eq_true, ble_iff] at h5
    have hn : n ≠ 0 := by omega
    unfold fieldT at h3
    split at h3
    · rename_i fs hu
      refine ⟨.pointer (some ⟨B, s + (q.add f.offset).val, none⟩), ?_, B, s, q', e, hb, rfl, by rw [Off.add_val]; omega⟩
      simp [execOp, ho, Instr.fieldAt, run_underlying hu, h3, ha, Instr.sureAddr, fieldPlace, run_sizeOf h4.ofO, hn, add_none, Nat.add_assoc, Off.add_val]
    · cases h3
  · cases h2
theorem sims_indexAddr {t : TypeId} {x i : Operand} {fp : List Fp} (ho : o.op = .indexAddr t x i)
    (h : Ran ((opdC x).bind fun c => (opdI i).bind fun i => (indexAtV P t c i.2).bind fun v => .ret (dstU o.dst (.r (.c v)))) g us fp) : Sims P o X D nid us g := by
  obtain ⟨r, ⟨_, h1⟩, _, h⟩ := Ran.bind' h
  obtain ⟨j, ⟨_, h2⟩, _, h⟩ := Ran.bind' h
  obtain ⟨v, ⟨_, h3⟩, _, h⟩ := Ran.bind' h
  cases h
  refine sims_val fun π a w R => ?_
  have ha := h1.opdC R
  unfold indexAtV at h3
  split at h3
  · rename_i n e b q m hu _
    obtain ⟨z, ⟨_, h4⟩, _, h3⟩ := Ran.bind' h3
    obtain ⟨_, ⟨_, h7⟩, _, h3⟩ := Ran.bind' h3
    obtain ⟨_, ⟨_, h5⟩, _, h3⟩ := Ran.bind' h3
    obtain ⟨o', ⟨_, h6⟩, _, h3⟩ := Ran.bind' h3
    cases h3
    obtain ⟨B, s, q', e', hb, ha, hm⟩ := ha
    have h5 := h5.must
    simp only [inR, Bool.and_eq_true, decide_eq_true_eq] at h5
    have h7 := ble_iff.1 h7.must
    have hi := h6.sel h5.1 h5.2
    have hbd : j.2.toNat * z + z ≤ n * z := by
      have := Nat.mul_le_mul_right z (show j.2.toNat + 1 ≤ n by omega)
      rw [Nat.add_mul] at this; omega
    refine ⟨.pointer (some ⟨B, s + o'.val, none⟩), ?_, B, s, q', e', hb, rfl, by omega⟩
    rw [hi]
    simp [execOp, ho, Instr.indexAt, run_underlying hu, h2.opdI R, ha, asIntOf, Instr.sureAddr, h5, run_sizeOf h4.ofO, add_none, Nat.add_assoc]
  · rename_i e b q len z' own hu _
    obtain ⟨z, ⟨_, h4⟩, _, h3⟩ := Ran.bind' h3
    obtain ⟨_, ⟨_, h6⟩, _, h3⟩ := Ran.bind' h3
    obtain ⟨_, ⟨_, h5⟩, _, h3⟩ := Ran.bind' h3
    obtain ⟨o', ⟨_, h8⟩, _, h3⟩ := Ran.bind' h3
    cases h3
    have h5 := h5.must
    simp only [inR, Bool.and_eq_true, decide_eq_true_eq] at h5
    have h6 := beq_iff.1 h6.must
    subst h6
    have hi := h8.selS h5.1 h5.2
    obtain ⟨B, s, q', e', hb, hm, _, ⟨h0, _⟩ | ⟨cap, hcap, ha, _⟩⟩ := ha
    · omega
    · have hbd : j.2.toNat * z + z ≤ len.val * z := by
        have := Nat.mul_le_mul_right z (show j.2.toNat + 1 ≤ len.val by omega)
        rw [Nat.add_mul] at this; omega
      refine ⟨.pointer (some ⟨B, s + o'.val, none⟩), ?_, B, s, q', e', hb, rfl, by omega⟩
      rw [hi]
      simp [execOp, ho, Instr.indexAt, run_underlying hu, h2.opdI R, ha, asIntOf, h5, run_sizeOf h4.ofO, add_none, Nat.add_assoc]
  · rename_i e n z' cols hu _
    obtain ⟨z, ⟨_, h4⟩, _, h3⟩ := Ran.bind' h3
    obtain ⟨_, ⟨_, h6⟩, _, h3⟩ := Ran.bind' h3
    obtain ⟨_, ⟨_, h5⟩, _, h3⟩ := Ran.bind' h3
    cases h3
    have h5 := h5.must
    simp only [inR, Bool.and_eq_true, decide_eq_true_eq] at h5
    have h6 := beq_iff.1 h6.must
    subst h6
    obtain ⟨hz, ⟨h0, _⟩ | ⟨B, s, cap, hcap, ha, hc⟩⟩ := ha
    · omega
    · refine ⟨.pointer (some ⟨B, s + j.2.toNat * z, none⟩), ?_, B, s + j.2.toNat * z, rfl, fun i f hi => ?_⟩
      · simp [execOp, ho, Instr.indexAt, run_underlying hu, h2.opdI R, ha, asIntOf, h5, run_sizeOf h4.ofO, add_none]
      · rw [List.getElem?_map, Option.map_eq_some_iff] at hi
        obtain ⟨q, hq, rfl⟩ := hi
        have hil := (List.getElem?_eq_some_iff.1 hq).1
        have hbd : j.2.toNat * z + z ≤ n * z := by
          have := Nat.mul_le_mul_right z (show j.2.toNat + 1 ≤ n by omega)
          rw [Nat.add_mul] at this; omega
        obtain ⟨f, v, e1, e2, e3⟩ := hc (j.2.toNat * z + i) (by omega)
        refine ⟨v, by rw [Nat.add_assoc]; exact e2, ?_⟩
        have e4 : rget cols (j.2.toNat * z + i) = .f (q.at j.2.toNat) := by
          unfold rget
          rw [hz, Nat.mul_comm, Nat.mul_add_mod, Nat.mul_add_div (by omega), Nat.mod_eq_of_lt (by omega), Nat.div_eq_of_lt (by omega), hq]
          rfl
        rw [e1] at e4; cases e4
        exact e3
  · rename_i n e l hu _
    obtain ⟨z, ⟨_, h4⟩, _, h3⟩ := Ran.bind' h3
    obtain ⟨_, ⟨_, h7⟩, _, h3⟩ := Ran.bind' h3
    obtain ⟨_, ⟨_, h5⟩, _, h3⟩ := Ran.bind' h3
    obtain ⟨o', ⟨_, h6⟩, _, h3⟩ := Ran.bind' h3
    cases h3
    obtain ⟨B, s, ha, hc⟩ := ha
    have h5 := h5.must
    simp only [inR, Bool.and_eq_true, decide_eq_true_eq] at h5
    have hi := h6.selL (by omega) (by omega)
    refine ⟨.pointer (some ⟨B, s + j.2.toNat * z, none⟩), ?_, B, s + j.2.toNat * z, rfl, fun i f hf => ?_⟩
    · simp [execOp, ho, Instr.indexAt, run_underlying hu, h2.opdI R, ha, asIntOf, Instr.sureAddr, h5, run_sizeOf h4.ofO, add_none]
    · rw [List.getElem?_take] at hf
      split at hf
      · rw [List.getElem?_drop, hi] at hf
        rw [Nat.add_assoc]; exact hc _ f hf
      · cases hf
  · cases h3
theorem Ran.optI {x : Option Operand} {v : Option Int} {l : List Fp} {π : Pi} {a : Act} {w : World} (h : Ran (optI x) g v l) (R : Rel X D π g a w) :
    (x = none ∧ v = none) ∨ ∃ y k i, x = some y ∧ v = some i ∧ a.eval y = .int k i := by
  cases x with
  | none => cases h; exact .inl ⟨rfl, rfl⟩
  | some y =>
    obtain ⟨r, ⟨_, h1⟩, _, h⟩ := Ran.bind' h
    cases h
    exact .inr ⟨y, r.1, r.2, rfl, rfl, h1.opdI R⟩
omit [Amb] in
theorem Ran.bnds {lo hi : Option Int} {n : Nat} {lh : Nat × Nat} {l : List Fp} (h : Ran (bnds lo hi n) g lh l) :
    lh.1 ≤ lh.2 ∧ lh.2 ≤ n ∧ ((hi = none ∧ lh.2 = n) ∨ ∃ i, hi = some i ∧ 0 ≤ i ∧ i ≤ n ∧ lh.2 = i.toNat) ∧ ((lo = none ∧ lh.1 = 0) ∨ ∃ i, lo = some i ∧ 0 ≤ i ∧ i ≤ lh.2 ∧ lh.1 = i.toNat) := by
  obtain ⟨hh, ⟨_, h1⟩, _, h⟩ := Ran.bind' h
  obtain ⟨ll, ⟨_, h2⟩, _, h⟩ := Ran.bind' h
  cases h
  have e1 : hh ≤ n ∧ ((hi = none ∧ hh = n) ∨ ∃ i, hi = some i ∧ 0 ≤ i ∧ i ≤ n ∧ hh = i.toNat) := by
    cases hi with
    | none => cases h1; exact ⟨Nat.le_refl _, .inl ⟨rfl, rfl⟩⟩
    | some i =>
      obtain ⟨_, ⟨_, h3⟩, _, h1⟩ := Ran.bind' h1
      cases h1
      have h3 := h3.must
      simp only [inRe, Bool.and_eq_true, decide_eq_true_eq] at h3
      exact ⟨by omega, .inr ⟨i, rfl, h3.1, h3.2, rfl⟩⟩
  have e2 : ll ≤ hh ∧ ((lo = none ∧ ll = 0) ∨ ∃ i, lo = some i ∧ 0 ≤ i ∧ i ≤ hh ∧ ll = i.toNat) := by
    cases lo with
    | none => cases h2; exact ⟨Nat.zero_le _, .inl ⟨rfl, rfl⟩⟩
    | some i =>
      obtain ⟨_, ⟨_, h3⟩, _, h2⟩ := Ran.bind' h2
      cases h2
      have h3 := h3.must
      simp only [inRe, Bool.and_eq_true, decide_eq_true_eq] at h3
      exact ⟨by omega, .inr ⟨i, rfl, h3.1, h3.2, rfl⟩⟩
  exact ⟨e2.1, e1.1, e1.2, e2.2⟩
end
end Go.Ab
