/-
  The abstract machine and the model: a law's parameters, read: values without memory, and slices of such.
-/
import Derived.Test.YtcalippagaaikaaAbV
import Derived.Deep.Slices
namespace Go.Ab
open Go.ChangeShapes Go.WideShapes Go.Deep

/-! every function by its own code, to a depth -/
def maskB (P : Program) (mask : Nat) : Bool := Nat.beq (mask >>> 512) 0 && (List.range 512).all fun f => match Nat.testBit mask f with
  | true => callable P f
  | false => true
noncomputable def stackE (P : Program) (mask lf : Nat) (ex : List (Nat × Sem1)) : Nat → Env
  | 0, f => envOf ex f
  | d + 1, f => match Nat.testBit mask f with
    | true => some fun args h => tOf (den P (stackE P mask lf ex d) ⟨[], [], [], [], none⟩ lf f args h)
    | false => envOf ex f
theorem stackE_ok {P : Program} {mask lf : Nat} {ex : List (Nat × Sem1)} (hm : P.follows .mixedOrders = true) (h : maskB P mask = true) (hex : EnvOK P ex) : ∀ (d f : Nat) (F : Sem1), stackE P mask lf ex d f = some F → Sound P f F
  | 0, f, F, hf => hex f F hf
  | d + 1, f, F, hf => by
    simp only [stackE] at hf
    split at hf
    · rename_i hb
      cases hf
      simp only [maskB, Bool.and_eq_true] at h
      have h1 : mask >>> 512 = 0 := Nat.eq_of_beq_eq_true h.1
      have hlt : f < 512 := by
        rcases Nat.lt_or_ge f 512 with hl | hl
        · exact hl
        · have := Nat.testBit_shiftRight (i := 512) (j := f - 512) mask
          rw [h1, show 512 + (f - 512) = f by omega, hb] at this
          simp at this
      have := List.all_eq_true.1 h.2 f (List.mem_range.2 hlt)
      rw [hb] at this
      exact den_sound (fun f F h' => stackE_ok hm (by simp only [maskB, Bool.and_eq_true]; exact h) hex d f F h') hm (fun _ _ _ _ _ => Sums.nil ..) (callable_run this)
    · exact hex f F hf
/-- by its own code, all that it calls too -/
noncomputable def inlS (P : Program) (mask lf : Nat) (ex : List (Nat × Sem1)) (d : Nat) (f : FuncId) : Sem1 := fun args h => tOf (den P (stackE P mask lf ex d) ⟨[], [], [], [], none⟩ lf f args h)
theorem inlS_sound {P : Program} {mask lf d : Nat} {ex : List (Nat × Sem1)} (hm : P.follows .mixedOrders = true) (h : maskB P mask = true) (hex : EnvOK P ex) {f : FuncId} (hc : callable P f = true) : Sound P f (inlS P mask lf ex d f) :=
  den_sound (stackE_ok hm h hex d) hm (fun _ _ _ _ _ => Sums.nil ..) (callable_run hc)

inductive K where
  | b
  | i (k : IntKind)
  | s
/-- a cell of a kind -/
def K.has : K → FV → Prop
  | .b, .b _ => True
  | .i k, .i k' n => k' = k ∧ k.has n
  | .s, .s _ => True
  | _, _ => False
/-- a column of a kind, as far as it is used -/
def K.col : K → Nat → Col → Prop
  | .b, _, .b _ => True
  | .i k, n, .i k' g => k' = k ∧ ∀ j, j < n → k.has (g j)
  | .s, _, .s _ => True
  | _, _, _ => False
def repK {α : Type} : Nat → List α → List α
  | 0, _ => []
  | n + 1, l => l ++ repK n l
def fieldsF (P : Program) (g : TypeId → Option (List K)) : List Field → List K → Option (List K)
  | [], acc => some acc
  | f :: fs, acc => match g f.type with
    | some ks => match Nat.beq f.offset acc.length && Nat.beq (P.cellsOf f.type) ks.length with
      | true => fieldsF P g fs (acc ++ ks)
      | false => none
    | none => none
/-- the kinds of a type's cells, field by field -/
def kindsF (P : Program) : Nat → TypeId → Option (List K)
  | 0, _ => none
  | d + 1, t => match P.underlying t with
    | some .bool => some [.b]
    | some (.int k) => some [.i k]
    | some .string => some [.s]
    | some (.struct fs) => match fieldsF P (kindsF P d) fs.toList [] with
      | some ks => match Nat.beq (P.cellsOf t) ks.length with
        | true => some ks
        | false => none
      | none => none
    | some (.array n e) => match kindsF P d e with
      | some ks => match Nat.beq (P.cellsOf e) ks.length && Nat.beq (P.cellsOf t) (n * ks.length) with
        | true => some (repK n ks)
        | false => none
      | none => none
    | _ => none
section
variable {H : Type} {enc : TypeId × Value → H} {P : Program} {W : World} {base : Nat} {spare : Nat → Bool} {held : Bool}
theorem rows_append {ks ks' : List K} {cs cs' : List Value} (h : ∃ fs, All2 K.has ks fs ∧ All2 FV.rel fs cs) (h' : ∃ fs, All2 K.has ks' fs ∧ All2 FV.rel fs cs') : ∃ fs, All2 K.has (ks ++ ks') fs ∧ All2 FV.rel fs (cs ++ cs') := by
  obtain ⟨fs, a, b⟩ := h
  obtain ⟨fs', a', b'⟩ := h'
  exact ⟨fs ++ fs', a.append a', b.append b'⟩
theorem fieldsF_fits {d : Nat} (ih : ∀ {t : TypeId} {ks : List K} {fuel : Nat} {cs : List Value} {x : DataW H × List MemPlace}, kindsF P d t = some ks → DataW.trod enc P W base spare held fuel t cs = some x → ∃ fs, All2 K.has ks fs ∧ All2 FV.rel fs cs) {n : Nat} {cs : List Value} :
    ∀ {l : List Field} {acc ks : List K}, fieldsF P (kindsF P d) l acc = some ks → (∀ f ∈ l, ∃ y, DataW.trod enc P W base spare held n f.type ((cs.drop f.offset).take (P.cellsOf f.type)) = some y) → acc.length ≤ cs.length →
      (∃ fs, All2 K.has acc fs ∧ All2 FV.rel fs (cs.take acc.length)) → ks.length ≤ cs.length ∧ ∃ fs, All2 K.has ks fs ∧ All2 FV.rel fs (cs.take ks.length)
  | [], acc, ks, h, _, hl, ha => by
    simp only [fieldsF] at h
    cases h
    exact ⟨hl, ha⟩
  | f :: l, acc, ks, h, hf, hl, ha => by
    simp only [fieldsF] at h
    split at h
    · rename_i kf hk
      split at h
      · rename_i hc
        simp only [Bool.and_eq_true] at hc
        have e1 := Nat.eq_of_beq_eq_true hc.1
        have e2 := Nat.eq_of_beq_eq_true hc.2
        obtain ⟨y, hy⟩ := hf f (by simp)
        obtain ⟨fs, f1, f2⟩ := ih hk hy
        have hlen : kf.length = min (P.cellsOf f.type) (cs.length - f.offset) := by
          have h1 := f1.length
          have h2 := f2.length
          simp at h2
          omega
        have hle : acc.length + kf.length ≤ cs.length := by omega
        refine fieldsF_fits ih h (fun f' hf' => hf f' (by simp [hf'])) (by simp; omega) ?_
        have := rows_append ha ⟨fs, f1, f2⟩
        rw [List.length_append, List.take_add]
        rw [e1, e2] at this
        exact this
      · cases h
    · cases h
theorem repK_length {α : Type} (l : List α) : ∀ n, (repK n l).length = n * l.length
  | 0 => by simp [repK]
  | n + 1 => by simp [repK, repK_length l n, Nat.succ_mul, Nat.add_comm]
theorem repK_succ_snoc {α : Type} (l : List α) : ∀ n, repK (n + 1) l = repK n l ++ l
  | 0 => by simp [repK]
  | n + 1 => by
    have h := repK_succ_snoc l n
    show l ++ repK (n + 1) l = repK (n + 1) l ++ l
    rw [h, ← List.append_assoc, ← h]
    rfl
theorem kindsF_fits : ∀ {d : Nat} {t : TypeId} {ks : List K} {fuel : Nat} {cs : List Value} {x : DataW H × List MemPlace}, kindsF P d t = some ks → DataW.trod enc P W base spare held fuel t cs = some x → ∃ fs, All2 K.has ks fs ∧ All2 FV.rel fs cs
  | 0, _, _, _, _, _, h, _ => by cases h
  | d + 1, t, ks, fuel, cs, x, h, hx => by
    simp only [kindsF] at h
    split at h
    · rename_i hu
      cases h
      obtain ⟨b, rfl, _⟩ := DataW.trod_bool hu hx
      exact ⟨[.b b], ⟨trivial, trivial⟩, rfl, trivial⟩
    · rename_i k hu
      cases h
      obtain ⟨n, rfl, _, hw⟩ := DataW.trod_int hu hx
      refine ⟨[.i k n], ⟨⟨rfl, ?_⟩, trivial⟩, rfl, trivial⟩
      simp only [Lit.wf, Bool.and_eq_true, decide_eq_true_eq] at hw
      exact hw
    · rename_i hu
      cases h
      obtain ⟨s, rfl, _⟩ := DataW.trod_string hu hx
      exact ⟨[.s s], ⟨trivial, trivial⟩, rfl, trivial⟩
    · rename_i fs hu
      split at h
      · rename_i ks' hks
        split at h
        · rename_i hc
          cases h
          have hc := Nat.eq_of_beq_eq_true hc
          obtain ⟨xs, n, _, _, hl, _, hf⟩ := DataW.trod_struct hu hx
          obtain ⟨_, r⟩ := fieldsF_fits (fun h h' => kindsF_fits h h') hks (n := n) (cs := cs) (fun f hf' => by
            obtain ⟨i, hi⟩ := List.getElem?_of_mem hf'
            have := hf i f (by rw [← Array.getElem?_toList]; exact hi)
            have hi' : i < xs.length := by
              have h1 := (List.getElem?_eq_some_iff.1 hi).1
              simp at h1; omega
            rw [List.getElem?_eq_getElem hi'] at this
            exact ⟨_, this⟩) (Nat.zero_le _) ⟨[], trivial, by simp; trivial⟩
          rw [← hc, ← hl, List.take_length] at r
          exact r
        · cases h
      · cases h
    · rename_i n e hu
      split at h
      · rename_i ks' hks
        split at h
        · rename_i hc
          cases h
          simp only [Bool.and_eq_true] at hc
          have e1 := Nat.eq_of_beq_eq_true hc.1
          have e2 := Nat.eq_of_beq_eq_true hc.2
          obtain ⟨xs, m, _, _, hl, hn, hf⟩ := DataW.trod_array hu hx
          have key : ∀ j, j ≤ n → ∃ fs, All2 K.has (repK j ks') fs ∧ All2 FV.rel fs (cs.take (j * ks'.length)) := by
            intro j
            induction j with
            | zero => intro _; exact ⟨[], trivial, by simp; trivial⟩
            | succ j ihj =>
              intro hj
              have hj' : j < xs.length := by omega
              have := hf j (by omega)
              rw [List.getElem?_eq_getElem hj'] at this
              rw [repK_succ_snoc, Nat.succ_mul, List.take_add]
              have h2 := kindsF_fits hks this
              rw [e1] at h2
              exact rows_append (ihj (by omega)) h2
          have := key n (Nat.le_refl _)
          rw [← e2, ← hl, List.take_length] at this
          exact this
        · cases h
      · cases h
    · cases h
theorem has_cells {ks : List K} {fs : List FV} {cs : List Value} (h1 : All2 K.has ks fs) (h2 : All2 FV.rel fs cs) {j : Nat} {k : K} (hk : ks[j]? = some k) : ∃ f v, cs[j]? = some v ∧ k.has f ∧ f.rel v := by
  obtain ⟨f, hf, r1⟩ := h1.get hk
  obtain ⟨v, hv, r2⟩ := h2.get hf
  exact ⟨f, v, hv, r1, r2⟩
/-- a column out of cells -/
def K.mk : K → (Nat → FV) → Col
  | .b, f => .b fun j => (f j).toB
  | .i k, f => .i k fun j => (f j).toI
  | .s, f => .s fun j => (f j).toS
theorem K.mk_at {k : K} {f : Nat → FV} {j : Nat} (h : k.has (f j)) : (k.mk f).at j = f j := by
  cases k <;> simp only [K.mk, Col.at] <;> revert h <;> cases f j <;> intro h <;> first | exact h.elim | rfl | skip
  rw [h.1]; rfl
theorem K.mk_col {k : K} {f : Nat → FV} {n : Nat} (h : ∀ j, j < n → k.has (f j)) : k.col n (k.mk f) := by
  cases k <;> simp only [K.mk, K.col]
  refine ⟨trivial, fun j hj => ?_⟩
  have := h j hj
  revert this
  cases f j <;> intro h <;> first | exact h.elim | skip
  exact h.2
/-- a part of a type's cells: one cell, or a row -/
inductive PT where
  | c (k : K)
  | a (n : Nat) (ks : List K)
def flatK : List PT → List K
  | [] => []
  | .c k :: l => k :: flatK l
  | .a n ks :: l => repK n ks ++ flatK l
def K.beq : K → K → Bool
  | .b, .b => true
  | .i k, .i k' => decide (k = k')
  | .s, .s => true
  | _, _ => false
theorem K.beq_eq {x y : K} (h : x.beq y = true) : x = y := by
  cases x <;> cases y <;> simp only [K.beq] at h <;> first | rfl | cases h | skip
  rw [of_decide_eq_true h]
def eqKs : List K → List K → Bool
  | [], [] => true
  | x :: l, y :: m => x.beq y && eqKs l m
  | _, _ => false
theorem eqKs_eq : ∀ {l m : List K}, eqKs l m = true → l = m
  | [], [], _ => rfl
  | x :: l, y :: m, h => by
    simp only [eqKs, Bool.and_eq_true] at h
    rw [K.beq_eq h.1, eqKs_eq h.2]
  | [], _ :: _, h => by cases h
  | _ :: _, [], h => by cases h
def ptsOf : List Tm → List K → List PT
  | [], _ => []
  | .c :: l, k :: ks => .c k :: ptsOf l ks
  | .c :: _, [] => []
  | .a n z :: l, ks => .a n (ks.take z) :: ptsOf l (ks.drop (n * z))
inductive Prm where
  | flat (agg : Bool) (pt : List PT)
  | sl (ks : List K)
inductive DC where
  | c (f : FV)
  | a (cols : List Col)
inductive Dat where
  | flat (l : List DC)
  | sl (n : Nat) (cols : List Col)
def Fit1 : PT → DC → Prop
  | .c k, .c f => k.has f
  | .a n ks, .a cols => All2 (fun k c => K.col k n c) ks cols
  | _, _ => False
def Fit : Prm → Dat → Prop
  | .flat _ pt, .flat l => All2 Fit1 pt l
  | .sl ks, .sl n cols => n ≤ maxLen ∧ All2 (fun k c => K.col k n c) ks cols
  | _, _ => False
def sgs : List PT → List DC → Blk
  | .c _ :: pt, .c f :: l => .c (.f f) :: sgs pt l
  | .a n _ :: pt, .a cols :: l => .a (.l n) cols :: sgs pt l
  | _, _ => []
def argOf : Bool → Blk → AV
  | true, b => .r (.agg b)
  | false, .c v :: _ => .r (.c v)
  | false, _ => .und
def argsD : List Prm → List Dat → Nat → List AV
  | .flat a pt :: ps, .flat l :: ds, b => argOf a (sgs pt l) :: argsD ps ds b
  | .sl ks :: ps, .sl n _ :: ds, b => .r (.c (.sl b (.k 0) (.s n) ks.length false)) :: argsD ps ds (b + 1)
  | _, _, _ => []
def blksD : List Prm → List Dat → List Blk
  | .flat _ _ :: ps, .flat _ :: ds => blksD ps ds
  | .sl _ :: ps, .sl n cols :: ds => [.a (.s n) cols] :: blksD ps ds
  | _, _ => []
def FitD (ps : List Prm) (ds : List Dat) : Prop := All2 Fit ps ds
def prmT (P : Program) (t : TypeId) : Option Prm :=
  match P.underlying t with
  | some (.slice e) => match kindsF P 30 e with
    | some ks => match Nat.beq (P.cellsOf e) ks.length && Nat.ble 1 ks.length with
      | true => some (.sl ks)
      | false => none
    | none => none
  | _ => match aggT P t, kindsF P 30 t with
    | some true, some ks => match eqKs (flatK (ptsOf (tmplT P 30 t) ks)) ks with
      | true => some (.flat true (ptsOf (tmplT P 30 t) ks))
      | false => none
    | some false, some [k] => some (.flat false [.c k])
    | _, _ => none
def prmTs (P : Program) : List TypeId → Option (List Prm)
  | [] => some []
  | t :: ts => match prmT P t, prmTs P ts with
    | some p, some ps => some (p :: ps)
    | _, _ => none
/-- at most one slice -/
def slices : List Prm → Nat
  | [] => 0
  | .flat _ _ :: ps => slices ps
  | .sl _ :: ps => slices ps + 1

theorem row_cols {n : Nat} {ks : List K} {fs : List FV} {cs : List Value} (h1 : All2 K.has (repK n ks) fs) (h2 : All2 FV.rel fs cs) :
    ∃ cols, All2 (fun k c => K.col k n c) ks cols ∧ ∀ j, j < n * ks.length → ∃ v, cs[j]? = some v ∧ (rget cols j).rel (fun _ => none) v := by
  have hl := h1.length
  rw [repK_length] at hl
  have hget : ∀ i j k, i < n → ks[j]? = some k → ∃ f, fs[i * ks.length + j]? = some f ∧ k.has f := fun i j k hi hj => by
    have hjl := (List.getElem?_eq_some_iff.1 hj).1
    have key : ∀ m i, i < m → (repK m ks)[i * ks.length + j]? = some k := by
      intro m
      induction m with
      | zero => intro i hi; omega
      | succ m ih =>
        intro i hi
        rw [repK]
        cases i with
        | zero => rw [Nat.zero_mul, Nat.zero_add, List.getElem?_append_left hjl]; exact hj
        | succ i =>
          rw [List.getElem?_append_right (by rw [Nat.succ_mul]; omega), show (i + 1) * ks.length + j - ks.length = i * ks.length + j by rw [Nat.succ_mul]; omega]
          exact ih i (by omega)
    obtain ⟨f, hf, hh⟩ := h1.get (key n i hi)
    exact ⟨f, hf, hh⟩
  refine ⟨ks.zipIdx.map fun p => p.1.mk fun i => fs.getD (i * ks.length + p.2) .u, ?_, fun j hj => ?_⟩
  · refine All2.of_get (by simp) fun j k c hk hc => ?_
    simp only [List.getElem?_map, List.getElem?_zipIdx, hk, Option.map_some, Option.some.injEq] at hc
    subst hc
    refine K.mk_col fun i hi => ?_
    obtain ⟨f, hf, hh⟩ := hget i j k hi hk
    simp only [Nat.zero_add, List.getD, hf, Option.getD_some]; exact hh
  · have hpos : 0 < ks.length := by
      rcases Nat.eq_zero_or_pos ks.length with h | h
      · rw [h] at hj; omega
      · exact h
    have hm := Nat.mod_lt j hpos
    have hq : j / ks.length < n := (Nat.div_lt_iff_lt_mul hpos).2 hj
    have hk : ks[j % ks.length]? = some (ks[j % ks.length]'hm) := List.getElem?_eq_getElem _
    obtain ⟨f, hf, hh⟩ := hget (j / ks.length) (j % ks.length) _ hq hk
    have hd := divmod j ks.length
    rw [hd] at hf
    obtain ⟨v, hv, hr⟩ := h2.get hf
    refine ⟨v, hv, ?_⟩
    unfold rget
    simp only [List.length_map, List.length_zipIdx, List.getElem?_map, List.getElem?_zipIdx, hk, Option.map_some, Nat.zero_add]
    have e : fs.getD (j / ks.length * ks.length + j % ks.length) .u = f := by rw [hd]; simp [List.getD, hf]
    rw [K.mk_at (f := fun i => fs.getD (i * ks.length + j % ks.length) .u) (j := j / ks.length) (by rw [e]; exact hh)]
    show FV.rel _ v
    rw [e]; exact hr
theorem all2_split {α β : Type} {R : α → β → Prop} : ∀ {l l' : List α} {m : List β}, All2 R (l ++ l') m → All2 R l (m.take l.length) ∧ All2 R l' (m.drop l.length)
  | [], l', m, h => ⟨by simp; trivial, by simpa using h⟩
  | a :: l, l', [], h => h.elim
  | a :: l, l', b :: m, h => by
    obtain ⟨h1, h2⟩ := h
    have := all2_split (l := l) (l' := l') (m := m) h2
    exact ⟨⟨h1, this.1⟩, this.2⟩
theorem f_rel {π π' : Pi} {c : CV} {v : Value} (hc : ∃ x, c = .f x) (h : c.rel π v) : c.rel π' v := by
  obtain ⟨x, rfl⟩ := hc; exact h
theorem flat_dcs : ∀ {pt : List PT} {fs : List FV} {cs : List Value}, All2 K.has (flatK pt) fs → All2 FV.rel fs cs → ∃ l, All2 Fit1 pt l ∧ ∀ π, All2 (CV.rel π) (Blk.list (sgs pt l)) cs
  | [], [], [], _, _ => ⟨[], trivial, fun _ => trivial⟩
  | [], _ :: _, _, h, _ => h.elim
  | [], [], _ :: _, _, h => h.elim
  | .c k :: pt, [], _, h, _ => h.elim
  | .c k :: pt, f :: fs, [], _, h => h.elim
  | .c k :: pt, f :: fs, v :: cs, h1, h2 => by
    obtain ⟨l, a, b⟩ := flat_dcs h1.2 h2.2
    refine ⟨.c f :: l, ⟨h1.1, a⟩, fun π => ?_⟩
    rw [sgs, list_cons]
    exact ⟨h2.1, b π⟩
  | .a n ks :: pt, fs, cs, h1, h2 => by
    obtain ⟨p1, p2⟩ := all2_split (l := repK n ks) (l' := flatK pt) h1
    rw [repK_length] at p1 p2
    have h3 := h2.take (n * ks.length)
    have h4 := h2.drop (n * ks.length)
    obtain ⟨cols, c1, c2⟩ := row_cols p1 h3
    obtain ⟨l, a, b⟩ := flat_dcs p2 h4
    have hcl := c1.length
    have hlen := h1.length
    rw [flatK, List.length_append, repK_length] at hlen
    have hlen2 := h2.length
    refine ⟨.a cols :: l, ⟨c1, a⟩, fun π => ?_⟩
    rw [sgs]
    obtain ⟨l1, l2⟩ := list_rel (b π)
    rw [List.length_drop] at l1
    refine rel_list ?_ fun j hj => ?_
    · rw [Blk.size_cons, Sg.size_a, Sz.val, ← hcl]; omega
    · rw [Blk.size_cons] at hj
      have hs : (Sg.a (.l n) cols).size = n * ks.length := by rw [Sg.size_a, Sz.val, ← hcl]
      by_cases hj2 : j < n * ks.length
      · obtain ⟨v, hv, hr⟩ := c2 j hj2
        rw [List.getElem?_take, if_pos hj2] at hv
        refine ⟨v, hv, ?_⟩
        rw [Blk.get_lt (by rw [hs]; exact hj2), Sg.get_a]
        exact f_rel (rget_f cols j) hr
      · obtain ⟨v, hv, hr⟩ := l2 (j - n * ks.length) (by rw [hs] at hj; omega)
        rw [List.getElem?_drop, show n * ks.length + (j - n * ks.length) = j by omega] at hv
        refine ⟨v, hv, ?_⟩
        rw [Blk.get_ge (by rw [hs]; omega), hs]; exact hr
/-- a slice read -/
theorem slice_read {t e : TypeId} {ks : List K} (hu : P.underlying t = some (.slice e)) (hk : kindsF P 30 e = some ks) (hc : P.cellsOf e = ks.length) (h1k : 1 ≤ ks.length) {v : Value} {d : DataW H} {ps : List MemPlace}
    (h : DataW.Trod enc P W 0 (fun _ => true) true t v d ps) (hv : Value.okWide P W .any base t v) (hz : W.noneFrozen ps) :
    ∃ n cols B s, Fit (.sl ks) (.sl n cols) ∧ (∀ π b, π b = some (B, s, n * ks.length, s + n * ks.length) → (AV.r (.c (.sl b (.k 0) (.s n) ks.length false))).rel π v) ∧
      (∀ i, s ≤ i → i < s + n * ks.length → (cl W B i).isSome = true ∧ fz W B i = false) ∧ ∀ j, j < n * ks.length → ∃ v, cl W B (s + j) = some v ∧ ∀ π, (rget cols j).rel π v := by
  obtain ⟨fuel, h⟩ := h
  obtain ⟨a, len, cap, rfl⟩ := okWide_slice hu hv
  have zero : ∃ cols, All2 (fun k c => K.col k 0 c) ks cols := ⟨ks.map fun k => k.mk fun _ => .u, All2.of_get (by simp) fun i k c hk hc => by
    simp only [List.getElem?_map, hk, Option.map_some, Option.some.injEq] at hc
    subst hc
    exact K.mk_col fun j hj => by omega⟩
  rcases open_slice hu h with ⟨h0, _⟩ | ⟨a', len', cap', m, n, D, Pl, h0, _, hle, hmax, hm, hx, hi⟩
  · simp [Value.cells] at h0
    obtain ⟨rfl, rfl, rfl⟩ := h0
    obtain ⟨cols, hcols⟩ := zero
    exact ⟨0, cols, 0, 0, ⟨Nat.zero_le _, hcols⟩, fun π b hb => ⟨_, _, _, _, hb, by simp [Off.val, Sz.val], (fun h => by cases h), .inl ⟨rfl, none, rfl⟩⟩, fun i h1 h2 => by omega, fun j hj => by omega⟩
  · simp [Value.cells] at h0
    obtain ⟨rfl, rfl, rfl⟩ := h0
    have hspot : a'.spot = none := by
      have hv : Cell.okWide P W .any base t (.slice (some a') len cap) := by
        unfold Value.okWide at hv; rw [hu] at hv; exact hv
      have hv : Cell.ok P W .any base t (.slice (some a') len cap) := by
        unfold Cell.okWide at hv; rw [hu] at hv; exact hv
      unfold Cell.ok at hv
      rw [hu] at hv
      exact hv.2.2.2.1
    obtain ⟨B, s, sp⟩ := a'
    simp only at hspot
    subst hspot
    simp only [if_true] at hm
    subst hm
    have hw : ks.length = P.cellsOf e := hc.symm
    have cell : ∀ i j k, i < len → ks[j]? = some k → ∃ f v, cl W B (s + (i * ks.length + j)) = some v ∧ k.has f ∧ f.rel v := fun i j k hil hj => by
      obtain ⟨cs', h1, h2⟩ := hi i (by omega)
      obtain ⟨fs, f1, f2⟩ := kindsF_fits hk h2
      obtain ⟨f, v, e1, e2, e3⟩ := has_cells f1 f2 hj
      obtain ⟨_, _, h3⟩ := World.cells?_some h1
      have hjl := (List.getElem?_eq_some_iff.1 hj).1
      have := h3 j (by omega)
      rw [add_none, add_none, e1] at this
      exact ⟨f, v, by unfold cl; rw [hw, ← Nat.add_assoc]; exact this, e2, e3⟩
    have hdiv : ∀ j, j < len * ks.length → j / ks.length < len ∧ j % ks.length < ks.length ∧ j / ks.length * ks.length + j % ks.length = j := fun j hj => by
      refine ⟨(Nat.div_lt_iff_lt_mul (by omega)).2 hj, Nat.mod_lt _ (by omega), divmod _ _⟩
    have pick : ∀ j, ∃ f, j < len * ks.length → ∃ v k, cl W B (s + j) = some v ∧ ks[j % ks.length]? = some k ∧ k.has f ∧ f.rel v := fun j => by
      rcases Nat.lt_or_ge j (len * ks.length) with hj | hj
      · obtain ⟨d1, d2, d3⟩ := hdiv j hj
        have hkj : ks[j % ks.length]? = some (ks[j % ks.length]'d2) := List.getElem?_eq_getElem _
        obtain ⟨f, v, e1, e2, e3⟩ := cell _ _ _ d1 hkj
        rw [d3] at e1
        exact ⟨f, fun _ => ⟨v, _, e1, hkj, e2, e3⟩⟩
      · exact ⟨.u, fun h => by omega⟩
    obtain ⟨g, hg⟩ := Classical.axiomOfChoice pick
    have hgk : ∀ (i j : Nat) (k : K), i < len → ks[j]? = some k → k.has (g (i * ks.length + j)) := fun i j k hil hj => by
      have hjl := (List.getElem?_eq_some_iff.1 hj).1
      have hlt : i * ks.length + j < len * ks.length := by
        have := Nat.mul_le_mul_right ks.length (show i + 1 ≤ len from hil)
        rw [Nat.succ_mul] at this; omega
      obtain ⟨v, k', _, h2, h3, _⟩ := hg _ hlt
      rw [Nat.mul_comm, Nat.mul_add_mod, Nat.mod_eq_of_lt hjl, hj] at h2
      cases h2
      exact h3
    refine ⟨len, ks.zipIdx.map fun p => p.1.mk fun i => g (i * ks.length + p.2), B, s, ⟨by omega, All2.of_get (by simp) fun j k c hk' hc' => ?_⟩, fun π b hb => ⟨B, s, _, _, hb, by simp [Off.val, Sz.val], (fun h => by cases h), .inr ⟨_, hle, rfl, fun h => by cases h⟩⟩, fun i h1 h2 => ?_, fun j hj => ?_⟩
    · simp only [List.getElem?_map, List.getElem?_zipIdx, hk', Option.map_some, Option.some.injEq] at hc'
      subst hc'
      exact K.mk_col fun i hi => by simpa using hgk i j k hi hk'
    · obtain ⟨v, k', h3, _⟩ := hg (i - s) (by omega)
      rw [show s + (i - s) = i by omega] at h3
      refine ⟨by rw [h3]; rfl, hz B i ?_⟩
      have hx2 := congrArg Prod.snd hx
      simp only at hx2
      rw [hx2]
      refine List.mem_append_left _ (List.mem_map.2 ⟨i - s, List.mem_range.2 ?_, by simp; omega⟩)
      rw [← hw]
      have := Nat.mul_le_mul_right ks.length hle
      omega
    · obtain ⟨d1, d2, d3⟩ := hdiv j hj
      obtain ⟨v, k', h1, hk', hh, h2⟩ := hg j hj
      refine ⟨v, h1, fun π => ?_⟩
      unfold rget
      simp only [List.length_map, List.length_zipIdx, List.getElem?_map, List.getElem?_zipIdx, hk', Option.map_some, Nat.zero_add]
      rw [K.mk_at (f := fun i => g (i * ks.length + j % ks.length)) (j := j / ks.length) (by rw [d3]; exact hh)]
      show FV.rel (g (j / ks.length * ks.length + j % ks.length)) v
      rw [d3]; exact h2
/-- a parameter without memory read -/
theorem flat_read {t : TypeId} {ag : Bool} {pt : List PT} (hns : ∀ e, P.underlying t ≠ some (.slice e)) (hp : prmT P t = some (.flat ag pt)) {v : Value} {d : DataW H} {ps : List MemPlace}
    (h : DataW.Trod enc P W 0 (fun _ => true) true t v d ps) (hv : Value.okWide P W .any base t v) : ∃ l, Fit (.flat ag pt) (.flat l) ∧ ∀ π, (argOf ag (sgs pt l)).rel π v := by
  obtain ⟨fuel, h⟩ := h
  unfold prmT at hp
  split at hp
  · rename_i e hu; exact absurd hu (hns e)
  · split at hp
    · rename_i ks ha hk
      split at hp
      · rename_i heq
        cases hp
        have heq := eqKs_eq heq
        obtain ⟨fs, f1, f2⟩ := kindsF_fits hk h
        rw [← heq] at f1
        obtain ⟨l, l1, l2⟩ := flat_dcs f1 f2
        have hagg : ∃ cs, v = .agg cs := by
          unfold Value.okWide at hv
          unfold aggT at ha
          split at ha
          · rename_i hu; rw [hu] at hv; obtain ⟨cs, h, _⟩ := hv; exact ⟨cs, h⟩
          · rename_i hu; rw [hu] at hv; obtain ⟨cs, h, _⟩ := hv; exact ⟨cs, h⟩
          · cases ha
          · cases ha
        obtain ⟨cs, rfl⟩ := hagg
        exact ⟨l, l1, fun π => ⟨cs, rfl, l2 π⟩⟩
      · cases hp
    · rename_i k ha hk
      cases hp
      obtain ⟨fs, f1, f2⟩ := kindsF_fits hk h
      have hone : v.cells.toList = [v] ∨ ∃ cs, v = .agg cs := by
        cases v <;> first | exact .inl rfl | exact .inr ⟨_, rfl⟩
      have hone : v.cells.toList = [v] := by
        rcases hone with h | ⟨cs, rfl⟩
        · exact h
        · exfalso
          have hc : Cell.okWide P W .any base t (.agg cs) := by
            unfold Value.okWide at hv
            unfold aggT at ha
            split at ha <;> first | (cases ha; done) | skip
            rename_i u hu1 hu2 hu
            rw [hu] at hv
            split at hv
            · rename_i hh; cases hh; exact absurd rfl (hu1 _)
            · rename_i hh; cases hh; exact absurd rfl (hu2 _ _)
            · exact hv
          unfold Cell.okWide at hc
          revert hc
          have hkk : P.underlying t = some .bool ∨ (∃ k, P.underlying t = some (.int k)) ∨ P.underlying t = some .string := by
            unfold aggT at ha
            unfold kindsF at hk
            split at hk
            · rename_i hu; exact .inl hu
            · rename_i k hu; exact .inr (.inl ⟨k, hu⟩)
            · rename_i hu; exact .inr (.inr hu)
            · rename_i hu; rw [hu] at ha; cases ha
            · rename_i hu; rw [hu] at ha; cases ha
            · cases hk
          rcases hkk with hu | ⟨k, hu⟩ | hu <;> rw [hu] <;> intro hc <;> simp only [Cell.ok, hu] at hc
      rw [hone] at f2
      match fs, f1, f2 with
      | [f], ⟨f1, _⟩, ⟨f2, _⟩ => exact ⟨[.c f], ⟨f1, trivial⟩, fun π => f2⟩
    · cases hp
theorem prms_read : ∀ {ts : List TypeId} {pr : List Prm} {vs : List Value} {dd : List (DataW H)} {ps : List MemPlace}, prmTs P ts = some pr → slices pr ≤ 1 → (∀ (j : Nat) t v, ts[j]? = some t → vs[j]? = some v → Value.okWide P W .any base t v) →
    DataW.TrodAll enc P W 0 (fun _ => true) true ts vs dd ps → W.noneFrozen ps →
    ∃ ds, FitD pr ds ∧ ∃ B s n, (∀ b0 π, (slices pr = 1 → π b0 = some (B, s, n, s + n)) → All2 (AV.rel π) (argsD pr ds b0) vs) ∧ (slices pr = 0 → blksD pr ds = []) ∧
      (slices pr = 1 → ∃ k, blksD pr ds = [k] ∧ Blk.size k = n ∧ (∀ i, s ≤ i → i < s + n → (cl W B i).isSome = true ∧ fz W B i = false) ∧ ∀ j, j < n → ∃ v, cl W B (s + j) = some v ∧ ∀ π, (Blk.get k j).rel π v)
  | [], pr, vs, dd, ps, hp, _, _, h, _ => by
    cases hp
    obtain ⟨rfl, rfl, rfl⟩ := trodAll_nil h
    exact ⟨[], trivial, 0, 0, 0, fun _ _ _ => trivial, fun _ => rfl, fun h => by cases h⟩
  | t :: ts, pr, vs, dd, ps, hp, hsl, hv, h, hz => by
    obtain ⟨v, vs1, d, ds1, p1, p2, rfl, rfl, rfl, h3, h4⟩ := trodAll_cons h
    simp only [prmTs] at hp
    split at hp
    · rename_i p pr' hp1 hp2
      cases hp
      have hz1 : W.noneFrozen p1 := fun B i hi => hz B i (List.mem_append_left _ hi)
      have hz2 : W.noneFrozen p2 := fun B i hi => hz B i (List.mem_append_right _ hi)
      have hv0 := hv 0 t v rfl rfl
      cases p with
      | flat ag pt =>
        have hns : ∀ e, P.underlying t ≠ some (.slice e) := fun e hu => by
          unfold prmT at hp1
          rw [hu] at hp1
          simp only at hp1
          split at hp1
          · split at hp1 <;> cases hp1
          · cases hp1
        obtain ⟨l, l1, l2⟩ := flat_read hns hp1 h3 hv0
        obtain ⟨ds, f1, B, s, n, g1, g2, g3⟩ := prms_read hp2 hsl (fun j t v hj hv' => hv (j + 1) t v (by simpa using hj) (by simpa using hv')) h4 hz2
        exact ⟨.flat l :: ds, ⟨l1, f1⟩, B, s, n, fun b0 π hb => ⟨l2 π, g1 b0 π hb⟩, g2, g3⟩
      | sl ks =>
        have hs0 : slices pr' = 0 := by
          have : slices pr' + 1 ≤ 1 := hsl
          omega
        obtain ⟨e, hu, hk, hc, h1k⟩ : ∃ e, P.underlying t = some (.slice e) ∧ kindsF P 30 e = some ks ∧ P.cellsOf e = ks.length ∧ 1 ≤ ks.length := by
          unfold prmT at hp1
          split at hp1
          · rename_i e hu
            split at hp1
            · rename_i ks' hk
              split at hp1
              · rename_i hc
                cases hp1
                simp only [Bool.and_eq_true, beq_iff, ble_iff] at hc
                exact ⟨e, hu, hk, hc.1, hc.2⟩
              · cases hp1
            · cases hp1
          · split at hp1
            · split at hp1 <;> cases hp1
            · cases hp1
            · cases hp1
        obtain ⟨n, cols, B, s, q1, q2, q3, q4⟩ := slice_read hu hk hc h1k h3 hv0 hz1
        obtain ⟨ds, f1, _, _, _, g1, g2, _⟩ := prms_read hp2 (by omega) (fun j t v hj hv' => hv (j + 1) t v (by simpa using hj) (by simpa using hv')) h4 hz2
        refine ⟨.sl n cols :: ds, ⟨q1, f1⟩, B, s, n * ks.length, fun b0 π hb => ⟨q2 π b0 (hb (by show slices pr' + 1 = 1; omega)), g1 (b0 + 1) π (fun h => by omega)⟩, fun h => by have : slices pr' + 1 = 0 := h; omega, fun _ => ?_⟩
        have hcl := q1.2.length
        refine ⟨[.a (.s n) cols], by rw [blksD, g2 hs0], by rw [Blk.size_cons, Blk.size_nil, Sg.size_a, ← hcl]; rfl, q3, fun j hj => ?_⟩
        obtain ⟨v, hv1, hv2⟩ := q4 j hj
        refine ⟨v, hv1, fun π => ?_⟩
        rw [Blk.get_lt (by rw [Sg.size_a, ← hcl]; exact hj), Sg.get_a]
        exact hv2 π
    · cases hp
/-- it answers true, and leaves all as it was -/
def Trues (F : Sem1) (ps : List Prm) : Prop := ∀ ds, FitD ps ds → ∃ news, (F (argsD ps ds 0) (blksD ps ds)).eval = some ⟨.r (.c (.f (.b true))), (blksD ps ds).map fun _ => .keep, news⟩
theorem prm_calls {f : FuncId} {F : Sem1} (S : Sound P f F) (hc : callable P f = true) {ts : List TypeId} {pr : List Prm} (hp : prmTs P ts = some pr) (hsl : Nat.ble (slices pr) 1 = true) (hF : Trues F pr) {args : Array Value} {dd : List (DataW H)} {ps : List MemPlace}
    (hval : ∀ (j : Nat) t v, ts[j]? = some t → args[j]? = some v → Value.okWide P W .any base t v) (ht : DataW.TrodAll enc P W 0 (fun _ => true) true ts args.toList dd ps) (hz : W.noneFrozen ps) :
    Calls P f args W fun e W' => e = .returned (.bool true) ∧ FrameOK W (fun _ _ => False) W' := by
  have hsl := ble_iff.1 hsl
  obtain ⟨ds, f1, B, s, n, g1, g2, g3⟩ := prms_read hp hsl (fun j t v hj hv => hval j t v hj (by simpa using hv)) ht hz
  obtain ⟨news, hr⟩ := hF ds f1
  generalize hπ : (fun b => if b = 0 ∧ slices pr = 1 then some (B, s, n, s + n) else none : Pi) = π
  have hargs := g1 0 π (fun h => by rw [← hπ]; simp [h])
  have hH : HRel π (hC ((blksD pr ds).map some)) (hZ ((blksD pr ds).map some)) W := by
    rcases (show slices pr = 0 ∨ slices pr = 1 by omega) with h0 | h1
    · rw [g2 h0]
      exact ⟨fun b n hn => by simp [hZ] at hn, fun b b' B s q e s' q' e' _ hz => by simp [hZ] at hz⟩
    · obtain ⟨k, hk, hn, k1, k2⟩ := g3 h1
      rw [hk]
      have one : ∀ b, hZ ([k].map some) b ≠ none → b = 0 := fun b hb => by
        cases b with
        | zero => rfl
        | succ b => simp [hZ] at hb
      refine ⟨fun b m hm => ?_, fun b b' B s q e s' q' e' hne hz hz' => absurd ((one b hz).trans (one b' hz').symm) hne⟩
      have hb := one b (by rw [hm]; simp)
      subst hb
      have hm : Blk.size k = m := by simpa [hZ] using hm
      refine ⟨B, s, s + n, by rw [← hπ]; simp [h1]; omega, by omega, k1, fun j hj => ?_⟩
      obtain ⟨v, hv, hr⟩ := k2 j (by omega)
      refine ⟨v, hv, ?_⟩
      have : hC ([k].map some) 0 j = Blk.get k j := hC_map (lh := [k]) rfl (by omega)
      rw [this]; exact hr π
  have hdom : ∀ b, π b ≠ none → b < (blksD pr ds).length := fun b hb => by
    rw [← hπ] at hb
    simp only at hb
    split at hb
    · rename_i h
      obtain ⟨k, hk, _⟩ := g3 h.2
      rw [hk, h.1]; simp
    · exact absurd rfl hb
  have hS := S _ _ _ hr W π args hargs hH hdom
  have hS : Calls P f args W (CallPost π W (blksD pr ds) ⟨.r (.c (.f (.b true))), (blksD pr ds).map fun _ => .keep, news⟩) := by
    rcases hS with h | ⟨v, h, _⟩
    · exact h.2
    · rw [callable_run hc] at h; cases h
  refine Calls.mono hS ?_
  rintro e w' ⟨π', v, rfl, _, hv, _, hF', _, _⟩
  refine ⟨congrArg Ending.returned hv, hF'.mono fun B i _ h => ?_⟩
  obtain ⟨b, s, q, e, hb, hd, _⟩ := h
  apply hd
  simp only [List.getElem?_map, List.getElem?_eq_getElem hb, Option.map_some]
end
end Go.Ab
