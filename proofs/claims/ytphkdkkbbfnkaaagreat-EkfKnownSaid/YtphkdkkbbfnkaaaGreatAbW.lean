/-
  The abstract machine and the model: a law's parameters, read: values without memory, and slices of such.
-/
import Derived.Test.YtphkdkkbbfnkaaaGreatAbV
import Derived.Deep.Slices
namespace Go.Ab
variable [Amb]
open Go.ChangeShapes Go.WideShapes Go.Deep

/-! every function by its own code, to a depth -/
def maskB (P : Program) (mask : Nat) : Bool := Nat.beq (mask >>> 512) 0 && (List.range 512).all fun f => match Nat.testBit mask f with
  | true => callable P f
  | false => true
noncomputable def stackE (P : Program) (mask lf : Nat) (ex : List (Nat × Sem1)) : Nat → Env
  | 0, f => envOf ex f
  | d + 1, f => match Nat.testBit mask f with
    | true => some fun args h => tOf (den P (stackE P mask lf ex d) ⟨[], [], [], [], none⟩ lf f args h)
    | false => envOf ex f
theorem stackE_ok {P : Program} {mask lf : Nat} {ex : List (Nat × Sem1)} (hm : P.follows .mixedOrders = true) (h : maskB P mask = true) (hex : EnvOK P ex) : ∀ (d f : Nat) (F : Sem1), stackE P mask lf ex d f = some F → Sound P f F
  | 0, f, F, hf => hex f F hf
  | d + 1, f, F, hf => by
    simp only [stackE] at hf
    split at hf
    · rename_i hb
      cases hf
      simp only [maskB, Bool.and_eq_true] at h
      have h1 : mask >>> 512 = 0 := Nat.eq_of_beq_eq_true h.1
      have hlt : f < 512 := by
        rcases Nat.lt_or_ge f 512 with hl | hl
        · exact hl
        · have := Nat.testBit_shiftRight (i := 512) (j := f - 512) mask
          rw [h1, show 512 + (f - 512) = f by omega, hb] at this
          simp at this
      have := List.all_eq_true.1 h.2 f (List.mem_range.2 hlt)
      rw [hb] at this
      exact den_sound (fun f F h' => stackE_ok hm (by simp only [maskB, Bool.and_eq_true]; exact h) hex d f F h') hm (fun _ _ _ _ _ => Sums.nil ..) (callable_run this)
    · exact hex f F hf
noncomputable def inlS (P : Program) (mask lf : Nat) (ex : List (Nat × Sem1)) (d : Nat) (f : FuncId) : Sem1 := fun args h => tOf (den P (stackE P mask lf ex d) ⟨[], [], [], [], none⟩ lf f args h)
theorem inlS_sound {P : Program} {mask lf d : Nat} {ex : List (Nat × Sem1)} (hm : P.follows .mixedOrders = true) (h : maskB P mask = true) (hex : EnvOK P ex) {f : FuncId} (hc : callable P f = true) : Sound P f (inlS P mask lf ex d f) :=
  den_sound (stackE_ok hm h hex d) hm (fun _ _ _ _ _ => Sums.nil ..) (callable_run hc)

inductive K where
  | b
  | i (k : IntKind)
  | s
  | u
  | q
def K.has : K → FV → Prop
  | .b, .b _ => True
  | .i k, .i k' n => k' = k ∧ k.has n
  | .s, .s _ => True
  | .u, .u => True
  | .q, .q n _ => n ≤ maxLen
  | _, _ => False
def K.col : K → Nat → Col → Prop
  | .b, _, .b _ => True
  | .i k, n, .i k' g => k' = k ∧ ∀ j, j < n → k.has (g j)
  | .s, _, .s _ => True
  | .u, _, .u => True
  | .q, n, .q g _ => ∀ j, j < n → g j ≤ maxLen
  | _, _, _ => False
def repK {α : Type} : Nat → List α → List α
  | 0, _ => []
  | n + 1, l => l ++ repK n l
def fieldsF (P : Program) (g : TypeId → Option (List K)) : List Field → List K → Option (List K)
  | [], acc => some acc
  | f :: fs, acc => match g f.type with
    | some ks => match Nat.beq f.offset acc.length && Nat.beq (P.cellsOf f.type) ks.length with
      | true => fieldsF P g fs (acc ++ ks)
      | false => none
    | none => none
def kindsF (P : Program) : Nat → TypeId → Option (List K)
  | 0, _ => none
  | d + 1, t => match P.underlying t with
    | some .bool => some [.b]
    | some (.int k) => some [.i k]
    | some .string => some [.s]
    | some (.struct fs) => match fieldsF P (kindsF P d) fs.toList [] with
      | some ks => match Nat.beq (P.cellsOf t) ks.length with
        | true => some ks
        | false => none
      | none => none
    | some (.array n e) => match kindsF P d e with
      | some ks => match Nat.beq (P.cellsOf e) ks.length && Nat.beq (P.cellsOf t) (n * ks.length) with
        | true => some (repK n ks)
        | false => none
      | none => none
    | some (.slice e) => match P.underlying e with
      | some .bool => match Nat.beq (P.cellsOf e) 1 with
        | true => some [.q]
        | false => some [.u]
      | _ => some [.u]
    | _ => none
section
variable {H : Type} {enc : TypeId × Value → H} {P : Program} {W : World} {base : Nat} {spare : Nat → Bool} {held : Bool}
theorem rows_append {ks ks' : List K} {cs cs' : List Value} (h : ∃ fs, All2 K.has ks fs ∧ All2 FV.rel fs cs) (h' : ∃ fs, All2 K.has ks' fs ∧ All2 FV.rel fs cs') : ∃ fs, All2 K.has (ks ++ ks') fs ∧ All2 FV.rel fs (cs ++ cs') := by
  obtain ⟨fs, a, b⟩ := h
  obtain ⟨fs', a', b'⟩ := h'
  exact ⟨fs ++ fs', a.append a', b.append b'⟩
theorem fieldsF_fits {d : Nat} (ih : ∀ {t : TypeId} {ks : List K} {fuel : Nat} {cs : List Value} {x : DataW H × List MemPlace}, kindsF P d t = some ks → DataW.trod enc P W base spare held fuel t cs = some x → ∃ fs, All2 K.has ks fs ∧ All2 FV.rel fs cs) {n : Nat} {cs : List Value} :
    ∀ {l : List Field} {acc ks : List K}, fieldsF P (kindsF P d) l acc = some ks → (∀ f ∈ l, ∃ y, DataW.trod enc P W base spare held n f.type ((cs.drop f.offset).take (P.cellsOf f.type)) = some y) → acc.length ≤ cs.length →
      (∃ fs, All2 K.has acc fs ∧ All2 FV.rel fs (cs.take acc.length)) → ks.length ≤ cs.length ∧ ∃ fs, All2 K.has ks fs ∧ All2 FV.rel fs (cs.take ks.length)
  | [], acc, ks, h, _, hl, ha => by
    simp only [fieldsF] at h
    cases h
    exact ⟨hl, ha⟩
  | f :: l, acc, ks, h, hf, hl, ha => by
    simp only [fieldsF] at h
    split at h
    · rename_i kf hk
      split at h
      · rename_i hc
        simp only [Bool.and_eq_true] at hc
        have e1 := Nat.eq_of_beq_eq_true hc.1
        have e2 := Nat.eq_of_beq_eq_true hc.2
        obtain ⟨y, hy⟩ := hf f (by simp)
        obtain ⟨fs, f1, f2⟩ := ih hk hy
        have hlen : kf.length = min (P.cellsOf f.type) (cs.length - f.offset) := by
          have h1 := f1.length
          have h2 := f2.length
          simp at h2
          omega
        have hle : acc.length + kf.length ≤ cs.length := by omega
        refine fieldsF_fits ih h (fun f' hf' => hf f' (by simp [hf'])) (by simp; omega) ?_
        have := rows_append ha ⟨fs, f1, f2⟩
        rw [List.length_append, List.take_add]
        rw [e1, e2] at this
        exact this
      · cases h
    · cases h
omit [Amb] in
theorem repK_length {α : Type} (l : List α) : ∀ n, (repK n l).length = n * l.length
  | 0 => by simp [repK]
  | n + 1 => by simp [repK, repK_length l n, Nat.succ_mul, Nat.add_comm]
omit [Amb] in
theorem repK_succ_snoc {α : Type} (l : List α) : ∀ n, repK (n + 1) l = repK n l ++ l
  | 0 => by simp [repK]
  | n + 1 => by
    have h := repK_succ_snoc l n
    show l ++ repK (n + 1) l = repK (n + 1) l ++ l
    rw [h, ← List.append_assoc, ← h]
    rfl
theorem kindsF_fits (hA : ∀ B i v, cl W B i = some v → Amb.fs B i = some v) (hsp : ∀ b, spare b = true) : ∀ {d : Nat} {t : TypeId} {ks : List K} {fuel : Nat} {cs : List Value} {x : DataW H × List MemPlace}, kindsF P d t = some ks → DataW.trod enc P W base spare held fuel t cs = some x → ∃ fs, All2 K.has ks fs ∧ All2 FV.rel fs cs
  | 0, _, _, _, _, _, h, _ => by cases h
  | d + 1, t, ks, fuel, cs, x, h, hx => by
    simp only [kindsF] at h
    split at h
    · rename_i hu
      cases h
      obtain ⟨b, rfl, _⟩ := DataW.trod_bool hu hx
      exact ⟨[.b b], ⟨trivial, trivial⟩, rfl, trivial⟩
    · rename_i k hu
      cases h
      obtain ⟨n, rfl, _, hw⟩ := DataW.trod_int hu hx
      refine ⟨[.i k n], ⟨⟨rfl, ?_⟩, trivial⟩, rfl, trivial⟩
      simp only [Lit.wf, Bool.and_eq_true, decide_eq_true_eq] at hw
      exact hw
    · rename_i hu
      cases h
      obtain ⟨s, rfl, _⟩ := DataW.trod_string hu hx
      exact ⟨[.s s], ⟨trivial, trivial⟩, rfl, trivial⟩
    · rename_i fs hu
      split at h
      · rename_i ks' hks
        split at h
        · rename_i hc
          cases h
          have hc := Nat.eq_of_beq_eq_true hc
          obtain ⟨xs, n, _, _, hl, _, hf⟩ := DataW.trod_struct hu hx
          obtain ⟨_, r⟩ := fieldsF_fits (fun h h' => kindsF_fits hA hsp h h') hks (n := n) (cs := cs) (fun f hf' => by
            obtain ⟨i, hi⟩ := List.getElem?_of_mem hf'
            have := hf i f (by rw [← Array.getElem?_toList]; exact hi)
            have hi' : i < xs.length := by
              have h1 := (List.getElem?_eq_some_iff.1 hi).1
              simp at h1; omega
            rw [List.getElem?_eq_getElem hi'] at this
            exact ⟨_, this⟩) (Nat.zero_le _) ⟨[], trivial, by simp; trivial⟩
          rw [← hc, ← hl, List.take_length] at r
          exact r
        · cases h
      · cases h
    · rename_i n e hu
      split at h
      · rename_i ks' hks
        split at h
        · rename_i hc
          cases h
          simp only [Bool.and_eq_true] at hc
          have e1 := Nat.eq_of_beq_eq_true hc.1
          have e2 := Nat.eq_of_beq_eq_true hc.2
          obtain ⟨xs, m, _, _, hl, hn, hf⟩ := DataW.trod_array hu hx
          have key : ∀ j, j ≤ n → ∃ fs, All2 K.has (repK j ks') fs ∧ All2 FV.rel fs (cs.take (j * ks'.length)) := by
            intro j
            induction j with
            | zero => intro _; exact ⟨[], trivial, by simp; trivial⟩
            | succ j ihj =>
              intro hj
              have hj' : j < xs.length := by omega
              have := hf j (by omega)
              rw [List.getElem?_eq_getElem hj'] at this
              rw [repK_succ_snoc, Nat.succ_mul, List.take_add]
              have h2 := kindsF_fits hA hsp hks this
              rw [e1] at h2
              exact rows_append (ihj (by omega)) h2
          have := key n (Nat.le_refl _)
          rw [← e2, ← hl, List.take_length] at this
          exact this
        · cases h
      · cases h
    · rename_i e hu
      have un : ∃ fs, All2 K.has [.u] fs ∧ All2 FV.rel fs cs := by
        rcases open_slice hu hx with ⟨rfl, _⟩ | ⟨a', len', cap', m, n, D, Pl, rfl, _⟩
        · exact ⟨[.u], ⟨trivial, trivial⟩, rfl, trivial⟩
        · exact ⟨[.u], ⟨trivial, trivial⟩, rfl, trivial⟩
      split at h
      · rename_i hb
        split at h
        · rename_i hc
          cases h
          have hc := Nat.eq_of_beq_eq_true hc
          rcases open_slice1 hu hc hx with ⟨rfl, _⟩ | ⟨a', len', cap', m, n, V, D, Pl, rfl, _, hle, hmax, hm, _, hi⟩
          · exact ⟨[.q 0 fun _ => false], ⟨Nat.zero_le _, trivial⟩, .inl ⟨rfl, none, rfl⟩, trivial⟩
          · rw [hsp, if_pos rfl] at hm
            subst hm
            obtain ⟨B, s, sp⟩ := a'
            refine ⟨[.q len' fun j => match V j with | .bool b => b | _ => false], ⟨Nat.le_trans hle hmax, trivial⟩, ?_, trivial⟩
            rcases Nat.eq_zero_or_pos m with z | z
            · subst z
              have : len' = 0 := by omega
              subst this
              exact .inl ⟨rfl, _, rfl⟩
            · have h0 := (hi 0 z).1
              have hs : sp = none := by
                have e0 : Addr.add ⟨B, s, sp⟩ 0 = ⟨B, s, sp⟩ := rfl
                rw [e0] at h0
                unfold World.cell? at h0
                simp only at h0
                split at h0
                · cases sp with
                  | none => rfl
                  | some q => simp at h0
                · cases h0
              subst hs
              refine .inr ⟨B, s, m, hle, rfl, fun j hj => ?_⟩
              obtain ⟨h1, h2⟩ := hi j (by omega)
              obtain ⟨b, hb2, _⟩ := DataW.trod_bool hb h2
              have hV : V j = .bool b := by simpa using hb2
              rw [add_none, hV] at h1
              rw [hA B (s + j) (.bool b) h1]
              simp only [hV]
        · cases h; exact un
      · cases h; exact un
    · cases h
theorem has_cells {ks : List K} {fs : List FV} {cs : List Value} (h1 : All2 K.has ks fs) (h2 : All2 FV.rel fs cs) {j : Nat} {k : K} (hk : ks[j]? = some k) : ∃ f v, cs[j]? = some v ∧ k.has f ∧ f.rel v := by
  obtain ⟨f, hf, r1⟩ := h1.get hk
  obtain ⟨v, hv, r2⟩ := h2.get hf
  exact ⟨f, v, hv, r1, r2⟩
def FV.toN : FV → Nat
  | .q n _ => n
  | _ => 0
def FV.toG : FV → Nat → Bool
  | .q _ g => g
  | _ => fun _ => false
def K.mk : K → (Nat → FV) → Col
  | .b, f => .b fun j => (f j).toB
  | .i k, f => .i k fun j => (f j).toI
  | .s, f => .s fun j => (f j).toS
  | .u, _ => .u
  | .q, f => .q (fun j => (f j).toN) fun j => (f j).toG
omit [Amb] in
theorem K.mk_at {k : K} {f : Nat → FV} {j : Nat} (h : k.has (f j)) : (k.mk f).at j = f j := by
  cases k <;> simp only [K.mk, Col.at] <;> revert h <;> cases f j <;> intro h <;> first | exact h.elim | rfl | skip
  rw [h.1]; rfl
omit [Amb] in
theorem K.mk_col {k : K} {f : Nat → FV} {n : Nat} (h : ∀ j, j < n → k.has (f j)) : k.col n (k.mk f) := by
  cases k <;> simp only [K.mk, K.col]
  · refine ⟨trivial, fun j hj => ?_⟩
    have := h j hj
    revert this
    cases f j <;> intro h <;> first | exact h.elim | skip
    exact h.2
  · intro j hj
    have := h j hj
    revert this
    cases f j <;> intro h <;> first | exact h.elim | skip
    exact h
inductive PT where
  | c (k : K)
  | a (n : Nat) (ks : List K)
def flatK : List PT → List K
  | [] => []
  | .c k :: l => k :: flatK l
  | .a n ks :: l => repK n ks ++ flatK l
def K.beq : K → K → Bool
  | .b, .b => true
  | .i k, .i k' => decide (k = k')
  | .s, .s => true
  | .u, .u => true
  | .q, .q => true
  | _, _ => false
omit [Amb] in
theorem K.beq_eq {x y : K} (h : x.beq y = true) : x = y := by
  cases x <;> cases y <;> simp only [K.beq] at h <;> first | rfl | cases h | skip
  rw [of_decide_eq_true h]
def eqKs : List K → List K → Bool
  | [], [] => true
  | x :: l, y :: m => x.beq y && eqKs l m
  | _, _ => false
omit [Amb] in
theorem eqKs_eq : ∀ {l m : List K}, eqKs l m = true → l = m
  | [], [], _ => rfl
  | x :: l, y :: m, h => by
    simp only [eqKs, Bool.and_eq_true] at h
    rw [K.beq_eq h.1, eqKs_eq h.2]
  | [], _ :: _, h => by cases h
  | _ :: _, [], h => by cases h
def ptsOf : List Tm → List K → List PT
  | [], _ => []
  | .c :: l, k :: ks => .c k :: ptsOf l ks
  | .c :: _, [] => []
  | .a n z :: l, ks => .a n (ks.take z) :: ptsOf l (ks.drop (n * z))
inductive Prm where
  | flat (agg : Bool) (pt : List PT)
  | sl (ks : List K)
inductive DC where
  | c (f : FV)
  | a (cols : List Col)
inductive Dat where
  | flat (l : List DC)
  | sl (n : Nat) (cols : List Col)
def Fit1 : PT → DC → Prop
  | .c k, .c f => k.has f
  | .a n ks, .a cols => All2 (fun k c => K.col k n c) ks cols
  | _, _ => False
def Fit : Prm → Dat → Prop
  | .flat _ pt, .flat l => All2 Fit1 pt l
  | .sl ks, .sl n cols => n ≤ maxLen ∧ All2 (fun k c => K.col k n c) ks cols
  | _, _ => False
def sgs : List PT → List DC → Blk
  | .c _ :: pt, .c f :: l => .c (.f f) :: sgs pt l
  | .a n _ :: pt, .a cols :: l => .a (.l n) cols :: sgs pt l
  | _, _ => []
def argOf : Bool → Blk → AV
  | true, b => .r (.agg b)
  | false, .c v :: _ => .r (.c v)
  | false, _ => .und
def argsD : List Prm → List Dat → List AV
  | .flat a pt :: ps, .flat l :: ds => argOf a (sgs pt l) :: argsD ps ds
  | .sl ks :: ps, .sl n cols :: ds => .r (.c (.fs n ks.length cols)) :: argsD ps ds
  | _, _ => []
def FitD (ps : List Prm) (ds : List Dat) : Prop := All2 Fit ps ds
def prmT (P : Program) (t : TypeId) : Option Prm :=
  match P.underlying t with
  | some (.slice e) => match kindsF P 30 e with
    | some ks => match Nat.beq (P.cellsOf e) ks.length && Nat.ble 1 ks.length with
      | true => some (.sl ks)
      | false => none
    | none => none
  | _ => match aggT P t, kindsF P 30 t with
    | some true, some ks => match eqKs (flatK (ptsOf (tmplT P 30 t) ks)) ks with
      | true => some (.flat true (ptsOf (tmplT P 30 t) ks))
      | false => none
    | some false, some [k] => some (.flat false [.c k])
    | _, _ => none
def prmTs (P : Program) : List TypeId → Option (List Prm)
  | [] => some []
  | t :: ts => match prmT P t, prmTs P ts with
    | some p, some ps => some (p :: ps)
    | _, _ => none
theorem row_cols {n : Nat} {ks : List K} {fs : List FV} {cs : List Value} (h1 : All2 K.has (repK n ks) fs) (h2 : All2 FV.rel fs cs) :
    ∃ cols, All2 (fun k c => K.col k n c) ks cols ∧ ∀ j, j < n * ks.length → ∃ v, cs[j]? = some v ∧ (rget cols j).rel (fun _ => none) v := by
  have hl := h1.length
  rw [repK_length] at hl
  have hget : ∀ i j k, i < n → ks[j]? = some k → ∃ f, fs[i * ks.length + j]? = some f ∧ k.has f := fun i j k hi hj => by
    have hjl := (List.getElem?_eq_some_iff.1 hj).1
    have key : ∀ m i, i < m → (repK m ks)[i * ks.length + j]? = some k := by
      intro m
      induction m with
      | zero => intro i hi; omega
      | succ m ih =>
        intro i hi
        rw [repK]
        cases i with
        | zero => rw [Nat.zero_mul, Nat.zero_add, List.getElem?_append_left hjl]; exact hj
        | succ i =>
          rw [List.getElem?_append_right (by rw [Nat.succ_mul]; omega), show (i + 1) * ks.length + j - ks.length = i * ks.length + j by rw [Nat.succ_mul]; omega]
          exact ih i (by omega)
    obtain ⟨f, hf, hh⟩ := h1.get (key n i hi)
    exact ⟨f, hf, hh⟩
  refine ⟨ks.zipIdx.map fun p => p.1.mk fun i => fs.getD (i * ks.length + p.2) .u, ?_, fun j hj => ?_⟩
  · refine All2.of_get (by simp) fun j k c hk hc => ?_
    simp only [List.getElem?_map, List.getElem?_zipIdx, hk, Option.map_some, Option.some.injEq] at hc
    subst hc
    refine K.mk_col fun i hi => ?_
    obtain ⟨f, hf, hh⟩ := hget i j k hi hk
    simp only [Nat.zero_add, List.getD, hf, Option.getD_some]; exact hh
  · have hpos : 0 < ks.length := by
      rcases Nat.eq_zero_or_pos ks.length with h | h
      · rw [h] at hj; omega
      · exact h
    have hm := Nat.mod_lt j hpos
    have hq : j / ks.length < n := (Nat.div_lt_iff_lt_mul hpos).2 hj
    have hk : ks[j % ks.length]? = some (ks[j % ks.length]'hm) := List.getElem?_eq_getElem _
    obtain ⟨f, hf, hh⟩ := hget (j / ks.length) (j % ks.length) _ hq hk
    have hd := divmod j ks.length
    rw [hd] at hf
    obtain ⟨v, hv, hr⟩ := h2.get hf
    refine ⟨v, hv, ?_⟩
    unfold rget
    simp only [List.length_map, List.length_zipIdx, List.getElem?_map, List.getElem?_zipIdx, hk, Option.map_some, Nat.zero_add]
    have e : fs.getD (j / ks.length * ks.length + j % ks.length) .u = f := by rw [hd]; simp [List.getD, hf]
    rw [K.mk_at (f := fun i => fs.getD (i * ks.length + j % ks.length) .u) (j := j / ks.length) (by rw [e]; exact hh)]
    show FV.rel _ v
    rw [e]; exact hr
omit [Amb] in
theorem all2_split {α β : Type} {R : α → β → Prop} : ∀ {l l' : List α} {m : List β}, All2 R (l ++ l') m → All2 R l (m.take l.length) ∧ All2 R l' (m.drop l.length)
  | [], l', m, h => ⟨by simp; trivial, by simpa using h⟩
  | a :: l, l', [], h => h.elim
  | a :: l, l', b :: m, h => by
    obtain ⟨h1, h2⟩ := h
    have := all2_split (l := l) (l' := l') (m := m) h2
    exact ⟨⟨h1, this.1⟩, this.2⟩
theorem f_rel {π π' : Pi} {c : CV} {v : Value} (hc : ∃ x, c = .f x) (h : c.rel π v) : c.rel π' v := by
  obtain ⟨x, rfl⟩ := hc; exact h
theorem flat_dcs : ∀ {pt : List PT} {fs : List FV} {cs : List Value}, All2 K.has (flatK pt) fs → All2 FV.rel fs cs → ∃ l, All2 Fit1 pt l ∧ ∀ π, All2 (CV.rel π) (Blk.list (sgs pt l)) cs
  | [], [], [], _, _ => ⟨[], trivial, fun _ => trivial⟩
  | [], _ :: _, _, h, _ => h.elim
  | [], [], _ :: _, _, h => h.elim
  | .c k :: pt, [], _, h, _ => h.elim
  | .c k :: pt, f :: fs, [], _, h => h.elim
  | .c k :: pt, f :: fs, v :: cs, h1, h2 => by
    obtain ⟨l, a, b⟩ := flat_dcs h1.2 h2.2
    refine ⟨.c f :: l, ⟨h1.1, a⟩, fun π => ?_⟩
    rw [sgs, list_cons]
    exact ⟨h2.1, b π⟩
  | .a n ks :: pt, fs, cs, h1, h2 => by
    obtain ⟨p1, p2⟩ := all2_split (l := repK n ks) (l' := flatK pt) h1
    rw [repK_length] at p1 p2
    have h3 := h2.take (n * ks.length)
    have h4 := h2.drop (n * ks.length)
    obtain ⟨cols, c1, c2⟩ := row_cols p1 h3
    obtain ⟨l, a, b⟩ := flat_dcs p2 h4
    have hcl := c1.length
    have hlen := h1.length
    rw [flatK, List.length_append, repK_length] at hlen
    have hlen2 := h2.length
    refine ⟨.a cols :: l, ⟨c1, a⟩, fun π => ?_⟩
    rw [sgs]
    obtain ⟨l1, l2⟩ := list_rel (b π)
    rw [List.length_drop] at l1
    refine rel_list ?_ fun j hj => ?_
    · rw [Blk.size_cons, Sg.size_a, Sz.val, ← hcl]; omega
    · rw [Blk.size_cons] at hj
      have hs : (Sg.a (.l n) cols).size = n * ks.length := by rw [Sg.size_a, Sz.val, ← hcl]
      by_cases hj2 : j < n * ks.length
      · obtain ⟨v, hv, hr⟩ := c2 j hj2
        rw [List.getElem?_take, if_pos hj2] at hv
        refine ⟨v, hv, ?_⟩
        rw [Blk.get_lt (by rw [hs]; exact hj2), Sg.get_a]
        exact f_rel (rget_f cols j) hr
      · obtain ⟨v, hv, hr⟩ := l2 (j - n * ks.length) (by rw [hs] at hj; omega)
        rw [List.getElem?_drop, show n * ks.length + (j - n * ks.length) = j by omega] at hv
        refine ⟨v, hv, ?_⟩
        rw [Blk.get_ge (by rw [hs]; omega), hs]; exact hr
theorem slice_read (hA : ∀ B i v, cl W B i = some v → Amb.fs B i = some v) {t e : TypeId} {ks : List K} (hu : P.underlying t = some (.slice e)) (hk : kindsF P 30 e = some ks) (hc : P.cellsOf e = ks.length) (h1k : 1 ≤ ks.length) {v : Value} {d : DataW H} {ps : List MemPlace}
    (h : DataW.Trod enc P W 0 (fun _ => true) true t v d ps) (hv : Value.okWide P W .any base t v) :
    ∃ n cols, Fit (.sl ks) (.sl n cols) ∧ ∀ π : Pi, (AV.r (.c (.fs n ks.length cols))).rel π v := by
  obtain ⟨fuel, h⟩ := h
  obtain ⟨a, len, cap, rfl⟩ := okWide_slice hu hv
  have zero : ∃ cols, All2 (fun k c => K.col k 0 c) ks cols := ⟨ks.map fun k => k.mk fun _ => .u, All2.of_get (by simp) fun i k c hk hc => by
    simp only [List.getElem?_map, hk, Option.map_some, Option.some.injEq] at hc
    subst hc
    exact K.mk_col fun j hj => by omega⟩
  rcases open_slice hu h with ⟨h0, _⟩ | ⟨a', len', cap', m, n, D, Pl, h0, _, hle, hmax, hm, hx, hi⟩
  · simp [Value.cells] at h0
    obtain ⟨rfl, rfl, rfl⟩ := h0
    obtain ⟨cols, hcols⟩ := zero
    exact ⟨0, cols, ⟨Nat.zero_le _, hcols⟩, fun π => ⟨hcols.length.symm, .inl ⟨rfl, none, rfl⟩⟩⟩
  · simp [Value.cells] at h0
    obtain ⟨rfl, rfl, rfl⟩ := h0
    have hspot : a'.spot = none := by
      have hv : Cell.okWide P W .any base t (.slice (some a') len cap) := by
        unfold Value.okWide at hv; rw [hu] at hv; exact hv
      have hv : Cell.ok P W .any base t (.slice (some a') len cap) := by
        unfold Cell.okWide at hv; rw [hu] at hv; exact hv
      unfold Cell.ok at hv
      rw [hu] at hv
      exact hv.2.2.2.1
    obtain ⟨B, s, sp⟩ := a'
    simp only at hspot
    subst hspot
    simp only [if_true] at hm
    subst hm
    have hw : ks.length = P.cellsOf e := hc.symm
    have cell : ∀ i j k, i < len → ks[j]? = some k → ∃ f v, cl W B (s + (i * ks.length + j)) = some v ∧ k.has f ∧ f.rel v := fun i j k hil hj => by
      obtain ⟨cs', h1, h2⟩ := hi i (by omega)
      obtain ⟨fs, f1, f2⟩ := kindsF_fits hA (fun _ => rfl) hk h2
      obtain ⟨f, v, e1, e2, e3⟩ := has_cells f1 f2 hj
      obtain ⟨_, _, h3⟩ := World.cells?_some h1
      have hjl := (List.getElem?_eq_some_iff.1 hj).1
      have := h3 j (by omega)
      rw [add_none, add_none, e1] at this
      exact ⟨f, v, by unfold cl; rw [hw, ← Nat.add_assoc]; exact this, e2, e3⟩
    have hdiv : ∀ j, j < len * ks.length → j / ks.length < len ∧ j % ks.length < ks.length ∧ j / ks.length * ks.length + j % ks.length = j := fun j hj => by
      refine ⟨(Nat.div_lt_iff_lt_mul (by omega)).2 hj, Nat.mod_lt _ (by omega), divmod _ _⟩
    have pick : ∀ j, ∃ f, j < len * ks.length → ∃ v k, cl W B (s + j) = some v ∧ ks[j % ks.length]? = some k ∧ k.has f ∧ f.rel v := fun j => by
      rcases Nat.lt_or_ge j (len * ks.length) with hj | hj
      · obtain ⟨d1, d2, d3⟩ := hdiv j hj
        have hkj : ks[j % ks.length]? = some (ks[j % ks.length]'d2) := List.getElem?_eq_getElem _
        obtain ⟨f, v, e1, e2, e3⟩ := cell _ _ _ d1 hkj
        rw [d3] at e1
        exact ⟨f, fun _ => ⟨v, _, e1, hkj, e2, e3⟩⟩
      · exact ⟨.u, fun h => by omega⟩
    obtain ⟨g, hg⟩ := Classical.axiomOfChoice pick
    have hgk : ∀ (i j : Nat) (k : K), i < len → ks[j]? = some k → k.has (g (i * ks.length + j)) := fun i j k hil hj => by
      have hjl := (List.getElem?_eq_some_iff.1 hj).1
      have hlt : i * ks.length + j < len * ks.length := by
        have := Nat.mul_le_mul_right ks.length (show i + 1 ≤ len from hil)
        rw [Nat.succ_mul] at this; omega
      obtain ⟨v, k', _, h2, h3, _⟩ := hg _ hlt
      rw [Nat.mul_comm, Nat.mul_add_mod, Nat.mod_eq_of_lt hjl, hj] at h2
      cases h2
      exact h3
    refine ⟨len, ks.zipIdx.map fun p => p.1.mk fun i => g (i * ks.length + p.2), ⟨by omega, All2.of_get (by simp) fun j k c hk' hc' => ?_⟩, fun π => ⟨by simp, .inr ⟨B, s, m, hle, rfl, fun j hj => ?_⟩⟩⟩
    · simp only [List.getElem?_map, List.getElem?_zipIdx, hk', Option.map_some, Option.some.injEq] at hc'
      subst hc'
      exact K.mk_col fun i hi => by simpa using hgk i j k hi hk'
    · obtain ⟨d1, d2, d3⟩ := hdiv j hj
      obtain ⟨v, k', h1, hk', hh, h2⟩ := hg j hj
      refine ⟨g j, v, ?_, hA _ _ _ h1, h2⟩
      unfold rget
      simp only [List.length_map, List.length_zipIdx, List.getElem?_map, List.getElem?_zipIdx, hk', Option.map_some, Nat.zero_add]
      rw [K.mk_at (f := fun i => g (i * ks.length + j % ks.length)) (j := j / ks.length) (by rw [d3]; exact hh)]
      show CV.f (g (j / ks.length * ks.length + j % ks.length)) = _
      rw [d3]
theorem flat_read (hA : ∀ B i v, cl W B i = some v → Amb.fs B i = some v) {t : TypeId} {ag : Bool} {pt : List PT} (hns : ∀ e, P.underlying t ≠ some (.slice e)) (hp : prmT P t = some (.flat ag pt)) {v : Value} {d : DataW H} {ps : List MemPlace}
    (h : DataW.Trod enc P W 0 (fun _ => true) true t v d ps) (hv : Value.okWide P W .any base t v) : ∃ l, Fit (.flat ag pt) (.flat l) ∧ ∀ π, (argOf ag (sgs pt l)).rel π v := by
  obtain ⟨fuel, h⟩ := h
  unfold prmT at hp
  split at hp
  · rename_i e hu; exact absurd hu (hns e)
  · split at hp
    · rename_i ks ha hk
      split at hp
      · rename_i heq
        cases hp
        have heq := eqKs_eq heq
        obtain ⟨fs, f1, f2⟩ := kindsF_fits hA (fun _ => rfl) hk h
        rw [← heq] at f1
        obtain ⟨l, l1, l2⟩ := flat_dcs f1 f2
        have hagg : ∃ cs, v = .agg cs := by
          unfold Value.okWide at hv
          unfold aggT at ha
          split at ha
          · rename_i hu; rw [hu] at hv; obtain ⟨cs, h, _⟩ := hv; exact ⟨cs, h⟩
          · rename_i hu; rw [hu] at hv; obtain ⟨cs, h, _⟩ := hv; exact ⟨cs, h⟩
          · cases ha
          · cases ha
        obtain ⟨cs, rfl⟩ := hagg
        exact ⟨l, l1, fun π => ⟨cs, rfl, l2 π⟩⟩
      · cases hp
    · rename_i k ha hk
      cases hp
      obtain ⟨fs, f1, f2⟩ := kindsF_fits hA (fun _ => rfl) hk h
      have hone : v.cells.toList = [v] ∨ ∃ cs, v = .agg cs := by
        cases v <;> first | exact .inl rfl | exact .inr ⟨_, rfl⟩
      have hone : v.cells.toList = [v] := by
        rcases hone with h | ⟨cs, rfl⟩
        · exact h
        · exfalso
          have hc : Cell.okWide P W .any base t (.agg cs) := by
            unfold Value.okWide at hv
            unfold aggT at ha
            split at ha <;> first | (cases ha; done) | skip
            rename_i u hu1 hu2 hu
            rw [hu] at hv
            split at hv
            · rename_i hh; cases hh; exact absurd rfl (hu1 _)
            · rename_i hh; cases hh; exact absurd rfl (hu2 _ _)
            · exact hv
          unfold Cell.okWide at hc
          revert hc
          have hkk : P.underlying t = some .bool ∨ (∃ k, P.underlying t = some (.int k)) ∨ P.underlying t = some .string := by
            unfold aggT at ha
            unfold kindsF at hk
            split at hk
            · rename_i hu; exact .inl hu
            · rename_i k hu; exact .inr (.inl ⟨k, hu⟩)
            · rename_i hu; exact .inr (.inr hu)
            · rename_i hu; rw [hu] at ha; cases ha
            · rename_i hu; rw [hu] at ha; cases ha
            · rename_i hu; exact absurd hu (hns _)
            · cases hk
          rcases hkk with hu | ⟨k, hu⟩ | hu <;> rw [hu] <;> intro hc <;> simp only [Cell.ok, hu] at hc
      rw [hone] at f2
      match fs, f1, f2 with
      | [f], ⟨f1, _⟩, ⟨f2, _⟩ => exact ⟨[.c f], ⟨f1, trivial⟩, fun π => f2⟩
    · cases hp
theorem prms_read (hA : ∀ B i v, cl W B i = some v → Amb.fs B i = some v) : ∀ {ts : List TypeId} {pr : List Prm} {vs : List Value} {dd : List (DataW H)} {ps : List MemPlace}, prmTs P ts = some pr → (∀ (j : Nat) t v, ts[j]? = some t → vs[j]? = some v → Value.okWide P W .any base t v) →
    DataW.TrodAll enc P W 0 (fun _ => true) true ts vs dd ps → ∃ ds, FitD pr ds ∧ ∀ π, All2 (AV.rel π) (argsD pr ds) vs
  | [], pr, vs, dd, ps, hp, _, h => by
    cases hp
    obtain ⟨rfl, rfl, rfl⟩ := trodAll_nil h
    exact ⟨[], trivial, fun _ => trivial⟩
  | t :: ts, pr, vs, dd, ps, hp, hv, h => by
    obtain ⟨v, vs1, d, ds1, p1, p2, rfl, rfl, rfl, h3, h4⟩ := trodAll_cons h
    simp only [prmTs] at hp
    split at hp
    · rename_i p pr' hp1 hp2
      cases hp
      have hv0 := hv 0 t v rfl rfl
      obtain ⟨ds, f1, g1⟩ := prms_read hA hp2 (fun j t v hj hv' => hv (j + 1) t v (by simpa using hj) (by simpa using hv')) h4
      cases p with
      | flat ag pt =>
        have hns : ∀ e, P.underlying t ≠ some (.slice e) := fun e hu => by
          unfold prmT at hp1
          rw [hu] at hp1
          simp only at hp1
          split at hp1
          · split at hp1 <;> cases hp1
          · cases hp1
        obtain ⟨l, l1, l2⟩ := flat_read hA hns hp1 h3 hv0
        exact ⟨.flat l :: ds, ⟨l1, f1⟩, fun π => ⟨l2 π, g1 π⟩⟩
      | sl ks =>
        obtain ⟨e, hu, hk, hc, h1k⟩ : ∃ e, P.underlying t = some (.slice e) ∧ kindsF P 30 e = some ks ∧ P.cellsOf e = ks.length ∧ 1 ≤ ks.length := by
          unfold prmT at hp1
          split at hp1
          · rename_i e hu
            split at hp1
            · rename_i ks' hk
              split at hp1
              · rename_i hc
                cases hp1
                simp only [Bool.and_eq_true, beq_iff, ble_iff] at hc
                exact ⟨e, hu, hk, hc.1, hc.2⟩
              · cases hp1
            · cases hp1
          · split at hp1
            · split at hp1 <;> cases hp1
            · cases hp1
            · cases hp1
        obtain ⟨n, cols, q1, q2⟩ := slice_read hA hu hk hc h1k h3 hv0
        exact ⟨.sl n cols :: ds, ⟨q1, f1⟩, fun π => ⟨q2 π, g1 π⟩⟩
    · cases hp
def Trues (F : Sem1) (ps : List Prm) : Prop := ∀ ds, FitD ps ds → ∃ news, (F (argsD ps ds) []).eval = some ⟨.r (.c (.f (.b true))), [], news⟩
abbrev ambOf (W : World) : Amb := ⟨W.heap.size, fun B i => cl W B i⟩
omit [Amb] in
theorem ambOf_ok (W : World) : @AmbOK (ambOf W) W := by
  letI := ambOf W
  refine ⟨Nat.le_refl _, fun B i hB => ?_, fun B i v h => ⟨cl_lt (by rw [show cl W B i = some v from h]; rfl), h⟩⟩
  have hB : W.heap.size ≤ B := hB
  simp only [fz, World.frozen?, Array.getElem?_eq_none hB]
end
section
variable {H : Type} {enc : TypeId × Value → H} {P : Program} {W : World} {base : Nat}
omit [Amb] in
theorem prm_calls {f : FuncId} {F : Sem1} (S : ∀ [Amb], Sound P f F) (hc : callable P f = true) {ts : List TypeId} {pr : List Prm} (hp : prmTs P ts = some pr) (hF : Trues F pr) {args : Array Value} {dd : List (DataW H)} {ps : List MemPlace}
    (hval : ∀ (j : Nat) t v, ts[j]? = some t → args[j]? = some v → Value.okWide P W .any base t v) (ht : DataW.TrodAll enc P W 0 (fun _ => true) true ts args.toList dd ps) :
    Calls P f args W fun e W' => e = .returned (.bool true) ∧ FrameOK W (fun _ _ => False) W' := by
  letI := ambOf W
  obtain ⟨ds, f1, g1⟩ := prms_read (fun B i v h => h) hp (fun j t v hj hv => hval j t v hj (by simpa using hv)) ht
  obtain ⟨news, hr⟩ := hF ds f1
  have hH : HRel (fun _ => none) (hC (([] : List Blk).map some)) (hZ (([] : List Blk).map some)) W :=
    ⟨ambOf_ok W, fun b B s q e hz => by simp [hZ] at hz, fun b n hn => by simp [hZ] at hn, fun b b' B s q e s' q' e' _ hz => by simp [hZ] at hz⟩
  have hS := S _ _ _ hr W (fun _ => none) args (g1 _) hH (fun b hb => absurd rfl hb)
  have hS : Calls P f args W (CallPost (fun _ => none) W [] ⟨.r (.c (.f (.b true))), [], news⟩) := by
    rcases hS with h | ⟨v, h, _⟩
    · exact h.2
    · rw [callable_run hc] at h; cases h
  refine Calls.mono hS ?_
  rintro e w' ⟨π', v, rfl, _, hv, _, hF', _, _⟩
  refine ⟨congrArg Ending.returned hv, hF'.mono fun B i _ h => ?_⟩
  obtain ⟨b, s, q, e, hb, _⟩ := h
  cases hb
end
end Go.Ab
