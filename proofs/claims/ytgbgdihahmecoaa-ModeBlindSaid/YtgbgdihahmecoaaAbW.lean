/-
  The abstract machine and the model: parameters without memory, read.
-/
import Derived.Test.YtgbgdihahmecoaaAbV
namespace Go.Ab
open Go.ChangeShapes Go.WideShapes

/-! every function by its own code, to a depth -/
def maskB (P : Program) (mask : Nat) : Bool := Nat.beq (mask >>> 512) 0 && (List.range 512).all fun f => match Nat.testBit mask f with
  | true => callable P f
  | false => true
def stackE (P : Program) (mask lf : Nat) (ex : List (Nat × Sem1)) : Nat → Env
  | 0, f => envOf ex f
  | d + 1, f => match Nat.testBit mask f with
    | true => some fun args h => tOf (den P (stackE P mask lf ex d) [] lf f args h)
    | false => envOf ex f
theorem stackE_ok {P : Program} {mask lf : Nat} {ex : List (Nat × Sem1)} (hm : P.follows .mixedOrders = true) (h : maskB P mask = true) (hex : EnvOK P ex) : ∀ (d f : Nat) (F : Sem1), stackE P mask lf ex d f = some F → Sound P f F
  | 0, f, F, hf => hex f F hf
  | d + 1, f, F, hf => by
    simp only [stackE] at hf
    split at hf
    · rename_i hb
      cases hf
      simp only [maskB, Bool.and_eq_true] at h
      have h1 : mask >>> 512 = 0 := Nat.eq_of_beq_eq_true h.1
      have hlt : f < 512 := by
        rcases Nat.lt_or_ge f 512 with hl | hl
        · exact hl
        · have := Nat.testBit_shiftRight (i := 512) (j := f - 512) mask
          rw [h1, show 512 + (f - 512) = f by omega, hb] at this
          simp at this
      have := List.all_eq_true.1 h.2 f (List.mem_range.2 hlt)
      rw [hb] at this
      exact den_sound (fun f F h' => stackE_ok hm (by simp only [maskB, Bool.and_eq_true]; exact h) hex d f F h') hm (callable_run this)
    · exact hex f F hf
/-- by its own code, all that it calls too -/
def inlS (P : Program) (mask lf : Nat) (ex : List (Nat × Sem1)) (d : Nat) (f : FuncId) : Sem1 := fun args h => tOf (den P (stackE P mask lf ex d) [] lf f args h)
theorem inlS_sound {P : Program} {mask lf d : Nat} {ex : List (Nat × Sem1)} (hm : P.follows .mixedOrders = true) (h : maskB P mask = true) (hex : EnvOK P ex) {f : FuncId} (hc : callable P f = true) : Sound P f (inlS P mask lf ex d f) :=
  den_sound (stackE_ok hm h hex d) hm (callable_run hc)

inductive K where
  | b
  | i (k : IntKind)
  | s
/-- a cell of a kind -/
def K.has : K → FV → Prop
  | .b, .b _ => True
  | .i k, .i k' n => k' = k ∧ k.has n
  | .s, .s _ => True
  | _, _ => False
def kindT (P : Program) (t : TypeId) : Option K :=
  match P.underlying t with
  | some .bool => some .b
  | some (.int k) => some (.i k)
  | some .string => some .s
  | _ => none
def kindTs (P : Program) : List TypeId → Option (List K)
  | [] => some []
  | t :: ts => match kindT P t, kindTs P ts with
    | some k, some ks => some (k :: ks)
    | _, _ => none
/-- the kinds of a type's cells; whether it has parts -/
def paramK (P : Program) (t : TypeId) : Option (Bool × List K) :=
  match aggT P t with
  | some true => match P.cellTypes P.depth t with
    | some ts => match kindTs P ts with
      | some ks => match Nat.beq (P.cellsOf t) ts.length with
        | true => some (true, ks)
        | false => none
      | none => none
    | none => none
  | some false => (kindT P t).map fun k => (false, [k])
  | none => none
def argOf : Bool → List FV → AV
  | true, fs => .r (.agg (fs.map .f))
  | false, f :: _ => .r (.c (.f f))
  | false, [] => .und
def paramKs (P : Program) : List TypeId → Option (List (Bool × List K))
  | [] => some []
  | t :: ts => match paramK P t, paramKs P ts with
    | some p, some ps => some (p :: ps)
    | _, _ => none
def argsOf : List (Bool × List K) → List (List FV) → List AV
  | p :: ps, fs :: fss => argOf p.1 fs :: argsOf ps fss
  | _, _ => []
def Fits (ps : List (Bool × List K)) (fss : List (List FV)) : Prop := All2 (fun p fs => All2 K.has p.2 fs) ps fss

section
variable {P : Program} {W : World} {base : Nat}
theorem cell_fits {t : TypeId} {k : K} (h : kindT P t = some k) {v : Value} (hv : Cell.okWide P W .any base t v) : ∃ f, k.has f ∧ f.rel v := by
  unfold kindT at h
  unfold Cell.okWide at hv
  split at h
  · rename_i hu
    cases h
    rw [hu] at hv
    cases v <;> simp only [Cell.ok, hu] at hv <;> first | exact hv.elim | skip
    exact ⟨.b _, trivial, rfl⟩
  · rename_i k hu
    cases h
    rw [hu] at hv
    cases v <;> simp only [Cell.ok, hu] at hv <;> first | exact hv.elim | skip
    rename_i k' n
    exact ⟨.i k' n, hv, rfl⟩
  · rename_i hu
    cases h
    rw [hu] at hv
    cases v <;> simp only [Cell.ok, hu] at hv <;> first | exact hv.elim | skip
    exact ⟨.s _, trivial, rfl⟩
  · cases h
theorem kindTs_get : ∀ {ts : List TypeId} {ks : List K}, kindTs P ts = some ks → ks.length = ts.length ∧ ∀ (i : Nat) t, ts[i]? = some t → ∃ k, ks[i]? = some k ∧ kindT P t = some k
  | [], ks, h => by cases h; exact ⟨rfl, fun i t h => by simp at h⟩
  | t :: ts, ks, h => by
    simp only [kindTs] at h
    split at h
    · rename_i k ks' h1 h2
      cases h
      obtain ⟨e1, e2⟩ := kindTs_get h2
      refine ⟨by simp [e1], fun i u hu => ?_⟩
      cases i with
      | zero => simp at hu; subst hu; exact ⟨k, rfl, h1⟩
      | succ i => exact e2 i u (by simpa using hu)
    · cases h
theorem row_fits : ∀ {ks : List K} {vs : List Value}, vs.length = ks.length → (∀ (i : Nat) k v, ks[i]? = some k → vs[i]? = some v → ∃ f, k.has f ∧ f.rel v) → ∃ fs, All2 K.has ks fs ∧ All2 FV.rel fs vs
  | [], [], _, _ => ⟨[], trivial, trivial⟩
  | k :: ks, v :: vs, hl, h => by
    obtain ⟨f, h1, h2⟩ := h 0 k v rfl rfl
    obtain ⟨fs, h3, h4⟩ := row_fits (ks := ks) (vs := vs) (by simpa using hl) fun i k v hk hv => h (i + 1) k v (by simpa using hk) (by simpa using hv)
    exact ⟨f :: fs, ⟨h1, h3⟩, h2, h4⟩
theorem all2_f {π : Pi} : ∀ {fs : List FV} {vs : List Value}, All2 FV.rel fs vs → All2 (CV.rel π) (fs.map .f) vs
  | [], [], _ => trivial
  | _ :: _, _ :: _, h => ⟨h.1, all2_f h.2⟩
theorem param_fits {t : TypeId} {p : Bool × List K} (h : paramK P t = some p) {v : Value} (hv : Value.okWide P W .any base t v) : ∃ fs, All2 K.has p.2 fs ∧ ∀ π, (argOf p.1 fs).rel π v := by
  unfold paramK at h
  split at h
  · rename_i ha
    split at h
    · rename_i ts hts
      split at h
      · rename_i ks hks
        split at h
        · rename_i hsz
          cases h
          have hagg : ∃ cs, v = .agg cs ∧ cs.size = P.cellsOf t ∧ Row.okWide P W .any base t cs := by
            unfold Value.okWide at hv
            unfold aggT at ha
            split at ha
            · rename_i hu; rw [hu] at hv; exact hv
            · rename_i hu; rw [hu] at hv; exact hv
            · cases ha
            · cases ha
          obtain ⟨cs, rfl, h1, ts', h2, ⟨n, h3⟩, h4⟩ := hagg
          rw [hts] at h2
          cases h2
          obtain ⟨e1, e2⟩ := kindTs_get hks
          have hsz := Nat.eq_of_beq_eq_true hsz
          obtain ⟨fs, f1, f2⟩ := row_fits (ks := ks) (vs := cs.toList) (by simp; omega) fun i k v hk hv => by
            have hi : i < ts.length := by rw [← e1]; exact (List.getElem?_eq_some_iff.1 hk).1
            obtain ⟨u, hu, hok⟩ := h4 i v (by simpa using hv)
            rw [Nat.mod_eq_of_lt hi] at hu
            obtain ⟨k', hk', hkt⟩ := e2 i u hu
            rw [hk] at hk'; cases hk'
            exact cell_fits hkt hok
          exact ⟨fs, f1, fun π => ⟨cs, rfl, all2_f f2⟩⟩
        · cases h
      · cases h
    · cases h
  · rename_i ha
    cases hk : kindT P t with
    | none => rw [hk] at h; cases h
    | some k =>
      rw [hk] at h
      cases h
      have hc : Cell.okWide P W .any base t v := by
        unfold Value.okWide at hv
        unfold kindT at hk
        split at hk
        · rename_i hu; rw [hu] at hv; exact hv
        · rename_i hu; rw [hu] at hv; exact hv
        · rename_i hu; rw [hu] at hv; exact hv
        · cases hk
      obtain ⟨f, h1, h2⟩ := cell_fits hk hc
      exact ⟨[f], ⟨h1, trivial⟩, fun π => h2⟩
  · cases h
theorem params_fit : ∀ {ts : List TypeId} {ps : List (Bool × List K)} {vs : List Value}, paramKs P ts = some ps → vs.length = ts.length → (∀ (j : Nat) t v, ts[j]? = some t → vs[j]? = some v → Value.okWide P W .any base t v) →
    ∃ fss, Fits ps fss ∧ ∀ π, All2 (AV.rel π) (argsOf ps fss) vs
  | [], ps, [], h, _, _ => by cases h; exact ⟨[], trivial, fun _ => trivial⟩
  | t :: ts, ps, v :: vs, h, hl, hv => by
    simp only [paramKs] at h
    split at h
    · rename_i p ps' h1 h2
      cases h
      obtain ⟨fs, f1, f2⟩ := param_fits h1 (hv 0 t v rfl rfl)
      obtain ⟨fss, f3, f4⟩ := params_fit h2 (vs := vs) (by simpa using hl) fun j t v hj hv' => hv (j + 1) t v (by simpa using hj) (by simpa using hv')
      exact ⟨fs :: fss, ⟨f1, f3⟩, fun π => ⟨f2 π, f4 π⟩⟩
    · cases h
/-- it answers true -/
def Trues (F : Sem1) (ps : List (Bool × List K)) : Prop := ∀ fss, Fits ps fss → ∃ news, (F (argsOf ps fss) []).eval = some ⟨.r (.c (.f (.b true))), [], news⟩
theorem flat_calls {f : FuncId} {F : Sem1} (S : Sound P f F) (hc : callable P f = true) {ts : List TypeId} {ps : List (Bool × List K)} (hp : paramKs P ts = some ps) (hF : Trues F ps) {args : Array Value} (hsz : args.size = ts.length)
    (hval : ∀ (j : Nat) t v, ts[j]? = some t → args[j]? = some v → Value.okWide P W .any base t v) : Calls P f args W fun e W' => e = .returned (.bool true) ∧ FrameOK W (fun _ _ => False) W' := by
  obtain ⟨fss, f1, f2⟩ := params_fit hp (vs := args.toList) (by simpa using hsz) fun j t v hj hv => hval j t v hj (by simpa using hv)
  obtain ⟨news, hr⟩ := hF fss f1
  have hS := S _ [] _ hr W (fun _ => none) args (f2 _) ⟨fun b n hn => by simp [hZ] at hn, fun b b' B s e s' e' _ hz => by simp [hZ] at hz⟩ fun b hb => absurd rfl hb
  have hS : Calls P f args W (CallPost (fun _ => none) W [] ⟨.r (.c (.f (.b true))), [], news⟩) := by
    rcases hS with h | ⟨v, h, _⟩
    · exact h.2
    · rw [callable_run hc] at h; cases h
  refine Calls.mono hS ?_
  rintro e w' ⟨π', v, rfl, _, hv, _, hF', _, _⟩
  refine ⟨congrArg Ending.returned hv, hF'.mono fun B i _ h => ?_⟩
  obtain ⟨b, s, e, hb, _⟩ := h
  simp at hb

/-- a result that says true and has left all as it was -/
def truthB : Option Res → Bool
  | some ⟨.r (.c (.f (.b true))), [], _⟩ => true
  | _ => false
theorem truthB_some {o : Option Res} (h : truthB o = true) : ∃ news, o = some ⟨.r (.c (.f (.b true))), [], news⟩ := by
  unfold truthB at h
  split at h
  · exact ⟨_, rfl⟩
  · cases h
theorem trues_of {P : Program} {l : List (Nat × Sem1)} {hs : List Hd} {lf : Nat} {f : FuncId} {args : List AV} (h : truthB (den P (envOf l) hs lf f args []) = true) : ∃ news, (inl P l hs lf f args []).eval = some ⟨.r (.c (.f (.b true))), [], news⟩ := by
  obtain ⟨news, h⟩ := truthB_some h
  exact ⟨news, inl_eval h⟩
theorem truesS_of {P : Program} {mask lf d : Nat} {ex : List (Nat × Sem1)} {f : FuncId} {args : List AV} (h : truthB (den P (stackE P mask lf ex d) [] lf f args []) = true) : ∃ news, (inlS P mask lf ex d f args []).eval = some ⟨.r (.c (.f (.b true))), [], news⟩ := by
  obtain ⟨news, h⟩ := truthB_some h
  exact ⟨news, by unfold inlS; rw [h]; rfl⟩
/-! cells of a kind -/
theorem has_b {ks : List K} {fs : List FV} (h : All2 K.has (.b :: ks) fs) : ∃ x fs', fs = .b x :: fs' ∧ All2 K.has ks fs' := by
  cases fs with
  | nil => exact h.elim
  | cons f fs =>
    obtain ⟨h1, h2⟩ := h
    cases f <;> first | exact h1.elim | exact ⟨_, _, rfl, h2⟩
theorem has_i {k : IntKind} {ks : List K} {fs : List FV} (h : All2 K.has (.i k :: ks) fs) : ∃ n fs', fs = .i k n :: fs' ∧ k.has n ∧ All2 K.has ks fs' := by
  cases fs with
  | nil => exact h.elim
  | cons f fs =>
    obtain ⟨h1, h2⟩ := h
    cases f <;> first | exact h1.elim | skip
    obtain ⟨rfl, h3⟩ := h1
    exact ⟨_, _, rfl, h3, h2⟩
theorem has_s {ks : List K} {fs : List FV} (h : All2 K.has (.s :: ks) fs) : ∃ x fs', fs = .s x :: fs' ∧ All2 K.has ks fs' := by
  cases fs with
  | nil => exact h.elim
  | cons f fs =>
    obtain ⟨h1, h2⟩ := h
    cases f <;> first | exact h1.elim | exact ⟨_, _, rfl, h2⟩
theorem has_nil {fs : List FV} (h : All2 K.has [] fs) : fs = [] := by
  cases fs with
  | nil => rfl
  | cons f fs => exact h.elim
theorem fits_nil {fss : List (List FV)} (h : Fits [] fss) : fss = [] := by
  cases fss with
  | nil => rfl
  | cons f fs => exact h.elim
theorem fits_cons {p : Bool × List K} {ps : List (Bool × List K)} {fss : List (List FV)} (h : Fits (p :: ps) fss) : ∃ fs fss', fss = fs :: fss' ∧ All2 K.has p.2 fs ∧ Fits ps fss' := by
  cases fss with
  | nil => exact h.elim
  | cons f fs => exact ⟨_, _, rfl, h⟩
end
end Go.Ab
