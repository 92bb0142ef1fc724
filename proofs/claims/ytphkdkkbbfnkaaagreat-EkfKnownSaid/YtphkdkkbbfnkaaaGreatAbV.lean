/-
  The abstract machine and the model: contracts put together; a law's statement from its contract, where no parameter has memory.
-/
import Derived.Test.YtphkdkkbbfnkaaaGreatAbU
import Derived.ProofKit
import Derived.OpenShut
namespace Go.Ab
variable [Amb]
open Go.ChangeShapes Go.WideShapes Go.ChangeAt Go.RowKit

def callable (P : Program) (f : FuncId) : Bool := match P.funcs[f]? with
  | some fn => !(fn.name == "runtime.NumGoroutine") && fn.body.isSome
  | none => false
omit [Amb] in
theorem callable_run {P : Program} {f : FuncId} (h : callable P f = true) (args : Array Value) (w : World) : (callFunc f args).run P w = .ok (.enter f args) w := by
  unfold callable at h
  split at h
  · rename_i fn hf
    simp only [Bool.and_eq_true, Bool.not_eq_true'] at h
    cases hb : fn.body with
    | none => rw [hb] at h; cases h.2
    | some c =>
      have h1 : fn.name ≠ "runtime.NumGoroutine" := by simpa using h.1
      simp [callFunc, hf, h1, hb]
  · cases h
def envOf : List (Nat × Sem1) → Env
  | [], _ => none
  | p :: l, f => match Nat.beq p.1 f with
    | true => some p.2
    | false => envOf l f
def EnvOK (P : Program) (l : List (Nat × Sem1)) : Prop := ∀ f F, envOf l f = some F → Sound P f F
theorem EnvOK.nil (P : Program) : EnvOK P [] := fun _ _ h => by cases h
theorem EnvOK.cons {P : Program} {l : List (Nat × Sem1)} {f : Nat} {F : Sem1} (S : Sound P f F) (h : EnvOK P l) : EnvOK P ((f, F) :: l) := fun g G hg => by
  simp only [envOf] at hg
  split at hg
  · rename_i hb
    cases hg
    rw [← Nat.eq_of_beq_eq_true hb]; exact S
  · exact h g G hg
noncomputable def inl (P : Program) (l : List (Nat × Sem1)) (hs : Hs) (lf : Nat) (f : FuncId) : Sem1 := fun args h => tOf (den P (envOf l) hs lf f args h)
theorem inl_sound {P : Program} {l : List (Nat × Sem1)} (hl : EnvOK P l) (hm : P.follows .mixedOrders = true) (hd : List Hd) (d0 : List Nat) (lf : Nat) {f : FuncId} (hc : callable P f = true) : Sound P f (inl P l ⟨hd, [], d0, [], none⟩ lf f) :=
  den_sound hl hm (fun _ _ _ _ _ => Sums.nil ..) (callable_run hc)
theorem inl_sums {P : Program} {l : List (Nat × Sem1)} (hl : EnvOK P l) (hm : P.follows .mixedOrders = true) {hs : Hs} {lf : Nat} {f : FuncId} (hsum : ∀ fn c kk, P.funcs[f]? = some fn → fn.body = some c → Sums P (envOf l) hs fn.ntmps kk lf c) (hc : callable P f = true) : Sound P f (inl P l hs lf f) :=
  den_sound hl hm hsum (callable_run hc)
omit [Amb] in
theorem inl_eval {P : Program} {l : List (Nat × Sem1)} {hs : Hs} {lf : Nat} {f : FuncId} {args : List AV} {h : List Blk} {r : Res} (hd : den P (envOf l) hs lf f args h = some r) : (inl P l hs lf f args h).eval = some r := by
  unfold inl; rw [hd]; rfl
theorem Sound.by {P : Program} {f : FuncId} {F F0 : Sem1} (S : Sound P f F0) (h : ∀ args b r, (F args b).eval = some r → (F0 args b).eval = some r) : Sound P f F :=
  S.weaken fun args b r hr => ⟨r, h args b r hr, .refl _ _⟩

/-! nothing that was there has turned -/
omit [Amb] in
theorem FrameOK.kept {w w' : World} (h : FrameOK w (fun _ _ => False) w') : w.keptBut w' (fun _ => False) := by
  refine ⟨h.os, h.output, fun i hi => ?_⟩
  cases hh : w.heap[i]? with
  | none => rw [h.obj i hi (by rw [hh]; intro c t fz e; cases e), hh]
  | some x =>
    cases x with
    | cells c t fr =>
      obtain ⟨c', e1, e2, e3⟩ := h.row i c t fr hh
      rw [e1]
      exact ⟨rfl, rfl, e2, fun j _ => e3 j (fun f => f)⟩
    | map es clock =>
      rw [h.obj i hi (by rw [hh]; intro c t fz e; cases e), hh]
      exact .inr ⟨rfl, rfl⟩
    | _ => rw [h.obj i hi (by rw [hh]; intro c t fz e; cases e), hh]
omit [Amb] in
theorem FrameOK.sameAt {w w' : World} (h : FrameOK w (fun _ _ => False) w') {p : MemPlace} (hp : p.block < w.heap.size) : w.sameAt w' p := by
  cases p with
  | cell b off => exact h.cl hp (fun f => f)
  | map b =>
    show w'.heap[b]? = w.heap[b]?
    have hp : b < w.heap.size := hp
    cases hh : w.heap[b]? with
    | none => rw [h.obj b hp (by rw [hh]; intro c t fz e; cases e), hh]
    | some x =>
      cases x with
      | cells c t fr =>
        obtain ⟨c', e1, e2, e3⟩ := h.row b c t fr hh
        rw [e1]
        have : c' = c := Array.ext_getElem? fun j => e3 j (fun f => f)
        rw [this]
      | _ => rw [h.obj b hp (by rw [hh]; intro c t fz e; cases e), hh]
section
variable {H : Type} {enc : TypeId × Value → H}
omit [Amb] in
theorem trodAll_stays {P : Program} (hl : laidOutB P = true) {W W' : World} (hf : FrameOK W (fun _ _ => False) W') {sp : Nat → Bool} : ∀ {ts : List TypeId} {vs : List Value} {ds : List (DataW H)} {ps : List MemPlace}, (∀ t ∈ ts, P.readableRec t = true ∧ t < P.types.size) →
    DataW.TrodAll enc P W 0 (fun _ => true) true ts vs ds ps → (∀ p ∈ ps, p.block < W.heap.size) → (∀ p ∈ ps, sp p.block = true) → DataW.TrodAll enc P W' 0 sp true ts vs ds ps
  | [], vs, ds, ps, _, h, _, _ => by
    obtain ⟨rfl, rfl, rfl⟩ := trodAll_nil h
    rfl
  | t :: ts, vs, ds, ps, ht, h, h1, h2 => by
    obtain ⟨v, vs1, d, ds1, a, b, rfl, rfl, rfl, h3, h4⟩ := trodAll_cons h
    refine ⟨a, b, WideElems.Trod_stays hl (ht t (by simp)).1 (ht t (by simp)).2 h3 (fun p hp => hf.sameAt (h1 p (by simp [hp]))) (fun p hp => h2 p (by simp [hp])), ?_, rfl⟩
    exact trodAll_stays hl hf (fun t ht' => ht t (by simp [ht'])) h4 (fun p hp => h1 p (by simp [hp])) (fun p hp => h2 p (by simp [hp]))
omit [Amb] in
theorem law_lift {C : Checked} {os : Os} {f : FuncId} {fn : Func} {s : ChangeSpec} {conds : List PathCond} {tb : TypeId}
    (own : ownKnob C.prog.godebug = none) (started : os.Started) (noInit : C.prog.inits.idxOf? f = none) (hfn : C.prog.funcs[f]? = some fn)
    (hl : laidOutB C.prog = true) (hres : fn.resultTypes = #[tb]) (htb : C.prog.underlying tb = some .bool) (hpar : fn.params.all (fun t => C.prog.readableRec t && decide (t < C.prog.types.size)) = true) (hvars : s.vars = [])
    (hspec : ∀ (ds : List (DataW H)), ds.length = fn.params.size → s.fn H ds = { results := [.lit (.bool true)], args := ds })
    (witness : ∃ (w : World) (tape : Tape) (i : Input), w.os = os ∧ (w.forCall tape i).Shaped C.prog ∧ i.vars = [] ∧ Input.okWide C.prog (w.forCall tape i) .any w.heap.size f i ∧
      s.pre6 enc C.prog fn conds false (w.forCall tape i).memory i.args ∧ ({} : Assume).holds C.prog (lone (Frame.enter C.prog f i.args .normal) [] (w.forCall tape i)))
    (contract : ∀ (W : World) (base : Nat) (args : Array Value) (ds : List (DataW H)) (ps : List MemPlace), args.size = fn.params.toList.length →
      (∀ (j : Nat) t v, fn.params.toList[j]? = some t → args[j]? = some v → Value.okWide C.prog W .any base t v) →
      DataW.TrodAll enc C.prog W 0 (fun _ => true) true fn.params.toList args.toList ds ps → W.noneFrozen ps → (∀ p ∈ ps, p.block < W.heap.size) →
      conds.all (PathCond.test C.prog ⟨fn.params.toList, ds, s.plain.varTypes C.prog, []⟩) = true →
      Calls C.prog f args W fun e W' => e = .returned (.bool true) ∧ FrameOK W (fun _ _ => False) W') :
    ReturnsInHanded {} C os f .any (s.pre6 enc C.prog fn conds false) (s.post enc C.prog fn false true false false) := by
  refine returnsInHanded_of_change own started noInit hfn witness ?_
  intro W base args ds gs before hval hW hcnd _
  have hW' := hW
  obtain ⟨p, q, hA, hV, hpq, hfz, hnd⟩ := hW
  rw [hvars] at hV
  obtain ⟨rfl, rfl⟩ := trodVars_none hV
  simp only [List.append_nil] at hpq
  subst hpq
  have hlen : ∀ {ts : List TypeId} {vs : List Value} {ds : List (DataW H)} {ps : List MemPlace}, DataW.TrodAll enc C.prog W 0 (fun _ => true) true ts vs ds ps → vs.length = ts.length ∧ ds.length = ts.length := by
    intro ts
    induction ts with
    | nil => intro vs ds ps h; obtain ⟨rfl, rfl, rfl⟩ := trodAll_nil h; exact ⟨rfl, rfl⟩
    | cons t ts ih => intro vs ds ps h; obtain ⟨v, vs1, d, ds1, a, b, rfl, rfl, rfl, _, h4⟩ := trodAll_cons h; have := ih h4; exact ⟨by simp [this.1], by simp [this.2]⟩
  obtain ⟨l1, l2⟩ := hlen hA
  have hlt : ∀ x ∈ before, x.block < W.heap.size := fun x hx => hW'.lt x hx
  refine (contract W base args ds before (by simpa using l1) (fun j t v hj hv => hval j t v (by rw [← Array.getElem?_toList]; exact hj) hv) hA hfz hlt (by simpa using hcnd)).mono fun e W' ⟨he, hg⟩ => ?_
  subst he
  have hs := hspec ds (by simpa using l2)
  have hr : ∀ t ∈ fn.params.toList, C.prog.readableRec t = true ∧ t < C.prog.types.size := fun t ht => by
    rw [Array.all_eq_true_iff_forall_mem] at hpar
    have := hpar t (by simpa using ht)
    simpa using this
  refine ⟨_, rfl, post_of_same (pa := before) (pv := []) hW' (fun b sp hd => ?_) (fun sp hsp => ?_) (fun sp _ => ?_) (by simp) (World.keptBut_mono (fun _ f => f.elim) hg.kept) hg.fzn (ok_one hres rfl (okWide_bool_mk htb _))⟩
  · rw [List.append_nil, hs, hres]
    exact trodAll_cons_mk (shut_bool htb _) trodAll_mk0
  · rw [List.append_nil, hs]
    exact trodAll_stays hl hg hr hA hlt hsp
  · rw [List.append_nil, hs, hvars]
    rfl
end
end Go.Ab
