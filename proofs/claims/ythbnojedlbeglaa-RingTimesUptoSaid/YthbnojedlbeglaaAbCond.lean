/-
  A law's proof, where the statement has a condition of its own: the law holds without it.
-/
import Derived.Test.YthbnojedlbeglaaAbLaw
import Derived.JoinedCond
namespace Go.Ab
open Go.ChangeShapes Go.WideShapes Go.ChangeAt Go.RowKit
section
variable {H : Type} {enc : TypeId × Value → H}
theorem law_lift_cond {C : Checked} {os : Os} {f : FuncId} {fn : Func} {s : OpenSpec} {kc : (H : Type) → List (DataW H) → Bool} (hk : s.cond = some kc) {conds : List PathCond} {tb : TypeId} {F : Stop.Interp}
    (own : ownKnob C.prog.godebug = none) (started : os.Started) (noInit : C.prog.inits.idxOf? f = none) (hfn : C.prog.funcs[f]? = some fn)
    (hl : laidOutB C.prog = true) (hres : fn.resultTypes = #[tb]) (htb : C.prog.underlying tb = some .bool) (hpar : fn.params.all (fun t => C.prog.readableRec t && decide (t < C.prog.types.size)) = true) (hvars : s.vars = [])
    (hspec : ∀ (ds : List (DataW H)), ds.length = fn.params.size → (s.at F).fn H ds = { results := [.lit (.bool true)], args := ds })
    (witness : ∃ (w : World) (tape : Tape) (i : Input), w.os = os ∧ (w.forCall tape i).Shaped C.prog ∧ i.vars = [] ∧ Input.okWide C.prog (w.forCall tape i) .any w.heap.size f i ∧
      s.pre6 enc C.prog fn conds false (w.forCall tape i).memory i.args ∧ ({} : Assume).holds C.prog (lone (Frame.enter C.prog f i.args .normal) [] (w.forCall tape i)))
    (contract : ∀ (W : World) (base : Nat) (args : Array Value) (ds : List (DataW H)) (ps : List MemPlace), args.size = fn.params.toList.length →
      (∀ (j : Nat) t v, fn.params.toList[j]? = some t → args[j]? = some v → Value.okWide C.prog W .any base t v) →
      DataW.TrodAll enc C.prog W 0 (fun _ => true) true fn.params.toList args.toList ds ps → W.noneFrozen ps → (∀ p ∈ ps, p.block < W.heap.size) →
      Calls C.prog f args W fun e W' => e = .returned (.bool true) ∧ FrameOK W (fun _ _ => False) W') :
    ReturnsInHanded {} C os f .any (s.pre6 enc C.prog fn conds false) ((s.at F).post enc C.prog fn false true false false) := by
  have hvars2 : (s.at F).vars = [] := hvars
  refine returnsInHanded_of_cond hk own started noInit hfn witness ?_
  intro W base args ds gs before hval hW hcnd hkk _
  have hW' := hW
  obtain ⟨p, q, hA, hV, hpq, hfz, hnd⟩ := hW
  rw [hvars] at hV
  obtain ⟨rfl, rfl⟩ := trodVars_none hV
  simp only [List.append_nil] at hpq
  subst hpq
  have hlen : ∀ {ts : List TypeId} {vs : List Value} {ds : List (DataW H)} {ps : List MemPlace}, DataW.TrodAll enc C.prog W 0 (fun _ => true) true ts vs ds ps → vs.length = ts.length ∧ ds.length = ts.length := by
    intro ts
    induction ts with
    | nil => intro vs ds ps h; obtain ⟨rfl, rfl, rfl⟩ := trodAll_nil h; exact ⟨rfl, rfl⟩
    | cons t ts ih => intro vs ds ps h; obtain ⟨v, vs1, d, ds1, a, b, rfl, rfl, rfl, _, h4⟩ := trodAll_cons h; have := ih h4; exact ⟨by simp [this.1], by simp [this.2]⟩
  obtain ⟨l1, l2⟩ := hlen hA
  have hlt : ∀ x ∈ before, x.block < W.heap.size := fun x hx => hW'.lt x hx
  refine (contract W base args ds before (by simpa using l1) (fun j t v hj hv => hval j t v (by rw [← Array.getElem?_toList]; exact hj) hv) hA hfz hlt).mono fun e W' ⟨he, hg⟩ => ?_
  subst he
  have hs := hspec ds (by simpa using l2)
  have hr : ∀ t ∈ fn.params.toList, C.prog.readableRec t = true ∧ t < C.prog.types.size := fun t ht => by
    rw [Array.all_eq_true_iff_forall_mem] at hpar
    have := hpar t (by simpa using ht)
    simpa using this
  refine ⟨_, rfl, post_of_same (pa := before) (pv := []) hW' (fun b sp hd => ?_) (fun sp hsp => ?_) (fun sp _ => ?_) (by simp) (World.keptBut_mono (fun _ f => f.elim) hg.kept) hg.fzn (ok_one hres rfl (okWide_bool_mk htb _))⟩
  · rw [List.append_nil, hs, hres]
    exact trodAll_cons_mk (shut_bool htb _) trodAll_mk0
  · rw [List.append_nil, hs]
    exact trodAll_stays hl hg hr hA hlt hsp
  · rw [List.append_nil, hs, hvars2]
    rfl
end
end Go.Ab
