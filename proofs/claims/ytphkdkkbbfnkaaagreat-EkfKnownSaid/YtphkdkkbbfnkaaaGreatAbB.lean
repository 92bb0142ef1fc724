/-
  The abstract machine and the model: the built-in functions.
-/
import Derived.Test.YtphkdkkbbfnkaaaGreatAbQ
import Derived.Laws.Append
import Derived.Laws.AppendOwn
namespace Go.Ab
variable [Amb]
section
variable {P : Program} {o : Oper} {X : Cx} {D : Nat → Prop} {nid : Nat} {us : List Up} {g : Gt}

theorem args_rel {c : Call} {args : List AV} {l : List Fp} {π : Pi} {a : Act} {w : World} (h : Ran (Ab.mapRd Ab.opd c.args.toList) g args l) (R : Rel X D π g a w) : All2 (AV.rel π) args (c.args.map a.eval).toList := by
  rw [Array.toList_map]
  exact all2_map (Ran.mapRd (ρ := fun v x => v.rel π (a.eval x)) (fun x v l hx => Ran.opd hx R) h)
omit [Amb] in
theorem arr1 {x : Array Value} {y : Value} (h : x.toList = [y]) : x = #[y] := by rw [← Array.toList_inj]; exact h
omit [Amb] in
theorem arr2 {x : Array Value} {y z : Value} (h : x.toList = [y, z]) : x = #[y, z] := by rw [← Array.toList_inj]; exact h
omit [Amb] in
theorem arrT {x : Array TypeId} {y z : TypeId} (h : x.toList = [y, z]) : x = #[y, z] := by rw [← Array.toList_inj]; exact h
omit [Amb] in
theorem all2_one {R : AV → Value → Prop} {x : AV} {l : List Value} (h : All2 R [x] l) : ∃ y, l = [y] ∧ R x y := by
  match l, h with
  | [y], ⟨h, _⟩ => exact ⟨y, rfl, h⟩
  | [], h => exact h.elim
  | _ :: _ :: _, ⟨_, h⟩ => exact h.elim
omit [Amb] in
theorem all2_two {R : AV → Value → Prop} {x x' : AV} {l : List Value} (h : All2 R [x, x'] l) : ∃ y y', l = [y, y'] ∧ R x y ∧ R x' y' := by
  match l, h with
  | [y, y'], ⟨h, h', _⟩ => exact ⟨y, y', rfl, h, h'⟩
  | [], h => exact h.elim
  | [_], ⟨_, h⟩ => exact h.elim
  | _ :: _ :: _ :: _, ⟨_, _, h⟩ => exact h.elim
omit [Amb] in
theorem run_bi {c : Call} {bi : Builtin} (a : Act) (w : World) (ho : o.op = .call c) (hc : c.callee = .builtin bi) : ∃ cs, (execOp a.eval o).run P w = (builtin bi c.argTypes o.type cs (c.args.map a.eval)).run P w :=
  ⟨_, by simp [execOp, ho, resolve, hc, invoke]; rfl⟩
theorem all2_asF {π : Pi} : ∀ {vs : List FV} {xs : List AV} {ys : List Value}, All2 (fun (v : FV) (x : AV) => x = .r (.c (.f v))) vs xs → All2 (AV.rel π) xs ys → All2 FV.rel vs ys
  | [], [], [], _, _ => trivial
  | v :: vs, x :: xs, y :: ys, ⟨e, h⟩, ⟨a, b⟩ => by subst e; exact ⟨a, all2_asF h b⟩
  | [], _ :: _, _, h, _ => h.elim
  | _ :: _, [], _, h, _ => h.elim
  | [], [], _ :: _, _, h => h.elim
  | _ :: _, _ :: _, [], _, h => h.elim

theorem ran_lenV {c : CV} {n : Nat} {l : List Fp} (h : Ran (match c with | .f _ => Rd.fail | c => lenV c) g n l) {π : Pi} {x : Value} (hx : c.rel π x) : ∃ a cap, x = .slice a n cap := by
  cases c <;> simp only [lenV] at h
  case sl b o m z own =>
    cases h
    obtain ⟨B, s, q, e, _, _, _, ⟨h0, a, rfl⟩ | ⟨cap, _, rfl, _⟩⟩ := hx
    · exact ⟨_, _, by rw [h0]⟩
    · exact ⟨_, _, rfl⟩
  case nils => cases h; exact ⟨_, _, hx⟩
  case fs n z cols =>
    cases h
    obtain ⟨_, ⟨h0, a, rfl⟩ | ⟨B, s, cap, _, rfl, _⟩⟩ := hx
    · exact ⟨_, _, by rw [h0]⟩
    · exact ⟨_, _, rfl⟩
  all_goals cases h
theorem sims_len {c : Call} {args : List AV} {x : AV} {fp l0 : List Fp} (ho : o.op = .call c) (hc : c.callee = .builtin .len) (ha : Ran (Ab.mapRd Ab.opd c.args.toList) g args l0) (hargs : args = [x])
    (h : Ran ((Ab.ofO ((c.argTypes[0]?).bind P.underlying)).bind fun
    | .array n _ => .ret (dstU o.dst (.r (.c (.f (.i .i64 (n : Int))))))
    | .slice _ => (Ab.asC x).bind fun c => (match c with | .f _ => Rd.fail | c => lenV c).bind fun n => .ret (dstU o.dst (.r (.c (.f (.i .i64 (n : Int))))))
    | .string => (Ab.asC x).bind fun c => (match c with | .f (.s x) => Rd.ret x.size | _ => Rd.fail).bind fun n => .ret (dstU o.dst (.r (.c (.f (.i .i64 (n : Int))))))
    | _ => .fail) g us fp) : Sims P o X D nid us g := by
  subst hargs
  obtain ⟨d, ⟨_, h1⟩, _, h⟩ := Ran.bind' h
  have h1 := h1.ofO
  obtain ⟨t, ht, hu⟩ : ∃ t, c.argTypes[0]? = some t ∧ P.underlying t = some d := by
    cases ht : c.argTypes[0]? with
    | none => rw [ht] at h1; cases h1
    | some t => rw [ht] at h1; exact ⟨t, rfl, h1⟩
  split at h
  · rename_i n _ _
    cases h
    refine sims_val fun π a w R => ?_
    obtain ⟨y, hy, hr⟩ := all2_one (args_rel ha R)
    have hy := arr1 hy
    exact ⟨goInt n, by obtain ⟨cs, e⟩ := run_bi (P := P) a w ho hc; rw [e, hy]; simp [builtin, Builtin.len_, ht, run_underlying hu], rfl⟩
  · obtain ⟨c1, ⟨_, h2⟩, _, h⟩ := Ran.bind' h
    obtain ⟨n, ⟨_, h3⟩, _, h⟩ := Ran.bind' h
    cases h
    refine sims_val fun π a w R => ?_
    obtain ⟨y, hy, hr⟩ := all2_one (args_rel ha R)
    have hy := arr1 hy
    rw [h2.asC] at hr
    obtain ⟨ad, cap, rfl⟩ := ran_lenV h3 hr
    exact ⟨goInt n, by obtain ⟨cs, e⟩ := run_bi (P := P) a w ho hc; rw [e, hy]; simp [builtin, Builtin.len_, ht, run_underlying hu], rfl⟩
  · obtain ⟨c1, ⟨_, h2⟩, _, h⟩ := Ran.bind' h
    obtain ⟨n, ⟨_, h3⟩, _, h⟩ := Ran.bind' h
    cases h
    refine sims_val fun π a w R => ?_
    obtain ⟨y, hy, hr⟩ := all2_one (args_rel ha R)
    have hy := arr1 hy
    rw [h2.asC] at hr
    split at h3
    · cases h3
      have hr : y = _ := hr
      subst hr
      exact ⟨_, by obtain ⟨cs, e⟩ := run_bi (P := P) a w ho hc; rw [e, hy]; simp [builtin, Builtin.len_, ht, run_underlying hu]; rfl, rfl⟩
    · cases h3
  · cases h

omit [Amb] in
theorem ran_asF {x : AV} {v : FV} {l : List Fp} (h : Ran (Ab.asF x) g v l) : x = .r (.c (.f v)) := by
  unfold Ab.asF at h; split at h
  · cases h; rfl
  · cases h
theorem ran_fold {f : FV → FV → Rd FV} {m : Value → Value → Sem Value} (hf : ∀ x y v l, Ran (f x y) g v l → ∀ a b, x.rel a → y.rel b → ∀ w, ∃ z, (m a b).run P w = .ok z w ∧ v.rel z) : ∀ {xs : List FV} {ys : List Value} {x v : FV} {y : Value} {l : List Fp}, Ran (foldRd f x xs) g v l → x.rel y → All2 FV.rel xs ys → ∀ w, ∃ z, (ys.foldlM m y).run P w = .ok z w ∧ v.rel z
  | [], [], x, v, y, l, h, hx, _, w => by cases h; exact ⟨y, by simp, hx⟩
  | a :: xs, b :: ys, x, v, y, l, h, hx, ⟨ha, hs⟩, w => by
    obtain ⟨r, ⟨_, h1⟩, _, h⟩ := Ran.bind' h
    obtain ⟨z, hz, hr⟩ := hf x a r _ h1 y b hx ha w
    obtain ⟨z', hz', hr'⟩ := ran_fold hf h hr hs w
    exact ⟨z', by simp [List.foldlM_cons, hz, hz'], hr'⟩
  | [], _ :: _, _, _, _, _, _, _, h, _ => h.elim
  | _ :: _, [], _, _, _, _, _, _, h, _ => h.elim
theorem sims_mm {bi : Builtin} {f : FV → FV → Rd FV} {m : Value → Value → Sem Value} (hf : ∀ x y v l, Ran (f x y) g v l → ∀ a b, x.rel a → y.rel b → ∀ w, ∃ z, (m a b).run P w = .ok z w ∧ v.rel z)
    {c : Call} {args : List AV} {x : AV} {xs : List AV} {fp l0 : List Fp} (ho : o.op = .call c) (hc : c.callee = .builtin bi) (hb : ∀ t cs y ys w, (builtin bi c.argTypes t cs (y :: ys).toArray).run P w = ((ys.foldlM m y).run P w).andThen fun v w => .ok (.value v) w)
    (ha : Ran (Ab.mapRd Ab.opd c.args.toList) g args l0) (hargs : args = x :: xs)
    (h : Ran ((Ab.asF x).bind fun x => (Ab.mapRd Ab.asF xs).bind fun l => (foldRd f x l).bind fun v => .ret (dstU o.dst (.r (.c (.f v))))) g us fp) : Sims P o X D nid us g := by
  subst hargs
  obtain ⟨v0, ⟨_, h1⟩, _, h⟩ := Ran.bind' h
  obtain ⟨vs, ⟨_, h2⟩, _, h⟩ := Ran.bind' h
  obtain ⟨v, ⟨_, h3⟩, _, h⟩ := Ran.bind' h
  cases h
  refine sims_val fun π a w R => ?_
  have hr := args_rel ha R
  have h1 := ran_asF h1
  subst h1
  have h2 := Ran.mapRd (ρ := fun v x => x = .r (.c (.f v))) (fun x v l hx => ran_asF hx) h2
  obtain ⟨y, ys, hy, hry, hrs⟩ : ∃ y ys, (c.args.map a.eval).toList = y :: ys ∧ v0.rel y ∧ All2 (AV.rel π) xs ys := by
    revert hr
    generalize (c.args.map a.eval).toList = L
    intro hr
    cases L with
    | nil => exact hr.elim
    | cons y ys => exact ⟨y, ys, rfl, hr.1, hr.2⟩
  have hvs : All2 FV.rel vs ys := all2_asF h2 hrs
  obtain ⟨z, hz, hzr⟩ := ran_fold hf h3 hry hvs w
  have hy' : c.args.map a.eval = (y :: ys).toArray := by rw [← Array.toList_inj]; exact hy
  exact ⟨z, by obtain ⟨cs, e⟩ := run_bi (P := P) a w ho hc; rw [e, hy', hb, hz]; rfl, hzr⟩
theorem minV_run {x y v : FV} {l : List Fp} (h : Ran (minV x y) g v l) (a b : Value) (ha : x.rel a) (hb : y.rel b) (w : World) : ∃ z, (Builtin.min2 a b).run P w = .ok z w ∧ v.rel z := by
  unfold minV at h
  split at h
  · rename_i k m k' n
    have ha : a = _ := ha
    have hb : b = _ := hb
    subst ha hb
    split at h
    · cases h; exact ⟨_, by simp [Builtin.min2], rfl⟩
    · cases h
  · cases h
theorem maxV_run {x y v : FV} {l : List Fp} (h : Ran (maxV x y) g v l) (a b : Value) (ha : x.rel a) (hb : y.rel b) (w : World) : ∃ z, (Builtin.max2 a b).run P w = .ok z w ∧ v.rel z := by
  unfold maxV at h
  split at h
  · rename_i k m k' n
    have ha : a = _ := ha
    have hb : b = _ := hb
    subst ha hb
    split at h
    · cases h; exact ⟨_, by simp [Builtin.max2], rfl⟩
    · cases h
  · cases h
omit [Amb] in
theorem bi_min (ts : Array TypeId) (t : TypeId) (cs : Array Bool) (y : Value) (ys : List Value) (w : World) : (builtin .min ts t cs (y :: ys).toArray).run P w = ((ys.foldlM Builtin.min2 y).run P w).andThen fun v w => .ok (.value v) w := by
  simp [builtin, Builtin.min_]
omit [Amb] in
theorem bi_max (ts : Array TypeId) (t : TypeId) (cs : Array Bool) (y : Value) (ys : List Value) (w : World) : (builtin .max ts t cs (y :: ys).toArray).run P w = ((ys.foldlM Builtin.max2 y).run P w).andThen fun v w => .ok (.value v) w := by
  simp [builtin, Builtin.max_]
end
end Go.Ab
