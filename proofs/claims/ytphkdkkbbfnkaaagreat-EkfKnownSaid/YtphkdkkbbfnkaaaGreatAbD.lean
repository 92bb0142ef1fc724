/-
  The abstract machine and the model: calls.
-/
import Derived.Test.YtphkdkkbbfnkaaaGreatAbC
namespace Go.Ab
variable [Amb]

/-! heaps as lists -/
def hC (l : List (Option Blk)) (b j : Nat) : CV := match (l[b]?).getD none with
  | some k => if j < k.size then k.get j else .f .u
  | none => .f .u
def hZ (l : List (Option Blk)) (b : Nat) : Option Nat := ((l[b]?).getD none).map Blk.size
def after : List Blk → List Ch → List (Option Blk)
  | [], _ => []
  | b :: bs, .keep :: cs => some b :: after bs cs
  | _ :: bs, .set b :: cs => some b :: after bs cs
  | _ :: bs, .kill :: cs => none :: after bs cs
  | _ :: bs, [] => none :: after bs []
omit [Amb] in
theorem after_length : ∀ (h : List Blk) (cs : List Ch), (after h cs).length = h.length
  | [], _ => rfl
  | _ :: bs, .keep :: cs => by simp [after, after_length bs cs]
  | _ :: bs, .set b :: cs => by simp [after, after_length bs cs]
  | _ :: bs, .kill :: cs => by simp [after, after_length bs cs]
  | _ :: bs, [] => by simp [after, after_length bs []]
def Res.heap (r : Res) (h : List Blk) : List (Option Blk) := after h r.chg ++ r.news.map some
def chD (cs : List Ch) (b : Nat) : Prop := cs[b]? ≠ some .keep
def CallPost (π : Pi) (w0 : World) (h : List Blk) (res : Res) : Ending → World → Prop := fun e w' => ∃ π' v, e = .returned v ∧ Ext π π' ∧ res.val.rel π' v ∧ HRel π' (hC (res.heap h)) (hZ (res.heap h)) w' ∧ FrameOK w0 (foot π h.length (chD res.chg)) w' ∧
      (∀ b, π' b ≠ none → b < h.length + res.news.length) ∧
      (∀ b B s q e, h.length ≤ b → π' b = some (B, s, q, e) → B < w0.heap.size → ∀ i, s ≤ i → i < e → foot π h.length (chD res.chg) B i)
def Sound (P : Program) (f : FuncId) (F : Sem1) : Prop :=
  ∀ args h res, (F args h).eval = some res → ∀ (w : World) (π : Pi) (vs : Array Value), All2 (AV.rel π) args vs.toList → HRel π (hC (h.map some)) (hZ (h.map some)) w → (∀ b, π b ≠ none → b < h.length) →
    ((callFunc f vs).run P w = .ok (.enter f vs) w ∧ Calls P f vs w (CallPost π w h res)) ∨ ∃ v, (callFunc f vs).run P w = .ok (.value v) w ∧ CallPost π w h res (.returned v) w

omit [Amb] in
theorem T.rd_eval {t : T} {g : Gt} {r : Res} {l : List Fp} (h : Ran t.rd g r l) : t.eval = some r := by
  induction t generalizing l with
  | leaf r => cases h; rfl
  | fail => cases h
  | test x a b iha ihb =>
    cases h with | test h =>
    cases x
    · exact ihb h
    · exact iha h
  | opt x k ih =>
    cases h with | opt hx h =>
    subst hx
    exact ih _ h

/-! views -/
def piL (π : Pi) (vs : List Vw) : Pi := fun j => match vs[j]? with
  | some v => match π v.b with
    | some (B, s, _, e) => some (B, s + v.o.val, v.n, if v.own then e else s + v.o.val + v.n)
    | none => none
  | none => none
def Pre (vs vs' : List Vw) : Prop := ∃ t, vs' = vs ++ t
omit [Amb] in
theorem Pre.refl (vs : List Vw) : Pre vs vs := ⟨[], by simp⟩
omit [Amb] in
theorem Pre.trans {a b c : List Vw} (h : Pre a b) (k : Pre b c) : Pre a c := by
  obtain ⟨t, rfl⟩ := h
  obtain ⟨u, rfl⟩ := k
  exact ⟨t ++ u, by simp⟩
omit [Amb] in
theorem Pre.get {vs vs' : List Vw} (h : Pre vs vs') {j : Nat} {v : Vw} (hj : vs[j]? = some v) : vs'[j]? = some v := by
  obtain ⟨t, rfl⟩ := h
  rw [List.getElem?_append_left (List.getElem?_eq_some_iff.1 hj).1, hj]
omit [Amb] in
theorem Pre.length {vs vs' : List Vw} (h : Pre vs vs') : vs.length ≤ vs'.length := by
  obtain ⟨t, rfl⟩ := h; simp
omit [Amb] in
theorem Pre.ext {π : Pi} {vs vs' : List Vw} (h : Pre vs vs') : Ext (piL π vs) (piL π vs') := by
  intro j p hp
  unfold piL at hp ⊢
  cases hj : vs[j]? with
  | none => rw [hj] at hp; cases hp
  | some v => rw [h.get hj]; rw [hj] at hp; exact hp
def VsOk (π : Pi) (vs : List Vw) : Prop :=
  (∀ (i j : Nat) (v v' : Vw), i ≠ j → vs[i]? = some v → vs[j]? = some v' → v.b = v'.b → (v.o.val + v.n ≤ v'.o.val ∨ v'.o.val + v'.n ≤ v.o.val) ∧ (v.own = false ∨ v'.own = false)) ∧
  ∀ (i : Nat) (v : Vw), vs[i]? = some v → ∃ B s q e, π v.b = some (B, s, q, e) ∧ v.o.val + v.n ≤ q ∧ (v.own = true → v.o.val + v.n = q)
omit [Amb] in
theorem VsOk.nil (π : Pi) : VsOk π [] := ⟨fun i j v v' _ h => by simp at h, fun i v h => by simp at h⟩
omit [Amb] in
theorem ext_eq {o : Off} {cnt : Sz} {z c n : Nat} (h : ext o cnt z = some (c, n)) : o.val = c ∧ cnt.val * z = n := by
  unfold ext at h
  split at h
  · simp only [Option.some.injEq, Prod.mk.injEq] at h
    exact h
  · cases h
omit [Amb] in
theorem apartV_spec {b : Nat} {o : Off} {cnt : Sz} {z : Nat} {vs : List Vw} (h : apartV b (ext o cnt z) vs = true) : ∀ v ∈ vs, v.b = b → (o.val + cnt.val * z ≤ v.o.val ∨ v.o.val + v.n ≤ o.val) := fun v hv hb => by
  have := List.all_eq_true.1 h v hv
  rw [hb, Nat.beq_refl] at this
  simp only [Bool.not_true, Bool.false_or] at this
  split at this
  · rename_i o1 n1 o2 n2 h1 h2
    obtain ⟨e1, e2⟩ := ext_eq h1
    obtain ⟨e3, e4⟩ := ext_eq h2
    simp only [Bool.or_eq_true, ble_iff] at this
    rw [e1, e2, e3, Vw.n, e4]; exact this
  · cases this
omit [Amb] in
theorem VsOk.snoc {π : Pi} {vs : List Vw} (h : VsOk π vs) (v : Vw) (ha : apartV v.b (ext v.o v.cnt v.z) vs = true) (hb : ∃ B s q e, π v.b = some (B, s, q, e) ∧ v.o.val + v.n ≤ q ∧ (v.own = true → v.o.val + v.n = q)) (hown : v.own = true → ∀ v' ∈ vs, v'.b = v.b → v'.own = false) : VsOk π (vs ++ [v]) := by
  have hap := apartV_spec ha
  have cases' : ∀ (i : Nat) (w : Vw), (vs ++ [v])[i]? = some w → (i < vs.length ∧ vs[i]? = some w) ∨ (i = vs.length ∧ w = v) := fun i w hw => by
    rcases Nat.lt_or_ge i vs.length with hi | hi
    · rw [List.getElem?_append_left hi] at hw; exact .inl ⟨hi, hw⟩
    · rw [List.getElem?_append_right hi] at hw
      have : i - vs.length = 0 := by
        have := (List.getElem?_eq_some_iff.1 hw).1; simp at this; omega
      rw [this] at hw
      exact .inr ⟨by omega, by simpa using hw.symm⟩
  refine ⟨fun i j x y hij hx hy hxy => ?_, fun i x hx => ?_⟩
  · rcases cases' i x hx with ⟨hi, hx'⟩ | ⟨hi, rfl⟩
    · rcases cases' j y hy with ⟨hj, hy'⟩ | ⟨hj, rfl⟩
      · exact h.1 i j x y hij hx' hy' hxy
      · have hm := List.mem_of_getElem? hx'
        refine ⟨(hap x hm hxy).symm, ?_⟩
        cases hvo : y.own with
        | false => exact .inr rfl
        | true => exact .inl (hown hvo x hm hxy)
    · rcases cases' j y hy with ⟨hj, hy'⟩ | ⟨hj, rfl⟩
      · have hm := List.mem_of_getElem? hy'
        refine ⟨hap y hm hxy.symm, ?_⟩
        cases hvo : x.own with
        | false => exact .inl rfl
        | true => exact .inr (hown hvo y hm hxy.symm)
      · omega
  · rcases cases' i x hx with ⟨hi, hx'⟩ | ⟨hi, rfl⟩
    · exact h.2 i x hx'
    · exact hb
omit [Amb] in
theorem findV_spec {b : Nat} {e : Option (Nat × Nat)} : ∀ {vs : List Vw} {i0 i d : Nat} {ow : Bool}, findV b e vs i0 = some (i, d, ow) → ∃ k v o n o' n', i = i0 + k ∧ vs[k]? = some v ∧ v.b = b ∧ e = some (o, n) ∧ ext v.o v.cnt v.z = some (o', n') ∧ o' ≤ o ∧ o + n ≤ o' + n' ∧ d = o - o' ∧ ow = v.own
  | [], _, _, _, _, h => by simp [findV] at h
  | v :: vs, i0, i, d, ow, h => by
    have next : findV b e vs (i0 + 1) = some (i, d, ow) → ∃ k u o n o' n', i = i0 + k ∧ (v :: vs)[k]? = some u ∧ u.b = b ∧ e = some (o, n) ∧ ext u.o u.cnt u.z = some (o', n') ∧ o' ≤ o ∧ o + n ≤ o' + n' ∧ d = o - o' ∧ ow = u.own := fun h => by
      obtain ⟨k, v', o, n, o', n', h1, h2, h3⟩ := findV_spec h
      exact ⟨k + 1, v', o, n, o', n', by omega, by simpa using h2, h3⟩
    simp only [findV] at h
    split at h
    · exact next h
    · rename_i hb
      rw [beq_iff] at hb
      split at h
      · rename_i o n o' n' h1
        split at h
        · rename_i hc
          cases h
          simp only [Bool.and_eq_true, ble_iff] at hc
          exact ⟨0, v, o, n, o', n', rfl, rfl, hb, rfl, h1, hc.1, hc.2, rfl, rfl⟩
        · exact next h
      · exact next h
omit [Amb] in
theorem piL_get {π : Pi} {vs : List Vw} {j : Nat} {v : Vw} (h : vs[j]? = some v) {B s q e : Nat} (hb : π v.b = some (B, s, q, e)) : piL π vs j = some (B, s + v.o.val, v.n, if v.own then e else s + v.o.val + v.n) := by
  unfold piL; rw [h]; simp only [hb]
omit [Amb] in
theorem get_snoc (vs : List Vw) (v : Vw) : (vs ++ [v])[vs.length]? = some v := by simp
abbrev Loc {α : Type} (R : Pi → α → Value → Prop) (π : Pi) (vs : List Vw) (a' : α) (vs' : List Vw) (x : Value) : Prop := Pre vs vs' ∧ (VsOk π vs → VsOk π vs' ∧ R (piL π vs') a' x)
theorem locC_spec {g : Gt} {π : Pi} {c c' : CV} {x : Value} {vs vs' : List Vw} {l : List Fp} (h : Ran (locC c vs) g (c', vs') l) (hx : c.rel π x) : Loc CV.rel π vs c' vs' x := by
  cases c <;> simp only [locC] at h
  case ptr b o n =>
    obtain ⟨B, s, q, e, hp, hx, hm⟩ := hx
    split at h
    · rename_i i d ow hf
      cases h
      obtain ⟨k, v, o1, n1, o2, n2, hk, hv, hb, h1, h2, h3, h4, h5, h6⟩ := findV_spec hf
      obtain ⟨e1, e2⟩ := ext_eq h1
      obtain ⟨e3, e4⟩ := ext_eq h2
      refine ⟨Pre.refl _, fun ok => ⟨ok, ?_⟩⟩
      rw [← hb] at hp
      rw [show i = k by omega]
      simp only [Sz.val, Nat.one_mul] at e2
      refine ⟨_, _, _, _, piL_get hv hp, ?_, ?_⟩
      · rw [hx, e1, e3]; simp only [Off.val]; congr 3; omega
      · show d + n ≤ v.n
        unfold Vw.n; omega
    · obtain ⟨_, ⟨_, h1⟩, _, h⟩ := Ran.bind' h
      cases h
      refine ⟨⟨_, rfl⟩, fun ok => ⟨ok.snoc ⟨b, o, .l 1, n, false, false⟩ h1.must ⟨B, s, q, e, hp, by simp only [Vw.n, Sz.val, Nat.one_mul]; exact hm, fun h => by cases h⟩ (fun h => by cases h), ?_⟩⟩
      exact ⟨_, _, _, _, piL_get (get_snoc vs ⟨b, o, .l 1, n, false, false⟩) hp, by rw [hx]; rfl, by simp [Off.val, Vw.n, Sz.val]⟩
  case cl f b o n =>
    obtain ⟨B, s, q, e, hp, hx, hm⟩ := hx
    split at h
    · rename_i i d ow hf
      cases h
      obtain ⟨k, v, o1, n1, o2, n2, hk, hv, hb, h1, h2, h3, h4, h5, h6⟩ := findV_spec hf
      obtain ⟨e1, e2⟩ := ext_eq h1
      obtain ⟨e3, e4⟩ := ext_eq h2
      refine ⟨Pre.refl _, fun ok => ⟨ok, ?_⟩⟩
      rw [← hb] at hp
      rw [show i = k by omega]
      simp only [Sz.val, Nat.one_mul] at e2
      refine ⟨_, _, _, _, piL_get hv hp, ?_, ?_⟩
      · rw [hx]; exact congrArg (fun t => Value.func (.func f) #[] #[.pointer (some ⟨B, t, none⟩)]) (by rw [e1, e3]; simp only [Off.val]; omega)
      · show d + n ≤ v.n
        unfold Vw.n; omega
    · obtain ⟨_, ⟨_, h1⟩, _, h⟩ := Ran.bind' h
      cases h
      refine ⟨⟨_, rfl⟩, fun ok => ⟨ok.snoc ⟨b, o, .l 1, n, false, false⟩ h1.must ⟨B, s, q, e, hp, by simp only [Vw.n, Sz.val, Nat.one_mul]; exact hm, fun h => by cases h⟩ (fun h => by cases h), ?_⟩⟩
      exact ⟨_, _, _, _, piL_get (get_snoc vs ⟨b, o, .l 1, n, false, false⟩) hp, by rw [hx]; rfl, by simp [Off.val, Vw.n, Sz.val]⟩
  case sl b o len z own =>
    obtain ⟨B, s, q, e, hp, hm, hown, hx⟩ := hx
    split at h
    · rename_i i d ow hf
      cases h
      obtain ⟨k, v, o1, n1, o2, n2, hk, hv, hb, h1, h2, h3, h4, h5, h6⟩ := findV_spec hf
      obtain ⟨e1, e2⟩ := ext_eq h1
      obtain ⟨e3, e4⟩ := ext_eq h2
      refine ⟨Pre.refl _, fun ok => ⟨ok, ?_⟩⟩
      rw [← hb] at hp
      rw [show i = k by omega]
      obtain ⟨_, _, _, _, hp', hv1, hv2⟩ := ok.2 k v hv
      rw [hp] at hp'
      cases hp'
      have hvn : v.n = n2 := e4
      refine ⟨_, _, _, _, piL_get hv hp, ?_, fun ho => ?_, ?_⟩
      · show d + len.val * z ≤ v.n
        omega
      · simp only [Bool.and_eq_true] at ho
        rw [h6] at ho
        have a1 := hown ho.1
        have a2 := hv2 ho.2
        show d + len.val * z = v.n
        omega
      · refine hx.imp id fun ⟨cap, hcap, hx, hc⟩ => ⟨cap, hcap, ?_, fun ho => ?_⟩
        · show x = Value.slice (some ⟨B, s + v.o.val + d, none⟩) len.val cap
          rw [hx, show s + o.val = s + v.o.val + d by omega]
        · simp only [Bool.and_eq_true] at ho
          have a1 := hc ho.1
          rw [h6] at ho
          rw [if_pos ho.2]
          show s + v.o.val + d + cap * z ≤ e
          omega
    · obtain ⟨_, ⟨_, h1⟩, _, h⟩ := Ran.bind' h
      cases h
      generalize hu : (own && vs.all fun v => !Nat.beq v.b b || !v.own) = u
      have hu1 : u = true → own = true ∧ ∀ v' ∈ vs, v'.b = b → v'.own = false := fun h => by
        rw [← hu] at h
        simp only [Bool.and_eq_true] at h
        refine ⟨h.1, fun v' hv' hb' => ?_⟩
        have := List.all_eq_true.1 h.2 v' hv'
        rw [hb', Nat.beq_refl] at this
        simpa using this
      refine ⟨⟨_, rfl⟩, fun ok => ⟨ok.snoc ⟨b, o, len, z, true, u⟩ h1.must ⟨B, s, q, e, hp, hm, fun ho => hown (hu1 ho).1⟩ (fun ho => (hu1 ho).2), ?_⟩⟩
      refine ⟨_, _, _, _, piL_get (get_snoc vs ⟨b, o, len, z, true, u⟩) hp, by simp [Off.val, Vw.n, Sz.val], fun _ => by simp [Off.val, Vw.n, Sz.val], ?_⟩
      refine hx.imp id fun ⟨cap, hcap, hx, hc⟩ => ⟨cap, hcap, by rw [hx]; rfl, fun ho => ?_⟩
      rw [if_pos ho]
      have := hc (hu1 ho).1
      show s + o.val + 0 + cap * z ≤ e
      omega
  all_goals (cases h; exact ⟨Pre.refl _, fun ok => ⟨ok, hx⟩⟩)
omit [Amb] in
theorem locL_spec {α : Type} {R : Pi → α → Value → Prop} (mono : ∀ {π π' : Pi}, Ext π π' → ∀ a x, R π a x → R π' a x) {f : α → List Vw → Rd (α × List Vw)} {ff : List α → List Vw → Rd (List α × List Vw)} (hff : ∀ vs, ff [] vs = .ret ([], vs)) (hff2 : ∀ a l vs, ff (a :: l) vs = (f a vs).bind fun x => (ff l x.2).bind fun y => .ret (x.1 :: y.1, y.2))
    {g : Gt} {π : Pi} (hf : ∀ {a a' vs vs' l x}, Ran (f a vs) g (a', vs') l → R π a x → Loc R π vs a' vs' x) : ∀ {as as' : List α} {vs vs' : List Vw} {l : List Fp} {xs : List Value}, Ran (ff as vs) g (as', vs') l → All2 (R π) as xs → Pre vs vs' ∧ (VsOk π vs → VsOk π vs' ∧ All2 (R (piL π vs')) as' xs)
  | [], as', vs, vs', l, xs, h, hx => by
    rw [hff] at h; cases h
    exact ⟨Pre.refl _, fun ok => ⟨ok, by cases xs with | nil => trivial | cons => exact hx.elim⟩⟩
  | a :: as, as', vs, vs', l, [], h, hx => hx.elim
  | a :: as, as', vs, vs', l, x :: xs, h, ⟨hx, hxs⟩ => by
    rw [hff2] at h
    obtain ⟨p, ⟨_, h1⟩, _, h⟩ := Ran.bind' h
    obtain ⟨y, ⟨_, h2⟩, _, h⟩ := Ran.bind' h
    cases h
    obtain ⟨L1, L2⟩ := hf (a' := p.1) (vs' := p.2) h1 hx
    obtain ⟨p1, p2⟩ := locL_spec mono hff hff2 hf (as := as) (as' := y.1) (vs' := y.2) h2 hxs
    refine ⟨L1.trans p1, fun ok => ?_⟩
    obtain ⟨ok1, r1⟩ := L2 ok
    obtain ⟨ok2, r2⟩ := p2 ok1
    exact ⟨ok2, mono p1.ext _ _ r1, r2⟩
theorem locB_spec {g : Gt} {π : Pi} : ∀ {b b' : Blk} {vs vs' : List Vw} {l : List Fp} {f : Nat → Value}, Ran (locB b vs) g (b', vs') l → (∀ j, j < Blk.size b → (Blk.get b j).rel π (f j)) →
    Pre vs vs' ∧ (VsOk π vs → VsOk π vs') ∧ Blk.size b' = Blk.size b ∧ (VsOk π vs → ∀ j, j < Blk.size b → (Blk.get b' j).rel (piL π vs') (f j))
  | [], b', vs, vs', l, f, h, _ => by
    cases h
    exact ⟨Pre.refl _, id, rfl, fun _ j hj => by rw [Blk.size_nil] at hj; omega⟩
  | .c v :: r, b', vs, vs', l, f, h, hx => by
    obtain ⟨p, ⟨_, h1⟩, _, h⟩ := Ran.bind' h
    obtain ⟨y, ⟨_, h2⟩, _, h⟩ := Ran.bind' h
    cases h
    obtain ⟨L1, L2⟩ := locC_spec (c' := p.1) (vs' := p.2) h1 (hx 0 (by rw [Blk.size_cons, Sg.size_c]; omega))
    obtain ⟨p1, p2, p3, p4⟩ := locB_spec (b := r) (b' := y.1) (vs' := y.2) (f := fun j => f (j + 1)) h2 (fun j hj => by
      have := hx (j + 1) (by rw [Blk.size_cons, Sg.size_c]; omega)
      rwa [← Blk.get_ge_c (l := r) (j' := j) (by omega) (by omega)] at this)
    refine ⟨L1.trans p1, fun ok => p2 (L2 ok).1, by rw [Blk.size_cons, Blk.size_cons, p3]; rfl, fun ok j hj => ?_⟩
    obtain ⟨ok1, r1⟩ := L2 ok
    cases j with
    | zero => exact CV.rel_mono p1.ext _ _ r1
    | succ j =>
      rw [← Blk.get_ge_c (l := y.1) (j' := j) (by omega) (by omega)]
      exact p4 ok1 j (by rw [Blk.size_cons, Sg.size_c] at hj; omega)
  | .a n cols :: r, b', vs, vs', l, f, h, hx => by
    obtain ⟨y, ⟨_, h2⟩, _, h⟩ := Ran.bind' h
    cases h
    obtain ⟨p1, p2, p3, p4⟩ := locB_spec (b := r) (b' := y.1) (vs' := y.2) (f := fun j => f (j + (Sg.a n cols).size)) h2 (fun j hj => by
      have := hx (j + (Sg.a n cols).size) (by rw [Blk.size_cons]; omega)
      rwa [Blk.get_ge (by omega), Nat.add_sub_cancel] at this)
    refine ⟨p1, p2, by rw [Blk.size_cons, Blk.size_cons, p3], fun ok j hj => ?_⟩
    rw [Blk.size_cons] at hj
    by_cases hj2 : j < (Sg.a n cols).size
    · have := hx j (by rw [Blk.size_cons]; omega)
      rw [Blk.get_lt hj2, Sg.get_a] at this
      rw [Blk.get_lt hj2, Sg.get_a]
      obtain ⟨v, hv⟩ := rget_f cols j
      rw [hv] at this ⊢
      exact this
    · rw [Blk.get_ge (by omega)]
      have := p4 ok (j - (Sg.a n cols).size) (by omega)
      rwa [Nat.sub_add_cancel (by omega)] at this
theorem locR_spec {g : Gt} {π : Pi} {r r' : RV} {x : Value} {vs vs' : List Vw} {l : List Fp} (h : Ran (locR r vs) g (r', vs') l) (hx : r.rel π x) : Loc RV.rel π vs r' vs' x := by
  cases r with
  | c c =>
    obtain ⟨p, ⟨_, h1⟩, _, h⟩ := Ran.bind' h
    cases h
    exact locC_spec (c' := p.1) (vs' := p.2) h1 hx
  | agg cs =>
    obtain ⟨p, ⟨_, h1⟩, _, h⟩ := Ran.bind' h
    cases h
    obtain ⟨arr, rfl, hr⟩ := hx
    obtain ⟨l1, l2⟩ := list_rel hr
    obtain ⟨p1, p2, p3, p4⟩ := locB_spec (b' := p.1) (vs' := p.2) (f := fun j => arr.toList.getD j undef) h1 (fun j hj => by
      obtain ⟨x, hx, hr⟩ := l2 j hj
      simp only [List.getD, hx, Option.getD_some]; exact hr)
    refine ⟨p1, fun ok => ⟨p2 ok, arr, rfl, rel_list (by rw [l1, p3]) fun j hj => ?_⟩⟩
    obtain ⟨x, hx, _⟩ := l2 j (by omega)
    have := p4 ok j (by omega)
    simp only [List.getD, hx, Option.getD_some] at this
    exact ⟨x, hx, this⟩
theorem locRs_spec {g : Gt} {π : Pi} {cs cs' : List RV} {xs : List Value} {vs vs' : List Vw} {l : List Fp} (h : Ran (locRs cs vs) g (cs', vs') l) (hx : All2 (RV.rel π) cs xs) : Pre vs vs' ∧ (VsOk π vs → VsOk π vs' ∧ All2 (RV.rel (piL π vs')) cs' xs) :=
  locL_spec (R := RV.rel) (fun h a x r => RV.rel_mono h a x r) (f := locR) (ff := locRs) (fun _ => rfl) (fun _ _ _ => rfl) (fun h hx => locR_spec h hx) h hx
theorem locA_spec {g : Gt} {π : Pi} {r r' : AV} {x : Value} {vs vs' : List Vw} {l : List Fp} (h : Ran (locA r vs) g (r', vs') l) (hx : r.rel π x) : Loc AV.rel π vs r' vs' x := by
  cases r with
  | r c =>
    obtain ⟨p, ⟨_, h1⟩, _, h⟩ := Ran.bind' h
    cases h
    exact locR_spec (r' := p.1) (vs' := p.2) h1 hx
  | tup cs =>
    obtain ⟨p, ⟨_, h1⟩, _, h⟩ := Ran.bind' h
    cases h
    obtain ⟨arr, rfl, hr⟩ := hx
    obtain ⟨p1, p2⟩ := locRs_spec (cs' := p.1) (vs' := p.2) h1 hr
    exact ⟨p1, fun ok => ⟨(p2 ok).1, arr, rfl, (p2 ok).2⟩⟩
  | fn f cs =>
    obtain ⟨p, ⟨_, h1⟩, _, h⟩ := Ran.bind' h
    cases h
    obtain ⟨arr, rfl, hr⟩ := hx
    obtain ⟨p1, p2⟩ := locRs_spec (cs' := p.1) (vs' := p.2) h1 hr
    exact ⟨p1, fun ok => ⟨(p2 ok).1, arr, rfl, (p2 ok).2⟩⟩
  | und => cases h; exact ⟨Pre.refl _, fun ok => ⟨ok, trivial⟩⟩
theorem locAs_spec {g : Gt} {π : Pi} {cs cs' : List AV} {xs : List Value} {vs vs' : List Vw} {l : List Fp} (h : Ran (locAs cs vs) g (cs', vs') l) (hx : All2 (AV.rel π) cs xs) : Pre vs vs' ∧ (VsOk π vs → VsOk π vs' ∧ All2 (AV.rel (piL π vs')) cs' xs) :=
  locL_spec (R := AV.rel) (fun h a x r => AV.rel_mono h a x r) (f := locA) (ff := locAs) (fun _ => rfl) (fun _ _ _ => rfl) (fun h hx => locA_spec h hx) h hx

structure VwOk (π : Pi) (g : Gt) (w : World) (vs : List Vw) (v : Vw) (k : Blk) : Prop where
  live : ∃ q, g.z v.b = some q
  size : Blk.size k = v.n
  rel : ∀ B s q e, π v.b = some (B, s, q, e) → ∀ j, j < v.n → ∃ x, cl w B (s + v.o.val + j) = some x ∧ (Blk.get k j).rel (piL π vs) x
theorem VwOk.pre {π : Pi} {g : Gt} {w : World} {vs vs' : List Vw} {v : Vw} {k : Blk} (h : VwOk π g w vs v k) (p : Pre vs vs') : VwOk π g w vs' v k :=
  ⟨h.live, h.size, fun B s q e hb j hj => let ⟨x, hx, hr⟩ := h.rel B s q e hb j hj; ⟨x, hx, CV.rel_mono p.ext _ _ hr⟩⟩
omit [Amb] in
theorem snoc_get? {α : Type} {l : List α} {x y : α} {j : Nat} (h : (l ++ [x])[j]? = some y) : l[j]? = some y ∨ (j = l.length ∧ y = x) := by
  rcases Nat.lt_or_ge j l.length with hj | hj
  · rw [List.getElem?_append_left hj] at h; exact .inl h
  · rw [List.getElem?_append_right hj] at h
    have : j - l.length = 0 := by
      have := (List.getElem?_eq_some_iff.1 h).1; simp at this; omega
    rw [this] at h
    exact .inr ⟨by omega, by simpa using h.symm⟩
theorem locH_spec {π : Pi} {g : Gt} {w : World} (H : HRel π g.c g.z w) : ∀ {fuel i : Nat} {vs vs' : List Vw} {acc lh : List Blk} {l : List Fp}, Ran (locH fuel i vs acc) g (lh, vs') l → acc.length = i → i ≤ vs.length → VsOk π vs → (∀ (j : Nat) v k, vs[j]? = some v → acc[j]? = some k → VwOk π g w vs v k) →
    Pre vs vs' ∧ VsOk π vs' ∧ lh.length = vs'.length ∧ ∀ (j : Nat) v k, vs'[j]? = some v → lh[j]? = some k → VwOk π g w vs' v k
  | 0, _, _, _, _, _, _, h, _, _, _, _ => by cases h
  | fuel + 1, i, vs, vs', acc, lh, l, h, hi, hi2, ok, hacc => by
    simp only [locH] at h
    split at h
    · rename_i hn
      cases h
      have : vs.length ≤ i := List.getElem?_eq_none_iff.1 hn
      exact ⟨Pre.refl _, ok, by omega, hacc⟩
    · rename_i v hv
      have hlt : i < vs.length := (List.getElem?_eq_some_iff.1 hv).1
      cases h with | vw q k hz hs hk h =>
      obtain ⟨x, ⟨_, h1⟩, _, h⟩ := Ran.bind' h
      obtain ⟨B, s, e, hb, hle, _, hc⟩ := H.hp _ _ hz
      obtain ⟨_, _, _, _, hb', hvb, _⟩ := ok.2 i v hv
      rw [hb] at hb'; cases hb'
      have hvn : v.cnt.val * v.z = v.n := rfl
      rw [hvn] at hs hk
      have hk := hk hvb
      generalize hkk : rowIf v.sl v.z k = k2 at h1
      have hk2 : Blk.size k2 = Blk.size k ∧ ∀ j, j < Blk.size k → Blk.get k2 j = Blk.get k j := by
        rw [← hkk]
        unfold rowIf
        cases v.sl
        · exact ⟨rfl, fun _ _ => rfl⟩
        · obtain ⟨t1, t2⟩ := toRow_spec v.z k
          obtain ⟨t3, t4⟩ := toS_spec (toRow v.z k)
          exact ⟨t3.trans t1, fun j hj => (t4 j).trans (t2 j hj)⟩
      have cell : ∀ j, j < v.n → ∃ y, cl w B (s + v.o.val + j) = some y ∧ (Blk.get k2 j).rel π y := fun j hj => by
        obtain ⟨y, hy, hr⟩ := hc (v.o.val + j) (by omega)
        rw [← hk j hj, ← hk2.2 j (by omega)] at hr
        exact ⟨y, by rw [show s + v.o.val + j = s + (v.o.val + j) by omega]; exact hy, hr⟩
      obtain ⟨p1, p2, p3, p4⟩ := locB_spec (b' := x.1) (vs' := x.2) (f := fun j => (cl w B (s + v.o.val + j)).getD undef) h1 (fun j hj => by
        obtain ⟨y, hy, hr⟩ := cell j (by omega)
        rw [hy]; exact hr)
      have hx2 := p1.length
      obtain ⟨q1, q2, q3, q4⟩ := locH_spec H h (by simp [hi]) (by omega) (p2 ok) (fun j u k' hu hk' => by
        rcases snoc_get? hk' with hk' | ⟨hj, rfl⟩
        · have hj : j < acc.length := (List.getElem?_eq_some_iff.1 hk').1
          have hu' : vs[j]? = some u := by
            have : vs[j]? = some (vs[j]'(by omega)) := List.getElem?_eq_getElem _
            rw [this]
            have := p1.get this
            rw [hu] at this; exact this.symm
          exact (hacc j u k' hu' hk').pre p1
        · have huv : u = v := by
            rw [hj, hi] at hu
            have := p1.get hv
            rw [hu] at this; exact Option.some.inj this
          subst huv
          refine ⟨⟨q, hz⟩, by rw [p3, hk2.1, hs], fun B' s' q' e' hb' j hj' => ?_⟩
          rw [hb] at hb'; cases hb'
          obtain ⟨y, hy, _⟩ := cell j hj'
          have := p4 ok j (by omega)
          rw [hy] at this
          exact ⟨y, hy, this⟩)
      exact ⟨p1.trans q1, q2, q3, q4⟩
end Go.Ab
