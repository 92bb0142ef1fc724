/-
  The abstract machine and the model: calls.
-/
import Derived.Test.YtgbgdihahmecoaaAbC
namespace Go.Ab

/-! heaps as lists -/
def hC (l : List (Option Blk)) (b j : Nat) : CV := match (l[b]?).getD none with
  | some k => if j < k.size then k.get j else .f .u
  | none => .f .u
def hZ (l : List (Option Blk)) (b : Nat) : Option Nat := ((l[b]?).getD none).map Blk.size
def after : List Blk → List Ch → List (Option Blk)
  | [], _ => []
  | b :: bs, .keep :: cs => some b :: after bs cs
  | _ :: bs, .set b :: cs => some b :: after bs cs
  | _ :: bs, .kill :: cs => none :: after bs cs
  | _ :: bs, [] => none :: after bs []
theorem after_length : ∀ (h : List Blk) (cs : List Ch), (after h cs).length = h.length
  | [], _ => rfl
  | _ :: bs, .keep :: cs => by simp [after, after_length bs cs]
  | _ :: bs, .set b :: cs => by simp [after, after_length bs cs]
  | _ :: bs, .kill :: cs => by simp [after, after_length bs cs]
  | _ :: bs, [] => by simp [after, after_length bs []]
def Res.heap (r : Res) (h : List Blk) : List (Option Blk) := after h r.chg ++ r.news.map some
/-- what may have been written -/
def chD (cs : List Ch) (b : Nat) : Prop := cs[b]? ≠ some .keep
/-- how a call leaves its blocks -/
def CallPost (π : Pi) (w0 : World) (h : List Blk) (res : Res) : Ending → World → Prop := fun e w' => ∃ π' v, e = .returned v ∧ Ext π π' ∧ res.val.rel π' v ∧ HRel π' (hC (res.heap h)) (hZ (res.heap h)) w' ∧ FrameOK w0 (foot π h.length (chD res.chg)) w' ∧
      (∀ b, π' b ≠ none → b < h.length + res.news.length) ∧
      (∀ b B s e, h.length ≤ b → π' b = some (B, s, e) → B < w0.heap.size → ∀ i, s ≤ i → i < e → foot π h.length (chD res.chg) B i)
/-- a function's contract -/
def Sound (P : Program) (f : FuncId) (F : Sem1) : Prop :=
  ∀ args h res, (F args h).eval = some res → ∀ (w : World) (π : Pi) (vs : Array Value), All2 (AV.rel π) args vs.toList → HRel π (hC (h.map some)) (hZ (h.map some)) w → (∀ b, π b ≠ none → b < h.length) →
    ((callFunc f vs).run P w = .ok (.enter f vs) w ∧ Calls P f vs w (CallPost π w h res)) ∨ ∃ v, (callFunc f vs).run P w = .ok (.value v) w ∧ CallPost π w h res (.returned v) w

theorem T.rd_eval {t : T} {g : Gt} {r : Res} {l : List Fp} (h : Ran t.rd g r l) : t.eval = some r := by
  induction t generalizing l with
  | leaf r => cases h; rfl
  | fail => cases h
  | test x a b iha ihb =>
    cases h with | test h =>
    cases x
    · exact ihb h
    · exact iha h

/-! views -/
def piL (π : Pi) (vs : List Vw) : Pi := fun j => match vs[j]? with
  | some v => match π v.b with
    | some (B, s, e) => some (B, s + v.o, if v.own then e else s + v.o + v.n)
    | none => none
  | none => none
def Pre (vs vs' : List Vw) : Prop := ∃ t, vs' = vs ++ t
theorem Pre.refl (vs : List Vw) : Pre vs vs := ⟨[], by simp⟩
theorem Pre.trans {a b c : List Vw} (h : Pre a b) (k : Pre b c) : Pre a c := by
  obtain ⟨t, rfl⟩ := h
  obtain ⟨u, rfl⟩ := k
  exact ⟨t ++ u, by simp⟩
theorem Pre.get {vs vs' : List Vw} (h : Pre vs vs') {j : Nat} {v : Vw} (hj : vs[j]? = some v) : vs'[j]? = some v := by
  obtain ⟨t, rfl⟩ := h
  rw [List.getElem?_append_left (List.getElem?_eq_some_iff.1 hj).1, hj]
theorem Pre.length {vs vs' : List Vw} (h : Pre vs vs') : vs.length ≤ vs'.length := by
  obtain ⟨t, rfl⟩ := h; simp
theorem Pre.ext {π : Pi} {vs vs' : List Vw} (h : Pre vs vs') : Ext (piL π vs) (piL π vs') := by
  intro j p hp
  unfold piL at hp ⊢
  cases hj : vs[j]? with
  | none => rw [hj] at hp; cases hp
  | some v => rw [h.get hj]; rw [hj] at hp; exact hp
/-- pairwise apart; own ones reach to the block's end, and are alone in that -/
def VsOk (g : Gt) (vs : List Vw) : Prop :=
  (∀ (i j : Nat) (v v' : Vw), i ≠ j → vs[i]? = some v → vs[j]? = some v' → v.b = v'.b → (v.o + v.n ≤ v'.o ∨ v'.o + v'.n ≤ v.o) ∧ (v.own = false ∨ v'.own = false)) ∧
  ∀ (i : Nat) (v : Vw), vs[i]? = some v → v.own = true → g.z v.b = some (v.o + v.n)
theorem VsOk.nil (g : Gt) : VsOk g [] := ⟨fun i j v v' _ h => by simp at h, fun i v h => by simp at h⟩
theorem VsOk.snoc {g : Gt} {vs : List Vw} (h : VsOk g vs) (v : Vw) (ha : apartV v.b v.o v.n vs = true) (hown : v.own = true → g.z v.b = some (v.o + v.n) ∧ ∀ v' ∈ vs, v'.b = v.b → v'.own = false) : VsOk g (vs ++ [v]) := by
  have hap : ∀ v' ∈ vs, v'.b = v.b → (v.o + v.n ≤ v'.o ∨ v'.o + v'.n ≤ v.o) := fun v' hv' hb => by
    have := List.all_eq_true.1 ha v' hv'
    simp only [Bool.or_eq_true, Bool.not_eq_true', Nat.ble_eq] at this
    rcases this with h | h
    · rw [hb] at h; simp at h
    · exact h
  have cases' : ∀ (i : Nat) (w : Vw), (vs ++ [v])[i]? = some w → (i < vs.length ∧ vs[i]? = some w) ∨ (i = vs.length ∧ w = v) := fun i w hw => by
    rcases Nat.lt_or_ge i vs.length with hi | hi
    · rw [List.getElem?_append_left hi] at hw; exact .inl ⟨hi, hw⟩
    · rw [List.getElem?_append_right hi] at hw
      have : i - vs.length = 0 := by
        have := (List.getElem?_eq_some_iff.1 hw).1; simp at this; omega
      rw [this] at hw
      exact .inr ⟨by omega, by simpa using hw.symm⟩
  refine ⟨fun i j x y hij hx hy hb => ?_, fun i x hx ho => ?_⟩
  · rcases cases' i x hx with ⟨hi, hx'⟩ | ⟨hi, rfl⟩
    · rcases cases' j y hy with ⟨hj, hy'⟩ | ⟨hj, rfl⟩
      · exact h.1 i j x y hij hx' hy' hb
      · have hm := List.mem_of_getElem? hx'
        refine ⟨(hap x hm hb).symm, ?_⟩
        cases hvo : y.own with
        | false => exact .inr rfl
        | true => exact .inl ((hown hvo).2 x hm hb)
    · rcases cases' j y hy with ⟨hj, hy'⟩ | ⟨hj, rfl⟩
      · have hm := List.mem_of_getElem? hy'
        refine ⟨hap y hm hb.symm, ?_⟩
        cases hvo : x.own with
        | false => exact .inl rfl
        | true => exact .inr ((hown hvo).2 y hm hb.symm)
      · omega
  · rcases cases' i x hx with ⟨hi, hx'⟩ | ⟨hi, rfl⟩
    · exact h.2 i x hx' ho
    · exact (hown ho).1
theorem findV_spec {b o n : Nat} : ∀ {vs : List Vw} {i0 i d : Nat} {ow : Bool}, findV b o n vs i0 = some (i, d, ow) → ∃ k v, i = i0 + k ∧ vs[k]? = some v ∧ v.b = b ∧ v.o ≤ o ∧ o + n ≤ v.o + v.n ∧ d = o - v.o ∧ ow = v.own
  | [], _, _, _, _, h => by simp [findV] at h
  | v :: vs, i0, i, d, ow, h => by
    simp only [findV] at h
    split at h
    · rename_i hc
      cases h
      simp only [Bool.and_eq_true, Nat.ble_eq] at hc
      exact ⟨0, v, rfl, rfl, Nat.eq_of_beq_eq_true hc.1, hc.2.1, hc.2.2, rfl, rfl⟩
    · obtain ⟨k, v', h1, h2, h3⟩ := findV_spec h
      exact ⟨k + 1, v', by omega, by simpa using h2, h3⟩
/-- what localising yields -/
structure Loc {α : Type} (R : Pi → α → Value → Prop) (g : Gt) (a : α) (vs : List Vw) (a' : α) (vs' : List Vw) : Prop where
  pre : Pre vs vs'
  ok : VsOk g vs → VsOk g vs'
  rel : ∀ π x, R π a x → R (piL π vs') a' x
theorem piL_get {π : Pi} {vs : List Vw} {j : Nat} {v : Vw} (h : vs[j]? = some v) {B s e : Nat} (hb : π v.b = some (B, s, e)) : piL π vs j = some (B, s + v.o, if v.own then e else s + v.o + v.n) := by
  unfold piL; rw [h]; simp only [hb]
theorem get_snoc (vs : List Vw) (v : Vw) : (vs ++ [v])[vs.length]? = some v := by simp
theorem locC_spec {g : Gt} {c c' : CV} {vs vs' : List Vw} {l : List Fp} (h : Ran (locC c vs) g (c', vs') l) : Loc CV.rel g c vs c' vs' := by
  cases c <;> simp only [locC] at h
  case ptr b o n =>
    split at h
    · rename_i i d ow hf
      cases h
      obtain ⟨k, v, hk, hv, hb, h1, h2, h3, h4⟩ := findV_spec hf
      refine ⟨Pre.refl _, id, fun π x hx => ?_⟩
      obtain ⟨B, s, e, hp, hx⟩ := hx
      rw [← hb] at hp
      rw [show i = k by omega]
      exact ⟨_, _, _, piL_get hv hp, by rw [hx]; congr 3; omega⟩
    · obtain ⟨_, ⟨_, h1⟩, _, h⟩ := Ran.bind' h
      cases h
      refine ⟨⟨_, rfl⟩, fun ok => ok.snoc ⟨b, o, n, false, false⟩ h1.must (fun h => by cases h), fun π x hx => ?_⟩
      obtain ⟨B, s, e, hp, hx⟩ := hx
      exact ⟨_, _, _, piL_get (get_snoc vs ⟨b, o, n, false, false⟩) hp, by rw [hx]; rfl⟩
  case sl b o len z own =>
    split at h
    · rename_i i d ow hf
      cases h
      obtain ⟨k, v, hk, hv, hb, h1, h2, h3, h4⟩ := findV_spec hf
      refine ⟨Pre.refl _, id, fun π x hx => ?_⟩
      rcases hx with hx | ⟨B, s, e, cap, hp, hcap, hx, hown⟩
      · exact .inl hx
      · rw [← hb] at hp
        right
        rw [show i = k by omega]
        refine ⟨_, _, _, cap, piL_get hv hp, hcap, by rw [hx]; congr 3; omega, fun ho => ?_⟩
        simp only [Bool.and_eq_true] at ho
        have := hown ho.1
        rw [h4] at ho
        rw [if_pos ho.2]; omega
    · obtain ⟨_, ⟨_, h1⟩, _, h⟩ := Ran.bind' h
      cases own with
      | false =>
        cases h
        refine ⟨⟨_, rfl⟩, fun ok => ok.snoc ⟨b, o, len * z, true, false⟩ h1.must (fun h => by cases h), fun π x hx => ?_⟩
        rcases hx with hx | ⟨B, s, e, cap, hp, hcap, hx, hown⟩
        · exact .inl hx
        · exact .inr ⟨_, _, _, cap, piL_get (get_snoc vs ⟨b, o, len * z, true, false⟩) hp, hcap, by rw [hx]; rfl, fun h => by cases h⟩
      | true =>
        cases h with | sz q hz h =>
        cases h with | test h =>
        cases h
        refine ⟨⟨_, rfl⟩, fun ok => ok.snoc ⟨b, o, len * z, true, _⟩ h1.must (fun ho => ?_), fun π x hx => ?_⟩
        · simp only [Bool.and_eq_true] at ho
          have e1 : o + len * z = q := Nat.eq_of_beq_eq_true ho.1
          refine ⟨by rw [e1]; exact hz, fun v' hv' hb' => ?_⟩
          have := List.all_eq_true.1 ho.2 v' hv'
          simp only [Bool.or_eq_true, Bool.not_eq_true'] at this
          rcases this with h | h
          · rw [hb'] at h; simp at h
          · exact h
        · rcases hx with hx | ⟨B, s, e, cap, hp, hcap, hx, hown⟩
          · exact .inl hx
          · refine .inr ⟨_, _, _, cap, piL_get (get_snoc vs ⟨b, o, len * z, true, _⟩) hp, hcap, by rw [hx]; rfl, fun ho => ?_⟩
            rw [if_pos ho]
            have := hown rfl
            omega
  all_goals (cases h; exact ⟨Pre.refl _, id, fun π x hx => hx⟩)
theorem locL_spec {α : Type} {R : Pi → α → Value → Prop} (mono : ∀ {π π' : Pi}, Ext π π' → ∀ a x, R π a x → R π' a x) {f : α → List Vw → Rd (α × List Vw)} {ff : List α → List Vw → Rd (List α × List Vw)} (hff : ∀ vs, ff [] vs = .ret ([], vs)) (hff2 : ∀ a l vs, ff (a :: l) vs = (f a vs).bind fun x => (ff l x.2).bind fun y => .ret (x.1 :: y.1, y.2))
    {g : Gt} (hf : ∀ {a a' vs vs' l}, Ran (f a vs) g (a', vs') l → Loc R g a vs a' vs') : ∀ {as as' : List α} {vs vs' : List Vw} {l : List Fp}, Ran (ff as vs) g (as', vs') l → Pre vs vs' ∧ (VsOk g vs → VsOk g vs') ∧ as'.length = as.length ∧ ∀ (j : Nat) a a', as[j]? = some a → as'[j]? = some a' → ∀ π x, R π a x → R (piL π vs') a' x
  | [], as', vs, vs', l, h => by
    rw [hff] at h; cases h
    exact ⟨Pre.refl _, id, rfl, fun j a a' h => by simp at h⟩
  | a :: as, as', vs, vs', l, h => by
    rw [hff2] at h
    obtain ⟨x, ⟨_, h1⟩, _, h⟩ := Ran.bind' h
    obtain ⟨y, ⟨_, h2⟩, _, h⟩ := Ran.bind' h
    cases h
    have L := hf (a' := x.1) (vs' := x.2) h1
    obtain ⟨p1, p2, p3, p4⟩ := locL_spec mono hff hff2 hf (as := as) (as' := y.1) (vs' := y.2) h2
    refine ⟨L.pre.trans p1, fun ok => p2 (L.ok ok), by simp [p3], fun j b b' hb hb' π z hz => ?_⟩
    cases j with
    | zero =>
      simp at hb hb'
      subst hb hb'
      exact mono p1.ext _ _ (L.rel π z hz)
    | succ j => exact p4 j b b' (by simpa using hb) (by simpa using hb') π z hz
theorem all2_of_pt {α : Type} {R R' : α → Value → Prop} {as as' : List α} {xs : List Value} (hl : as'.length = as.length) (h : ∀ (j : Nat) a a', as[j]? = some a → as'[j]? = some a' → ∀ x, R a x → R' a' x) (hx : All2 R as xs) : All2 R' as' xs := by
  refine All2.of_get (by rw [hl]; exact hx.length) fun i a' x ha' hxi => ?_
  obtain ⟨a, ha, hr⟩ := hx.get' hxi
  exact h i a a' ha ha' x hr
theorem locCs_pt {g : Gt} {cs cs' : List CV} {vs vs' : List Vw} {l : List Fp} (h : Ran (locCs cs vs) g (cs', vs') l) : Pre vs vs' ∧ (VsOk g vs → VsOk g vs') ∧ cs'.length = cs.length ∧ ∀ (j : Nat) a a', cs[j]? = some a → cs'[j]? = some a' → ∀ π x, CV.rel π a x → CV.rel (piL π vs') a' x :=
  locL_spec (R := CV.rel) (fun h a x r => CV.rel_mono h a x r) (f := locC) (ff := locCs) (fun _ => rfl) (fun _ _ _ => rfl) (fun h => locC_spec h) h
theorem locCs_spec {g : Gt} {cs cs' : List CV} {vs vs' : List Vw} {l : List Fp} (h : Ran (locCs cs vs) g (cs', vs') l) : Pre vs vs' ∧ (VsOk g vs → VsOk g vs') ∧ cs'.length = cs.length ∧ ∀ π xs, All2 (CV.rel π) cs xs → All2 (CV.rel (piL π vs')) cs' xs := by
  obtain ⟨p1, p2, p3, p4⟩ := locCs_pt h
  exact ⟨p1, p2, p3, fun π xs hx => all2_of_pt p3 (fun j a a' ha ha' x hr => p4 j a a' ha ha' π x hr) hx⟩
theorem locR_spec {g : Gt} {r r' : RV} {vs vs' : List Vw} {l : List Fp} (h : Ran (locR r vs) g (r', vs') l) : Loc RV.rel g r vs r' vs' := by
  cases r with
  | c c =>
    obtain ⟨x, ⟨_, h1⟩, _, h⟩ := Ran.bind' h
    cases h
    have L := locC_spec (c' := x.1) (vs' := x.2) h1
    exact ⟨L.pre, L.ok, L.rel⟩
  | agg cs =>
    obtain ⟨x, ⟨_, h1⟩, _, h⟩ := Ran.bind' h
    cases h
    obtain ⟨p1, p2, _, p4⟩ := locCs_spec (cs' := x.1) (vs' := x.2) h1
    exact ⟨p1, p2, fun π x ⟨a, hx, ha⟩ => ⟨a, hx, p4 π _ ha⟩⟩
theorem locRs_spec {g : Gt} {cs cs' : List RV} {vs vs' : List Vw} {l : List Fp} (h : Ran (locRs cs vs) g (cs', vs') l) : Pre vs vs' ∧ (VsOk g vs → VsOk g vs') ∧ cs'.length = cs.length ∧ ∀ π xs, All2 (RV.rel π) cs xs → All2 (RV.rel (piL π vs')) cs' xs := by
  obtain ⟨p1, p2, p3, p4⟩ := locL_spec (R := RV.rel) (fun h a x r => RV.rel_mono h a x r) (f := locR) (ff := locRs) (fun _ => rfl) (fun _ _ _ => rfl) (fun h => locR_spec h) h
  exact ⟨p1, p2, p3, fun π xs hx => all2_of_pt p3 (fun j a a' ha ha' x hr => p4 j a a' ha ha' π x hr) hx⟩
theorem locA_spec {g : Gt} {r r' : AV} {vs vs' : List Vw} {l : List Fp} (h : Ran (locA r vs) g (r', vs') l) : Loc AV.rel g r vs r' vs' := by
  cases r with
  | r c =>
    obtain ⟨x, ⟨_, h1⟩, _, h⟩ := Ran.bind' h
    cases h
    have L := locR_spec (r' := x.1) (vs' := x.2) h1
    exact ⟨L.pre, L.ok, L.rel⟩
  | tup cs =>
    obtain ⟨x, ⟨_, h1⟩, _, h⟩ := Ran.bind' h
    cases h
    obtain ⟨p1, p2, _, p4⟩ := locRs_spec (cs' := x.1) (vs' := x.2) h1
    exact ⟨p1, p2, fun π x ⟨a, hx, ha⟩ => ⟨a, hx, p4 π _ ha⟩⟩
  | fn f cs =>
    obtain ⟨x, ⟨_, h1⟩, _, h⟩ := Ran.bind' h
    cases h
    obtain ⟨p1, p2, _, p4⟩ := locRs_spec (cs' := x.1) (vs' := x.2) h1
    exact ⟨p1, p2, fun π x ⟨a, hx, ha⟩ => ⟨a, hx, p4 π _ ha⟩⟩
  | und => cases h; exact ⟨Pre.refl _, id, fun _ _ _ => trivial⟩
theorem locAs_spec {g : Gt} {cs cs' : List AV} {vs vs' : List Vw} {l : List Fp} (h : Ran (locAs cs vs) g (cs', vs') l) : Pre vs vs' ∧ (VsOk g vs → VsOk g vs') ∧ cs'.length = cs.length ∧ ∀ π xs, All2 (AV.rel π) cs xs → All2 (AV.rel (piL π vs')) cs' xs := by
  obtain ⟨p1, p2, p3, p4⟩ := locL_spec (R := AV.rel) (fun h a x r => AV.rel_mono h a x r) (f := locA) (ff := locAs) (fun _ => rfl) (fun _ _ _ => rfl) (fun h => locA_spec h) h
  exact ⟨p1, p2, p3, fun π xs hx => all2_of_pt p3 (fun j a a' ha ha' x hr => p4 j a a' ha ha' π x hr) hx⟩

/-- a view's content -/
structure VwOk (g : Gt) (vs : List Vw) (v : Vw) (k : Blk) : Prop where
  live : ∃ q, g.z v.b = some q ∧ v.o + v.n ≤ q
  size : k.size = v.n
  rel : ∀ π j x, j < v.n → (g.c v.b (v.o + j)).rel π x → (k.get j).rel (piL π vs) x
theorem VwOk.pre {g : Gt} {vs vs' : List Vw} {v : Vw} {k : Blk} (h : VwOk g vs v k) (p : Pre vs vs') : VwOk g vs' v k :=
  ⟨h.live, h.size, fun π j x hj hx => CV.rel_mono p.ext _ _ (h.rel π j x hj hx)⟩
theorem snoc_get? {α : Type} {l : List α} {x y : α} {j : Nat} (h : (l ++ [x])[j]? = some y) : l[j]? = some y ∨ (j = l.length ∧ y = x) := by
  rcases Nat.lt_or_ge j l.length with hj | hj
  · rw [List.getElem?_append_left hj] at h; exact .inl h
  · rw [List.getElem?_append_right hj] at h
    have : j - l.length = 0 := by
      have := (List.getElem?_eq_some_iff.1 h).1; simp at this; omega
    rw [this] at h
    exact .inr ⟨by omega, by simpa using h.symm⟩
theorem locH_spec {g : Gt} : ∀ {fuel i : Nat} {vs vs' : List Vw} {acc lh : List Blk} {l : List Fp}, Ran (locH fuel i vs acc) g (lh, vs') l → acc.length = i → i ≤ vs.length → (∀ (j : Nat) v k, vs[j]? = some v → acc[j]? = some k → VwOk g vs v k) →
    Pre vs vs' ∧ (VsOk g vs → VsOk g vs') ∧ lh.length = vs'.length ∧ ∀ (j : Nat) v k, vs'[j]? = some v → lh[j]? = some k → VwOk g vs' v k
  | 0, _, _, _, _, _, _, h, _, _, _ => by cases h
  | fuel + 1, i, vs, vs', acc, lh, l, h, hi, hi2, hacc => by
    simp only [locH] at h
    split at h
    · rename_i hn
      cases h
      have : vs.length ≤ i := List.getElem?_eq_none_iff.1 hn
      exact ⟨Pre.refl _, id, by omega, hacc⟩
    · rename_i v hv
      have hlt : i < vs.length := (List.getElem?_eq_some_iff.1 hv).1
      -- a block of cells that are localised
      have mixed : ∀ {cs : List CV} {l : List Fp}, Ran ((locCs cs vs).bind fun x => locH fuel (i + 1) x.2 (acc ++ [.mix x.1])) g (lh, vs') l → cs.length = v.n → (∃ q, g.z v.b = some q ∧ v.o + v.n ≤ q) → (∀ j, j < v.n → cs.getD j (.f .u) = g.c v.b (v.o + j)) →
          Pre vs vs' ∧ (VsOk g vs → VsOk g vs') ∧ lh.length = vs'.length ∧ ∀ (j : Nat) v k, vs'[j]? = some v → lh[j]? = some k → VwOk g vs' v k := by
        intro cs l h hcl hq hcs
        obtain ⟨x, ⟨_, h1⟩, _, h⟩ := Ran.bind' h
        obtain ⟨p1, p2, p3, p4⟩ := locCs_pt (cs' := x.1) (vs' := x.2) h1
        have hx2 := p1.length
        obtain ⟨q1, q2, q3, q4⟩ := locH_spec h (by simp [hi]) (by omega) (fun j u k hu hk => by
          rcases snoc_get? hk with hk | ⟨hj, rfl⟩
          · have hj : j < acc.length := (List.getElem?_eq_some_iff.1 hk).1
            have hu' : vs[j]? = some u := by
              have : vs[j]? = some (vs[j]'(by omega)) := List.getElem?_eq_getElem _
              rw [this]
              have := p1.get this
              rw [hu] at this; exact this.symm
            exact (hacc j u k hu' hk).pre p1
          · have huv : u = v := by
              rw [hj, hi] at hu
              have := p1.get hv
              rw [hu] at this; exact Option.some.inj this
            subst huv
            refine ⟨hq, by simp [Blk.size, p3, hcl], fun π j x' hj' hx' => ?_⟩
            have hc : cs[j]? = some (cs[j]'(by omega)) := List.getElem?_eq_getElem _
            have hc' : x.1[j]? = some (x.1[j]'(by omega)) := List.getElem?_eq_getElem _
            have e1 := hcs j hj'
            simp only [List.getD, hc, Option.getD_some] at e1
            rw [← e1] at hx'
            have := p4 j _ _ hc hc' π x' hx'
            simpa [Blk.get, List.getD, hc'] using this)
        exact ⟨p1.trans q1, fun ok => q2 (p2 ok), q3, q4⟩
      split at h
      · cases h with | vw q k hz hn hs hk h =>
        cases k with
        | fnb n f =>
          have h : Ran (locH fuel (i + 1) vs (acc ++ [Blk.fnb n f])) g (lh, vs') _ := h
          obtain ⟨q1, q2, q3, q4⟩ := locH_spec h (by simp [hi]) (by omega) (fun j u k hu hk' => by
            rcases snoc_get? hk' with hk' | ⟨hj, rfl⟩
            · exact hacc j u k hu hk'
            · have huv : u = v := by rw [hj, hi, hv] at hu; exact (Option.some.inj hu).symm
              subst huv
              refine ⟨⟨q, hz, hn⟩, hs, fun π j x hj' hx => ?_⟩
              have e := hk j hj'
              simp only [Blk.get] at e
              rw [← e] at hx
              exact hx)
          exact ⟨q1, q2, q3, q4⟩
        | mix cs => exact mixed h hs ⟨q, hz, hn⟩ (fun j hj => hk j hj)
      · cases h with | rng q hz hn h =>
        exact mixed h (by simp) ⟨q, hz, hn⟩ (fun j hj => by simp [List.getD, hj])
end Go.Ab
