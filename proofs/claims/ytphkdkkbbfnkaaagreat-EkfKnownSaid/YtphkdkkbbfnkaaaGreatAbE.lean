/-
  The abstract machine and the model: a call, carried over.
-/
import Derived.Test.YtphkdkkbbfnkaaaGreatAbD
namespace Go.Ab
variable [Amb]

omit [Amb] in
theorem hZ_map (lh : List Blk) (j : Nat) : hZ (lh.map some) j = (lh[j]?).map Blk.size := by
  simp only [hZ, List.getElem?_map]
  cases lh[j]? <;> rfl
omit [Amb] in
theorem hC_map {lh : List Blk} {j i : Nat} {k : Blk} (h : lh[j]? = some k) (hi : i < k.size) : hC (lh.map some) j i = k.get i := by
  simp [hC, List.getElem?_map, h, hi]
theorem HRel.local {π : Pi} {g : Gt} {w : World} (H : HRel π g.c g.z w) {vs : List Vw} {lh : List Blk} (ok : VsOk π vs) (hl : lh.length = vs.length) (hv : ∀ (j : Nat) v k, vs[j]? = some v → lh[j]? = some k → VwOk π g w vs v k) :
    HRel (piL π vs) (hC (lh.map some)) (hZ (lh.map some)) w := by
  have get : ∀ j n, hZ (lh.map some) j = some n → ∃ v k q B s e, vs[j]? = some v ∧ lh[j]? = some k ∧ Blk.size k = n ∧ VwOk π g w vs v k ∧ g.z v.b = some q ∧ v.o.val + v.n ≤ q ∧ Blk.size k = v.n ∧ π v.b = some (B, s, q, e) ∧ s + q ≤ e ∧ (v.own = true → v.o.val + v.n = q) := fun j n hz => by
    rw [hZ_map] at hz
    cases hk : lh[j]? with
    | none => rw [hk] at hz; cases hz
    | some k =>
      rw [hk] at hz
      have hj : j < vs.length := by rw [← hl]; exact (List.getElem?_eq_some_iff.1 hk).1
      have hvj : vs[j]? = some (vs[j]'hj) := List.getElem?_eq_getElem _
      have V := hv j _ k hvj hk
      obtain ⟨q, hq⟩ := V.live
      obtain ⟨B, s, e, hb, hse, _⟩ := H.hp _ _ hq
      obtain ⟨_, _, _, _, hb', hle, how⟩ := ok.2 j _ hvj
      rw [hb] at hb'; cases hb'
      exact ⟨_, k, q, B, s, e, hvj, rfl, by simpa using hz, V, hq, hle, V.size, hb, hse, how⟩
  refine ⟨H.am, fun j B s q e hz hp hse => ?_, fun j n hz => ?_, fun j j' B s q e s' q' e' hne hz hz' hp hp' i i1 i2 i3 i4 => ?_⟩
  · cases hh : hZ (lh.map some) j with
    | none => exact absurd hh hz
    | some n =>
      obtain ⟨v, k, q0, B1, s1, e1, hvj, hk, hn, V, hq, hle, hsz, hb, hse1, ho⟩ := get j n hh
      rw [piL_get hvj hb] at hp
      simp only [Option.some.injEq, Prod.mk.injEq] at hp
      obtain ⟨rfl, hs1, _, he1⟩ := hp
      rw [← hs1, ← he1] at hse
      refine H.lb v.b _ s1 q0 e1 (by simp [hq]) hb ?_
      split at hse <;> omega
  · obtain ⟨v, k, q, B, s, e, hvj, hk, hn, V, hq, hle, hsz, hb, hse, ho⟩ := get j n hz
    obtain ⟨_, _, _, hb', _, k1, k2⟩ := H.hp _ _ hq
    rw [hb] at hb'; cases hb'
    have hp := piL_get hvj hb
    rw [← hsz, hn] at hp
    refine ⟨B, s + v.o.val, _, hp, ?_, fun i i1 i2 => ?_, fun i hi => ?_⟩
    · split
      · rename_i h; have := ho h; omega
      · omega
    · refine k1 i (by omega) ?_
      split at i2 <;> omega
    · obtain ⟨y, hy, hr⟩ := V.rel B s q e hb i (by omega)
      refine ⟨y, hy, ?_⟩
      rw [hC_map hk (by omega)]
      exact hr
  · cases hh : hZ (lh.map some) j with
    | none => exact hz hh
    | some n =>
    cases hh' : hZ (lh.map some) j' with
    | none => exact hz' hh'
    | some n' =>
    obtain ⟨v, k, q0, B1, s1, e1, hvj, hk, hn, V, hq, hle, hsz, hb, hse, ho⟩ := get j n hh
    obtain ⟨v', k', q0', B2, s2, e2, hvj', hk', hn', V', hq', hle', hsz', hb', hse', ho'⟩ := get j' n' hh'
    rw [piL_get hvj hb] at hp
    rw [piL_get hvj' hb'] at hp'
    simp only [Option.some.injEq, Prod.mk.injEq] at hp hp'
    obtain ⟨rfl, hs1, _, he1⟩ := hp
    obtain ⟨rfl, hs2, _, he2⟩ := hp'
    rw [← hs1] at i1
    rw [← he1] at i2
    rw [← hs2] at i3
    rw [← he2] at i4
    by_cases hbb : v.b = v'.b
    · obtain ⟨hdis, hown⟩ := ok.1 j j' v v' hne hvj hvj' hbb
      rw [hbb] at hb hq
      rw [hb] at hb'; cases hb'
      cases h1 : v.own <;> cases h2 : v'.own <;> simp only [h1, h2, if_true, if_false, Bool.false_eq_true] at i2 i4
      · omega
      · have := ho' h2; omega
      · have := ho h1; omega
      · rcases hown with h | h
        · rw [h1] at h; cases h
        · rw [h2] at h; cases h
    · refine H.dj v.b v'.b _ s1 q0 e1 s2 q0' e2 hbb (by simp [hq]) (by simp [hq']) hb hb' i (by omega) ?_ (by omega) ?_
      · split at i2 <;> omega
      · split at i4 <;> omega

/-! back again -/
def piB (π πL : Pi) (n nid m : Nat) : Pi := fun b => if nid ≤ b ∧ b < nid + m then πL (n + (b - nid)) else π b
omit [Amb] in
theorem piB_new {π πL : Pi} {n nid m k : Nat} (h : k < m) : piB π πL n nid m (nid + k) = πL (n + k) := by
  unfold piB; rw [if_pos (by omega), show nid + k - nid = k by omega]
omit [Amb] in
theorem piB_old {π πL : Pi} {n nid m b : Nat} (h : ¬ (nid ≤ b ∧ b < nid + m)) : piB π πL n nid m b = π b := by
  unfold piB; rw [if_neg h]
structure Bck (π πL : Pi) (vs : List Vw) (nid m : Nat) : Prop where
  ext : Ext (piL π vs) πL
  dom : ∀ b, πL b ≠ none → b < vs.length + m
  fresh : ∀ b, nid ≤ b → b < nid + m → π b = none
  live : ∀ (j : Nat) v, vs[j]? = some v → ∃ B s q e, π v.b = some (B, s, q, e) ∧ v.o.val + v.n ≤ q ∧ (v.own = true → v.o.val + v.n = q)
omit [Amb] in
theorem Bck.old {π πL : Pi} {vs : List Vw} {nid m : Nat} (K : Bck π πL vs nid m) {b : Nat} {p : Nat × Nat × Nat × Nat} (h : π b = some p) : piB π πL vs.length nid m b = some p := by
  rw [piB_old, h]
  intro hc
  rw [K.fresh b hc.1 hc.2] at h; cases h
omit [Amb] in
theorem Bck.ext' {π πL : Pi} {vs : List Vw} {nid m : Nat} (K : Bck π πL vs nid m) : Ext π (piB π πL vs.length nid m) := fun _ _ h => K.old h
omit [Amb] in
theorem Bck.at {π πL : Pi} {vs : List Vw} {nid m : Nat} (K : Bck π πL vs nid m) {j : Nat} {B s q e : Nat} (h : πL j = some (B, s, q, e)) :
    (∃ v s0 q0 e0, vs[j]? = some v ∧ π v.b = some (B, s0, q0, e0) ∧ s = s0 + v.o.val ∧ q = v.n ∧ (e = if v.own then e0 else s0 + v.o.val + v.n) ∧ v.o.val + v.n ≤ q0 ∧ (v.own = true → v.o.val + v.n = q0)) ∨ (vs[j]? = none ∧ vs.length ≤ j ∧ j - vs.length < m ∧ piB π πL vs.length nid m (nid + (j - vs.length)) = some (B, s, q, e)) := by
  have hd := K.dom j (by simp [h])
  cases hv : vs[j]? with
  | some v =>
    obtain ⟨B0, s0, q0, e0, hp, hle, how⟩ := K.live j v hv
    have := K.ext _ _ (piL_get hv hp)
    rw [h] at this
    simp only [Option.some.injEq, Prod.mk.injEq] at this
    obtain ⟨rfl, h1, h2, h3⟩ := this
    exact .inl ⟨v, s0, q0, e0, rfl, hp, h1, h2, h3, hle, how⟩
  | none =>
    have hj : vs.length ≤ j := List.getElem?_eq_none_iff.1 hv
    refine .inr ⟨rfl, hj, by omega, ?_⟩
    rw [piB_new (by omega), show vs.length + (j - vs.length) = j by omega, h]
omit [Amb] in
theorem Off.plus_val (a b : Off) : (a.plus b).val = a.val + b.val := by
  cases a <;> cases b <;> simp only [Off.plus, Off.val] <;> first | omega | skip
  rename_i c i z d j y
  cases hz : Nat.beq z y with
  | true =>
    have := Nat.eq_of_beq_eq_true hz
    subst this
    simp only [Off.val, Nat.add_mul]; omega
  | false => simp only [Off.val]; omega
theorem Bck.relC {π πL : Pi} {vs : List Vw} {nid m : Nat} (K : Bck π πL vs nid m) (c : CV) (x : Value) (h : c.rel πL x) : (bckC vs nid c).rel (piB π πL vs.length nid m) x := by
  cases c <;> simp only [bckC]
  case ptr j d n =>
    obtain ⟨B, s, q, e, hp, hx, hm⟩ := h
    rcases K.at hp with ⟨v, s0, q0, e0, hv, hb, hs, hq, he, hle, how⟩ | ⟨hv, hj, hm2, hb⟩
    · rw [hv]
      refine ⟨B, s0, q0, e0, K.old hb, ?_, by rw [Off.plus_val]; omega⟩
      rw [hx, Off.plus_val]; congr 3; omega
    · rw [hv]
      exact ⟨B, s, q, e, hb, hx, hm⟩
  case cl f j d n =>
    obtain ⟨B, s, q, e, hp, hx, hm⟩ := h
    rcases K.at hp with ⟨v, s0, q0, e0, hv, hb, hs, hq, he, hle, how⟩ | ⟨hv, hj, hm2, hb⟩
    · rw [hv]
      refine ⟨B, s0, q0, e0, K.old hb, ?_, by rw [Off.plus_val]; omega⟩
      rw [hx, Off.plus_val]; exact congrArg (fun t => Value.func (.func f) #[] #[.pointer (some ⟨B, t, none⟩)]) (by omega)
    · rw [hv]
      exact ⟨B, s, q, e, hb, hx, hm⟩
  case sl j d len z own =>
    obtain ⟨B, s, q, e, hp, hm, hown, hx⟩ := h
    rcases K.at hp with ⟨v, s0, q0, e0, hv, hb, hs, hq, he, hle, how⟩ | ⟨hv, hj, hm2, hb⟩
    · rw [hv]
      refine ⟨B, s0, q0, e0, K.old hb, by rw [Off.plus_val]; omega, fun ho => ?_, hx.imp id fun ⟨cap, hcap, hx, hc⟩ => ⟨cap, hcap, ?_, fun ho => ?_⟩⟩
      · simp only [Bool.and_eq_true] at ho
        have a1 := hown ho.1
        have a2 := how ho.2
        rw [Off.plus_val]; omega
      · rw [hx, Off.plus_val]; congr 3; omega
      · simp only [Bool.and_eq_true] at ho
        have := hc ho.1
        rw [if_pos ho.2] at he
        rw [Off.plus_val]; omega
    · rw [hv]
      exact ⟨B, s, q, e, hb, hm, hown, hx⟩
  all_goals exact h
omit [Amb] in
theorem bckC_f (vs : List Vw) (nid : Nat) (x : FV) : bckC vs nid (.f x) = .f x := rfl
omit [Amb] in
theorem all2_map_l {α β γ : Type} {R : α → γ → Prop} {R' : β → γ → Prop} {f : α → β} (hf : ∀ a c, R a c → R' (f a) c) : ∀ {l : List α} {m : List γ}, All2 R l m → All2 R' (l.map f) m
  | [], [], _ => trivial
  | _ :: _, _ :: _, ⟨a, b⟩ => ⟨hf _ _ a, all2_map_l hf b⟩
  | [], _ :: _, h => h.elim
  | _ :: _, [], h => h.elim
theorem Bck.relR {π πL : Pi} {vs : List Vw} {nid m : Nat} (K : Bck π πL vs nid m) (c : RV) (x : Value) (h : c.rel πL x) : (bckR vs nid c).rel (piB π πL vs.length nid m) x := by
  cases c with
  | c c => exact K.relC c x h
  | agg cs =>
    obtain ⟨a, hx, ha⟩ := h
    obtain ⟨l1, l2⟩ := list_rel ha
    refine ⟨a, hx, rel_list (by rw [mapB_size, l1]) fun j hj => ?_⟩
    rw [mapB_size] at hj
    obtain ⟨x, hx, hr⟩ := l2 j hj
    exact ⟨x, hx, by rw [mapB_get (bckC_f vs nid) _ _ hj]; exact K.relC _ _ hr⟩
theorem Bck.relA {π πL : Pi} {vs : List Vw} {nid m : Nat} (K : Bck π πL vs nid m) (c : AV) (x : Value) (h : c.rel πL x) : (bckA vs nid c).rel (piB π πL vs.length nid m) x := by
  cases c with
  | r r => exact K.relR r x h
  | tup cs => obtain ⟨a, hx, ha⟩ := h; exact ⟨a, hx, all2_map_l K.relR ha⟩
  | fn f cs => obtain ⟨a, hx, ha⟩ := h; exact ⟨a, hx, all2_map_l K.relR ha⟩
  | und => trivial
/-! the updates of a call -/
omit [Amb] in
theorem setsU_spec {all : List Vw} {nid : Nat} : ∀ {vs : List Vw} {cs : List Ch} {us : List Up}, setsU all nid vs cs = some (true, us) →
    (∀ (i j : Nat) (v v' : Vw), i ≠ j → vs[i]? = some v → vs[j]? = some v' → v.b = v'.b → (v.o.val + v.n ≤ v'.o.val ∨ v'.o.val + v'.n ≤ v.o.val)) →
    vs.length = cs.length ∧ (∀ (j : Nat) v b, vs[j]? = some v → cs[j]? = some (.set b) → Blk.size b = v.n) ∧ (∀ u ∈ us, ∃ (j : Nat) (v : Vw) (b : Blk), vs[j]? = some v ∧ cs[j]? = some (.set b) ∧ u = .c v.b v.o (mapB (bckC all nid) b)) ∧
    (∀ g, (appGs us g).z = g.z ∧ (appGs us g).t = g.t) ∧
    ∀ g (j : Nat) v b i, vs[j]? = some v → cs[j]? = some (.set b) → v.o.val ≤ i → i < v.o.val + v.n → (appGs us g).c v.b i = bckC all nid (Blk.get b (i - v.o.val))
  | [], [], us, h, _ => by
    simp [setsU] at h; subst h
    exact ⟨rfl, fun j v b h => by simp at h, fun u h => by simp at h, fun g => ⟨rfl, rfl⟩, fun g j v b i h => by simp at h⟩
  | v0 :: vs, .keep :: cs, us, h, hd => by
    simp only [setsU] at h
    obtain ⟨h1, h2, h3, h4, h5⟩ := setsU_spec h (fun i j v v' hij hi hj => hd (i + 1) (j + 1) v v' (by omega) (by simpa using hi) (by simpa using hj))
    refine ⟨by simp [h1], fun j v b hv hc => ?_, fun u hu => ?_, h4, fun g j v b i hv hc => ?_⟩
    · cases j with
      | zero => simp at hc
      | succ j => exact h2 j v b (by simpa using hv) (by simpa using hc)
    · obtain ⟨j, v, b, e1, e2, e3⟩ := h3 u hu
      exact ⟨j + 1, v, b, by simpa using e1, by simpa using e2, e3⟩
    · cases j with
      | zero => simp at hc
      | succ j => exact h5 g j v b i (by simpa using hv) (by simpa using hc)
  | v0 :: vs, .kill :: cs, us, h, hd => by
    simp only [setsU] at h
    obtain ⟨h1, h2, h3, h4, h5⟩ := setsU_spec h (fun i j v v' hij hi hj => hd (i + 1) (j + 1) v v' (by omega) (by simpa using hi) (by simpa using hj))
    refine ⟨by simp [h1], fun j v b hv hc => ?_, fun u hu => ?_, h4, fun g j v b i hv hc => ?_⟩
    · cases j with
      | zero => simp at hc
      | succ j => exact h2 j v b (by simpa using hv) (by simpa using hc)
    · obtain ⟨j, v, b, e1, e2, e3⟩ := h3 u hu
      exact ⟨j + 1, v, b, by simpa using e1, by simpa using e2, e3⟩
    · cases j with
      | zero => simp at hc
      | succ j => exact h5 g j v b i (by simpa using hv) (by simpa using hc)
  | v0 :: vs, .set b0 :: cs, us, h, hd => by
    simp only [setsU] at h
    split at h
    · rename_i p hu
      simp only [Option.some.injEq, Prod.mk.injEq, Bool.and_eq_true, beq_iff] at h
      obtain ⟨⟨hg, hsz⟩, rfl⟩ := h
      obtain ⟨p1, us'⟩ := p
      simp only at hg
      subst hg
      obtain ⟨h1, h2, h3, h4, h5⟩ := setsU_spec hu (fun i j v v' hij hi hj => hd (i + 1) (j + 1) v v' (by omega) (by simpa using hi) (by simpa using hj))
      have hlen : Blk.size (mapB (bckC all nid) b0) = v0.n := by rw [mapB_size, hsz]
      refine ⟨by simp [h1], fun j v b hv hc => ?_, fun u hu => ?_, fun g => ⟨(h4 _).1, (h4 _).2⟩, fun g j v b i hv hc i1 i2 => ?_⟩
      · cases j with
        | zero => simp at hv hc; subst hv hc; exact hsz
        | succ j => exact h2 j v b (by simpa using hv) (by simpa using hc)
      · rcases List.mem_cons.1 hu with rfl | hu
        · exact ⟨0, v0, b0, rfl, rfl, rfl⟩
        · obtain ⟨j, v, b, e1, e2, e3⟩ := h3 u hu
          exact ⟨j + 1, v, b, by simpa using e1, by simpa using e2, e3⟩
      · show (appGs us' ((Up.c v0.b v0.o (mapB (bckC all nid) b0)).appG g)).c v.b i = _
        cases j with
        | succ j => exact h5 _ j v b i (by simpa using hv) (by simpa using hc) i1 i2
        | zero =>
          simp at hv hc
          subst hv hc
          have hnt := appGs_at_of_not (us := us') (g := (Up.c v0.b v0.o (mapB (bckC all nid) b0)).appG g) (p := .c v0.b i) (fun u hu ht => by
            obtain ⟨j, v, b, e1, e2, rfl⟩ := h3 u hu
            simp only [Up.touch, mapB_size, h2 j v b e1 e2] at ht
            have := hd 0 (j + 1) v0 v (by omega) rfl (by simpa using e1) ht.1.symm
            omega)
          simp only [Gt.at, PV.c.injEq] at hnt
          rw [hnt]
          simp only [Up.appG]
          rw [if_pos ⟨trivial, i1, by rw [hlen]; exact i2⟩, mapB_get (bckC_f all nid) _ _ (by omega)]
    · cases h
  | [], _ :: _, us, h, _ => by simp [setsU] at h
  | _ :: _, [], us, h, _ => by simp [setsU] at h
omit [Amb] in
theorem killsU_spec : ∀ {vs : List Vw} {cs : List Ch} (g : Gt), vs.length = cs.length →
    (appGs (killsU vs cs) g).t = g.t ∧ (∀ b, (∃ (j : Nat) (v : Vw), vs[j]? = some v ∧ cs[j]? = some .kill ∧ v.b = b) → (appGs (killsU vs cs) g).z b = none) ∧
    (∀ b, ¬ (∃ (j : Nat) (v : Vw), vs[j]? = some v ∧ cs[j]? = some .kill ∧ v.b = b) → (appGs (killsU vs cs) g).z b = g.z b ∧ ∀ i, (appGs (killsU vs cs) g).c b i = g.c b i)
  | [], [], g, _ => ⟨rfl, fun b ⟨j, v, h, _⟩ => by simp at h, fun b _ => ⟨rfl, fun _ => rfl⟩⟩
  | v0 :: vs, c :: cs, g, hl => by
    have hl' : vs.length = cs.length := by simpa using hl
    by_cases hc : c = .kill
    · subst hc
      show (appGs (killsU vs cs) ((Up.kill v0.b).appG g)).t = _ ∧ _
      obtain ⟨h0, h1, h2⟩ := killsU_spec (vs := vs) (cs := cs) ((Up.kill v0.b).appG g) hl'
      refine ⟨h0, fun b hb => ?_, fun b hb => ?_⟩
      · show (appGs (killsU vs cs) ((Up.kill v0.b).appG g)).z b = none
        by_cases hx : ∃ (j : Nat) (v : Vw), vs[j]? = some v ∧ cs[j]? = some .kill ∧ v.b = b
        · exact h1 b hx
        · rw [(h2 b hx).1]
          obtain ⟨j, v, e1, e2, e3⟩ := hb
          cases j with
          | zero => simp at e1; subst e1; simp [Up.appG, e3]
          | succ j => exact absurd ⟨j, v, by simpa using e1, by simpa using e2, e3⟩ hx
      · have hx : ¬ ∃ (j : Nat) (v : Vw), vs[j]? = some v ∧ cs[j]? = some .kill ∧ v.b = b := fun ⟨j, v, e1, e2, e3⟩ => hb ⟨j + 1, v, by simpa using e1, by simpa using e2, e3⟩
        have hne : b ≠ v0.b := fun e => hb ⟨0, v0, rfl, rfl, e.symm⟩
        obtain ⟨k1, k2⟩ := h2 b hx
        refine ⟨k1.trans (by simp [Up.appG, hne]), fun i => (k2 i).trans (by simp [Up.appG, hne])⟩
    · have e : killsU (v0 :: vs) (c :: cs) = killsU vs cs := by cases c <;> first | rfl | exact absurd rfl hc
      rw [e]
      obtain ⟨h0, h1, h2⟩ := killsU_spec (vs := vs) (cs := cs) g hl'
      refine ⟨h0, fun b ⟨j, v, e1, e2, e3⟩ => ?_, fun b hb => h2 b fun ⟨j, v, e1, e2, e3⟩ => hb ⟨j + 1, v, by simpa using e1, by simpa using e2, e3⟩⟩
      cases j with
      | zero => simp at e2; exact absurd e2 hc
      | succ j => exact h1 b ⟨j, v, by simpa using e1, by simpa using e2, e3⟩
  | [], _ :: _, _, h => by simp at h
  | _ :: _, [], _, h => by simp at h
omit [Amb] in
theorem newsU_spec {vs : List Vw} {nid : Nat} : ∀ {bs : List Blk} {j0 : Nat} (g : Gt),
    (appGs (newsU vs nid bs j0) g).t = g.t ∧ (∀ (k : Nat) (b : Blk), bs[k]? = some b → (appGs (newsU vs nid bs j0) g).z (nid + (j0 + k)) = some (Blk.size b) ∧ ∀ i, i < Blk.size b → (appGs (newsU vs nid bs j0) g).c (nid + (j0 + k)) i = bckC vs nid (Blk.get b i)) ∧
    (∀ b, ¬ (nid + j0 ≤ b ∧ b < nid + j0 + bs.length) → (appGs (newsU vs nid bs j0) g).z b = g.z b ∧ ∀ i, (appGs (newsU vs nid bs j0) g).c b i = g.c b i) ∧ cnt (newsU vs nid bs j0) = bs.length
  | [], j0, g => ⟨rfl, fun k b h => by simp at h, fun b _ => ⟨rfl, fun _ => rfl⟩, rfl⟩
  | b0 :: bs, j0, g => by
    obtain ⟨h0, h1, h2, h3⟩ := newsU_spec (vs := vs) (nid := nid) (bs := bs) (j0 := j0 + 1) ((Up.new (nid + j0) (mapB (bckC vs nid) b0)).appG g)
    refine ⟨h0, fun k b hk => ?_, fun b hb => ?_, ?_⟩
    · show (appGs (newsU vs nid bs (j0 + 1)) ((Up.new (nid + j0) (mapB (bckC vs nid) b0)).appG g)).z _ = _ ∧ ∀ i, i < Blk.size b → (appGs (newsU vs nid bs (j0 + 1)) ((Up.new (nid + j0) (mapB (bckC vs nid) b0)).appG g)).c _ i = _
      cases k with
      | zero =>
        simp at hk; subst hk
        obtain ⟨k1, k2⟩ := h2 (nid + (j0 + 0)) (by omega)
        refine ⟨k1.trans (by simp [Up.appG, mapB_size]), fun i hi => (k2 i).trans ?_⟩
        simp only [Up.appG, Nat.add_zero, if_true, mapB_size, hi, if_true]
        exact mapB_get (bckC_f vs nid) _ _ hi
      | succ k =>
        have := h1 k b (by simpa using hk)
        rw [show j0 + 1 + k = j0 + (k + 1) by omega] at this
        exact this
    · obtain ⟨k1, k2⟩ := h2 b (by simp only [List.length_cons] at hb; omega)
      have hne : b ≠ nid + j0 := fun e => hb (by simp only [List.length_cons]; omega)
      exact ⟨k1.trans (by simp [Up.appG, hne]), fun i => (k2 i).trans (by simp [Up.appG, hne])⟩
    · show cnt (Up.new _ _ :: newsU vs nid bs (j0 + 1)) = _
      simp only [cnt, List.filter_cons, if_true, List.length_cons]
      have := h3
      simp only [cnt] at this
      omega
end Go.Ab
