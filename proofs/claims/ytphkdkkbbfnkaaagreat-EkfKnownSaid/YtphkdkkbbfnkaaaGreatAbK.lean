/-
  The abstract machine and the model: a region that draws its order comes to what the order of the text comes to.
-/
import Derived.Test.YtphkdkkbbfnkaaaGreatAbJ
namespace Go.Ab
variable [Amb]

def tch (us : List Up) (p : Pt) : Prop := ∃ u ∈ us, u.touch p
def gl : List Tr → (Nat → Bool) → Nat → Gt → Gt
  | [], _, _, g => g
  | tr :: trs, L, i, g => gl trs L (i + 1) (if L i = true then appGs tr.us g else g)
omit [Amb] in
theorem gl_at {p : Pt} : ∀ {trs : List Tr} {L L' : Nat → Bool} {i : Nat} {g g' : Gt}, (∀ (j : Nat) tr, trs[j]? = some tr → L (i + j) ≠ L' (i + j) → ¬ tch tr.us p) → g.at p = g'.at p → (gl trs L i g).at p = (gl trs L' i g').at p
  | [], _, _, _, _, _, _, h => h
  | tr :: trs, L, L', i, g, g', hd, h => by
    simp only [gl]
    refine gl_at (fun j tr' hj hne => hd (j + 1) tr' (by simpa using hj) (by rw [show i + (j + 1) = i + 1 + j by omega]; exact hne)) ?_
    have h0 := hd 0 tr rfl
    rw [Nat.add_zero] at h0
    by_cases h1 : L i = true <;> by_cases h2 : L' i = true
    · rw [if_pos h1, if_pos h2]; exact appGs_at_of (.inr h)
    · rw [if_pos h1, if_neg h2]
      have := h0 (by rw [h1]; exact fun e => h2 e.symm)
      rw [appGs_at_of_not fun u hu ht => this ⟨u, hu, ht⟩]; exact h
    · rw [if_neg h1, if_pos h2]
      have := h0 (by rw [h2]; exact h1)
      rw [appGs_at_of_not fun u hu ht => this ⟨u, hu, ht⟩]; exact h
    · rw [if_neg h1, if_neg h2]; exact h
omit [Amb] in
theorem gl_append : ∀ (a b : List Tr) (L : Nat → Bool) (i : Nat) (g : Gt), gl (a ++ b) L i g = gl b L (i + a.length) (gl a L i g)
  | [], b, L, i, g => by simp [gl]
  | x :: a, b, L, i, g => by
    simp only [List.cons_append, gl, List.length_cons]
    rw [gl_append a b, show i + 1 + a.length = i + (a.length + 1) by omega]
omit [Amb] in
theorem gl_congr : ∀ {trs : List Tr} {L L' : Nat → Bool} {i : Nat} {g : Gt}, (∀ j, j < trs.length → L (i + j) = L' (i + j)) → gl trs L i g = gl trs L' i g
  | [], _, _, _, _, _ => rfl
  | tr :: trs, L, L', i, g, h => by
    simp only [gl]
    have := h 0 (by simp)
    rw [Nat.add_zero] at this
    rw [this]
    exact gl_congr fun j hj => by have := h (j + 1) (by simp; omega); rwa [show i + (j + 1) = i + 1 + j by omega] at this
omit [Amb] in
theorem gl_none : ∀ {trs : List Tr} {L : Nat → Bool} {i : Nat} {g : Gt}, (∀ j, j < trs.length → L (i + j) = false) → gl trs L i g = g
  | [], _, _, _, _ => rfl
  | tr :: trs, L, i, g, h => by
    simp only [gl]
    have := h 0 (by simp)
    rw [Nat.add_zero] at this
    rw [this]
    exact gl_none fun j hj => by have := h (j + 1) (by simp; omega); rwa [show i + (j + 1) = i + 1 + j by omega] at this
omit [Amb] in
theorem gl_more {trs : List Tr} {L L' : Nat → Bool} {i : Nat} {tr : Tr} {g : Gt} (hi : trs[i]? = some tr) (h0 : L i = false) (h1 : L' i = true) (hL : ∀ j, j ≠ i → L' j = L j)
    (hap : ∀ (j : Nat) tr', i < j → trs[j]? = some tr' → L j = true → ∀ p, tch tr.us p → ¬ tch tr'.us p) : gl trs L' 0 g = appGs tr.us (gl trs L 0 g) := by
  have hlt := (List.getElem?_eq_some_iff.1 hi).1
  have hsplit : trs = trs.take i ++ (tr :: trs.drop (i + 1)) := by
    have e : trs[i] = tr := (List.getElem?_eq_some_iff.1 hi).2
    rw [← e, List.getElem_cons_drop, List.take_append_drop]
  have hlen : (trs.take i).length = i := by simp; omega
  have key : ∀ M : Nat → Bool, gl trs M 0 g = gl (trs.drop (i + 1)) M (i + 1) (if M i = true then appGs tr.us (gl (trs.take i) M 0 g) else gl (trs.take i) M 0 g) := fun M => by
    conv => lhs; rw [hsplit]
    rw [gl_append, hlen, Nat.zero_add]
    rfl
  rw [key L', key L, if_pos h1, if_neg (by rw [h0]; simp)]
  have e1 : gl (trs.take i) L' 0 g = gl (trs.take i) L 0 g := gl_congr fun j hj => by rw [hlen] at hj; exact hL _ (by omega)
  rw [e1]
  have e2 : ∀ h, gl (trs.drop (i + 1)) L' (i + 1) h = gl (trs.drop (i + 1)) L (i + 1) h := fun h => gl_congr fun j _ => hL _ (by omega)
  rw [e2]
  apply Gt.ext_at
  intro p
  have hpost : ∀ (j : Nat) tr', (trs.drop (i + 1))[j]? = some tr' → L (i + 1 + j) = true → ∀ p, tch tr.us p → ¬ tch tr'.us p := fun j tr' hj hl p hp => by
    rw [List.getElem?_drop] at hj
    exact hap (i + 1 + j) tr' (by omega) hj hl p hp
  by_cases hp : tch tr.us p
  · have a1 := gl_at (p := p) (trs := trs.drop (i + 1)) (L := L) (L' := fun _ => false) (i := i + 1) (g := appGs tr.us (gl (trs.take i) L 0 g)) (g' := appGs tr.us (gl (trs.take i) L 0 g)) (fun j tr' hj hne => hpost j tr' hj (by simpa using hne) p hp) rfl
    rw [gl_none (L := fun _ => false) (fun _ _ => rfl)] at a1
    rw [a1]
    exact appGs_at_of (.inl hp)
  · have hnt : ∀ u ∈ tr.us, ¬ u.touch p := fun u hu ht => hp ⟨u, hu, ht⟩
    rw [appGs_at_of_not hnt]
    exact gl_at (fun j tr' _ hne => absurd rfl hne) (appGs_at_of_not hnt)

/-! what comes before what -/
omit [Amb] in
theorem fold_mask (acc : List Nat) (i : Nat) : ∀ (l : List Edge) (m : Nat), Nat.testBit (l.foldl (mstep acc) m) i = true →
    Nat.testBit m i = true ∨ ∃ e ∈ l, Region.binds .any e = true ∧ (e.on = i ∨ Nat.testBit (acc.getD e.on 0) i = true)
  | [], m, h => .inl h
  | e :: l, m, h => by
    rw [List.foldl_cons] at h
    rcases fold_mask acc i l _ h with h1 | ⟨e', he', h1⟩
    · unfold mstep at h1
      cases hb : Region.binds .any e with
      | false => rw [hb] at h1; exact .inl h1
      | true =>
        rw [hb] at h1
        simp only [Nat.testBit_or, Bool.or_eq_true, Nat.testBit_two_pow, decide_eq_true_eq] at h1
        rcases h1 with (h1 | h1) | h1
        · exact .inl h1
        · exact .inr ⟨e, by simp, hb, .inl h1⟩
        · exact .inr ⟨e, by simp, hb, .inr h1⟩
    · exact .inr ⟨e', by simp [he'], h1⟩
omit [Amb] in
theorem masks_pre : ∀ (l : List Oper) (acc : List Nat), ∃ t, masks l acc = acc ++ t
  | [], acc => ⟨[], by simp [masks]⟩
  | o :: l, acc => by
    obtain ⟨t, ht⟩ := masks_pre l (acc ++ [mask acc o])
    exact ⟨_, by rw [masks, ht, List.append_assoc]⟩
omit [Amb] in
theorem masks_bit {i : Nat} : ∀ (l : List Oper) (acc : List Nat) (j : Nat) (o : Oper), l[j]? = some o → (∀ e ∈ o.after.toList, Region.binds .any e = true → e.on < acc.length + j) → Nat.testBit ((masks l acc).getD (acc.length + j) 0) i = true →
    ∃ e ∈ o.after.toList, Region.binds .any e = true ∧ (e.on = i ∨ (e.on < acc.length + j ∧ Nat.testBit ((masks l acc).getD e.on 0) i = true))
  | [], _, j, o, h, _, _ => by simp at h
  | o0 :: l, acc, 0, o, h, he, hb => by
    simp at h; subst h
    obtain ⟨t, ht⟩ := masks_pre l (acc ++ [mask acc o0])
    have hm : masks (o0 :: l) acc = acc ++ [mask acc o0] ++ t := by rw [masks, ht]
    rw [hm] at hb ⊢
    simp only [Nat.add_zero, List.append_assoc, List.getD, List.getElem?_append_right (Nat.le_refl _), Nat.sub_self] at hb
    simp only [List.singleton_append, List.getElem?_cons_zero, Option.getD_some] at hb
    rcases fold_mask acc i _ 0 hb with h0 | ⟨e, he', hbd, h1⟩
    · simp at h0
    · have hlt := he e he' hbd
      rw [Nat.add_zero] at hlt
      refine ⟨e, he', hbd, h1.imp id fun h2 => ⟨by omega, ?_⟩⟩
      rw [List.append_assoc]
      simp only [List.getD] at h2 ⊢
      rw [List.getElem?_append_left hlt]
      exact h2
  | o0 :: l, acc, j + 1, o, h, he, hb => by
    have e1 : acc.length + (j + 1) = (acc ++ [mask acc o0]).length + j := by simp; omega
    rw [masks] at hb ⊢
    rw [e1] at hb he ⊢
    exact masks_bit l _ j o (by simpa using h) he hb
omit [Amb] in
theorem edgesOk_spec : ∀ {l : List Oper} {i0 : Nat}, edgesOk l i0 = true → ∀ (j : Nat) o, l[j]? = some o → ∀ e ∈ o.after.toList, Region.binds .any e = true → e.on < i0 + j
  | [], _, _, j, o, h, _, _, _ => by simp at h
  | o0 :: l, i0, hk, 0, o, h, e, he, hb => by
    simp at h; subst h
    simp only [edgesOk, Bool.and_eq_true] at hk
    have := List.all_eq_true.1 hk.1 e he
    rw [hb] at this
    simp only [Bool.not_true, Bool.false_or, Nat.blt_eq] at this
    omega
  | o0 :: l, i0, hk, j + 1, o, h, e, he, hb => by
    simp only [edgesOk, Bool.and_eq_true] at hk
    have := edgesOk_spec hk.2 j o (by simpa using h) e he hb
    omega
omit [Amb] in
theorem okPairs_spec {ms : List Nat} : ∀ {l : List Tr} {j0 : Nat}, okPairs ms l j0 = true → ∀ (i j : Nat) x y, i < j → l[i]? = some x → l[j]? = some y → Nat.testBit (ms.getD (j0 + j) 0) (j0 + i) = true ∨ x.clash y = false
  | [], _, _, i, j, x, y, _, h, _ => by simp at h
  | x0 :: l, j0, hk, 0, j, x, y, hij, hx, hy => by
    simp at hx; subst hx
    simp only [okPairs, Bool.and_eq_true] at hk
    obtain ⟨j', rfl⟩ : ∃ j', j = j' + 1 := ⟨j - 1, by omega⟩
    have hy' : l[j']? = some y := by simpa using hy
    have hm : (y, j') ∈ l.zipIdx := by
      rw [List.mem_iff_getElem?]
      exact ⟨j', by simp [List.getElem?_zipIdx, hy']⟩
    have := List.all_eq_true.1 hk.1 (y, j') hm
    simp only [Bool.or_eq_true, Bool.not_eq_true'] at this
    rw [show j0 + (j' + 1) = j0 + 1 + j' by omega]
    exact this
  | x0 :: l, j0, hk, i + 1, j, x, y, hij, hx, hy => by
    simp only [okPairs, Bool.and_eq_true] at hk
    obtain ⟨j', rfl⟩ : ∃ j', j = j' + 1 := ⟨j - 1, by omega⟩
    have := okPairs_spec hk.2 i j' x y (by omega) (by simpa using hx) (by simpa using hy)
    rw [show j0 + (j' + 1) = j0 + 1 + j' by omega, show j0 + (i + 1) = j0 + 1 + i by omega]
    exact this
omit [Amb] in
theorem clash_rw {x y : Tr} {p : Pt} {f : Fp} (hf : f ∈ y.fp) (hp : f.has p) (ht : tch x.us p) : x.clash y = true ∧ y.clash x = true := by
  obtain ⟨u, hu, ht⟩ := ht
  have h := Fp.hits_of hp ht
  constructor
  · unfold Tr.clash
    rw [Bool.or_eq_true]; left
    refine List.any_eq_true.2 ⟨u, hu, ?_⟩
    rw [Bool.or_eq_true]; left
    exact List.any_eq_true.2 ⟨f, hf, h⟩
  · unfold Tr.clash
    rw [Bool.or_eq_true]; right
    refine List.any_eq_true.2 ⟨u, hu, ?_⟩
    exact List.any_eq_true.2 ⟨f, hf, h⟩
omit [Amb] in
theorem clash_ww {x y : Tr} {p : Pt} (h1 : tch x.us p) (h2 : tch y.us p) : x.clash y = true := by
  obtain ⟨u, hu, ht⟩ := h1
  obtain ⟨v, hv, hs⟩ := h2
  unfold Tr.clash
  rw [Bool.or_eq_true]; left
  refine List.any_eq_true.2 ⟨u, hu, ?_⟩
  rw [Bool.or_eq_true]; right
  exact List.any_eq_true.2 ⟨v, hv, Up.hits_of hs ht⟩

/-! the trace, by place -/
def usOf (trs : List Tr) : List Up := trs.flatMap Tr.us
omit [Amb] in
theorem gl_lt : ∀ (trs : List Tr) (i j0 : Nat) (g : Gt), gl trs (fun j => decide (j < j0 + i)) j0 g = appGs (usOf (trs.take i)) g
  | [], i, j0, g => by simp [gl, usOf, appGs]
  | tr :: trs, 0, j0, g => by
    rw [gl_none (fun j _ => by simp)]
    simp [usOf, appGs]
  | tr :: trs, i + 1, j0, g => by
    simp only [gl]
    rw [if_pos (by simp)]
    have := gl_lt trs i (j0 + 1) (appGs tr.us g)
    rw [show j0 + 1 + i = j0 + (i + 1) by omega] at this
    rw [this]
    simp [usOf, appGs]
omit [Amb] in
theorem gl_all {trs : List Tr} {L : Nat → Bool} {g : Gt} (h : ∀ i, i < trs.length → L i = true) : gl trs L 0 g = appGs (usOf trs) g := by
  have := gl_lt trs trs.length 0 g
  rw [List.take_length] at this
  rw [← this]
  exact gl_congr fun j hj => by simp [h j hj]; omega
omit [Amb] in
theorem appAll_append {k : Nat} : ∀ {us vs : List Up} {s s1 s2 : St}, appAll k us s = some s1 → appAll k vs s1 = some s2 → appAll k (us ++ vs) s = some s2
  | [], vs, s, s1, s2, h, h' => by simp [appAll] at h; subst h; exact h'
  | u :: us, vs, s, s1, s2, h, h' => by
    simp only [appAll, List.cons_append] at h ⊢
    split at h
    · rename_i hu; exact appAll_append h h'
    · cases h
omit [Amb] in
theorem Traced.app {P : Program} {E : Env} {ops : List Oper} {k : Nat} : ∀ {rest : List Oper} {s s' : St} {trs : List Tr}, Traced P E ops k rest s trs s' → appAll k (usOf trs) s = some s' ∧ trs.length = rest.length
  | [], s, s', trs, h => by cases h; exact ⟨rfl, rfl⟩
  | o :: rest, s, s', trs, h => by
    cases h with | @cons _ _ _ s1 _ us fp tr trs hd h hus hfp ha ht =>
    obtain ⟨h1, h2⟩ := ht.app
    refine ⟨?_, by simp [h2]⟩
    subst hus
    show appAll k (tr.us ++ usOf trs) s = some s'
    exact appAll_append ha h1
omit [Amb] in
theorem Traced.at {P : Program} {E : Env} {ops : List Oper} {k : Nat} : ∀ {rest : List Oper} {s s' : St} {trs : List Tr}, Traced P E ops k rest s trs s' → ∀ (i : Nat) o, rest[i]? = some o → ∃ tr fp, trs[i]? = some tr ∧ (∀ f ∈ fp, f ∈ tr.fp) ∧
      OpRan P E ops o (s.heap.length + cnt (usOf (trs.take i))) (appGs (usOf (trs.take i)) s.gt) tr.us fp ∧ (∀ d, o.dst = some d → d < s.tmps.length)
  | [], _, _, _, _, i, o, h => by simp at h
  | o0 :: rest, s, s', trs, h, i, o, ho => by
    cases h with | @cons _ _ _ s1 _ us fp tr trs hd h hus hfp ha ht =>
    subst hus
    cases i with
    | zero =>
      simp at ho; subst ho
      exact ⟨tr, fp, rfl, hfp, by simpa [usOf, cnt, appGs] using h, hd⟩
    | succ i =>
      obtain ⟨tr', fp', e1, e2, e3, e4⟩ := ht.at i o (by simpa using ho)
      have A := appAll_ok ha
      refine ⟨tr', fp', by simpa using e1, e2, ?_, fun d h => by rw [← A.tmps]; exact e4 d h⟩
      have hc : cnt (usOf (List.take (i + 1) (tr :: trs))) = cnt tr.us + cnt (usOf (trs.take i)) := by
        simp only [List.take_succ_cons, usOf, List.flatMap_cons, cnt_append]
      have hg : appGs (usOf (List.take (i + 1) (tr :: trs))) s.gt = appGs (usOf (trs.take i)) s1.gt := by
        simp only [List.take_succ_cons, usOf, List.flatMap_cons, appGs_append]
        rw [appAll_gt ha]
      rw [hc, hg, ← Nat.add_assoc, ← A.heap]
      exact e3
end Go.Ab
