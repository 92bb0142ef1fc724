/-
  The abstract machine and the model: a region, in the order of the text and in any order.
-/
import Derived.Test.YtphkdkkbbfnkaaaGreatAbI
namespace Go.Ab
variable [Amb]
section
variable {P : Program} {E : Env} {X : Cx} {D : Nat → Prop}

theorem wanted_of {ops : Array Oper} {o : Oper} {j : Nat} {want : Bool} {t : Tmp} {g : Gt} {π : Pi} {a : Act} {w : World} (R : Rel X D π g a w) (hg : o.guard = some (j, want)) (ht : guardSlot ops.toList j = some t) :
    (g.t t = .r (.c (.f (.b want))) → Region.wanted o (yielded ops a.tmps) = true) ∧ ((g.t t = .r (.c (.f (.b (!want)))) ∨ g.t t = .tup []) → Region.wanted o (yielded ops a.tmps) = false) := by
  have hs : (ops[j]?).bind (·.dst) = some t := by
    unfold guardSlot at ht
    rw [← Array.getElem?_toList]; exact ht
  have hr := R.tm t
  have hy : ∀ b : Bool, a.tmps.getD t undef = .bool b → yielded ops a.tmps j = some b := fun b hb => by
    unfold yielded
    rw [hs]
    simp only [Option.bind_some]
    rw [Array.getD_eq_getD_getElem?] at hb
    cases hx : a.tmps[t]? with
    | none => rw [hx] at hb; simp [undef] at hb
    | some x => rw [hx] at hb; simp at hb; subst hb; rfl
  refine ⟨fun h => ?_, fun h => ?_⟩
  · rw [h] at hr
    have := hy want hr
    simp [Region.wanted, hg, this]
  · rcases h with h | h
    · rw [h] at hr
      have := hy (!want) hr
      simp only [Region.wanted, hg, this]
      cases want <;> rfl
    · rw [h] at hr
      obtain ⟨arr, hx, hall⟩ := hr
      have : yielded ops a.tmps j = none := by
        unfold yielded
        rw [hs]
        simp only [Option.bind_some]
        rw [Array.getD_eq_getD_getElem?] at hx
        cases hy : a.tmps[t]? with
        | none => rfl
        | some x => rw [hy] at hx; simp at hx; subst hx; rfl
      simp only [Region.wanted, hg, this]
      rfl
theorem opRan_step (hE : ∀ f F, E f = some F → Sound P f F) {ops : Array Oper} {i : Nat} {o : Oper} (hi : ops[i]? = some o) {nid : Nat} {us : List Up} {fp : List Fp} {g : Gt} (h : OpRan P E ops.toList o nid g us fp)
    {π : Pi} {a : Act} {w : World} (R : Rel X D π g a w) (hk : X.k ≤ nid) (hfr : ∀ b, nid ≤ b → b < nid + cnt us → π b = none) (hd : ∀ d, o.dst = some d → d < X.N) (hp : ∀ u ∈ us, u.perm X.k D) {K : Act → World → Prop} {Q : Exit → Act → World → Prop}
    (hn : ∀ a' w' π', Ext π π' → (∀ b, π' b ≠ none → π b ≠ none ∨ (nid ≤ b ∧ b < nid + cnt us)) → Rel X D π' (appGs us g) a' w' → K a' w') : wpOp P ops Q i K a w := by
  unfold wpOp
  rw [hi]
  simp only []
  cases h with
  | run hg h =>
    have : Region.wanted o (yielded ops a.tmps) = true := by simp [Region.wanted, hg]
    rw [if_pos this]
    exact .inl (aop_sims hE h π a w K Q R hk hfr hd hp hn)
  | runG j want t hg ht hx h =>
    rw [if_pos ((wanted_of R hg ht).1 hx)]
    exact .inl (aop_sims hE h π a w K Q R hk hfr hd hp hn)
  | skip j want t hg ht hx =>
    rw [if_neg (by rw [(wanted_of R hg ht).2 hx]; simp)]
    exact hn _ _ π (Ext.refl _) (fun b h => .inl h) (R.dst hd (undef_rel π))

structure RelS (X : Cx) (h0 : List Blk) (π : Pi) (s : St) (a : Act) (w : World) : Prop where
  rel : Rel X (· ∈ s.dirt) π s.gt a w
  len : s.tmps.length = X.N
  dom : ∀ b, π b ≠ none → b < s.heap.length
  drt : ∀ b, b < X.k → b ∉ s.dirt → s.blk b = h0[b]?
  hk : X.k ≤ s.heap.length
  dlt : ∀ b, b ∈ s.dirt → b < X.k

theorem AppOk.relS {X : Cx} {h0 : List Blk} {π π' : Pi} {s s' : St} {us : List Up} {a a' : Act} {w w' : World} (A : AppOk X.k us s s') (R : RelS X h0 π s a w) (hg : s'.gt = appGs us s.gt) (hR : Rel X (· ∈ s'.dirt) π' (appGs us s.gt) a' w')
    (hdom : ∀ b, π' b ≠ none → π b ≠ none ∨ (s.heap.length ≤ b ∧ b < s.heap.length + cnt us)) (hdl : ∀ b, b ∈ s'.dirt → b < X.k) : RelS X h0 π' s' a' w' := by
  refine ⟨hg ▸ hR, A.tmps.trans R.len, fun b hb => ?_, fun b hb hn => ?_, ?_, hdl⟩
  · rw [A.heap]
    rcases hdom b hb with h | h
    · have := R.dom b h; omega
    · omega
  · rw [A.keep b hb (Nat.lt_of_lt_of_le hb R.hk) hn]
    exact R.drt b hb (fun h => hn (A.sub b h))
  · rw [A.heap]; have := R.hk; omega
omit [Amb] in
theorem appAll_dlt {k : Nat} : ∀ {us : List Up} {s s' : St}, appAll k us s = some s' → (∀ b, b ∈ s.dirt → b < k) → ∀ b, b ∈ s'.dirt → b < k
  | [], s, s', h, hd, b, hb => by simp [appAll] at h; subst h; exact hd b hb
  | u :: us, s, s', h, hd, b, hb => by
    simp only [appAll] at h
    split at h
    · refine appAll_dlt h (fun b hb => ?_) b hb
      cases u with
      | t i v => exact hd b hb
      | c b' lo vs =>
        simp only [Up.app] at hb
        split at hb
        · split at hb
          · rcases mem_mark.1 hb with h | ⟨rfl, h⟩
            · exact hd b h
            · exact h
          · exact hd b hb
        · exact hd b hb
      | new b' blk => exact hd b hb
      | kill b' =>
        rcases mem_mark.1 hb with h | ⟨rfl, h⟩
        · exact hd b h
        · exact h
    · cases h

theorem region_seq (hE : ∀ f F, E f = some F → Sound P f F) {h0 : List Blk} {ops : Array Oper} {Q : Exit → Act → World → Prop} {s' : St} (hQ : ∀ a' w' π', RelS X h0 π' s' a' w' → Q .normal a' w') :
    ∀ {rest : List Oper} {i : Nat} {s : St} {trs : List Tr} {π : Pi} {a : Act} {w : World}, Traced P E ops.toList X.k rest s trs s' → (∀ j, rest[j]? = ops[i + j]?) → RelS X h0 π s a w → wpOps P ops Q (List.range' i rest.length) a w
  | [], i, s, trs, π, a, w, h, _, R => by
    cases h
    exact hQ a w π R
  | o :: rest, i, s, trs, π, a, w, h, hr, R => by
    cases h with | @cons _ _ _ s1 _ us fp tr trs hd h hus hfp ha ht =>
    have A := appAll_ok ha
    have hg := appAll_gt ha
    have hio : ops[i]? = some o := by simpa using (hr 0).symm
    rw [List.length_cons, List.range'_succ, wpOps_cons]
    refine opRan_step hE hio h (R.rel.mono_D fun b hb => A.sub b hb) R.hk (fun b h1 _ => ?_) (fun d h => by rw [← R.len]; exact hd d h) A.perm (fun a' w' π' hx hdom hR => ?_)
    · cases hb : π b with
      | none => rfl
      | some p => have := R.dom b (by simp [hb]); omega
    · exact region_seq hE hQ ht (fun j => by have := hr (j + 1); rw [show i + 1 + j = i + (j + 1) by omega, ← this]; simp) (A.relS R hg hR hdom (appAll_dlt ha R.dlt))
end
end Go.Ab
