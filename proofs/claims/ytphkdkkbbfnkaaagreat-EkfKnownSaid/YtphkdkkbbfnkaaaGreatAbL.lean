/-
  The abstract machine and the model: a region that draws its order.
-/
import Derived.Test.YtphkdkkbbfnkaaaGreatAbK
namespace Go.Ab
variable [Amb]
section
variable {P : Program} {E : Env} {X : Cx}

omit [Amb] in
theorem cnt_take (trs : List Tr) {i j : Nat} (h : i ≤ j) : cnt (usOf (trs.take i)) ≤ cnt (usOf (trs.take j)) := by
  obtain ⟨d, rfl⟩ : ∃ d, j = i + d := ⟨j - i, by omega⟩
  rw [List.take_add, usOf, usOf, List.flatMap_append, cnt_append]
  omega
omit [Amb] in
theorem cnt_take_succ {trs : List Tr} {i : Nat} {tr : Tr} (h : trs[i]? = some tr) : cnt (usOf (trs.take (i + 1))) = cnt (usOf (trs.take i)) + cnt tr.us := by
  have hlt := (List.getElem?_eq_some_iff.1 h).1
  have he := (List.getElem?_eq_some_iff.1 h).2
  rw [List.take_succ_eq_append_getElem hlt, he, usOf, usOf, List.flatMap_append, cnt_append]
  simp
omit [Amb] in
theorem countP_range {f f' : Nat → Bool} {i : Nat} (h1 : f i = true) (h2 : f' i = false) (h : ∀ j, j ≠ i → f' j = f j) : ∀ n, i < n → (List.range n).countP f = (List.range n).countP f' + 1
  | 0, hn => by omega
  | n + 1, hn => by
    rw [List.range_succ, List.countP_append, List.countP_append]
    by_cases e : i = n
    · subst e
      have : (List.range i).countP f = (List.range i).countP f' := by
        apply List.countP_congr
        intro j hj
        rw [h j (by have := List.mem_range.1 hj; omega)]
      rw [this]
      simp [h1, h2]
    · rw [countP_range h1 h2 h n (by omega), List.countP_singleton, List.countP_singleton, h n (Ne.symm e)]
      omega

theorem wpAny_all (hE : ∀ f F, E f = some F → Sound P f F) {h0 : List Blk} {ops : Array Oper} {Q : Exit → Act → World → Prop} {s s' : St} {trs : List Tr} (hT : Traced P E ops.toList X.k ops.toList s trs s')
    (he : edgesOk ops.toList 0 = true) (hp : okPairs (masks ops.toList []) trs 0 = true) (hlen : s.tmps.length = X.N) (hsk : X.k ≤ s.heap.length) (hdl : ∀ b, b ∈ s.dirt → b < X.k) (hdr : ∀ b, b < X.k → b ∉ s.dirt → s.blk b = h0[b]?)
    (hQ : ∀ a' w' π', RelS X h0 π' s' a' w' → Q .normal a' w') :
    ∀ (fuel : Nat) (listed : Array Bool) (π : Pi) (a : Act) (w : World), listed.size = ops.size → (List.range ops.size).countP (fun i => !listed.getD i false) = fuel →
      (∀ (j : Nat) o, ops[j]? = some o → listed.getD j false = true → ∀ e ∈ o.after, Region.binds .any e = true → listed.getD e.on false = true) →
      Rel X (· ∈ s'.dirt) π (gl trs (fun i => listed.getD i false) 0 s.gt) a w →
      (∀ b, π b ≠ none → b < s.heap.length ∨ ∃ (i : Nat) (tr : Tr), trs[i]? = some tr ∧ listed.getD i false = true ∧ s.heap.length + cnt (usOf (trs.take i)) ≤ b ∧ b < s.heap.length + cnt (usOf (trs.take i)) + cnt tr.us) →
      wpAny P .any ops Q fuel listed a w := by
  obtain ⟨happ, htl⟩ := hT.app
  have A := appAll_ok happ
  have hn : trs.length = ops.size := by rw [htl]; simp
  -- what comes before is listed
  have bef : ∀ (listed : Array Bool), (∀ (j : Nat) o, ops[j]? = some o → listed.getD j false = true → ∀ e ∈ o.after, Region.binds .any e = true → listed.getD e.on false = true) →
      ∀ (j : Nat) (o : Oper) (i : Nat), ops[j]? = some o → (∀ e ∈ o.after, Region.binds .any e = true → listed.getD e.on false = true) → Nat.testBit ((masks ops.toList []).getD j 0) i = true → listed.getD i false = true := by
    intro listed hcl j
    induction j using Nat.strongRecOn with
    | _ j ih =>
      intro o i ho hpre hb
      have ho' : ops.toList[j]? = some o := by rw [Array.getElem?_toList]; exact ho
      obtain ⟨e, he1, he2, h1⟩ := masks_bit ops.toList [] j o ho' (fun e h1 h2 => by have := edgesOk_spec he j o ho' e h1 h2; simpa using this) (by simpa using hb)
      have hl := hpre e (Array.mem_toList_iff.1 he1) he2
      rcases h1 with rfl | ⟨hlt, h1⟩
      · exact hl
      · simp only [List.length_nil, Nat.zero_add] at hlt
        have hjs : j < ops.size := (Array.getElem?_eq_some_iff.1 ho).1
        have hoe : ops[e.on]? = some (ops[e.on]'(by omega)) := Array.getElem?_eq_getElem _
        exact ih e.on hlt _ i hoe (hcl e.on _ hoe hl) h1
  intro fuel
  induction fuel with
  | zero =>
    intro listed π a w hsz hcnt hcl R hdom
    have hall : ∀ i, i < ops.size → listed.getD i false = true := fun i hi => by
      have := List.countP_eq_zero.1 hcnt i (List.mem_range.2 hi)
      simpa using this
    refine ⟨?_, hQ a w π ?_⟩
    · unfold Region.ready
      rw [List.filter_eq_nil_iff]
      intro i hi
      have hi := List.mem_range.1 hi
      have := hall i hi
      have e : listed.getD i true = true := by
        simp only [Array.getD_eq_getD_getElem?, Array.getElem?_eq_getElem (show i < listed.size by omega), Option.getD_some] at this ⊢
        exact this
      rw [e]; simp
    · rw [gl_all (fun i hi => hall i (by omega))] at R
      refine ⟨(appAll_gt happ) ▸ R, A.tmps.trans hlen, fun b hb => ?_, fun b hb hn' => ?_, ?_, appAll_dlt happ hdl⟩
      · rw [A.heap]
        rcases hdom b hb with h | ⟨i, tr, htr, _, _, h2⟩
        · omega
        · have h3 := cnt_take_succ htr
          have h4 := cnt_take trs (show i + 1 ≤ trs.length from (List.getElem?_eq_some_iff.1 htr).1)
          rw [List.take_length] at h4
          omega
      · rw [A.keep b hb (by omega) hn']
        exact hdr b hb (fun h => hn' (A.sub b h))
      · rw [A.heap]; omega
  | succ fuel ih =>
    intro listed π a w hsz hcnt hcl R hdom
    have getT : ∀ i, i < ops.size → listed.getD i true = listed.getD i false := fun i hi => by
      simp only [Array.getD_eq_getD_getElem?, Array.getElem?_eq_getElem (show i < listed.size by omega), Option.getD_some]
    refine ⟨fun hr => ?_, fun i hi => ?_⟩
    · exfalso
      have hall : ∀ i, i < ops.size → listed.getD i false = true := by
        intro i
        induction i using Nat.strongRecOn with
        | _ i ihi =>
          intro hi
          cases hl : listed.getD i false with
          | true => rfl
          | false =>
            have ho : ops[i]? = some (ops[i]'hi) := Array.getElem?_eq_getElem _
            have hmem : i ∈ Region.ready .any ops listed := mem_ready.2 ⟨by rw [getT i hi]; exact hl, _, ho, fun e he1 he2 => by
              have hlt := edgesOk_spec he i _ (by rw [Array.getElem?_toList]; exact ho) e (Array.mem_toList_iff.2 he1) he2
              exact ihi e.on (by omega) (by omega)⟩
            rw [hr] at hmem; cases hmem
      have : (List.range ops.size).countP (fun i => !listed.getD i false) = 0 := List.countP_eq_zero.2 fun i hi => by rw [hall i (List.mem_range.1 hi)]; simp
      omega
    · obtain ⟨hun, o, ho, hpre⟩ := mem_ready.1 hi
      have his : i < ops.size := (Array.getElem?_eq_some_iff.1 ho).1
      have hun' : listed.getD i false = false := by rw [← getT i his]; exact hun
      obtain ⟨tr, fp, htr, hfp, hop, hd⟩ := hT.at i o (by rw [Array.getElem?_toList]; exact ho)
      have hG : appGs (usOf (trs.take i)) s.gt = gl trs (fun j => decide (j < i)) 0 s.gt := by
        have := gl_lt trs i 0 s.gt
        simp only [Nat.zero_add] at this
        exact this.symm
      rw [hG] at hop
      -- two that clash stand in order
      have later : ∀ (j : Nat) tr', i < j → trs[j]? = some tr' → listed.getD j false = true → tr.clash tr' = true → False := fun j tr' hij hj hl hc => by
        rcases okPairs_spec hp i j tr tr' hij htr hj with h | h
        · simp only [Nat.zero_add] at h
          have hjs : j < ops.size := by rw [← hn]; exact (List.getElem?_eq_some_iff.1 hj).1
          have hoj : ops[j]? = some (ops[j]'hjs) := Array.getElem?_eq_getElem _
          have := bef listed hcl j _ i hoj (hcl j _ hoj hl) h
          rw [hun'] at this; cases this
        · rw [hc] at h; cases h
      have hop' := hop.local (g' := gl trs (fun j => listed.getD j false) 0 s.gt) (fun f hf p hfp' => by
        refine gl_at (fun j tr' hj hne => ?_) rfl
        simp only [Nat.zero_add] at hne
        intro ht
        have hc := clash_rw (hfp f hf) hfp' ht
        rcases Nat.lt_trichotomy j i with hji | hji | hji
        · have hlj : listed.getD j false = false := by
            cases h : listed.getD j false with
            | false => rfl
            | true => exact absurd (by rw [h]; simp [hji]) hne
          rcases okPairs_spec hp j i tr' tr hji hj htr with h | h
          · simp only [Nat.zero_add] at h
            have := bef listed hcl i o j ho hpre h
            rw [hlj] at this; cases this
          · rw [hc.1] at h; cases h
        · subst hji
          exact hne (by rw [hun']; simp)
        · have hlj : listed.getD j false = true := by
            cases h : listed.getD j false with
            | true => rfl
            | false => exact absurd (by rw [h]; simp; omega) hne
          exact later j tr' hji hj hlj hc.2)
      have hmemU : ∀ u ∈ tr.us, u ∈ usOf trs := fun u hu => List.mem_flatMap.2 ⟨tr, List.mem_of_getElem? htr, hu⟩
      refine opRan_step hE ho hop' R (by omega) (fun b h1 h2 => ?_) (fun d h => by rw [← hlen]; exact hd d h) (fun u hu => A.perm u (hmemU u hu)) (fun a' w' π' hx hdom' hR => ?_)
      · cases hb : π b with
        | none => rfl
        | some p =>
          exfalso
          rcases hdom b (by simp [hb]) with h | ⟨i', tr', htr', hl', h3, h4⟩
          · omega
          · rcases Nat.lt_trichotomy i' i with hii | hii | hii
            · have e1 := cnt_take_succ htr'
              have e2 := cnt_take trs (show i' + 1 ≤ i from hii)
              omega
            · subst hii; rw [hun'] at hl'; cases hl'
            · have e1 := cnt_take_succ htr
              have e2 := cnt_take trs (show i + 1 ≤ i' from hii)
              omega
      · have getS : ∀ j, (listed.setIfInBounds i true).getD j false = if j = i then true else listed.getD j false := fun j => by
          simp only [Array.getD_eq_getD_getElem?]
          by_cases e : j = i
          · subst e; simp [show j < listed.size by omega]
          · rw [if_neg e, Array.getElem?_setIfInBounds_ne (Ne.symm e)]
        refine ih (listed.setIfInBounds i true) π' a' w' (by simp [hsz]) ?_ (fun j oj hoj hl e he1 he2 => ?_) ?_ (fun b hb => ?_)
        · have := countP_range (f := fun i => !listed.getD i false) (f' := fun j => !(listed.setIfInBounds i true).getD j false) (i := i) (by simp [hun']) (by simp only [getS]; simp) (fun j hj => by simp only [getS, if_neg hj]) ops.size his
          omega
        · rw [getS] at hl ⊢
          by_cases e1 : e.on = i
          · rw [if_pos e1]
          · rw [if_neg e1]
            by_cases e2 : j = i
            · subst e2
              rw [ho] at hoj; cases hoj
              exact hpre e he1 he2
            · rw [if_neg e2] at hl
              exact hcl j oj hoj hl e he1 he2
        · rw [gl_more (L := fun j => listed.getD j false) (L' := fun j => (listed.setIfInBounds i true).getD j false) htr hun' (by simp only [getS]; simp) (fun j hj => by simp only [getS, if_neg hj])
            (fun j tr' hij hj hl p hp1 hp2 => later j tr' hij hj hl (clash_ww hp1 hp2))]
          exact hR
        · rcases hdom' b hb with h | ⟨h1, h2⟩
          · rcases hdom b h with h | ⟨i', tr', htr', hl', h3, h4⟩
            · exact .inl h
            · refine .inr ⟨i', tr', htr', ?_, h3, h4⟩
              rw [getS]; split <;> first | rfl | exact hl'
          · exact .inr ⟨i, tr, htr, by rw [getS, if_pos rfl], h1, h2⟩
theorem region_draw (hE : ∀ f F, E f = some F → Sound P f F) (hm : P.follows .mixedOrders = true) {h0 : List Blk} {id : Nat} {ops : Array Oper} {Q : Exit → Act → World → Prop} {s s' : St} {trs : List Tr} (hT : Traced P E ops.toList X.k ops.toList s trs s')
    (he : edgesOk ops.toList 0 = true) (hp : okPairs (masks ops.toList []) trs 0 = true) {π : Pi} {a : Act} {w : World} (R : RelS X h0 π s a w) (hQ : ∀ a' w' π', RelS X h0 π' s' a' w' → Q .normal a' w') : (Code.region id ops true).wp P Q a w := by
  refine wp_region_any hm ?_
  have hf : ∀ i, (Array.replicate ops.size false).getD i false = false := fun i => by
    simp only [Array.getD_eq_getD_getElem?, Array.getElem?_replicate]
    split <;> rfl
  have A := appAll_ok hT.app.1
  refine wpAny_all hE hT he hp R.len R.hk R.dlt R.drt hQ ops.size _ π a _ (by simp) ?_ (fun j o _ hl => by rw [hf] at hl; cases hl) ?_ (fun b hb => .inl (R.dom b hb))
  · rw [List.countP_eq_length.2 fun i _ => by rw [hf]; rfl]; simp
  · rw [gl_none (fun j _ => hf _)]
    exact (R.rel.mono_D fun b hb => A.sub b hb).drew
theorem region_text (hE : ∀ f F, E f = some F → Sound P f F) {h0 : List Blk} {id : Nat} {ops : Array Oper} {Q : Exit → Act → World → Prop} {s s' : St} {trs : List Tr} (hT : Traced P E ops.toList X.k ops.toList s trs s')
    {π : Pi} {a : Act} {w : World} (R : RelS X h0 π s a w) (hQ : ∀ a' w' π', RelS X h0 π' s' a' w' → Q .normal a' w') : (Code.region id ops false).wp P Q a w := by
  refine wp_region ?_
  have := region_seq hE hQ hT (i := 0) (fun j => by simp) R
  rw [List.range_eq_range']
  simpa using this
end
end Go.Ab
