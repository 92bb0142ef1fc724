/-
  The abstract machine and the model: a region's operations, traced in the order of the text; any order comes to the same.
-/
import Derived.Test.YtphkdkkbbfnkaaaGreatAbH
namespace Go.Ab
variable [Amb]

inductive OpRan (P : Program) (E : Env) (ops : List Oper) (o : Oper) (nid : Nat) (g : Gt) : List Up → List Fp → Prop
  | run {us fp} (hg : o.guard = none) (h : Ran (aop P E o nid) g us fp) : OpRan P E ops o nid g us fp
  | runG {us fp} (j : Nat) (want : Bool) (t : Tmp) (hg : o.guard = some (j, want)) (ht : guardSlot ops j = some t) (hx : g.t t = .r (.c (.f (.b want)))) (h : Ran (aop P E o nid) g us fp) : OpRan P E ops o nid g us (.t t :: fp)
  | skip (j : Nat) (want : Bool) (t : Tmp) (hg : o.guard = some (j, want)) (ht : guardSlot ops j = some t) (hx : g.t t = .r (.c (.f (.b (!want)))) ∨ g.t t = .tup []) : OpRan P E ops o nid g (dstU o.dst udf) [.t t]
omit [Amb] in
theorem OpRan.local {P : Program} {E : Env} {ops : List Oper} {o : Oper} {nid : Nat} {g g' : Gt} {us : List Up} {fp : List Fp} (h : OpRan P E ops o nid g us fp) (e : ∀ f ∈ fp, ∀ p, f.has p → g.at p = g'.at p) : OpRan P E ops o nid g' us fp := by
  cases h with
  | run hg h => exact .run hg (h.local e)
  | runG j want t hg ht hx h =>
    have e1 : g.t t = g'.t t := by simpa [Gt.at] using e (.t t) (by simp) (.t t) rfl
    exact .runG j want t hg ht (e1 ▸ hx) (h.local fun f hf => e f (by simp [hf]))
  | skip j want t hg ht hx =>
    have e1 : g.t t = g'.t t := by simpa [Gt.at] using e (.t t) (by simp) (.t t) rfl
    exact .skip j want t hg ht (e1 ▸ hx)

inductive Traced (P : Program) (E : Env) (ops : List Oper) (k : Nat) : List Oper → St → List Tr → St → Prop
  | nil (s : St) : Traced P E ops k [] s [] s
  | cons {o rest s s1 s2 us fp tr trs} (hd : ∀ d, o.dst = some d → d < s.tmps.length) (h : OpRan P E ops o s.heap.length s.gt us fp) (hus : tr.us = us) (hfp : ∀ f ∈ fp, f ∈ tr.fp) (ha : appAll k us s = some s1) (ht : Traced P E ops k rest s1 trs s2) : Traced P E ops k (o :: rest) s (tr :: trs) s2

omit [Amb] in
theorem set_same {s : St} {t : Nat} {v : AV} (h : s.tmp t = v) : { s with tmps := s.tmps.set t v } = s := by
  have : s.tmps.set t v = s.tmps := by
    apply List.ext_getElem?
    intro i
    rw [List.getElem?_set]
    by_cases e : t = i
    · subst e
      by_cases hl : t < s.tmps.length
      · rw [if_pos rfl, if_pos hl]
        rw [List.getElem?_eq_getElem hl]
        unfold St.tmp at h
        rw [tget_eq] at h
        simp only [List.getD, List.getElem?_eq_getElem hl, Option.getD_some] at h
        rw [h]
      · rw [if_pos rfl, if_neg hl, List.getElem?_eq_none (by omega)]
    · rw [if_neg e]
  rw [this]
omit [Amb] in
theorem appAll_len {k : Nat} : ∀ {us : List Up} {s s' : St}, appAll k us s = some s' → s'.tmps.length = s.tmps.length
  | [], s, s', h => by simp [appAll] at h; subst h; rfl
  | u :: us, s, s', h => by
    simp only [appAll] at h
    split at h
    · rw [appAll_len h]
      cases u with
      | t i v => simp [Up.app]
      | c b o v => simp only [Up.app]; split <;> first | rfl | (split <;> rfl)
      | _ => rfl
    · cases h
omit [Amb] in
theorem runOps_traced {P : Program} {E : Env} {nt k : Nat} {ops : List Oper} {ρ : Type} : ∀ {rest : List Oper} {s : St} {l : List Tr} {c : St → List Tr → Option ρ} {r : ρ}, nt ≤ s.tmps.length → runOps P E nt k ops rest s l c = some r →
    ∃ s' trs, Traced P E ops k rest s trs s' ∧ c s' (l ++ trs) = some r
  | [], s, l, c, r, _, h => ⟨s, [], .nil s, by simpa [runOps] using h⟩
  | o :: rest, s, l, c, r, hnt, h => by
    -- carried out
    have go : ∀ (l0 : List Fp) (hd : ∀ d, o.dst = some d → d < s.tmps.length), (∀ us fp, Ran (aop P E o s.heap.length) s.gt us fp → ∃ fp', OpRan P E ops o s.heap.length s.gt us fp' ∧ ∀ f ∈ fp', f ∈ fp.reverse ++ l0) →
        ((aop P E o s.heap.length).run s l0 fun us fp => match appAll k us s with
          | some s' => runOps P E nt k ops rest s' (l ++ [⟨fp, us⟩]) c
          | none => none) = some r → ∃ s' trs, Traced P E ops k (o :: rest) s trs s' ∧ c s' (l ++ trs) = some r := by
      intro l0 hd hop hrun
      obtain ⟨us, fp, h1, h2⟩ := Rd.run_sound hrun
      cases ha : appAll k us s with
      | none => rw [ha] at h2; cases h2
      | some s1 =>
        rw [ha] at h2
        obtain ⟨s2, trs, t1, t2⟩ := runOps_traced (by rw [appAll_len ha]; exact hnt) h2
        obtain ⟨fp', o1, o2⟩ := hop us fp h1
        exact ⟨s2, ⟨fp.reverse ++ l0, us⟩ :: trs, .cons hd o1 rfl o2 ha t1, by simpa using t2⟩
    have skip : ∀ (j : Nat) (want : Bool) (t : Tmp) (hd : ∀ d, o.dst = some d → d < s.tmps.length), o.guard = some (j, want) → guardSlot ops j = some t → (s.gt.t t = .r (.c (.f (.b (!want)))) ∨ s.gt.t t = .tup []) →
        (match appAll k (dstU o.dst udf) s with
          | some s' => runOps P E nt k ops rest s' (l ++ [⟨[.t t], dstU o.dst udf⟩]) c
          | none => none) = some r → ∃ s' trs, Traced P E ops k (o :: rest) s trs s' ∧ c s' (l ++ trs) = some r := by
      intro j want t hd hg ht hx hrun
      cases ha : appAll k (dstU o.dst udf) s with
      | none => rw [ha] at hrun; cases hrun
      | some s1 =>
        rw [ha] at hrun
        obtain ⟨s2, trs, t1, t2⟩ := runOps_traced (by rw [appAll_len ha]; exact hnt) hrun
        exact ⟨s2, ⟨[.t t], dstU o.dst udf⟩ :: trs, .cons hd (.skip j want t hg ht hx) rfl (by simp) ha t1, by simpa using t2⟩
    simp only [runOps, forceUs_eq, appK_eq, forceL_eq] at h
    split at h
    · cases h
    · rename_i hdk
      have hd : ∀ d, o.dst = some d → d < s.tmps.length := fun d hd => by
        unfold dstOk at hdk; rw [hd] at hdk
        have h2 : Nat.blt d nt = true := hdk
        exact Nat.lt_of_lt_of_le (blt_iff.1 h2) hnt
      split at h
      · rename_i hg
        exact go [] hd (fun us fp h => ⟨fp, .run hg h, by simp⟩) h
      · rename_i j want hg
        split at h
        · cases h
        · rename_i t ht
          split at h
          · rename_i x hx
            have goG : s.tmp t = .r (.c (.f (.b want))) → _ := fun hx => go [.t t] hd (fun us fp h => ⟨.t t :: fp, .runG j want t hg ht hx h, by simp; intro a ha; exact .inl ha⟩)
            cases x with
            | true =>
              simp only [setN_eq] at h
              split at h
              · cases want with
                | true =>
                  simp only at h
                  rw [set_same hx] at h
                  exact goG hx h
                | false =>
                  simp only at h
                  rw [set_same hx] at h
                  exact skip j false t hd hg ht (.inl hx) h
              · cases h
            | false =>
              simp only [setN_eq] at h
              split at h
              · cases want with
                | true =>
                  simp only at h
                  rw [set_same hx] at h
                  exact skip j true t hd hg ht (.inl hx) h
                | false =>
                  simp only at h
                  rw [set_same hx] at h
                  exact goG hx h
              · cases h
          · rename_i hx
            exact skip j want t hd hg ht (.inr hx) h
          · cases h

/-! what updates do to a state's sizes and marks -/
omit [Amb] in
theorem mem_mark {k b : Nat} {d : List Nat} {x : Nat} : x ∈ mark k b d ↔ x ∈ d ∨ (x = b ∧ b < k) := by
  unfold mark
  split
  · rename_i h
    simp only [Bool.and_eq_true, Nat.blt_eq] at h
    simp only [List.mem_cons]
    constructor
    · rintro (rfl | h1)
      · exact .inr ⟨rfl, h.1⟩
      · exact .inl h1
    · rintro (h1 | ⟨rfl, _⟩)
      · exact .inr h1
      · exact .inl rfl
  · rename_i h
    constructor
    · exact .inl
    · rintro (h1 | ⟨rfl, hk⟩)
      · exact h1
      · have hk' : Nat.blt x k = true := by simpa using hk
        have : d.any (Nat.beq x) = true := by
          by_cases ha : d.any (Nat.beq x) = true
          · exact ha
          · rw [hk'] at h; simp_all
        obtain ⟨y, hy, he⟩ := List.any_eq_true.1 this
        rw [Nat.eq_of_beq_eq_true he]; exact hy
structure AppOk (k : Nat) (us : List Up) (s s' : St) : Prop where
  heap : s'.heap.length = s.heap.length + cnt us
  tmps : s'.tmps.length = s.tmps.length
  sub : ∀ b, b ∈ s.dirt → b ∈ s'.dirt
  perm : ∀ u ∈ us, u.perm k (· ∈ s'.dirt)
  keep : ∀ b, b < k → b < s.heap.length → b ∉ s'.dirt → s'.blk b = s.blk b
omit [Amb] in
theorem Up.app_ok {k : Nat} {u : Up} {s : St} (h : u.ok s = true) : AppOk k [u] s (u.app k s) := by
  cases u with
  | t i v => exact ⟨rfl, by simp [Up.app], fun _ h => h, fun u hu => by simp at hu; subst hu; trivial, fun _ _ _ _ => rfl⟩
  | c b lo vs =>
    simp only [Up.ok] at h
    split at h
    · rename_i blk hb
      split at h
      case h_2 => cases h
      rename_i p hp
      have e : (Up.c b lo vs).app k s = { s with heap := s.heap.set b (some p.2), dirt := mark k b s.dirt } := by simp [Up.app, hb, hp]
      rw [e]
      refine ⟨by simp [cnt], rfl, fun x hx => mem_mark.2 (.inl hx), fun u hu => ?_, fun b' hb' hl hn => ?_⟩
      · simp at hu; subst hu; exact fun hk => mem_mark.2 (.inr ⟨rfl, hk⟩)
      · have hne : b' ≠ b := fun e => hn (mem_mark.2 (.inr ⟨e, e ▸ hb'⟩))
        show ((s.heap.set b _)[b']?).getD none = _
        rw [blk_set (St.blk_lt hb), if_neg hne]; rfl
    · cases h
  | new b blk =>
    have hb : b = s.heap.length := Nat.eq_of_beq_eq_true h
    refine ⟨by simp [Up.app, cnt], rfl, fun _ h => h, fun u hu => by simp at hu; subst hu; trivial, fun b' _ hl _ => ?_⟩
    show ((s.heap ++ [some blk])[b']?).getD none = _
    rw [blk_app, if_neg (by omega)]; rfl
  | kill b =>
    have hb : b < s.heap.length := by have h := h; simp [Up.ok, Nat.blt] at h; omega
    refine ⟨by simp [Up.app, cnt], rfl, fun x hx => mem_mark.2 (.inl hx), fun u hu => ?_, fun b' hb' hl hn => ?_⟩
    · simp at hu; subst hu; exact fun hk => mem_mark.2 (.inr ⟨rfl, hk⟩)
    · have hne : b' ≠ b := fun e => hn (mem_mark.2 (.inr ⟨e, e ▸ hb'⟩))
      show ((s.heap.set b none)[b']?).getD none = _
      rw [blk_set hb, if_neg hne]; rfl
omit [Amb] in
theorem Up.perm_mono {k : Nat} {D D' : Nat → Prop} (h : ∀ b, D b → D' b) {u : Up} (p : u.perm k D) : u.perm k D' := by
  cases u <;> first | trivial | exact fun hk => h _ (p hk)
omit [Amb] in
theorem appAll_ok {k : Nat} : ∀ {us : List Up} {s s' : St}, appAll k us s = some s' → AppOk k us s s'
  | [], s, s', h => by
    simp [appAll] at h; subst h
    exact ⟨rfl, rfl, fun _ h => h, fun u hu => by simp at hu, fun _ _ _ _ => rfl⟩
  | u :: us, s, s', h => by
    simp only [appAll] at h
    split at h
    · rename_i hu
      have A := Up.app_ok (k := k) hu
      have B := appAll_ok h
      refine ⟨?_, B.tmps.trans A.tmps, fun b hb => B.sub _ (A.sub b hb), fun v hv => ?_, fun b hb hl hn => ?_⟩
      · rw [B.heap, A.heap, show cnt (u :: us) = cnt [u] + cnt us from cnt_append [u] us]; omega
      · rcases List.mem_cons.1 hv with rfl | hv
        · exact Up.perm_mono B.sub (A.perm v (by simp))
        · exact B.perm v hv
      · have h1 := A.heap
        rw [B.keep b hb (by omega) hn, A.keep b hb hl (fun hx => hn (B.sub b hx))]
    · cases h
end Go.Ab
