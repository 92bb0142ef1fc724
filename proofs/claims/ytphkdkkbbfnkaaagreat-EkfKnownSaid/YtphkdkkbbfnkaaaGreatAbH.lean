/-
  The abstract machine and the model: regions, in whatever order.
-/
import Derived.Test.YtphkdkkbbfnkaaaGreatAbG
namespace Go.Ab
variable [Amb]
section
variable {P : Program} {E : Env} {X : Cx} {D : Nat → Prop} {g : Gt}

theorem aop_sims (hE : ∀ f F, E f = some F → Sound P f F) {o : Oper} {nid : Nat} {us : List Up} {fp : List Fp} (h : Ran (aop P E o nid) g us fp) : Sims P o X D nid us g := by
  unfold aop at h
  simp only [] at h
  split at h
  · rename_i x hop; exact sims_move (.inl hop) h
  · rename_i x hop; exact sims_move (.inr hop) h
  · rename_i c x y hop; exact sims_pick hop h
  · rename_i e hop; exact sims_alloc hop h
  · rename_i e x hop; exact sims_box hop h
  · rename_i t n c hop; exact sims_makeSlice hop h
  · rename_i t ps hop; exact sims_build hop h
  · rename_i t n ps hop; exact sims_buildSlice hop h
  · rename_i t x hop; exact sims_load hop h
  · rename_i t x y hop; exact sims_store hop h
  · rename_i x hop; exact sims_nilCheck hop h
  · rename_i op t x y yt hop
    obtain ⟨r1, ⟨_, h1⟩, _, h⟩ := Ran.bind' h
    obtain ⟨r2, ⟨_, h2⟩, _, h⟩ := Ran.bind' h
    obtain ⟨v, ⟨_, h3⟩, _, h⟩ := Ran.bind' h
    cases h
    refine sims_val fun π a w R => ?_
    obtain ⟨z, hz, hr⟩ := binV_run h3 (fun r l hr π a b w hx hy => eqV_run hr π a b w hx hy) (h1.opdR R) (h2.opdR R) x y w
    refine ⟨z, ?_, hr⟩
    simp only [execOp, hop]
    rw [Sem.run_bind, hz]; rfl
  · rename_i op t x hop; exact sims_unOp hop h
  · rename_i s d x hop; exact sims_convert hop h
  · rename_i t x hop; exact sims_arrayPtr hop h
  · rename_i f fs caps hop; exact sims_makeFunc hop h
  · rename_i t x lo hi hop; exact sims_slice hop h
  · rename_i t x i hop; exact sims_fieldAddr hop h
  · rename_i t x i hop; exact sims_field hop h
  · rename_i t x i hop; exact sims_indexAddr hop h
  · rename_i t x i hop; exact sims_index hop h
  · rename_i x i hop; exact sims_extract hop h
  · rename_i c hop
    obtain ⟨args, ⟨l0, h1⟩, _, h⟩ := Ran.bind' h
    split at h
    · rename_i b hc
      unfold biV at h
      split at h
      · exact sims_len hop hc h1 rfl h
      · rename_i s x
        obtain ⟨t, ⟨_, h2⟩, _, h⟩ := Ran.bind' h
        obtain ⟨_, ⟨_, h3⟩, _, h⟩ := Ran.bind' h
        obtain ⟨s', ⟨_, h4⟩, _, h⟩ := Ran.bind' h
        obtain ⟨x', ⟨_, h5⟩, _, h⟩ := Ran.bind' h
        have h2 := h2.ofO
        have h3 := h3.must
        have hts : c.argTypes = #[t, t] := by
          split at h3
          · rename_i t1 t2 he
            have e := Nat.eq_of_beq_eq_true h3
            subst e
            have e2 := arrT he
            rw [e2] at h2
            simp at h2
            rw [e2, h2]
          · cases h3
        exact sims_append hop hc h1 rfl hts h4.asC h5.asC h
      · rename_i d x
        obtain ⟨t, ⟨_, h2⟩, _, h⟩ := Ran.bind' h
        obtain ⟨d', ⟨_, h4⟩, _, h⟩ := Ran.bind' h
        obtain ⟨x', ⟨_, h5⟩, _, h⟩ := Ran.bind' h
        exact sims_copy hop hc h1 rfl h2.ofO h4.asC h5.asC h
      · exact sims_mm (fun x y v l h => minV_run h) hop hc (bi_min c.argTypes) h1 rfl h
      · exact sims_mm (fun x y v l h => maxV_run h) hop hc (bi_max c.argTypes) h1 rfl h
      · cases h
    · rename_i fo hc
      obtain ⟨fv, ⟨_, h2⟩, _, h⟩ := Ran.bind' h
      obtain ⟨fc, ⟨_, h3⟩, _, h⟩ := Ran.bind' h
      have hrel : ∀ (π : Pi) (x : Value), fv.rel π x → ∃ arr : Array Value, x = .func (.func fc.1) #[] arr ∧ All2 (RV.rel π) fc.2 arr.toList := by
        unfold isFn at h3
        split at h3
        · cases h3; exact fun π x hx => hx
        · cases h3
          rintro π x ⟨B, s, q, e, hb, hx, hle⟩
          exact ⟨_, hx, ⟨⟨B, s, q, e, hb, rfl, hle⟩, trivial⟩⟩
        · cases h3
      exact sims_call hE hop hc h1 h2 hrel h
    · cases h
  · cases h
end
end Go.Ab
