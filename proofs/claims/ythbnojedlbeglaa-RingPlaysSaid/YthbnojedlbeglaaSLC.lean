/-
  Contracts of slices.Insert, Delete, Clone, of samples: rows of nine columns. First what they do to rows, in plain terms; then how the memory is left.
-/
import Derived.Test.YthbnojedlbeglaaSLB
set_option linter.unusedVariables false
set_option linter.unusedSimpArgs false
namespace Go.Ab
/-- columns of numbers -/
def colsI (l : List (Nat → Int)) : List Col := l.map (Col.i .i64)
def insC (i : Nat) (g v : Nat → Int) : Nat → Int := fun j => cond (Nat.blt j i) (g j) (cond (Nat.beq j i) (v 0) (g (j - 1)))
def delC (i d : Nat) (g : Nat → Int) : Nat → Int := fun j => cond (Nat.blt j i) (g j) (g (j + d))
theorem rget_colsI {l : List (Nat → Int)} (h : l.length = 9) (J : Nat) : ∃ g, l[J % 9]? = some g ∧ rget (colsI l) J = .f (.i .i64 (g (J / 9))) := by
  have hlt : J % 9 < l.length := by rw [h]; exact Nat.mod_lt _ (by omega)
  refine ⟨l[J % 9], List.getElem?_eq_getElem hlt, ?_⟩
  unfold rget colsI
  rw [List.length_map, h, List.getElem?_map, List.getElem?_eq_getElem hlt]
  rfl
theorem rget_ins {l m : List (Nat → Int)} (hl : l.length = 9) (hm : m.length = 9) (i J : Nat) :
    rget (colsI (List.zipWith (insC i) l m)) J = if J < i * 9 then rget (colsI l) J else if J < (i + 1) * 9 then rget (colsI m) (J - i * 9) else rget (colsI l) (J - 9) := by
  obtain ⟨g, hg, eg⟩ := rget_colsI hl J
  obtain ⟨v, hv, _⟩ := rget_colsI hm J
  obtain ⟨z, hz, ez⟩ := rget_colsI (l := List.zipWith (insC i) l m) (by simp [hl, hm]) J
  have hz2 : (List.zipWith (insC i) l m)[J % 9]? = some (insC i g v) := by simp [List.getElem?_zipWith, hg, hv]
  rw [hz2] at hz; cases hz
  rw [ez]
  by_cases h1 : J < i * 9
  · rw [if_pos h1, eg]
    have : Nat.blt (J / 9) i = true := blt_iff.2 (by omega)
    simp only [insC, this, cond_true]
  · rw [if_neg h1]
    have e1 : Nat.blt (J / 9) i = false := blt_false (by omega)
    by_cases h2 : J < (i + 1) * 9
    · rw [if_pos h2]
      have e2 : Nat.beq (J / 9) i = true := beq_iff.2 (by omega)
      obtain ⟨v', hv', ev⟩ := rget_colsI hm (J - i * 9)
      have e3 : (J - i * 9) % 9 = J % 9 := by omega
      have e4 : (J - i * 9) / 9 = 0 := by omega
      rw [e3, hv] at hv'; cases hv'
      rw [ev, e4]
      simp only [insC, e1, e2, cond_true, cond_false]
    · rw [if_neg h2]
      have e2 : Nat.beq (J / 9) i = false := beq_false (by omega)
      obtain ⟨g', hg', ev⟩ := rget_colsI hl (J - 9)
      have e3 : (J - 9) % 9 = J % 9 := by omega
      have e4 : (J - 9) / 9 = J / 9 - 1 := by omega
      rw [e3, hg] at hg'; cases hg'
      rw [ev, e4]
      simp only [insC, e1, e2, cond_false]
theorem rget_del {l : List (Nat → Int)} (hl : l.length = 9) (i d J : Nat) :
    rget (colsI (l.map (delC i d))) J = if J < i * 9 then rget (colsI l) J else rget (colsI l) (J + d * 9) := by
  obtain ⟨g, hg, eg⟩ := rget_colsI hl J
  obtain ⟨z, hz, ez⟩ := rget_colsI (l := l.map (delC i d)) (by simp [hl]) J
  have hz2 : (l.map (delC i d))[J % 9]? = some (delC i d g) := by simp [hg]
  rw [hz2] at hz; cases hz
  rw [ez]
  by_cases h1 : J < i * 9
  · rw [if_pos h1, eg]
    have : Nat.blt (J / 9) i = true := blt_iff.2 (by omega)
    simp only [delC, this, cond_true]
  · rw [if_neg h1]
    have e1 : Nat.blt (J / 9) i = false := blt_false (by omega)
    obtain ⟨g', hg', ev⟩ := rget_colsI hl (J + d * 9)
    have e3 : (J + d * 9) % 9 = J % 9 := by omega
    have e4 : (J + d * 9) / 9 = J / 9 + d := by omega
    rw [e3, hg] at hg'; cases hg'
    rw [ev, e4]
    simp only [delC, e1, cond_false]
theorem size_colsI {l : List (Nat → Int)} (h : l.length = 9) (n : Nat) : Blk.size [.a (.s n) (colsI l)] = n * 9 := by
  rw [Blk.size_cons, Blk.size_nil, Sg.size_a, Nat.add_zero]
  show n * (colsI l).length = n * 9
  unfold colsI; rw [List.length_map, h]
theorem get_colsI {l : List (Nat → Int)} (h : l.length = 9) {n j : Nat} (hj : j < n * 9) : Blk.get [.a (.s n) (colsI l)] j = rget (colsI l) j := by
  rw [Blk.get_lt (by rw [Sg.size_a]; unfold colsI; rw [List.length_map, h]; exact hj), Sg.get_a]
theorem rel_one_colsI {l : List (Nat → Int)} (h : l.length = 9) [Amb] {π : Pi} {j : Nat} {v : Value} (hr : (rget (colsI l) j).rel π v) {π' : Pi} : (rget (colsI l) j).rel π' v := by
  obtain ⟨g, _, e⟩ := rget_colsI h j
  rw [e] at hr ⊢; exact hr
/-- cells as a list -/
theorem cells_list [Amb] {π : Pi} {w : World} {B s N : Nat} {c : Nat → CV} (h : ∀ j, j < N → ∃ v, cl w B (s + j) = some v ∧ (c j).rel π v) :
    ∃ cs : List Value, cs.length = N ∧ (∀ j v, cs[j]? = some v → w.cell? ⟨B, s + j, none⟩ = some v ∧ (c j).rel π v) ∧ ∀ v ∈ cs, v.oneCell' = true := by
  have key : ∀ j v, ((List.range N).map fun j => (cl w B (s + j)).getD undef)[j]? = some v → w.cell? ⟨B, s + j, none⟩ = some v ∧ (c j).rel π v := fun j v hv => by
    have hj : j < N := by
      have := (List.getElem?_eq_some_iff.1 hv).1; simpa using this
    obtain ⟨u, hu, hr⟩ := h j hj
    simp [hj, hu] at hv
    subst hv
    exact ⟨hu, hr⟩
  refine ⟨(List.range N).map fun j => (cl w B (s + j)).getD undef, by simp, key, fun v hv => ?_⟩
  obtain ⟨i, hi⟩ := List.mem_iff_getElem?.1 hv
  exact CV.rel_one (key i v hi).2
theorem shape_of {w : World} {B i : Nat} {v : Value} (h : w.cell? ⟨B, i, none⟩ = some v) : ∃ t k, w.shape? B = some (t, k) ∧ k ≠ 0 := by
  unfold World.cell? at h
  simp only at h
  cases hh : w.heap[B]? with
  | none => rw [hh] at h; cases h
  | some x =>
    rw [hh] at h
    cases x <;> simp only at h <;> first | (cases h; done) | skip
    rename_i cs t fz
    have := (Array.getElem?_eq_some_iff.1 h).1
    refine ⟨t, cs.size, ?_, by omega⟩
    simp [World.shape?, hh]
end Go.Ab
