/-
  The abstract machine and the model: a function's code carried out.
-/
import Derived.Test.YtphkdkkbbfnkaaaGreatAbR
namespace Go.Ab
variable [Amb]
section
variable {P : Program} {E : Env} {X : Cx} {h0 : List Blk} {π : Pi} {s s' : St} {a : Act} {w : World}

theorem RelS.gc (I : In X h0) (R : RelS X h0 π s a w) {H : Nat} (hH : X.k ≤ H) (h : s.gc X.k H = some s') : ∃ π', RelS X h0 π' s' a w := by
  unfold St.gc at h
  split at h
  · cases h
  rename_i hb
  have hHl : H ≤ s.heap.length := Nat.le_of_ble_eq_true hb
  simp only at h
  split at h
  · rename_i z hz
    obtain ⟨p1, p2, p3, p4⟩ := gcL_spec (R := AV.rel) (fun h a x r => AV.rel_mono h a x r) (gcA_spec H) s.tmps []
    have ok0 : MOk H (gcL (gcA H) s.tmps []).2 := p2 ⟨List.nodup_nil, fun _ h => by cases h⟩
    obtain ⟨q1, q2, q3, q4, q5⟩ := gc_heap I R hH hHl ok0 hz
    cases h
    refine ⟨piG π H z.2, ⟨⟨fun i => ?_, R.rel.nt, R.rel.df, q2, fun b hb => ?_, fun b B s1 qq e hkb hzb hp hB i i1 i2 => ?_, R.rel.fr⟩, p3.trans R.len, fun b hb => ?_, fun b hb hn => ?_, ?_, R.dlt⟩⟩
    · show (tget (gcL (gcA H) s.tmps []).1 i).rel _ _
      rw [tget_eq]
      have hr : (tget s.tmps i).rel π (a.tmps.getD i undef) := R.rel.tm i
      rw [tget_eq] at hr
      rcases Nat.lt_or_ge i s.tmps.length with hi | hi
      · have e1 : s.tmps[i]? = some (s.tmps[i]'hi) := List.getElem?_eq_getElem _
        have e2 : (gcL (gcA H) s.tmps []).1[i]? = some ((gcL (gcA H) s.tmps []).1[i]'(by omega)) := List.getElem?_eq_getElem _
        have hr : (s.tmps.getD i udf).rel π (a.tmps.getD i undef) := hr
        simp only [List.getD, e1, Option.getD_some] at hr
        simp only [List.getD, e2, Option.getD_some]
        exact AV.rel_mono q1.ext _ _ (p4 i _ _ e1 e2 π _ hr)
      · have hr : (s.tmps.getD i udf).rel π (a.tmps.getD i undef) := hr
        simp only [List.getD, List.getElem?_eq_none hi, Option.getD_none] at hr
        simp only [List.getD, List.getElem?_eq_none (show (gcL (gcA H) s.tmps []).1.length ≤ i by omega), Option.getD_none]
        exact (gcA_spec H udf z.2).rel π _ hr
    · unfold piG; rw [if_pos (by omega)]; exact R.rel.old b hb
    · rcases q5 b hzb with ⟨hbH, hz0⟩ | ⟨b0, hbH, hm, hb0, hz0⟩
      · unfold piG at hp; rw [if_pos hbH] at hp
        exact R.rel.ft b B s1 qq e hkb hz0 hp hB i i1 i2
      · unfold piG at hp; rw [if_neg (by omega), hm] at hp
        exact R.rel.ft b0 B s1 qq e (by omega) hz0 hp hB i i1 i2
    · show b < (_ ++ _ : List (Option Blk)).length
      rw [q3]
      unfold piG at hb
      split at hb
      · omega
      · cases hm : z.2[b - H]? with
        | none => rw [hm] at hb; exact absurd rfl hb
        | some b0 => have := (List.getElem?_eq_some_iff.1 hm).1; omega
    · exact (q4 b (by omega) hb hn).trans (R.drt b hb hn)
    · show X.k ≤ (_ ++ _ : List (Option Blk)).length
      rw [q3]; omega
  · cases h
theorem RelS.kill1 (R : RelS X h0 π s a w) (t : Nat) : RelS X h0 π { s with tmps := s.tmps.set t und } a w := by
  refine ⟨⟨fun i => ?_, R.rel.nt, R.rel.df, R.rel.hp, R.rel.old, R.rel.ft, R.rel.fr⟩, by simpa using R.len, R.dom, R.drt, R.hk, R.dlt⟩
  show (tget (s.tmps.set t und) i).rel π _
  rw [tget_eq]
  simp only [List.getD, List.getElem?_set]
  have hr : (tget s.tmps i).rel π (a.tmps.getD i undef) := R.rel.tm i
  rw [tget_eq] at hr
  split
  · split
    · trivial
    · rename_i h1 h2
      subst h1
      simpa only [List.getD, List.getElem?_eq_none (show s.tmps.length ≤ t by omega)] using hr
  · exact hr
theorem RelS.kills : ∀ (l : List Nat) {s : St}, RelS X h0 π s a w → RelS X h0 π { s with tmps := l.foldl (fun l t => l.set t und) s.tmps } a w
  | [], _, R => R
  | t :: l, _, R => RelS.kills l (R.kill1 t)
omit [Amb] in
theorem tmp_lt {i : Nat} {c : CV} (h : s.tmp i = .r (.c c)) : i < s.tmps.length := by
  rcases Nat.lt_or_ge i s.tmps.length with hi | hi
  · exact hi
  · simp only [St.tmp, tget_eq, List.getD, List.getElem?_eq_none hi, Option.getD_none, udf] at h; cases h
omit [Amb] in
theorem offC_rel [Amb] {π : Pi} {c : CV} {v : Value} (h : c.rel π v) : (offC c).rel π v := by
  unfold offC
  split
  · split
    · rename_i b len z own c0
      simpa [CV.rel, Off.val] using h
    · exact h
  · exact h
omit [Amb] in
theorem mapS_size (g : CV → CV) (s : Sg) : (mapS g s).size = s.size := by
  cases s <;> rfl
omit [Amb] in
theorem map_size (g : CV → CV) : ∀ b : Blk, Blk.size (b.map (mapS g)) = Blk.size b
  | [] => rfl
  | s :: l => by
    rw [List.map_cons, Blk.size_cons, Blk.size_cons, mapS_size, map_size g l]
theorem mapS_get {g : CV → CV} {π : Pi} (hg : ∀ c v, CV.rel π c v → CV.rel π (g c) v) {s : Sg} {j : Nat} {v : Value} (h : (s.get j).rel π v) : ((mapS g s).get j).rel π v := by
  cases s with
  | c x =>
    cases j with
    | zero => exact hg _ _ h
    | succ j => exact h
  | a n cols => exact h
theorem map_get {g : CV → CV} {π : Pi} (hg : ∀ c v, CV.rel π c v → CV.rel π (g c) v) {v : Value} : ∀ (b : Blk) (j : Nat), (Blk.get b j).rel π v → (Blk.get (b.map (mapS g)) j).rel π v
  | [], _, h => h
  | s :: l, j, h => by
    rw [List.map_cons]
    by_cases hj : j < s.size
    · rw [Blk.get_lt hj] at h
      rw [Blk.get_lt (by rw [mapS_size]; exact hj)]
      exact mapS_get hg h
    · rw [Blk.get_ge (by omega)] at h
      rw [Blk.get_ge (by rw [mapS_size]; omega), mapS_size]
      exact map_get hg l _ h
theorem mapA_rel {g : CV → CV} {π : Pi} (hg : ∀ c v, CV.rel π c v → CV.rel π (g c) v) {a : AV} {v : Value} (h : a.rel π v) : (mapA g a).rel π v := by
  unfold mapA
  split
  · exact hg _ _ h
  · exact h
omit [Amb] in
theorem mapH_length (g : CV → CV) (k : Nat) (d : List Nat) : ∀ (l : List (Option Blk)) (j : Nat), (mapH g k d l j).length = l.length
  | [], _ => rfl
  | b :: l, j => by simp [mapH, mapH_length g k d l (j + 1)]
omit [Amb] in
theorem mapH_get (g : CV → CV) (k : Nat) (d : List Nat) : ∀ (l : List (Option Blk)) (j i : Nat), ((mapH g k d l j)[i]?).getD none = (l[i]?).getD none ∨ (¬ (j + i < k ∧ j + i ∉ d) ∧ ∃ b, (l[i]?).getD none = some b ∧ ((mapH g k d l j)[i]?).getD none = some (b.map (mapS g)))
  | [], _, _ => .inl rfl
  | b :: l, j, 0 => by
    unfold mapH
    cases hc : Nat.blt j k && !d.any (Nat.beq j) with
    | true => exact .inl rfl
    | false =>
      cases b with
      | none => exact .inl rfl
      | some b =>
        refine .inr ⟨fun h => ?_, b, rfl, rfl⟩
        have h1 : Nat.blt j k = true := blt_iff.2 h.1
        have h2 : d.any (Nat.beq j) = false := by
          cases hd : d.any (Nat.beq j) with
          | false => rfl
          | true =>
            obtain ⟨x, hx, he⟩ := List.any_eq_true.1 hd
            have := Nat.eq_of_beq_eq_true he
            subst this
            exact absurd hx h.2
        rw [h1, h2] at hc
        cases hc
  | b :: l, j, i + 1 => by
    have := mapH_get g k d l (j + 1) i
    rw [show j + 1 + i = j + (i + 1) by omega] at this
    exact this
theorem RelS.mapC (R : RelS X h0 π s a w) (g : CV → CV) (hg : ∀ c v, CV.rel π c v → CV.rel π (g c) v) : RelS X h0 π { s with tmps := s.tmps.map (mapA g), heap := mapH g X.k s.dirt s.heap 0 } a w := by
  have hb : ∀ b, St.blk { s with tmps := s.tmps.map (mapA g), heap := mapH g X.k s.dirt s.heap 0 } b = s.blk b ∨ (¬ (b < X.k ∧ b ∉ s.dirt) ∧ ∃ k, s.blk b = some k ∧ St.blk { s with tmps := s.tmps.map (mapA g), heap := mapH g X.k s.dirt s.heap 0 } b = some (k.map (mapS g))) := fun b => by
    have := mapH_get g X.k s.dirt s.heap 0 b
    rw [Nat.zero_add] at this
    exact this
  generalize hs2 : ({ s with tmps := s.tmps.map (mapA g), heap := mapH g X.k s.dirt s.heap 0 } : St) = s2 at hb
  have hz : s2.gt.z = s.gt.z := by
    funext b
    show (s2.blk b).map Blk.size = (s.blk b).map Blk.size
    rcases hb b with h | ⟨_, k, h1, h2⟩
    · rw [h]
    · rw [h1, h2]; simp [map_size]
  have hc : ∀ b j v, (s.gt.c b j).rel π v → (s2.gt.c b j).rel π v := fun b j v h => by
    rcases hb b with e | ⟨_, k, h1, h2⟩
    · show (match s2.blk b with | some k => if j < k.size then k.get j else .f .u | none => .f .u : CV).rel π v
      rw [e]; exact h
    · have h : (match s.blk b with | some k => if j < k.size then k.get j else .f .u | none => .f .u : CV).rel π v := h
      show (match s2.blk b with | some k => if j < k.size then k.get j else .f .u | none => .f .u : CV).rel π v
      rw [h1] at h
      rw [h2]
      simp only [map_size] at h ⊢
      split
      · rename_i hj
        rw [if_pos hj] at h
        exact map_get hg k j h
      · rename_i hj
        rw [if_neg hj] at h
        exact h
  have hd2 : s2.dirt = s.dirt := by rw [← hs2]
  have hl2 : s2.heap.length = s.heap.length := by rw [← hs2]; exact mapH_length _ _ _ _ _
  refine ⟨⟨fun i => ?_, R.rel.nt, R.rel.df, ⟨R.rel.hp.am, ?_, fun b n hn => ?_, ?_⟩, R.rel.old, ?_, ?_⟩, ?_, fun b hb' => ?_, fun b hbk hn => ?_, ?_, ?_⟩
  · have hr : (tget s.tmps i).rel π (a.tmps.getD i undef) := R.rel.tm i
    show (tget s2.tmps i).rel π _
    rw [← hs2]
    rw [tget_eq] at hr
    rw [tget_eq]
    simp only [List.getD, List.getElem?_map] at hr ⊢
    cases he : s.tmps[i]? with
    | none => rw [he] at hr; exact hr
    | some x => rw [he] at hr; exact mapA_rel hg hr
  · rw [hz]; exact R.rel.hp.lb
  · rw [hz] at hn
    obtain ⟨B, s1, e, h1, h2, h3, h4⟩ := R.rel.hp.hp b n hn
    exact ⟨B, s1, e, h1, h2, h3, fun j hj => let ⟨v, hv, hr⟩ := h4 j hj; ⟨v, hv, hc b j v hr⟩⟩
  · rw [hz]; exact R.rel.hp.dj
  · rw [hz]; intro b B s1 q e; rw [hd2]; exact R.rel.ft b B s1 q e
  · rw [hd2]; exact R.rel.fr
  · rw [← hs2]; simpa using R.len
  · rw [hl2]; exact R.dom b hb'
  · rw [hd2] at hn
    rcases hb b with e | ⟨h, _⟩
    · exact e.trans (R.drt b hbk hn)
    · exact absurd ⟨hbk, hn⟩ h
  · rw [hl2]; exact R.hk
  · rw [hd2]; exact R.dlt
theorem lenC_rel {π : Pi} {c : CV} {v : Value} (h : c.rel π v) : (lenC c).rel π v := by
  unfold lenC
  split
  · simpa [CV.rel, Sz.val] using h
  · exact h
theorem rowA_rel {π : Pi} {a : AV} {v : Value} (h : a.rel π v) : (rowA a).rel π v := by
  unfold rowA
  split
  · exact lenC_rel (offC_rel h)
  · exact h
omit [Amb] in
theorem rowS_size (s : Sg) : (rowS s).size = s.size := by
  cases s <;> rfl
omit [Amb] in
theorem rowS_sizes : ∀ b : Blk, Blk.size (b.map rowS) = Blk.size b
  | [] => rfl
  | s :: l => by
    rw [List.map_cons, Blk.size_cons, Blk.size_cons, rowS_size, rowS_sizes l]
theorem rowS_get {π : Pi} {s : Sg} {j : Nat} {v : Value} (h : (s.get j).rel π v) : ((rowS s).get j).rel π v := by
  cases s with
  | c x =>
    cases j with
    | zero => exact lenC_rel (offC_rel h)
    | succ j => exact h
  | a n cols => exact h
theorem rowS_gets {π : Pi} {v : Value} : ∀ (b : Blk) (j : Nat), (Blk.get b j).rel π v → (Blk.get (b.map rowS) j).rel π v
  | [], _, h => h
  | s :: l, j, h => by
    rw [List.map_cons]
    by_cases hj : j < s.size
    · rw [Blk.get_lt hj] at h
      rw [Blk.get_lt (by rw [rowS_size]; exact hj)]
      exact rowS_get h
    · rw [Blk.get_ge (by omega)] at h
      rw [Blk.get_ge (by rw [rowS_size]; omega), rowS_size]
      exact rowS_gets l _ h
omit [Amb] in
theorem rowZ_size (l : List (Nat × Nat)) (j : Nat) (b : Blk) : Blk.size (rowZ l j b) = Blk.size b := by
  unfold rowZ
  split
  · rw [(toS_spec _).1, (toRow_spec _ _).1, rowS_sizes]
  · rw [rowS_sizes]
theorem rowZ_get {π : Pi} {v : Value} (l : List (Nat × Nat)) (j : Nat) (b : Blk) (i : Nat) (hi : i < Blk.size b) (h : (Blk.get b i).rel π v) : (Blk.get (rowZ l j b) i).rel π v := by
  unfold rowZ
  split
  · rw [(toS_spec _).2, (toRow_spec _ _).2 i (by rw [rowS_sizes]; exact hi)]
    exact rowS_gets b i h
  · exact rowS_gets b i h
omit [Amb] in
theorem rowH_length (k : Nat) (d : List Nat) (sl : List (Nat × Nat)) : ∀ (l : List (Option Blk)) (j : Nat), (rowH k d sl l j).length = l.length
  | [], _ => rfl
  | b :: l, j => by simp [rowH, rowH_length k d sl l (j + 1)]
omit [Amb] in
theorem rowH_get (k : Nat) (d : List Nat) (sl : List (Nat × Nat)) : ∀ (l : List (Option Blk)) (j i : Nat), ((rowH k d sl l j)[i]?).getD none = (l[i]?).getD none ∨ (¬ (j + i < k ∧ j + i ∉ d) ∧ ∃ b, (l[i]?).getD none = some b ∧ ((rowH k d sl l j)[i]?).getD none = some (rowZ sl (j + i) b))
  | [], _, _ => .inl rfl
  | b :: l, j, 0 => by
    unfold rowH
    cases hc : Nat.blt j k && !d.any (Nat.beq j) with
    | true => exact .inl rfl
    | false =>
      cases b with
      | none => exact .inl rfl
      | some b =>
        refine .inr ⟨fun h => ?_, b, rfl, rfl⟩
        have h1 : Nat.blt j k = true := blt_iff.2 h.1
        have h2 : d.any (Nat.beq j) = false := by
          cases hd : d.any (Nat.beq j) with
          | false => rfl
          | true =>
            obtain ⟨x, hx, he⟩ := List.any_eq_true.1 hd
            have := Nat.eq_of_beq_eq_true he
            subst this
            exact absurd hx h.2
        rw [h1, h2] at hc
        cases hc
  | b :: l, j, i + 1 => by
    have := rowH_get k d sl l (j + 1) i
    rw [show j + 1 + i = j + (i + 1) by omega] at this
    exact this
theorem RelS.rows (R : RelS X h0 π s a w) : RelS X h0 π { s with tmps := s.tmps.map rowA, heap := rowH X.k s.dirt (sls s) s.heap 0 } a w := by
  have hb : ∀ b, St.blk { s with tmps := s.tmps.map rowA, heap := rowH X.k s.dirt (sls s) s.heap 0 } b = s.blk b ∨ (¬ (b < X.k ∧ b ∉ s.dirt) ∧ ∃ k, s.blk b = some k ∧ St.blk { s with tmps := s.tmps.map rowA, heap := rowH X.k s.dirt (sls s) s.heap 0 } b = some (rowZ (sls s) b k)) := fun b => by
    have := rowH_get X.k s.dirt (sls s) s.heap 0 b
    rw [Nat.zero_add] at this
    exact this
  generalize sls s = sl at hb ⊢
  generalize hs2 : ({ s with tmps := s.tmps.map rowA, heap := rowH X.k s.dirt sl s.heap 0 } : St) = s2 at hb
  have hz : s2.gt.z = s.gt.z := by
    funext b
    show (s2.blk b).map Blk.size = (s.blk b).map Blk.size
    rcases hb b with h | ⟨_, k, h1, h2⟩
    · rw [h]
    · rw [h1, h2]; simp [rowZ_size]
  have hc : ∀ b j v, (s.gt.c b j).rel π v → (s2.gt.c b j).rel π v := fun b j v h => by
    rcases hb b with e | ⟨_, k, h1, h2⟩
    · show (match s2.blk b with | some k => if j < k.size then k.get j else .f .u | none => .f .u : CV).rel π v
      rw [e]; exact h
    · have h : (match s.blk b with | some k => if j < k.size then k.get j else .f .u | none => .f .u : CV).rel π v := h
      show (match s2.blk b with | some k => if j < k.size then k.get j else .f .u | none => .f .u : CV).rel π v
      rw [h1] at h
      rw [h2]
      simp only [rowZ_size] at h ⊢
      split
      · rename_i hj
        rw [if_pos hj] at h
        exact rowZ_get sl b k j hj h
      · rename_i hj
        rw [if_neg hj] at h
        exact h
  have hd2 : s2.dirt = s.dirt := by rw [← hs2]
  have hl2 : s2.heap.length = s.heap.length := by rw [← hs2]; exact rowH_length _ _ _ _ _
  refine ⟨⟨fun i => ?_, R.rel.nt, R.rel.df, ⟨R.rel.hp.am, ?_, fun b n hn => ?_, ?_⟩, R.rel.old, ?_, ?_⟩, ?_, fun b hb' => ?_, fun b hbk hn => ?_, ?_, ?_⟩
  · have hr : (tget s.tmps i).rel π (a.tmps.getD i undef) := R.rel.tm i
    show (tget s2.tmps i).rel π _
    rw [← hs2]
    rw [tget_eq] at hr
    rw [tget_eq]
    simp only [List.getD, List.getElem?_map] at hr ⊢
    cases he : s.tmps[i]? with
    | none => rw [he] at hr; exact hr
    | some x => rw [he] at hr; exact rowA_rel hr
  · rw [hz]; exact R.rel.hp.lb
  · rw [hz] at hn
    obtain ⟨B, s1, e, h1, h2, h3, h4⟩ := R.rel.hp.hp b n hn
    exact ⟨B, s1, e, h1, h2, h3, fun j hj => let ⟨v, hv, hr⟩ := h4 j hj; ⟨v, hv, hc b j v hr⟩⟩
  · rw [hz]; exact R.rel.hp.dj
  · rw [hz]; intro b B s1 q e; rw [hd2]; exact R.rel.ft b B s1 q e
  · rw [hd2]; exact R.rel.fr
  · rw [← hs2]; simpa using R.len
  · rw [hl2]; exact R.dom b hb'
  · rw [hd2] at hn
    rcases hb b with e | ⟨h, _⟩
    · exact e.trans (R.drt b hbk hn)
    · exact absurd ⟨hbk, hn⟩ h
  · rw [hl2]; exact R.hk
  · rw [hd2]; exact R.dlt
omit [Amb] in
theorem renC_rel [Amb] {π : Pi} {b n : Nat} (hb : π n = π b) {c : CV} {v : Value} (h : c.rel π v) : (renC b n c).rel π v := by
  have e : ∀ x, π (renB b n x) = π x := fun x => by
    unfold renB
    split
    · rename_i hx; rw [Nat.eq_of_beq_eq_true hx]; exact hb
    · rfl
  unfold renC
  split
  · simpa only [CV.rel, e] using h
  · simpa only [CV.rel, e] using h
  · simpa only [CV.rel, e] using h
  · exact h
theorem RelS.move (R : RelS X h0 π s a w) (b : Nat) : ∃ π', RelS X h0 π' (moveB X.k b s) a w := by
  unfold moveB
  split
  case h_2 => exact ⟨π, R⟩
  rename_i blk hblk
  split
  case h_2 => exact ⟨π, R⟩
  rename_i hlt
  have hlt := blt_iff.1 hlt
  have hbl : b < s.heap.length := Nat.lt_of_lt_of_le hlt R.hk
  generalize hn : s.heap.length = n
  generalize hs1 : ({ s with heap := s.heap.set b none ++ [some blk], dirt := mark X.k b s.dirt } : St) = s1
  have happ : appAll X.k [.kill b, .new n blk] s = some s1 := by
    have h1 : Nat.blt b s.heap.length = true := blt_iff.2 hbl
    have h2 : Nat.beq n s.heap.length = true := by rw [hn]; exact Nat.beq_refl _
    simp [appAll, Up.ok, Up.app, h1, h2, ← hs1]
  have A := appAll_ok happ
  have hg := appAll_gt happ
  have hz : s.gt.z b = some (Blk.size blk) := by show (s.blk b).map Blk.size = _; rw [hblk]; rfl
  obtain ⟨B, s0, e, hp, hle, k1, k2⟩ := R.rel.hp.hp b _ hz
  have hnone : π n = none := by
    cases hb : π n with
    | none => rfl
    | some q => have := R.dom n (by rw [hb]; simp); omega
  have hext := upd_ext hnone (B, s0, Blk.size blk, e)
  have hD : b ∈ s1.dirt := by rw [← hs1]; exact mem_mark.2 (.inr ⟨rfl, hlt⟩)
  have hsub : ∀ x, x ∈ s.dirt → x ∈ s1.dirt := fun x hx => by rw [← hs1]; exact mem_mark.2 (.inl hx)
  have R0 := (R.rel.mono_pi hext (fun b' hb' => by simp only [upd]; rw [if_neg (by have := R.hk; omega)])).mono_D hsub
  have hb0 : upd π n (B, s0, Blk.size blk, e) b = some (B, s0, Blk.size blk, e) := hext _ _ hp
  have hp0 : X.p0 b = some (B, s0, Blk.size blk, e) := by rw [← R.rel.old b hlt]; exact hp
  have R2 := (R0.kill b).new (k := blk) (b := n) (upd_self π n (B, s0, Blk.size blk, e)) (by have := R.hk; omega) hle k1
    (fun j hj => by
      obtain ⟨v, hv, hr⟩ := k2 j hj
      have hc : s.gt.c b j = Blk.get blk j := by show (match s.blk b with | some k => if j < k.size then k.get j else .f .u | none => .f .u : CV) = _; rw [hblk]; simp only [hj, if_true]
      rw [hc] at hr
      exact ⟨v, hv, CV.rel_mono hext _ _ hr⟩)
    (fun b' s' q' e' hne hz' hb' i i1 i2 i3 i4 => by
      by_cases eb : b' = b
      · subst eb; simp [Up.appG] at hz'
      · exact R0.hp.dj b b' B s0 _ e s' q' e' (fun h => eb h.symm) (by rw [hz]; simp) (by simpa [Up.appG, eb] using hz') hb0 hb' i i1 i2 i3 i4)
    (fun _ i i1 i2 => ⟨b, s0, _, e, hlt, hD, hp0, i1, i2⟩) (fun h => R.rel.hp.lb b B s0 _ e (by rw [hz]; simp) hp h)
  have RS : RelS X h0 (upd π n (B, s0, Blk.size blk, e)) s1 a w := A.relS R hg R2 (fun b' hb' => by
      by_cases e' : b' = n
      · exact .inr ⟨by omega, by simp [cnt]; omega⟩
      · simp only [upd, e', if_false] at hb'; exact .inl hb') (fun x hx => by
      rw [← hs1] at hx
      rcases mem_mark.1 hx with h | ⟨rfl, h⟩
      · exact R.dlt x h
      · exact h)
  have M := RS.mapC (renC b n) fun c v h => renC_rel (by rw [upd_self, hb0]) h
  rw [← hs1] at M
  exact ⟨_, M⟩
theorem RelS.nilE (R : RelS X h0 π s a w) (p : Nat × List CK) : ∃ π', RelS X h0 π' (nilE X.k s p) a w := by
  unfold Ab.nilE
  split
  · split
    · exact ⟨π, R.mapC offC fun c v h => offC_rel h⟩
    · exact ⟨π, R.rows⟩
    · exact R.move _
  split
  · rename_i hx
    have hlt := tmp_lt hx
    generalize hv : AV.r (.c (.sl s.heap.length (.k 0) (.s 0) p.2.length true)) = v
    generalize hk : ([.a (.s 0) (p.2.map CK.col)] : Blk) = k
    have hk0 : Blk.size k = 0 := by rw [← hk]; simp [Blk.size, Sg.size, Sz.val]
    have happ : appAll X.k [.t p.1 v, .new s.heap.length k] s = some { s with tmps := s.tmps.set p.1 v, heap := s.heap ++ [some k] } := by
      have h1 : Nat.blt p.1 s.tmps.length = true := by simpa using hlt
      have h2 : Nat.beq s.heap.length s.heap.length = true := Nat.beq_refl _
      simp [appAll, Up.ok, Up.app, h1, h2]
    have A := appAll_ok happ
    have hg := appAll_gt happ
    have hnone : π s.heap.length = none := by
      cases hb : π s.heap.length with
      | none => rfl
      | some q => have := R.dom _ (by rw [hb]; simp : π s.heap.length ≠ none); omega
    have hext := upd_ext hnone (0, 0, Blk.size k, 0)
    have hr : (RV.c CV.nils).rel π (a.tmps.getD p.1 undef) := by have := R.rel.tm p.1; rwa [show s.gt.t p.1 = _ from hx] at this
    have R0 := R.rel.mono_pi hext (fun b hb => by simp only [upd]; rw [if_neg (by have := R.hk; omega)])
    have R1 : Rel X (· ∈ s.dirt) (upd π s.heap.length (0, 0, Blk.size k, 0)) ((Up.t p.1 v).appG s.gt) a w := by
      refine ⟨fun i => ?_, R0.nt, R0.df, R0.hp, R0.old, R0.ft, R0.fr⟩
      show (if i = p.1 then v else s.gt.t i).rel _ _
      split
      · rename_i e; subst e; subst hv
        exact ⟨_, _, _, _, upd_self _ _ _, by simp [Off.val, Sz.val], fun _ => by simp [Off.val, Sz.val, hk0], .inl ⟨rfl, none, hr⟩⟩
      · exact R0.tm i
    have R2 := R1.new (k := k) (upd_self π s.heap.length (0, 0, Blk.size k, 0)) R.hk (by omega) (fun i h1 h2 => by omega) (fun j hj => by omega) (fun b' s' q' e' _ _ _ i h1 h2 => by omega) (fun _ i h1 h2 => by omega)
    exact ⟨_, A.relS R hg R2 (fun b hb => by
      by_cases e : b = s.heap.length
      · exact .inr ⟨by omega, by simp [cnt]; omega⟩
      · simp only [upd, e, if_false] at hb; exact .inl hb) R.dlt⟩
  · exact ⟨π, R⟩
theorem RelS.nils : ∀ (l : List (Nat × List CK)) {s : St} {π : Pi}, RelS X h0 π s a w → ∃ π', RelS X h0 π' (l.foldl (Ab.nilE X.k) s) a w
  | [], _, π, R => ⟨π, R⟩
  | p :: l, _, _, R => let ⟨_, R'⟩ := R.nilE p; RelS.nils l R'
theorem RelS.headH (I : In X h0) (R : RelS X h0 π s a w) {h : Hd} (hh : s.headH X.k h = some s') : ∃ π', RelS X h0 π' s' a w := by
  obtain ⟨π1, R1⟩ := RelS.nils h.nils (RelS.kills h.kills R)
  exact R1.gc I (Nat.le_refl _) hh
theorem RelS.head (I : In X h0) (R : RelS X h0 π s a w) {hs : Hs} {c : Code} (h : s.head X.k hs c = some s') : ∃ π', RelS X h0 π' s' a w := by
  unfold St.head at h
  split at h
  · exact R.gc I (Nat.le_refl _) h
  · split at h
    · exact R.gc I (Nat.le_refl _) h
    · exact R.headH I h

def exOf : AX → Exit
  | .nrm => .normal
  | .ex id => .exit id
  | .ret => .ret
def Asks (X : Cx) (h0 : List Blk) {ρ : Type} (K : AX → St → Option ρ) (r : ρ) (Q : Exit → Act → World → Prop) : Prop :=
  ∀ e s π a w, RelS X h0 π s a w → K e s = some r → Q (exOf e) a w
theorem iter_sound {c : Code} {hd : St → Option St} {ρ : Type} {body : St → (AX → St → Option ρ) → Option ρ} {K : AX → St → Option ρ} {r : ρ} {Q : Exit → Act → World → Prop}
    (hb : ∀ {s : St} {K : AX → St → Option ρ} {Q : Exit → Act → World → Prop} {π : Pi} {a : Act} {w : World}, RelS X h0 π s a w → body s K = some r → Asks X h0 K r Q → c.wp P Q a w)
    (hh : ∀ {s s' : St} {π : Pi} {a : Act} {w : World}, RelS X h0 π s a w → hd s = some s' → ∃ π', RelS X h0 π' s' a w) (hQ : Asks X h0 K r Q) :
    ∀ (n : Nat) {s : St} {π : Pi} {a : Act} {w : World}, RelS X h0 π s a w → iter hd body K n s = some r → Code.rounds P c Q n a w
  | 0, _, _, _, _, _, h => by cases h
  | n + 1, s, π, a, w, R, h => by
    have h : (body s fun e s => match e with
        | .nrm => match hd s with
          | none => none
          | some s => forceAll s (iter hd body K n)
        | e => K e s) = some r := h
    simp only [forceAll_eq] at h
    rw [rounds_succ]
    refine hb R h fun e s2 π2 a2 w2 R2 hK => ?_
    cases e with
    | nrm =>
      simp only at hK
      split at hK
      · cases hK
      · rename_i s3 hs3
        obtain ⟨π3, R3⟩ := hh R2 hs3
        exact iter_sound hb hh hQ n R3 hK
    | ex id => exact hQ _ _ _ _ _ R2 hK
    | ret => exact hQ _ _ _ _ _ R2 hK
def SumOK (P : Program) (E : Env) (hs : Hs) (nt kk lf : Nat) (a : Code) : Prop :=
  ∀ σ, smOf hs a = some σ → σ.kk = kk → ∀ {ρ : Type} (s : St) (K : AX → St → Option ρ) (r : ρ), σ.run s K = some r → ∃ n, iter (fun t => t.head kk hs a) (runC P E hs nt kk lf a) K n s = some r
def JnOK (P : Program) (E : Env) (hs : Hs) (nt kk lf : Nat) (b : Code) : Prop :=
  ∀ j, jnOf hs b = some j → j.sm.kk = kk → ∀ {ρ : Type} (s : St) (K : AX → St → Option ρ) (r : ρ), j.sm.run s K = some r → runC P E hs nt kk lf b s K = some r
def Sums (P : Program) (E : Env) (hs : Hs) (nt kk lf : Nat) : Code → Prop
  | .seq a b => JnOK P E hs nt kk lf b ∧ Sums P E hs nt kk lf a ∧ Sums P E hs nt kk lf b
  | .cond _ a b => Sums P E hs nt kk lf a ∧ Sums P E hs nt kk lf b
  | .block _ a => Sums P E hs nt kk lf a
  | .loop a => SumOK P E hs nt kk lf a ∧ Sums P E hs nt kk lf a
  | _ => True
omit [Amb] in
theorem smOf_nil {hd : List Hd} {d0 : List Nat} {jn : List Jn} {rk : Option Hd} (a : Code) : smOf ⟨hd, [], d0, jn, rk⟩ a = none := by
  unfold smOf; split <;> rfl
omit [Amb] in
theorem jnOf_nil {hd : List Hd} {sm : List Sm} {d0 : List Nat} {rk : Option Hd} (a : Code) : jnOf ⟨hd, sm, d0, [], rk⟩ a = none := rfl
omit [Amb] in
theorem Sums.nil (P : Program) (E : Env) (hd : List Hd) (d0 : List Nat) (nt kk lf : Nat) (c : Code) : Sums P E ⟨hd, [], d0, [], none⟩ nt kk lf c := by
  induction c with
  | seq a b iha ihb => exact ⟨(fun j h => by rw [jnOf_nil] at h; cases h), iha, ihb⟩
  | cond x a b iha ihb => exact ⟨iha, ihb⟩
  | block id a iha => exact iha
  | loop a iha => exact ⟨(fun σ h => by rw [smOf_nil] at h; cases h), iha⟩
  | _ => trivial
def AllL {α : Type} (p : α → Prop) : List α → Prop
  | [] => True
  | a :: l => p a ∧ AllL p l
omit [Amb] in
theorem AllL.append {α : Type} {p : α → Prop} : ∀ {l m : List α}, AllL p (l ++ m) → AllL p l ∧ AllL p m
  | [], _, h => ⟨trivial, h⟩
  | _ :: _, _, ⟨h1, h2⟩ => ⟨⟨h1, (AllL.append h2).1⟩, (AllL.append h2).2⟩
omit [Amb] in
theorem Sums.of {P : Program} {E : Env} {hs : Hs} {nt kk lf : Nat} {c : Code} (h : AllL (SumOK P E hs nt kk lf) (loopsOf c)) (hj : AllL (JnOK P E hs nt kk lf) (joinsOf hs c)) : Sums P E hs nt kk lf c := by
  induction c with
  | seq a b iha ihb =>
    obtain ⟨j1, j2⟩ := AllL.append hj
    refine ⟨fun j hjn => ?_, iha (AllL.append h).1 (AllL.append j2).1, ihb (AllL.append h).2 (AllL.append j2).2⟩
    rw [hjn] at j1
    exact j1.1 j hjn
  | cond x a b iha ihb => exact ⟨iha (AllL.append h).1 (AllL.append hj).1, ihb (AllL.append h).2 (AllL.append hj).2⟩
  | block id a iha => exact iha h hj
  | loop a iha => exact ⟨h.1, iha h.2 hj⟩
  | _ => trivial
def loopK {D X ρ : Type} (step : D → (D → Option ρ) → (X → Option ρ) → Option ρ) (n : Nat) : D → (X → Option ρ) → Option ρ :=
  Nat.rec (motive := fun _ => D → (X → Option ρ) → Option ρ) (fun _ _ => none) (fun _ ih d x => step d (fun d => ih d x) x) n
omit [Amb] in
theorem iter_loopK {hd : St → Option St} {ρ : Type} {body : St → (AX → St → Option ρ) → Option ρ} {K : AX → St → Option ρ} {D X : Type} {emb : D → St} {ex : X → AX} {st : X → St} {step : D → (D → Option ρ) → (X → Option ρ) → Option ρ}
    (h : ∀ (d : D) (c : St → Option ρ), body (emb d) (next hd c K) = step d (fun d => c (emb d)) (fun x => K (ex x) (st x))) : ∀ (n : Nat) (d : D), iter hd body K n (emb d) = loopK step n d fun x => K (ex x) (st x)
  | 0, _ => rfl
  | n + 1, d => by
    have e : iter hd body K (n + 1) (emb d) = body (emb d) (next hd (iter hd body K n) K) := rfl
    rw [e, h]
    have e2 : loopK step (n + 1) d (fun x => K (ex x) (st x)) = step d (fun d => loopK step n d fun x => K (ex x) (st x)) (fun x => K (ex x) (st x)) := rfl
    rw [e2]
    congr 1
    funext d'
    exact iter_loopK h n d'
theorem runC_sound (hE : ∀ f F, E f = some F → Sound P f F) (hm : P.follows .mixedOrders = true) (I : In X h0) {hs : Hs} {nt lf : Nat} (hnt : nt ≤ X.N) {ρ : Type} {r : ρ} :
    ∀ (c : Code), Sums P E hs nt X.k lf c → ∀ {s : St} {K : AX → St → Option ρ} {Q : Exit → Act → World → Prop} {π : Pi} {a : Act} {w : World}, RelS X h0 π s a w → runC P E hs nt X.k lf c s K = some r → Asks X h0 K r Q → c.wp P Q a w
  | .skip, hS, s, K, Q, π, a, w, R, h, hQ => wp_skip (hQ .nrm _ _ _ _ R h)
  | .region id ops false, hS, s, K, Q, π, a, w, R, h, hQ => by
    obtain ⟨s1, trs, hT, hK⟩ := runOps_traced (by rw [R.len]; exact hnt) (show runOps P E nt X.k ops.toList ops.toList s [] (fun s _ => K .nrm s) = some r from h)
    exact region_text hE hT R fun a' w' π' R' => hQ .nrm _ _ _ _ R' hK
  | .region id ops true, hS, s, K, Q, π, a, w, R, h, hQ => by
    obtain ⟨s1, trs, hT, hK⟩ := runOps_traced (by rw [R.len]; exact hnt) (show runOps P E nt X.k ops.toList ops.toList s [] (fun s l => match edgesOk ops.toList 0 && okPairs (masks ops.toList []) l 0 with
      | true => K .nrm s
      | false => none) = some r from h)
    split at hK
    · rename_i hok
      simp only [Bool.and_eq_true, List.nil_append] at hok
      exact region_draw hE hm hT hok.1 hok.2 R fun a' w' π' R' => hQ .nrm _ _ _ _ R' hK
    · cases hK
  | .seq x y, hS, s, K, Q, π, a, w, R, h, hQ => by
    refine wp_seq (runC_sound hE hm I hnt x hS.2.1 R (show runC P E hs nt X.k lf x s (fun e s => match e with
      | .nrm => match jnOf hs y with
        | none => runC P E hs nt X.k lf y s K
        | some j => match s.headH X.k j.hd with
          | none => none
          | some s => forceAll s fun s => match Nat.beq j.sm.kk X.k with
            | true => j.sm.run s K
            | false => none
      | e => K e s) = some r from h) fun e s1 π1 a1 w1 R1 hK => ?_)
    cases e with
    | nrm =>
      simp only at hK
      split at hK
      · exact runC_sound hE hm I hnt y hS.2.2 R1 hK hQ
      · rename_i j hj
        simp only [forceAll_eq] at hK
        split at hK
        · cases hK
        · rename_i s2 hs2
          split at hK
          · rename_i hk
            obtain ⟨π2, R2⟩ := R1.headH I hs2
            exact runC_sound hE hm I hnt y hS.2.2 R2 (hS.1 j hj (beq_iff.1 hk) s2 K r hK) hQ
          · cases hK
    | ex id => exact hQ _ _ _ _ _ R1 hK
    | ret => exact hQ _ _ _ _ _ R1 hK
  | .cond (.tmp t) x y, hS, s, K, Q, π, a, w, R, h, hQ => by
    have h : (match s.tmp t with
      | .r (.c (.f (.b z))) => match z with
        | true => runC P E hs nt X.k lf x s K
        | false => runC P E hs nt X.k lf y s K
      | _ => none) = some r := h
    split at h
    · rename_i z hz
      have hr := R.rel.tm t
      rw [show s.gt.t t = _ from hz] at hr
      have hc : a.eval (.tmp t) = .bool z := hr
      cases z with
      | true => exact wp_cond_true hc (runC_sound hE hm I hnt x hS.1 R h hQ)
      | false => exact wp_cond_false hc (runC_sound hE hm I hnt y hS.2 R h hQ)
    · cases h
  | .block id x, hS, s, K, Q, π, a, w, R, h, hQ => by
    refine wp_block (runC_sound hE hm I hnt x hS R (show runC P E hs nt X.k lf x s (fun e s => match e with
      | .ex j => match Nat.beq j id with
        | true => K .nrm s
        | false => K (.ex j) s
      | e => K e s) = some r from h) fun e s1 π1 a1 w1 R1 hK => ?_)
    cases e with
    | nrm => exact hQ _ _ _ _ _ R1 hK
    | ret => exact hQ _ _ _ _ _ R1 hK
    | ex j =>
      simp only at hK
      show if j = id then Q .normal a1 w1 else Q (.exit j) a1 w1
      split at hK
      · rename_i hj
        rw [if_pos (Nat.eq_of_beq_eq_true hj)]
        exact hQ .nrm _ _ _ _ R1 hK
      · rename_i hj
        rw [if_neg (fun e => by subst e; simp at hj)]
        exact hQ (.ex j) _ _ _ _ R1 hK
  | .loop x, hS, s, K, Q, π, a, w, R, h, hQ => by
    have h : (match s.head X.k hs x with
      | none => none
      | some s => forceAll s fun s => match smOf hs x with
        | some σ => match Nat.beq σ.kk X.k with
          | true => σ.run s K
          | false => none
        | none => iter (fun t => t.head X.k hs x) (runC P E hs nt X.k lf x) K lf s) = some r := h
    simp only [forceAll_eq] at h
    split at h
    · cases h
    · rename_i s1 hs1
      obtain ⟨π1, R1⟩ := R.head I hs1
      obtain ⟨n, hn⟩ : ∃ n, iter (fun t => t.head X.k hs x) (runC P E hs nt X.k lf x) K n s1 = some r := by
        split at h
        · rename_i σ hσ
          split at h
          · rename_i hk
            exact hS.1 σ hσ (beq_iff.1 hk) s1 K r h
          · cases h
        · exact ⟨lf, h⟩
      exact wp_loop_rounds n (iter_sound (hd := fun t => t.head X.k hs x) (body := runC P E hs nt X.k lf x) (fun R h hQ => runC_sound hE hm I hnt x hS.2 R h hQ) (fun R' h' => R'.head I h') hQ n R1 hn)
  | .exit id, hS, s, K, Q, π, a, w, R, h, hQ => wp_exit (hQ (.ex id) _ _ _ _ R h)
  | .ret, hS, s, K, Q, π, a, w, R, h, hQ => by
    have h : (match hs.rk with
      | none => K .ret s
      | some hd => match s.headH X.k hd with
        | none => none
        | some s => forceAll s fun s => K .ret s) = some r := h
    split at h
    · exact wp_ret (hQ .ret _ _ _ _ R h)
    · simp only [forceAll_eq] at h
      split at h
      · cases h
      · rename_i s2 hs2
        obtain ⟨π2, R2⟩ := R.headH I hs2
        exact wp_ret (hQ .ret _ _ _ _ R2 h)
  | .cond (.const _) _ _, _, _, _, _, _, _, _, _, h, _ => by cases h
  | .cond (.func _) _ _, _, _, _, _, _, _, _, _, h, _ => by cases h
  | .cond (.global _) _ _, _, _, _, _, _, _, _, _, h, _ => by cases h
  | .goto _, _, _, _, _, _, _, _, _, h, _ => by cases h
  | .label _, _, _, _, _, _, _, _, _, h, _ => by cases h
end
end Go.Ab
