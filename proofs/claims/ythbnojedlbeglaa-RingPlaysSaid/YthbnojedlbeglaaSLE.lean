/-
  Contracts of slices.Insert, Delete, Clone, of samples, in the form that the tool's contracts have.
-/
import Derived.Test.YthbnojedlbeglaaSLD
set_option linter.unusedVariables false
set_option linter.unusedSimpArgs false
set_option maxRecDepth 100000
set_option maxHeartbeats 4000000
namespace Go.Proofs.Ythbnojedlbeglaa
open Go.RowKit Go.Lib Go.Ab
/-- one sample put in -/
theorem insert_calls [Amb] {gs vs9 : List (Nat → Int)} (hg : gs.length = 9) (hv9 : vs9.length = 9) (n i : Nat) (hi : i ≤ n) (hbig : (n + 1) * 72 ≤ 140737488355328) (w2 : Bool) (w : World) (π : Pi) (vs : Array Value)
    (hargs : All2 (AV.rel π) [.r (.c (.sl 0 (.k 0) (.s n) 9 true)), .r (.c (.f (.i .i64 (i : Int)))), .r (.c (.sl 1 (.k 0) (.s 1) 9 w2))] vs.toList)
    (hH : HRel π (hC ([[.a (.s n) (colsI gs)], [.a (.s 1) (colsI vs9)]].map some)) (hZ ([[.a (.s n) (colsI gs)], [.a (.s 1) (colsI vs9)]].map some)) w) (hdom : ∀ b, π b ≠ none → b < 2) :
    Calls Try.prog 49 vs w (CallPost π w [[.a (.s n) (colsI gs)], [.a (.s 1) (colsI vs9)]] ⟨.r (.c (.sl 2 (.k 0) (.s (n + 1)) 9 true)), [.kill, .keep], [[.a (.s (n + 1)) (colsI (List.zipWith (insC i) gs vs9))]]⟩) := by
  obtain ⟨y1, y2, y3, hvt, r1, r2, r3⟩ : ∃ y1 y2 y3, vs.toList = [y1, y2, y3] ∧ (AV.r (.c (.sl 0 (.k 0) (.s n) 9 true))).rel π y1 ∧ (AV.r (.c (.f (.i .i64 (i : Int))))).rel π y2 ∧ (AV.r (.c (.sl 1 (.k 0) (.s 1) 9 w2))).rel π y3 := by
    match hl : vs.toList, hargs with
    | [y1, y2, y3], ⟨a, b, c, _⟩ => exact ⟨y1, y2, y3, rfl, a, b, c⟩
    | [], h => exact h.elim
    | [_], ⟨_, h⟩ => exact h.elim
    | [_, _], ⟨_, _, h⟩ => exact h.elim
    | _ :: _ :: _ :: _ :: _, ⟨_, _, _, h⟩ => exact h.elim
  have hvt : vs = #[y1, y2, y3] := by rw [← Array.toList_inj]; exact hvt
  subst hvt
  have r2 : y2 = .int .i64 (i : Int) := r2
  subst r2
  obtain ⟨B, st, q, e, hb, _, _, hx⟩ := r1
  obtain ⟨vB, vst, vq, ve, hvb, _, _, hvx⟩ := r3
  obtain ⟨rfl, hle, hown, cs, hcl, hcs, h1c⟩ := row_at (b := 0) hg hH rfl hb
  obtain ⟨rfl, hvle, hvown, vl, hvl, hvs, h1v⟩ := row_at (b := 1) hv9 hH rfl hvb
  obtain ⟨vcap, hvcap, rfl, _⟩ : ∃ vcap, 1 ≤ vcap ∧ y3 = .slice (some ⟨vB, vst, none⟩) 1 vcap ∧ True := by
    rcases hvx with ⟨h, _⟩ | ⟨vcap, h1, h2, _⟩
    · cases h
    · exact ⟨vcap, h1, h2, trivial⟩
  have hz0 : hZ ([[.a (.s n) (colsI gs)], [.a (.s 1) (colsI vs9)]].map some) 0 ≠ none := by simp [hZ]
  have hz1 : hZ ([[.a (.s n) (colsI gs)], [.a (.s 1) (colsI vs9)]].map some) 1 ≠ none := by simp [hZ]
  have hfv : ∀ i, w.frozen? ⟨vB, i, none⟩ = false := fun i => hH.am.fr vB i (hH.lb 1 vB vst _ ve hz1 hvb (by omega))
  have ho : (List.zipWith (insC i) gs vs9).length = 9 := by simp [hg, hv9]
  have hcsK : ∀ b, b < [[Sg.a (.s n) (colsI gs)], [.a (.s 1) (colsI vs9)]].length → [Ch.kill, Ch.keep][b]? = some .keep ∨ [Ch.kill, Ch.keep][b]? = some .kill := fun b hb => by
    match b, hb with
    | 0, _ => exact .inr rfl
    | 1, _ => exact .inl rfl
    | b + 2, h => exact absurd h (by simp)
  have hft : ∀ i, st ≤ i → i < e → foot π 2 (chD [.kill, .keep]) B i := fun i h1 h2 => ⟨0, st, _, e, by omega, by simp [chD], hb, h1, h2⟩
  -- contents
  have cont : ∀ (W : World) (B' s' : Nat), (∀ j v, j < i * 9 → cs[j]? = some v → cl W B' (s' + j) = some v) → (∀ j v, vl[j]? = some v → cl W B' (s' + i * 9 + j) = some v) → (∀ j v, i * 9 ≤ j → cs[j]? = some v → cl W B' (s' + (j + 9)) = some v) →
      ∀ J, J < (n + 1) * 9 → ∃ v, cl W B' (s' + J) = some v ∧ (rget (colsI (List.zipWith (insC i) gs vs9)) J).rel π v := fun W B' s' c1 c2 c3 J hJ => by
    rw [rget_ins hg hv9]
    by_cases h1 : J < i * 9
    · rw [if_pos h1]
      have hj : cs[J]? = some (cs[J]'(by omega)) := List.getElem?_eq_getElem _
      exact ⟨_, c1 J _ h1 hj, (hcs J _ hj).2⟩
    · rw [if_neg h1]
      by_cases h2 : J < (i + 1) * 9
      · rw [if_pos h2]
        have hj : vl[J - i * 9]? = some (vl[J - i * 9]'(by omega)) := List.getElem?_eq_getElem _
        have := c2 _ _ hj
        rw [show s' + i * 9 + (J - i * 9) = s' + J by omega] at this
        exact ⟨_, this, (hvs _ _ hj).2⟩
      · rw [if_neg h2]
        have hj : cs[J - 9]? = some (cs[J - 9]'(by omega)) := List.getElem?_eq_getElem _
        have := c3 _ _ (by omega) hj
        rw [show s' + (J - 9 + 9) = s' + J by omega] at this
        exact ⟨_, this, (hcs _ _ hj).2⟩
  have hE := iE
  obtain ⟨i0, z0, hi0, hzz, hsz0, hby0, hzl0⟩ := hE
  have hbyt : (Try.prog.info? 30).map (·.bytes) = some 72 := by rw [hi0]; exact congrArg some hby0
  obtain ⟨zv, hzv, hzvl⟩ : ∃ zv, zeroT Try.prog 30 = some zv ∧ Blk.size zv.blk = 9 := by
    have h : (zeroT Try.prog 30).map (fun z => Blk.size z.blk) = some 9 := by kernel_rfl
    cases hz : zeroT Try.prog 30 with
    | none => rw [hz] at h; cases h
    | some z => rw [hz] at h; exact ⟨z, rfl, by simpa using h⟩
  -- a new row behind an append
  have grows : ∀ (base : Option Addr) (cap : Nat) (olds : List Value), i = n → olds = cs → cap < n + 1 → n ≤ cap → ((base = none ∧ n = 0 ∧ cap = 0) ∨ ∃ b, base = some b ∧ ∀ j v, olds[j]? = some v → w.cell? (b.add j) = some v) →
      y1 = .slice base n cap → Calls Try.prog 49 #[y1, .int .i64 (i : Int), .slice (some ⟨vB, vst, none⟩) 1 vcap] w (CallPost π w [[.a (.s n) (colsI gs)], [.a (.s 1) (colsI vs9)]] ⟨.r (.c (.sl 2 (.k 0) (.s (n + 1)) 9 true)), [.kill, .keep], [[.a (.s (n + 1)) (colsI (List.zipWith (insC i) gs vs9))]]⟩) := by
    intro base cap olds hin holds hcap hncap hs hy
    subst hin holds
    obtain ⟨gc, arr, hrun, hgc, hsz, rest, hlist⟩ : ∃ gc arr, (∀ ty, (Builtin.append_ #[35, 35] ty #[.slice base i cap, .slice (some ⟨vB, vst, none⟩) 1 vcap]).run Try.prog w = .ok (.slice (some ⟨w.heap.size, 0, none⟩) (i + 1) gc) (w.drew.alloc (.cells arr 30))) ∧ i + 1 ≤ gc ∧ arr.size = gc * 9 ∧ ∃ rest, arr.toList = olds ++ vl ++ rest := by
      obtain ⟨gc, arr, hrun, h2, h3, h4⟩ := run_append_new (P := Try.prog) (ty := 0) uT uE hbyt hzv hzvl (by omega) (sv := .slice base i cap) (n := i) (cap := cap) (m := 1) (c := vcap) (ad := ⟨vB, vst, none⟩) (olds := olds) (news := vl) w (by
        rcases hs with ⟨rfl, h1, h2⟩ | ⟨b, rfl, h3⟩
        · exact .inl ⟨by rw [h1, h2], h1, h2⟩
        · exact .inr ⟨b, rfl, h3⟩) hcl (by rw [hvl]) (fun j v hj => by rw [Addr.add_lit]; exact (hvs j v hj).1) hcap (by omega) hbig
      exact ⟨gc, arr, fun ty => by unfold Builtin.append_ at hrun ⊢; exact hrun, h2, h3, h4⟩
    have hC := ins_end base i cap vB vst vcap w _ _ hrun
    rw [hy]
    refine Calls.mono hC ?_
    rintro ev W ⟨rfl, rfl⟩
    have hcl2 : ∀ j, cl (w.drew.alloc (.cells arr 30)) w.heap.size j = arr[j]? := fun j => World.cell?_alloc_at (w := w.drew) arr _ w.heap.size j rfl
    refine post_fresh (P := Try.prog) ho hH hdom hcsK (Nat.le_refl _) (((FrameOK.refl w _).drew).alloc _ _) (fun k hk => ⟨by rw [hcl2, Array.getElem?_eq_getElem (by omega)]; rfl, World.frozen?_alloc_at (w := w.drew) arr _ w.heap.size k rfl⟩) ((hH.am.same (w' := w.drew) rfl).alloc _ _) (fun J hJ => ?_) hgc
    have := cont (w.drew.alloc (.cells arr 30)) w.heap.size 0 (fun j v hj hv => by rw [Nat.zero_add, hcl2]; exact (get_app3 hlist).1 hv) (fun j v hv => by rw [Nat.zero_add, hcl2, ← hcl]; exact (get_app3 hlist).2 hv) (fun j v hj hv => by have := (List.getElem?_eq_some_iff.1 hv).1; omega) J hJ
    rwa [Nat.zero_add] at this
  rcases hx with ⟨h0, a, rfl⟩ | ⟨cap, hcap, rfl, hce⟩
  · -- no samples
    have h0 : n = 0 := h0
    subst h0
    have hi0' : i = 0 := by omega
    subst hi0'
    cases a with
    | none => exact grows none 0 cs rfl rfl (by omega) (by omega) (.inl ⟨rfl, rfl, rfl⟩) rfl
    | some b =>
      have hcs0 : cs = [] := List.eq_nil_of_length_eq_zero (by omega)
      exact grows (some b) 0 cs rfl rfl (by omega) (by omega) (.inr ⟨b, rfl, fun j v hj => by rw [hcs0] at hj; simp at hj⟩) rfl
  · have hcap : n ≤ cap := hcap
    have hce : st + cap * 9 ≤ e := by have := hce rfl; simpa [Off.val] using this
    show Calls Try.prog 49 #[.slice (some ⟨B, st, none⟩) n cap, .int .i64 (i : Int), .slice (some ⟨vB, vst, none⟩) 1 vcap] w _
    by_cases hroom : n + 1 ≤ cap
    · have hroom9 : (n + 1) * 9 ≤ cap * 9 := Nat.mul_le_mul_right _ hroom
      have hdis : vB = B → vst + 9 ≤ st ∨ st + (n + 1) * 9 ≤ vst := fun h => by
        subst h
        rcases Nat.lt_or_ge vst (st + (n + 1) * 9) with h1 | h1
        · left
          rcases Nat.lt_or_ge st (vst + 9) with h2 | h2
          · exfalso
            rcases Nat.lt_or_ge st vst with h3 | h3
            · exact hH.dj 0 1 _ st _ e vst _ ve (by omega) hz0 hz1 hb hvb vst (by omega) (by omega) (Nat.le_refl _) (by omega)
            · exact hH.dj 0 1 _ st _ e vst _ ve (by omega) hz0 hz1 hb hvb st (Nat.le_refl _) (by omega) h3 (by omega)
          · omega
        · exact .inr h1
      by_cases hin : i = n
      · -- at the end
        subst hin
        have hC := ins_end (some ⟨B, st, none⟩) i cap vB vst vcap w _ _ (fun ty => run_append_in (P := Try.prog) (ty := ty) uT uE (B := B) (q := st) (n := i) (cap := cap) (m := 1) (c := vcap) (ad := ⟨vB, vst, none⟩) (news := vl) hroom (by rw [hvl]) w (fun j v hj => by rw [Addr.add_lit]; exact (hvs j v hj).1) h1v (fun j hj => hown _ (by omega) (by omega)))
        refine Calls.mono hC ?_
        rintro ev W ⟨rfl, rfl⟩
        have hin9 : ∀ j, j < vl.length → (cl w B (st + i * 9 + j)).isSome = true := fun j hj => (hown _ (by omega) (by omega)).1
        refine post_place (P := Try.prog) (q := i * 9) ho hH hdom hcsK (by simp) rfl hb ((FrameOK.refl w _).setCells (.inr fun j hj => hft _ (by omega) (by omega))) (fun k k1 k2 => ⟨Ab.isSome_setCells hin9 (hown k k1 k2).1, by rw [fz_setCells]; exact (hown k k1 k2).2⟩) (hH.am.setCells fun _ => hH.lb 0 B st _ e hz0 hb (by omega)) (cont _ B st (fun j v hj hv => ?_) (fun j v hv => ?_) (fun j v hj hv => by have := (List.getElem?_eq_some_iff.1 hv).1; omega)) hroom hce
        · rw [cl_setCells_out (fun _ => by omega)]; exact (hcs j v hv).1
        · have hjl := (List.getElem?_eq_some_iff.1 hv).1
          rw [cl_setCells_in hin9 hjl]
          rw [List.getElem?_eq_getElem hjl] at hv; exact hv
      · -- shifted
        have hC := ins_shift B st n cap i vB vst vcap cs vl w (by omega) hroom hdis hcl hvl (by omega) (fun j v hj => (hcs j v hj).1) (fun j hj => (hown _ (by omega) (by omega)).1) (fun j hj => (hown _ (by omega) (by omega)).2) (fun j v hj => (hvs j v hj).1) h1c h1v
          (fun cb => by
            obtain ⟨va, hva⟩ := Option.isSome_iff_exists.1 (hvown vst (Nat.le_refl _) (by omega)).1
            obtain ⟨vb2, hvb2⟩ := Option.isSome_iff_exists.1 (hown (st + (i + 1) * 9) (by omega) (by omega)).1
            exact overlaps_no (fun h => by have := hdis h; omega) hva hvb2 hfv)
        refine Calls.mono hC ?_
        rintro ev W ⟨rfl, rfl⟩
        have hdl : (cs.drop (i * 9)).length = (n - i) * 9 := by rw [List.length_drop, hcl]; omega
        have i1 : ∀ j, j < (cs.drop (i * 9)).length → (cl w.drew B (st + (i + 1) * 9 + j)).isSome = true := fun j hj => (hown _ (by omega) (by omega)).1
        have i2 : ∀ j, j < vl.length → (cl (w.drew.setCells B (st + (i + 1) * 9) (cs.drop (i * 9))) B (st + i * 9 + j)).isSome = true := fun j hj => Ab.isSome_setCells i1 (hown _ (by omega) (by omega)).1
        have hlb := hH.lb 0 B st _ e hz0 hb (by omega)
        refine post_place (P := Try.prog) (q := n * 9) ho hH hdom hcsK (by simp) rfl hb ((((FrameOK.refl w _).drew).setCells (.inr fun j hj => hft _ (by omega) (by omega))).setCells (.inr fun j hj => hft _ (by omega) (by omega)))
          (fun k k1 k2 => ⟨Ab.isSome_setCells i2 (Ab.isSome_setCells i1 (hown k k1 k2).1), by rw [fz_setCells, fz_setCells]; exact (hown k k1 k2).2⟩) (((hH.am.same (w' := w.drew) rfl).setCells fun _ => hlb).setCells fun _ => hlb) (cont _ B st (fun j v hj hv => ?_) (fun j v hv => ?_) (fun j v hj hv => ?_)) hroom hce
        · rw [cl_setCells_out (fun _ => by omega), cl_setCells_out (fun _ => by omega)]; exact (hcs j v hv).1
        · have hjl := (List.getElem?_eq_some_iff.1 hv).1
          rw [cl_setCells_in i2 hjl]
          rw [List.getElem?_eq_getElem hjl] at hv; exact hv
        · have hjl := (List.getElem?_eq_some_iff.1 hv).1
          rw [cl_setCells_out (fun _ => by omega)]
          have hj2 : j - i * 9 < (cs.drop (i * 9)).length := by omega
          have := cl_setCells_in i1 hj2
          rw [show st + (i + 1) * 9 + (j - i * 9) = st + (j + 9) by omega] at this
          rw [this, ← List.getElem?_eq_getElem, List.getElem?_drop, show i * 9 + (j - i * 9) = j by omega]
          exact hv
    · by_cases hin : i = n
      · exact grows (some ⟨B, st, none⟩) cap cs hin rfl (by omega) hcap (.inr ⟨_, rfl, fun j v hj => by rw [Addr.add_lit]; exact (hcs j v hj).1⟩) rfl
      · obtain ⟨G, ROW, hG, hsz, htk, hC⟩ := ins_grow B st n cap i vB vst vcap cs vl w (by omega) hcap (by omega) hbig hcl hvl (fun j v hj => (hcs j v hj).1) (fun j v hj => (hvs j v hj).1) h1c h1v
        refine Calls.mono hC ?_
        rintro ev W ⟨rfl, rfl⟩
        have hG9 : (n + 1) * 9 ≤ G * 9 := Nat.mul_le_mul_right _ hG
        have hdl : (cs.drop (i * 9)).length = (n - i) * 9 := by rw [List.length_drop, hcl]; omega
        have c0 : ∀ j, cl (w.alloc (.cells ROW 30)).drew w.heap.size j = ROW[j]? := fun j => World.cell?_alloc_at (w := w) ROW _ w.heap.size j rfl
        have s0 : ∀ j, j < G * 9 → (cl (w.alloc (.cells ROW 30)).drew w.heap.size j).isSome = true := fun j hj => by rw [c0, Array.getElem?_eq_getElem (by omega)]; rfl
        have i1 : ∀ j, j < vl.length → (cl (w.alloc (.cells ROW 30)).drew w.heap.size (i * 9 + j)).isSome = true := fun j hj => s0 _ (by omega)
        have i2 : ∀ j, j < (cs.drop (i * 9)).length → (cl ((w.alloc (.cells ROW 30)).drew.setCells w.heap.size (i * 9) vl).drew w.heap.size ((i + 1) * 9 + j)).isSome = true := fun j hj => Ab.isSome_setCells i1 (s0 _ (by omega))
        have hlb : Amb.h0 ≤ w.heap.size := hH.am.sz
        have am1 : AmbOK (w.alloc (.cells ROW 30)).drew := (hH.am.alloc ROW 30).same (w' := (w.alloc (.cells ROW 30)).drew) rfl
        have am2 : AmbOK ((w.alloc (.cells ROW 30)).drew.setCells w.heap.size (i * 9) vl).drew := (am1.setCells fun _ => hlb).same (w' := ((w.alloc (.cells ROW 30)).drew.setCells w.heap.size (i * 9) vl).drew) rfl
        have f1 : FrameOK w (foot π 2 (chD [.kill, .keep])) ((w.alloc (.cells ROW 30)).drew.setCells w.heap.size (i * 9) vl).drew := ((((FrameOK.refl w _).alloc ROW 30).drew).setCells (.inl (Nat.le_refl _))).drew
        refine post_fresh (P := Try.prog) ho hH hdom hcsK (Nat.le_refl _) (f1.setCells (.inl (Nat.le_refl _))) (fun k hk => ⟨Ab.isSome_setCells i2 (Ab.isSome_setCells i1 (s0 k hk)), ?_⟩) (am2.setCells fun _ => hlb) (fun J hJ => ?_) hG
        · rw [fz_setCells]
          exact (fz_setCells (w := (w.alloc (.cells ROW 30)).drew)).trans (World.frozen?_alloc_at (w := w) ROW _ w.heap.size k rfl)
        · have := cont (((w.alloc (.cells ROW 30)).drew.setCells w.heap.size (i * 9) vl).drew.setCells w.heap.size ((i + 1) * 9) (cs.drop (i * 9))) w.heap.size 0 (fun j v hj hv => ?_) (fun j v hv => ?_) (fun j v hj hv => ?_) J hJ
          · rwa [Nat.zero_add] at this
          · rw [Nat.zero_add, cl_setCells_out (fun _ => by omega)]
            exact (cl_setCells_out (w := (w.alloc (.cells ROW 30)).drew) (fun _ => by omega)).trans ((c0 j).trans (htk j v hj hv))
          · have hjl := (List.getElem?_eq_some_iff.1 hv).1
            rw [Nat.zero_add, cl_setCells_out (fun _ => by omega)]
            have := cl_setCells_in i1 hjl
            rw [List.getElem?_eq_getElem hjl] at hv
            exact this.trans hv
          · have hjl := (List.getElem?_eq_some_iff.1 hv).1
            have hj2 : j - i * 9 < (cs.drop (i * 9)).length := by omega
            have := cl_setCells_in i2 hj2
            rw [show (i + 1) * 9 + (j - i * 9) = j + 9 by omega] at this
            rw [Nat.zero_add, this, ← List.getElem?_eq_getElem, List.getElem?_drop, show i * 9 + (j - i * 9) = j by omega]
            exact hv
end Go.Proofs.Ythbnojedlbeglaa
