/-
  The abstract machine and the model: a function's contract.
-/
import Derived.Test.YtphkdkkbbfnkaaaGreatAbT
namespace Go.Ab
variable [Amb]
section
variable {P : Program} {E : Env} {X : Cx} {h0 : List Blk} {π : Pi} {s s' : St} {a : Act} {w : World}

def resG (tmps : Array Value) : ResultVar → Sem Value
  | .tmp t => pure (tmps.getD t undef)
  | .cell a t => do loadVar t (← asAddr (tmps.getD a undef))
omit [Amb] in
theorem results_eq (fn : Func) (tmps : Array Value) : results fn tmps = (do
    let vs ← fn.results.mapM (resG tmps)
    pure (if h : vs.size = 1 then vs[0] else .tuple vs)) := by
  unfold results
  rfl
theorem resV_run (R : RelS X h0 π s a w) {r : ResultVar} {v : RV} (h : resV P s r = some v) : ∃ x, (resG a.tmps r).run P w = .ok x w ∧ v.rel π x := by
  cases r with
  | tmp t =>
    simp only [resV] at h
    split at h
    · rename_i u hu
      cases h
      have := R.rel.tm t
      rw [show s.gt.t t = _ from hu] at this
      exact ⟨_, rfl, this⟩
    · cases h
  | cell q t =>
    simp only [resV] at h
    split at h
    · rename_i b o m hu
      have hp := R.rel.tm q
      rw [show s.gt.t q = _ from hu] at hp
      obtain ⟨B, s1, q1, e, hb, hx, hm⟩ := hp
      have key : ∀ v l, Ran (valueU P t b o m) s.gt v l → ∃ x, (resG a.tmps (.cell q t)).run P w = .ok x w ∧ v.rel π x := fun v l hv => by
        obtain ⟨x, hx1, hx2⟩ := Ran.valueU R.rel hv hb hm
        refine ⟨x, ?_, hx2⟩
        show (do loadVar t (← asAddr (a.tmps.getD q undef))).run P w = _
        rw [hx]
        simpa [asAddr] using hx1
      split at h
      · rename_i n' blk c h1 h2 h3
        split at h
        · rename_i hle
          simp only [Option.map_eq_some_iff] at h
          obtain ⟨k, hk, rfl⟩ := h
          obtain ⟨k1, k2⟩ := subK_spec hk
          refine key _ (.c b (ext (.k c) (.l 1) n') :: .z b :: []) ?_
          unfold Ab.valueU
          rw [h1, h2]
          show Ran ((must (Nat.ble n' m)).bind _) _ _ _
          unfold must
          rw [hle]
          refine Ran.test (Ran.vw _ _ (St.gt_z h3) k1 (fun hle j hj => ?_) (.ret _ _))
          rw [k2 hle j hj]
          exact (St.gt_c h3 (by simp only [Off.val] at hle; omega)).symm
        · cases h
      · rename_i n' blk c h1 h2 h3
        split at h
        · rename_i hle
          split at h
          · rename_i v0 hk
            cases h
            obtain ⟨k1, k2⟩ := subK_spec hk
            refine key _ (.c b (ext (.k c) (.l 1) 1) :: .z b :: []) ?_
            unfold Ab.valueU
            rw [h1, h2]
            show Ran ((must (Nat.ble 1 m)).bind _) _ _ _
            unfold must
            rw [hle]
            refine Ran.test (Ran.vw _ _ (St.gt_z h3) k1 (fun hle j hj => ?_) (.ret _ _))
            rw [k2 hle j hj]
            exact (St.gt_c h3 (by simp only [Off.val] at hle; omega)).symm
          · cases h
        · cases h
      · cases h
    · cases h
theorem resVs_run (R : RelS X h0 π s a w) : ∀ {l : List ResultVar} {vs : List RV}, resVs P s l = some vs → ∃ xs, (l.mapM (resG a.tmps)).run P w = .ok xs w ∧ All2 (RV.rel π) vs xs
  | [], vs, h => by cases h; exact ⟨[], by simp, trivial⟩
  | r :: l, vs, h => by
    simp only [resVs] at h
    split at h
    · rename_i v vs' h1 h2
      cases h
      obtain ⟨x, e1, r1⟩ := resV_run R h1
      obtain ⟨xs, e2, r2⟩ := resVs_run R h2
      exact ⟨x :: xs, by simp [List.mapM_cons, e1, e2], r1, r2⟩
    · cases h
theorem results_run (R : RelS X h0 π s a w) {fn : Func} {vs : List RV} (h : resVs P s fn.results.toList = some vs) : ∃ x, (results fn a.tmps).run P w = .ok x w ∧ (one vs).rel π x := by
  obtain ⟨xs, e, r⟩ := resVs_run R h
  have hlen := r.length
  rw [results_eq]
  simp only [Array.mapM_eq_mapM_toList, Sem.run_bind, Sem.run_map, e, Result.andThen_ok, Sem.run_pure]
  match vs, xs, r with
  | [], [], r => exact ⟨_, rfl, #[], by simp, trivial⟩
  | [v], [x], r => exact ⟨x, by simp, r.1⟩
  | v :: v' :: vs, x :: x' :: xs, r => exact ⟨_, by simp, (x :: x' :: xs).toArray, rfl, r⟩
omit [Amb] in
theorem somes_eq {α : Type} : ∀ {l : List (Option α)} {m : List α}, somes l = some m → l = m.map some
  | [], m, h => by cases h; rfl
  | some x :: l, m, h => by
    simp only [somes, Option.map_eq_some_iff] at h
    obtain ⟨m', h1, rfl⟩ := h
    rw [somes_eq h1]; rfl
  | none :: l, m, h => by cases h
omit [Amb] in
theorem chgs_get (d : List Nat) : ∀ (l : List (Option Blk)) (j0 j : Nat), (chgs d l j0)[j]? = (l[j]?).map fun b => match d.any (Nat.beq (j0 + j)) with
    | false => Ch.keep
    | true => match b with
      | some b => .set b
      | none => .kill
  | [], _, _ => by simp [chgs]
  | b :: l, j0, 0 => by simp [chgs]; rfl
  | b :: l, j0, j + 1 => by
    simp only [chgs, List.getElem?_cons_succ]
    rw [chgs_get d l (j0 + 1) j, show j0 + 1 + j = j0 + (j + 1) by omega]
omit [Amb] in
theorem any_beq {d : List Nat} {j : Nat} : d.any (Nat.beq j) = true ↔ j ∈ d := by
  rw [List.any_eq_true]
  constructor
  · rintro ⟨y, hy, he⟩; rw [Nat.eq_of_beq_eq_true he]; exact hy
  · exact fun h => ⟨j, h, Nat.beq_refl j⟩
omit [Amb] in
theorem after_chgs (d : List Nat) : ∀ (h : List Blk) (l : List (Option Blk)) (j0 : Nat), l.length = h.length → (∀ j b, j0 + j ∉ d → l[j]? = some b → b = h[j]?) → after h (chgs d l j0) = l
  | [], [], _, _, _ => rfl
  | b :: bs, o :: l, j0, hl, hk => by
    have ih := after_chgs d bs l (j0 + 1) (by simpa using hl) fun j b h1 h2 => by
      have := hk (j + 1) b (by rwa [show j0 + (j + 1) = j0 + 1 + j by omega]) (by simpa using h2)
      simpa using this
    simp only [chgs]
    cases hd : d.any (Nat.beq j0) with
    | false =>
      have hn : j0 ∉ d := fun h => by rw [any_beq.2 h] at hd; cases hd
      have := hk 0 o (by simpa using hn) rfl
      simp only [List.getElem?_cons_zero] at this
      subst this
      simp [after, ih]
    | true =>
      cases o with
      | none => simp [after, ih]
      | some b' => simp [after, ih]
abbrev Post (_ : Program) (π : Pi) (w0 : World) (h : List Blk) (res : Res) : Ending → World → Prop := CallPost π w0 h res
theorem fin_sound (I : In X h0) (R : RelS X h0 π s a w) {fn : Func} {e : AX} {res : Res} (h : fin P fn X.k e s = some res) : bodyPost P fn (Post P X.p0 X.w0 h0 res) (exOf e) a w := by
  have main : (match resVs P s fn.results.toList with
    | none => none
    | some vs =>
      let x := gcA X.k (one vs) []
      let y := gcO X.k s.dirt X.k (s.heap.take X.k) 0 x.2
      match gcN X.k s.heap 1000 0 y.2 [] with
      | some z => match somes z.1 with
        | some news => some { val := x.1, chg := chgs s.dirt y.1 0, news }
        | none => none
      | none => none) = some res → a.defers = [] ∧ ∃ v, (results fn a.tmps).run P w = .ok v w ∧ Post P X.p0 X.w0 h0 res (.returned v) w := by
    intro h
    split at h
    · cases h
    rename_i vs hvs
    simp only at h
    split at h
    · rename_i z hz
      split at h
      · rename_i news hnews
        cases h
        obtain ⟨v, hrun, hv⟩ := results_run R hvs
        have G := gcA_spec X.k (one vs) []
        have ok0 := G.ok ⟨List.nodup_nil, fun _ h => by cases h⟩
        obtain ⟨q1, q2, q3, q4, q5⟩ := gc_heap I R (Nat.le_refl _) R.hk ok0 hz
        have hz1 := somes_eq hnews
        obtain ⟨o1, o2, o3, o4⟩ := gcO_spec X.k s.dirt X.k (s.heap.take X.k) 0 (gcA X.k (one vs) []).2
        generalize hy : gcO X.k s.dirt X.k (s.heap.take X.k) 0 (gcA X.k (one vs) []).2 = y at *
        have hyl : y.1.length = X.k := by rw [o3]; have := R.hk; simp; omega
        have hhl := I.k
        have hnl : z.2.length = news.length := by
          have e1 : (y.1 ++ z.1).length = y.1.length + z.1.length := by simp
          have e2 : z.1.length = news.length := by rw [hz1]; simp
          omega
        have hafter : after h0 (chgs s.dirt y.1 0) = y.1 := after_chgs s.dirt h0 y.1 0 (by omega) fun j b h1 h2 => by
          have hj : j < y.1.length := (List.getElem?_eq_some_iff.1 h2).1
          have h3 := q4 j (by omega) (by omega) (by simpa using h1)
          rw [List.getElem?_append_left hj, h2] at h3
          have h4 := R.drt j (by omega) (by simpa using h1)
          rw [← h4, ← h3]; rfl
        have hheap : (⟨(gcA X.k (one vs) []).1, chgs s.dirt y.1 0, news⟩ : Res).heap h0 = y.1 ++ z.1 := by
          unfold Res.heap
          simp only
          rw [hafter, hz1]
        have hfoot : ∀ B i, foot X.p0 X.k (· ∈ s.dirt) B i → foot X.p0 h0.length (chD (chgs s.dirt y.1 0)) B i := by
          rintro B i ⟨b, s1, qq, e1, hb, hd, hp, i1, i2⟩
          refine ⟨b, s1, qq, e1, by omega, ?_, hp, i1, i2⟩
          unfold chD
          rw [chgs_get, Nat.zero_add, any_beq.2 hd]
          have : y.1[b]? = some (y.1[b]'(by omega)) := List.getElem?_eq_getElem _
          rw [this]
          cases y.1[b]'(by omega) <;> simp
        refine ⟨R.rel.df, v, hrun, piG π X.k z.2, v, rfl, fun b p hp => ?_, ?_, ?_, R.rel.fr.mono fun B i _ h => hfoot B i h, fun b hb => ?_, fun b B s1 qq e1 hb hp hB i i1 i2 => ?_⟩
        · have hb := I.d b (by rw [hp]; simp)
          unfold piG; rw [if_pos hb, R.rel.old b hb]; exact hp
        · exact AV.rel_mono q1.ext _ _ (G.rel π v hv)
        · rw [hheap]; exact q2
        · unfold piG at hb
          split at hb
          · simp only; omega
          · cases hm : z.2[b - X.k]? with
            | none => rw [hm] at hb; exact absurd rfl hb
            | some b0 => have := (List.getElem?_eq_some_iff.1 hm).1; simp only; omega
        · have hp' := hp
          unfold piG at hp'
          rw [if_neg (by omega)] at hp'
          cases hm : z.2[b - X.k]? with
          | none => rw [hm] at hp'; cases hp'
          | some b0 =>
            rw [hm] at hp'
            have hlt := (List.getElem?_eq_some_iff.1 hm).1
            have hzb : hZ (y.1 ++ z.1) b ≠ none := by
              unfold hZ
              rw [List.getElem?_append_right (by omega), hyl, hz1, List.getElem?_map, List.getElem?_eq_getElem (show b - X.k < news.length by omega)]
              simp
            rcases q5 b hzb with ⟨h1, _⟩ | ⟨b1, h1, h2, h3, h4⟩
            · omega
            · rw [hm] at h2; cases h2
              exact hfoot B i (R.rel.ft b0 B s1 qq e1 h3 h4 hp' hB i i1 i2)
      · cases h
    · cases h
  cases e with
  | nrm => exact main h
  | ret => exact main h
  | ex id => cases h
def tOf : Option Res → T
  | some r => .leaf r
  | none => .fail
theorem den_sound (hE : ∀ f F, E f = some F → Sound P f F) (hm : P.follows .mixedOrders = true) {hs : Hs} {lf : Nat} {f : FuncId} (hsum : ∀ fn c kk, P.funcs[f]? = some fn → fn.body = some c → Sums P E hs fn.ntmps kk lf c) (hc : ∀ args w, (callFunc f args).run P w = .ok (.enter f args) w) : Sound P f fun args h => tOf (den P E hs lf f args h) := by
  intro args h res hres w π vs hargs hH hdom
  refine .inl ⟨hc _ _, ?_⟩
  have hres : den P E hs lf f args h = some res := by
    have hres : (tOf (den P E hs lf f args h)).eval = some res := hres
    cases hd : den P E hs lf f args h with
    | none => rw [hd] at hres; cases hres
    | some r => rw [hd] at hres; exact hres
  unfold den at hres
  split at hres
  · cases hres
  rename_i fn hf
  split at hres
  · cases hres
  rename_i c hb
  split at hres
  case h_1 => cases hres
  rename_i hdirt
  have hdirt : ∀ b, b ∈ hs.dirt → b < h.length := fun b hb => blt_iff.1 (List.all_eq_true.1 hdirt b hb)
  rw [forceAll_eq] at hres
  have hlen := hargs.length
  refine calls_of_wp hf hb ?_
  let X : Cx := { w0 := w, k := h.length, p0 := π, N := (start fn args h hs.dirt).tmps.length }
  have I : In X h := ⟨rfl, hH, hdom⟩
  have R : RelS X h π (start fn args h hs.dirt) { tmps := vs ++ Array.replicate (fn.ntmps - vs.size) undef, defers := [] } w := by
    refine ⟨⟨fun i => ?_, by simp [X, start]; simp at hlen; omega, rfl, hH, fun _ _ => rfl, fun b B s q e hk hz hp => ?_, FrameOK.refl _ _⟩, rfl, fun b hb => by simpa [start] using hdom b hb, fun b hb _ => ?_, by simp [start, X], fun b hb => hdirt b hb⟩
    · show (tget (args ++ List.replicate (fn.ntmps - args.length) udf) i).rel π ((vs ++ Array.replicate (fn.ntmps - vs.size) undef).getD i undef)
      rw [tget_eq]
      simp only [Array.length_toList] at hlen
      rw [Array.getD_eq_getD_getElem?]
      simp only [List.getD]
      rcases Nat.lt_or_ge i args.length with hi | hi
      · have e1 : args[i]? = some (args[i]'hi) := List.getElem?_eq_getElem _
        obtain ⟨x, hx, hr⟩ := hargs.get e1
        rw [List.getElem?_append_left hi, e1, Array.getElem?_append_left (by omega), ← Array.getElem?_toList, hx]
        exact hr
      · rw [List.getElem?_append_right hi, Array.getElem?_append_right (by omega), List.getElem?_replicate, Array.getElem?_replicate, hlen]
        split <;> exact undef_rel π
    · exact absurd (hdom b (by rw [hp]; simp)) (by simp only [X] at hk; omega)
    · show ((h.map some)[b]?).getD none = h[b]?
      rw [List.getElem?_map]
      cases h[b]? <;> rfl
  exact runC_sound hE hm I (nt := fn.ntmps) (by simp [X, start]; omega) c (hsum fn c h.length hf hb) R hres fun e s π a w R hK => fin_sound I R hK
structure Res.wk (h : List Blk) (r r' : Res) : Prop where
  val : r.val = r'.val
  news : r.news = r'.news
  chg : ∀ (j : Nat) (b : Blk), (after h r.chg)[j]? = some (some b) → ∃ b' : Blk, (after h r'.chg)[j]? = some (some b') ∧ Blk.size b' = Blk.size b ∧ ∀ i, i < Blk.size b → Blk.get b i = Blk.get b' i
  keep : ∀ j : Nat, r.chg[j]? = some .keep → r'.chg[j]? = some .keep
omit [Amb] in
theorem Res.wk.refl (h : List Blk) (r : Res) : r.wk h r := ⟨rfl, rfl, fun j b hb => ⟨b, hb, rfl, fun _ _ => rfl⟩, fun _ h => h⟩
theorem Sound.weaken {f : FuncId} {F F0 : Sem1} (S : Sound P f F0) (hw : ∀ args h r, (F args h).eval = some r → ∃ r', (F0 args h).eval = some r' ∧ r.wk h r') : Sound P f F := by
  intro args h res hres w π vs hargs hH hdom
  obtain ⟨r', hr', W⟩ := hw args h res hres
  suffices key : ∀ e w', CallPost π w h r' e w' → CallPost π w h res e w' by
    rcases S args h r' hr' w π vs hargs hH hdom with ⟨S1, S2⟩ | ⟨v, S1, S2⟩
    · exact .inl ⟨S1, Calls.mono S2 key⟩
    · exact .inr ⟨v, S1, key _ _ S2⟩
  rintro e w' ⟨π', v, rfl, hx, hv, hH', hF, hd, hi⟩
  have hfoot : ∀ B i, foot π h.length (chD r'.chg) B i → foot π h.length (chD res.chg) B i := by
    rintro B i ⟨b, s1, qq, e1, hb, hD, hp, i1, i2⟩
    exact ⟨b, s1, qq, e1, hb, fun hk => hD (W.keep b hk), hp, i1, i2⟩
  have src : ∀ b n, hZ (res.heap h) b = some n → ∃ k k', (res.heap h)[b]? = some (some k) ∧ Blk.size k = n ∧ (r'.heap h)[b]? = some (some k') ∧ Blk.size k' = n ∧ ∀ i, i < n → Blk.get k i = Blk.get k' i := fun b n hn => by
    unfold hZ at hn
    cases hg : (res.heap h)[b]? with
    | none => rw [hg] at hn; cases hn
    | some o =>
      rw [hg] at hn
      cases o with
      | none => cases hn
      | some k =>
        have hkn : Blk.size k = n := by simpa using hn
        rcases Nat.lt_or_ge b h.length with hb | hb
        · rw [res_heap_old hb] at hg
          obtain ⟨k', h1, h2, h3⟩ := W.chg b k hg
          exact ⟨k, k', rfl, hkn, by rw [res_heap_old hb]; exact h1, by omega, fun i hi => h3 i (by omega)⟩
        · refine ⟨k, k, rfl, hkn, ?_, hkn, fun _ _ => rfl⟩
          unfold Res.heap at hg ⊢
          rw [List.getElem?_append_right (by rw [after_length]; exact hb), after_length] at hg ⊢
          rw [← W.news]; exact hg
  refine ⟨π', v, rfl, hx, by rw [W.val]; exact hv, ⟨hH'.am, fun b B s1 q1 e1 hz hp hse => ?_, fun b n hn => ?_, fun b b' B s1 q1 e1 s2 q2 e2 hne hz hz' => ?_⟩, hF.mono fun B i _ h => hfoot B i h, by rw [W.news]; exact hd, fun b B s1 qq e1 hb hp hB i i1 i2 => hfoot B i (hi b B s1 qq e1 hb hp hB i i1 i2)⟩
  · cases hn : hZ (res.heap h) b with
    | none => exact absurd hn hz
    | some n =>
      obtain ⟨k, k', _, _, h3, _⟩ := src b n hn
      exact hH'.lb b B s1 q1 e1 (by rw [hZ_get h3]; simp) hp hse
  · obtain ⟨k, k', h1, h2, h3, h4, h5⟩ := src b n hn
    have hz : hZ (r'.heap h) b = some n := by rw [← h4]; exact hZ_get h3
    obtain ⟨B, s1, e1, hp, hle, m1, m2⟩ := hH'.hp b n hz
    refine ⟨B, s1, e1, hp, hle, m1, fun j hj => ?_⟩
    obtain ⟨x, hx1, hx2⟩ := m2 j hj
    rw [hC_get h3 (by omega)] at hx2
    exact ⟨x, hx1, by rw [hC_get h1 (by omega), h5 j hj]; exact hx2⟩
  · have nn : ∀ b, hZ (res.heap h) b ≠ none → hZ (r'.heap h) b ≠ none := fun b hb => by
      cases hn : hZ (res.heap h) b with
      | none => exact absurd hn hb
      | some n => obtain ⟨k, k', _, _, h3, _⟩ := src b n hn; rw [hZ_get h3]; simp
    exact hH'.dj b b' B s1 q1 e1 s2 q2 e2 hne (nn b hz) (nn b' hz')
end
end Go.Ab
