/-
  The abstract machine and the model: a contract over a slice holds for one that is nil, too.
-/
import Derived.Test.YtphkdkkbbfnkaaaGreatAbZ
namespace Go.Ab
variable [Amb]
variable {P : Program}
def nilB (cks : List CK) : Blk := [.a (.s 0) (cks.map CK.col)]
def T.mapR (g : Res → Res) : T → T
  | .leaf r => .leaf (g r)
  | .fail => .fail
  | .test x a b => .test x (a.mapR g) (b.mapR g)
  | .opt x k => .opt x fun d => (k d).mapR g
omit [Amb] in
theorem mapR_eval {g : Res → Res} {t : T} {r : Res} (h : (t.mapR g).eval = some r) : ∃ r', t.eval = some r' ∧ r = g r' := by
  induction t with
  | leaf r' => cases h; exact ⟨r', rfl, rfl⟩
  | fail => cases h
  | test x a b iha ihb =>
    cases x
    · exact ihb h
    · exact iha h
  | opt x k ih =>
    cases x with
    | none => cases h
    | some d => exact ih d h
def nilF (i : Nat) (cks : List CK) (F : Sem1) : Sem1 := fun args h => match args[i]? with
  | some (.r (.c .nils)) => (F (args.set i (.r (.c (.sl h.length (.k 0) (.s 0) cks.length true)))) (h ++ [nilB cks])).mapR fun r => ⟨r.val, r.chg.take h.length, nilB cks :: r.news⟩
  | _ => F args h
omit [Amb] in
theorem size_nilB (cks : List CK) : Blk.size (nilB cks) = 0 := by
  unfold nilB
  rw [Blk.size_cons, Blk.size_nil, Sg.size_a]
  simp [Sz.val]
omit [Amb] in
theorem after_snoc : ∀ (h : List Blk) (z : Blk) (cs : List Ch), ∃ x, after (h ++ [z]) cs = after h (cs.take h.length) ++ [x]
  | [], z, [] => ⟨none, rfl⟩
  | [], z, .keep :: cs => ⟨some z, rfl⟩
  | [], z, .set b :: cs => ⟨some b, rfl⟩
  | [], z, .kill :: cs => ⟨none, rfl⟩
  | b :: bs, z, [] => by
    obtain ⟨x, hx⟩ := after_snoc bs z []
    refine ⟨x, ?_⟩
    simp only [List.take_nil] at hx
    simp [after, hx]
  | b :: bs, z, .keep :: cs => by
    obtain ⟨x, hx⟩ := after_snoc bs z cs
    exact ⟨x, by simp [after, hx]⟩
  | b :: bs, z, .set k :: cs => by
    obtain ⟨x, hx⟩ := after_snoc bs z cs
    exact ⟨x, by simp [after, hx]⟩
  | b :: bs, z, .kill :: cs => by
    obtain ⟨x, hx⟩ := after_snoc bs z cs
    exact ⟨x, by simp [after, hx]⟩
omit [Amb] in
theorem mid_get {α : Type} {A N : List α} {x y : α} {b : Nat} (h : b ≠ A.length) : (A ++ [x] ++ N)[b]? = (A ++ y :: N)[b]? := by
  rcases Nat.lt_or_ge b A.length with h1 | h1
  · rw [List.append_assoc, List.getElem?_append_left h1, List.getElem?_append_left h1]
  · rw [List.append_assoc, List.getElem?_append_right h1, List.getElem?_append_right h1]
    obtain ⟨m, hm⟩ : ∃ m, b - A.length = m + 1 := ⟨b - A.length - 1, by omega⟩
    rw [hm]; rfl
theorem Sound.nil {f : FuncId} {F : Sem1} (i : Nat) (cks : List CK) (S : Sound P f F) : Sound P f (nilF i cks F) := by
  intro args h res hres w π vs hargs hH hdom
  unfold nilF at hres
  split at hres
  · rename_i hi
    obtain ⟨r, hr, rfl⟩ := mapR_eval hres
    generalize hπ2 : (fun b => if b = h.length then some (0, 0, 0, 0) else π b : Pi) = π2
    have p1 : ∀ b, b ≠ h.length → π2 b = π b := fun b hb => by rw [← hπ2]; simp [hb]
    have p2 : π2 h.length = some (0, 0, 0, 0) := by rw [← hπ2]; simp
    have hx : Ext π π2 := fun b p hb => by
      have : b < h.length := hdom b (by rw [hb]; simp)
      rw [p1 b (by omega)]; exact hb
    have hargs2 : All2 (AV.rel π2) (args.set i (.r (.c (.sl h.length (.k 0) (.s 0) cks.length true)))) vs.toList := by
      have hargs := hargs.imp (AV.rel_mono hx)
      refine All2.of_get (by rw [List.length_set]; exact hargs.length) fun j a v ha hv => ?_
      rw [List.getElem?_set] at ha
      split at ha
      · rename_i hij
        subst hij
        split at ha
        · cases ha
          obtain ⟨v', hv', hr'⟩ := hargs.get hi
          rw [hv] at hv'
          cases hv'
          exact ⟨0, 0, 0, 0, p2, by simp [Off.val, Sz.val], by simp [Off.val, Sz.val], .inl ⟨rfl, none, hr'⟩⟩
        · cases ha
      · obtain ⟨v', hv', hr'⟩ := hargs.get ha
        rw [hv] at hv'
        cases hv'
        exact hr'
    have lt : ∀ b, b < h.length → ((h ++ [nilB cks]).map some)[b]? = (h.map some)[b]? := fun b hb => by
      rw [List.map_append, List.getElem?_append_left (by simpa using hb)]
    have gz : ∀ b, b < h.length → hZ ((h ++ [nilB cks]).map some) b = hZ (h.map some) b ∧ ∀ j, hC ((h ++ [nilB cks]).map some) b j = hC (h.map some) b j := fun b hb => by
      unfold hZ hC
      rw [lt b hb]; exact ⟨rfl, fun _ => rfl⟩
    have gn : hZ ((h ++ [nilB cks]).map some) h.length = some 0 := by
      unfold hZ
      simp [size_nilB]
    have gd : ∀ b, h.length < b → hZ ((h ++ [nilB cks]).map some) b = none := fun b hb => by
      unfold hZ
      rw [List.getElem?_eq_none (by simp; omega)]; rfl
    have hH2 : HRel π2 (hC ((h ++ [nilB cks]).map some)) (hZ ((h ++ [nilB cks]).map some)) w := by
      refine ⟨hH.am, fun b B s q e hz hb hse => ?_, fun b n hn => ?_, fun b b' B s q e s' q' e' hne hz hz' hb hb' i i1 i2 i3 i4 => ?_⟩
      · rcases Nat.lt_trichotomy b h.length with h1 | h1 | h1
        · rw [(gz b h1).1] at hz
          rw [p1 b (by omega)] at hb
          exact hH.lb b B s q e hz hb hse
        · subst h1
          rw [p2] at hb; cases hb
          omega
        · exact absurd (gd b h1) hz
      · rcases Nat.lt_trichotomy b h.length with h1 | h1 | h1
        · rw [(gz b h1).1] at hn
          obtain ⟨B, s, e, k1, k2, k3, k4⟩ := hH.hp b n hn
          exact ⟨B, s, e, hx _ _ k1, k2, k3, fun j hj => by
            obtain ⟨v, v1, v2⟩ := k4 j hj
            exact ⟨v, v1, by rw [(gz b h1).2]; exact CV.rel_mono hx _ _ v2⟩⟩
        · subst h1
          rw [gn] at hn
          cases hn
          exact ⟨0, 0, 0, p2, by omega, fun i _ _ => by omega, fun j hj => by omega⟩
        · rw [gd b h1] at hn; cases hn
      · have nz : ∀ b B s q e, b = h.length → π2 b = some (B, s, q, e) → s = 0 ∧ e = 0 := fun b B s q e hb hp => by
          rw [hb, p2] at hp; cases hp; exact ⟨rfl, rfl⟩
        rcases Nat.lt_trichotomy b h.length with h1 | h1 | h1
        · rcases Nat.lt_trichotomy b' h.length with h2 | h2 | h2
          · rw [(gz b h1).1] at hz
            rw [(gz b' h2).1] at hz'
            rw [p1 b (by omega)] at hb
            rw [p1 b' (by omega)] at hb'
            exact hH.dj b b' B s q e s' q' e' hne hz hz' hb hb' i i1 i2 i3 i4
          · have := nz b' B s' q' e' h2 hb'; omega
          · exact hz' (gd b' h2)
        · have := nz b B s q e h1 hb; omega
        · exact hz (gd b h1)
    have hdom2 : ∀ b, π2 b ≠ none → b < (h ++ [nilB cks]).length := fun b hb => by
      rw [List.length_append]
      show b < h.length + 1
      rcases Nat.lt_trichotomy b h.length with h1 | h1 | h1
      · omega
      · omega
      · rw [p1 b (by omega)] at hb
        have := hdom b hb; omega
    have foots : ∀ B i, foot π2 (h ++ [nilB cks]).length (chD r.chg) B i → foot π h.length (chD (r.chg.take h.length)) B i := by
      rintro B i ⟨b, s, q, e, hb, hD, hp, i1, i2⟩
      rw [List.length_append] at hb
      have hb : b < h.length + 1 := hb
      rcases Nat.lt_or_ge b h.length with h1 | h1
      · rw [p1 b (by omega)] at hp
        exact ⟨b, s, q, e, h1, fun hk => hD (by rw [List.getElem?_take, if_pos h1] at hk; exact hk), hp, i1, i2⟩
      · obtain rfl : b = h.length := by omega
        rw [p2] at hp
        cases hp
        omega
    suffices key : ∀ e w', CallPost π2 w (h ++ [nilB cks]) r e w' → CallPost π w h ⟨r.val, r.chg.take h.length, nilB cks :: r.news⟩ e w' by
      rcases S _ _ r hr w π2 vs hargs2 hH2 hdom2 with ⟨S1, S2⟩ | ⟨v, S1, S2⟩
      · exact .inl ⟨S1, Calls.mono S2 key⟩
      · exact .inr ⟨v, S1, key _ _ S2⟩
    rintro e w' ⟨π', v, rfl, hx', hv, hH', hF, hd, hi'⟩
    have p2' : π' h.length = some (0, 0, 0, 0) := hx' _ _ p2
    obtain ⟨x, hxx⟩ := after_snoc h (nilB cks) r.chg
    have hlen : (after h (r.chg.take h.length)).length = h.length := after_length ..
    have eq1 : ∀ b, b ≠ h.length → (r.heap (h ++ [nilB cks]))[b]? = ((⟨r.val, r.chg.take h.length, nilB cks :: r.news⟩ : Res).heap h)[b]? := fun b hb => by
      unfold Res.heap
      rw [hxx]
      exact mid_get (by rw [hlen]; exact hb)
    have eqz : ∀ b, b ≠ h.length → hZ ((⟨r.val, r.chg.take h.length, nilB cks :: r.news⟩ : Res).heap h) b = hZ (r.heap (h ++ [nilB cks])) b := fun b hb => by
      unfold hZ; rw [eq1 b hb]
    have eqc : ∀ b j, b ≠ h.length → hC ((⟨r.val, r.chg.take h.length, nilB cks :: r.news⟩ : Res).heap h) b j = hC (r.heap (h ++ [nilB cks])) b j := fun b j hb => by
      unfold hC; rw [eq1 b hb]
    have eqn : hZ ((⟨r.val, r.chg.take h.length, nilB cks :: r.news⟩ : Res).heap h) h.length = some 0 := by
      unfold hZ Res.heap
      show (((after h (r.chg.take h.length) ++ (nilB cks :: r.news).map some)[h.length]?).getD none).map Blk.size = some 0
      rw [List.getElem?_append_right (by omega), hlen]
      simp [size_nilB]
    refine ⟨π', v, rfl, hx.trans hx', hv, ⟨hH'.am, fun b B s q e hz hb hse => ?_, fun b n hn => ?_, fun b b' B s q e s' q' e' hne hz hz' hb hb' i i1 i2 i3 i4 => ?_⟩, hF.mono fun B i _ h => foots B i h, fun b hb => ?_, fun b B s q e hb hp hB i i1 i2 => ?_⟩
    · by_cases h1 : b = h.length
      · rw [h1, p2'] at hb; cases hb; omega
      · rw [eqz b h1] at hz
        exact hH'.lb b B s q e hz hb hse
    · by_cases h1 : b = h.length
      · subst h1
        rw [eqn] at hn
        cases hn
        exact ⟨0, 0, 0, p2', by omega, fun i _ _ => by omega, fun j hj => by omega⟩
      · rw [eqz b h1] at hn
        obtain ⟨B, s, e, k1, k2, k3, k4⟩ := hH'.hp b n hn
        exact ⟨B, s, e, k1, k2, k3, fun j hj => by rw [eqc b j h1]; exact k4 j hj⟩
    · have nz : ∀ b B s q e, b = h.length → π' b = some (B, s, q, e) → s = 0 ∧ e = 0 := fun b B s q e hb hp => by
        rw [hb, p2'] at hp; cases hp; exact ⟨rfl, rfl⟩
      by_cases h1 : b = h.length
      · have := nz b B s q e h1 hb; omega
      · by_cases h2 : b' = h.length
        · have := nz b' B s' q' e' h2 hb'; omega
        · rw [eqz b h1] at hz
          rw [eqz b' h2] at hz'
          exact hH'.dj b b' B s q e s' q' e' hne hz hz' hb hb' i i1 i2 i3 i4
    · have := hd b hb
      rw [List.length_append] at this
      show b < h.length + (r.news.length + 1)
      have : b < h.length + 1 + r.news.length := this
      omega
    · by_cases h1 : b = h.length
      · rw [h1, p2'] at hp; cases hp; omega
      · exact foots B i (hi' b B s q e (by rw [List.length_append]; show h.length + 1 ≤ b; omega) hp hB i i1 i2)
  · exact S args h res hres w π vs hargs hH hdom
end Go.Ab
