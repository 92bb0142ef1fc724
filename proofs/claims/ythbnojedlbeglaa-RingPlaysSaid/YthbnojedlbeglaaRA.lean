/-
  Samples by their time, in plain words: the order of samples, rows of samples as lists, what Put and Pop do.
-/
import Derived.Test.YthbnojedlbeglaaRG1
import Derived.Test.YthbnojedlbeglaaAbInv
set_option maxRecDepth 100000
set_option maxHeartbeats 4000000
set_option linter.unusedVariables false
set_option linter.unusedSimpArgs false
namespace Go.Proofs.Ythbnojedlbeglaa
open Go.Ab
/-! the order -/
structure STO {α : Type} (lt : α → α → Bool) : Prop where
  irr : ∀ a, lt a a = false
  trans : ∀ a b c, lt a b = true → lt b c = true → lt a c = true
  tri : ∀ a b, lt a b = false → lt b a = false → a = b
def ltI (a b : Int) : Bool := decide (a < b)
def ltP {α β : Type} [BEq α] (l1 : α → α → Bool) (l2 : β → β → Bool) (a b : α × β) : Bool := bif a.1 != b.1 then l1 a.1 b.1 else l2 a.2 b.2
theorem STO.int : STO ltI := by
  refine ⟨fun a => ?_, fun a b c h1 h2 => ?_, fun a b h1 h2 => ?_⟩
  · exact decide_eq_false (by omega)
  · have h1 := of_decide_eq_true h1
    have h2 := of_decide_eq_true h2
    exact decide_eq_true (by omega)
  · have h1 := of_decide_eq_false h1
    have h2 := of_decide_eq_false h2
    omega
theorem STO.prod {α β : Type} [BEq α] [LawfulBEq α] {l1 : α → α → Bool} {l2 : β → β → Bool} (h1 : STO l1) (h2 : STO l2) : STO (ltP l1 l2) := by
  refine ⟨fun a => ?_, fun a b c hab hbc => ?_, fun a b hab hba => ?_⟩
  · simp [ltP, h2.irr]
  · unfold ltP at *
    cases e1 : a.1 != b.1 <;> cases e2 : b.1 != c.1 <;> simp only [e1, e2, cond_true, cond_false] at hab hbc
    · have q1 : a.1 = b.1 := by simpa using e1
      have q2 : b.1 = c.1 := by simpa using e2
      have : (a.1 != c.1) = false := by simp [q1, q2]
      rw [this]; exact h2.trans _ _ _ hab hbc
    · have q1 : a.1 = b.1 := by simpa using e1
      rw [q1, e2]; exact hbc
    · have q2 : b.1 = c.1 := by simpa using e2
      rw [← q2, e1]; exact hab
    · have h := h1.trans _ _ _ hab hbc
      have : (a.1 != c.1) = true := by
        cases hh : a.1 != c.1
        · have q : a.1 = c.1 := by simpa using hh
          rw [q, h1.irr] at h; cases h
        · rfl
      rw [this]; exact h
  · unfold ltP at *
    cases e1 : a.1 != b.1
    · have q1 : a.1 = b.1 := by simpa using e1
      have e2 : (b.1 != a.1) = false := by simp [q1]
      simp only [e1, e2, cond_false] at hab hba
      exact Prod.ext q1 (h2.tri _ _ hab hba)
    · have e2 : (b.1 != a.1) = true := by
        simp only [bne_iff_ne, ne_eq] at e1 ⊢
        exact fun h => e1 h.symm
      simp only [e1, e2, cond_true] at hab hba
      have := h1.tri _ _ hab hba
      simp [this] at e1
abbrev Smp := Int × Int × Int × Int × Int × Int × Int × Int × Int
instance dec5 : DecidableEq (Int × Int × Int × Int × Int) := inferInstance
instance decSmp : DecidableEq Smp := @instDecidableEqProd _ _ _ (@instDecidableEqProd _ _ _ (@instDecidableEqProd _ _ _ (@instDecidableEqProd _ _ _ dec5)))
def lt : Smp → Smp → Bool := ltP ltI (ltP ltI (ltP ltI (ltP ltI (ltP ltI (ltP ltI (ltP ltI (ltP ltI ltI)))))))
theorem lt_sto : STO lt := STO.int.prod (STO.int.prod (STO.int.prod (STO.int.prod (STO.int.prod (STO.int.prod (STO.int.prod (STO.int.prod STO.int)))))))
theorem lt_irr (a : Smp) : lt a a = false := lt_sto.irr a
theorem lt_trans {a b c : Smp} (h1 : lt a b = true) (h2 : lt b c = true) : lt a c = true := lt_sto.trans a b c h1 h2
theorem lt_tri {a b : Smp} (h1 : lt a b = false) (h2 : lt b a = false) : a = b := lt_sto.tri a b h1 h2
theorem lt_asymm {a b : Smp} (h1 : lt a b = true) : lt b a = false := by
  cases h : lt b a
  · rfl
  · have := lt_trans h1 h
    rw [lt_irr] at this; cases this
/-- not behind: transitive -/
theorem le_trans' {a b c : Smp} (h1 : lt b a = false) (h2 : lt c b = false) : lt c a = false := by
  cases h : lt c a
  · rfl
  · cases hb : lt c b
    · cases hbc : lt b c
      · have := lt_tri hbc hb
        subst this
        rw [h] at h1; cases h1
      · have := lt_trans hbc h
        rw [this] at h1; cases h1
    · rw [hb] at h2; cases h2
/-- earlier times stand ahead -/
theorem time_le {a b : Smp} (h : lt b a = false) : a.1 ≤ b.1 := by
  unfold lt ltP at h
  cases e : b.1 != a.1
  · have : b.1 = a.1 := by simpa using e
    omega
  · rw [e, cond_true] at h
    have := of_decide_eq_false h
    omega
/-! lists -/
def ins (s : Smp) : List Smp → List Smp
  | [] => [s]
  | a :: l => bif lt a s then a :: ins s l else s :: a :: l
def Srt : List Smp → Prop := List.Pairwise fun a b => lt b a = false
theorem ins_length (s : Smp) : ∀ l, (ins s l).length = l.length + 1
  | [] => rfl
  | a :: l => by
    unfold ins
    cases lt a s
    · rfl
    · simp [ins_length s l]
theorem ins_mem (s : Smp) : ∀ l x, x ∈ ins s l ↔ x = s ∨ x ∈ l
  | [], x => by simp [ins]
  | a :: l, x => by
    unfold ins
    cases lt a s
    · simp
    · simp only [cond_true, List.mem_cons, ins_mem s l x]
      constructor
      · rintro (h | h | h)
        · exact .inr (.inl h)
        · exact .inl h
        · exact .inr (.inr h)
      · rintro (h | h | h)
        · exact .inr (.inl h)
        · exact .inl h
        · exact .inr (.inr h)
theorem ins_srt (s : Smp) : ∀ l, Srt l → Srt (ins s l)
  | [], _ => List.pairwise_singleton _ _
  | a :: l, h => by
    have h := List.pairwise_cons.1 h
    unfold ins
    cases e : lt a s
    · refine List.pairwise_cons.2 ⟨fun b hb => ?_, List.pairwise_cons.2 h⟩
      rcases List.mem_cons.1 hb with rfl | hb
      · exact e
      · exact le_trans' e (h.1 b hb)
    · refine List.pairwise_cons.2 ⟨fun b hb => ?_, ins_srt s l h.2⟩
      rcases (ins_mem s l b).1 hb with rfl | hb
      · exact lt_asymm e
      · exact h.1 b hb
theorem ins_at (s : Smp) : ∀ (l : List Smp) (p : Nat), p ≤ l.length → (∀ j x, j < p → l[j]? = some x → lt x s = true) → (∀ j x, p ≤ j → l[j]? = some x → lt x s = false) → l.take p ++ s :: l.drop p = ins s l
  | [], p, hp, _, _ => by
    have : p = 0 := by simpa using hp
    subst this; rfl
  | a :: l, 0, _, _, h2 => by
    have := h2 0 a (Nat.le_refl _) rfl
    simp [ins, this]
  | a :: l, p + 1, hp, h1, h2 => by
    have h0 := h1 0 a (by omega) rfl
    have := ins_at s l p (by simpa using hp) (fun j x hj hx => h1 (j + 1) x (by omega) (by simpa using hx)) (fun j x hj hx => h2 (j + 1) x (by omega) (by simpa using hx))
    simp [ins, h0, ← this]
/-! rows -/
def tab (n : Nat) (G : Nat → Smp) : List Smp := (List.range n).map G
theorem tab_length (n : Nat) (G : Nat → Smp) : (tab n G).length = n := by simp [tab]
theorem tab_get {n j : Nat} (G : Nat → Smp) (h : j < n) : (tab n G)[j]? = some (G j) := by simp [tab, h]
theorem tab_get? (n j : Nat) (G : Nat → Smp) : (tab n G)[j]? = if j < n then some (G j) else none := by
  split
  · exact tab_get G ‹_›
  · rw [List.getElem?_eq_none]; rw [tab_length]; omega
theorem tab_srt {n : Nat} {G : Nat → Smp} (h : Srt (tab n G)) {i j : Nat} (hij : i ≤ j) (hj : j < n) : lt (G j) (G i) = false := by
  rcases Nat.eq_or_lt_of_le hij with rfl | hlt
  · exact lt_irr _
  · have := List.pairwise_iff_getElem.1 h i j (by rw [tab_length]; omega) (by rw [tab_length]; omega) hlt
    simpa [tab] using this
theorem tab_ins (n i : Nat) (hi : i ≤ n) (G H : Nat → Smp) (s : Smp) (hH : ∀ j, H j = cond (Nat.blt j i) (G j) (cond (Nat.beq j i) s (G (j - 1)))) : tab (n + 1) H = (tab n G).take i ++ s :: (tab n G).drop i := by
  refine List.ext_getElem? fun j => ?_
  rw [tab_get?, List.getElem?_append]
  have hl : ((tab n G).take i).length = i := by rw [List.length_take, tab_length]; omega
  rw [hl]
  by_cases h1 : j < i
  · rw [if_pos (show j < n + 1 by omega), if_pos h1, List.getElem?_take, if_pos h1, tab_get G (show j < n by omega), hH, show Nat.blt j i = true from blt_iff.2 h1, cond_true]
  · rw [if_neg h1, hH, show Nat.blt j i = false from blt_false (by omega), cond_false]
    by_cases h2 : j = i
    · subst h2
      rw [if_pos (by omega), show Nat.beq j j = true from Nat.beq_refl j, cond_true, Nat.sub_self]; rfl
    · rw [show Nat.beq j i = false from beq_false h2, cond_false]
      obtain ⟨m, hm⟩ : ∃ m, j - i = m + 1 := ⟨j - i - 1, by omega⟩
      rw [hm, List.getElem?_cons_succ, List.getElem?_drop, tab_get?, show i + m = j - 1 by omega]
      by_cases h3 : j < n + 1
      · rw [if_pos h3, if_pos (by omega)]
      · rw [if_neg h3, if_neg (by omega)]
theorem tab_del (n k : Nat) (hk : k ≤ n) (G H : Nat → Smp) (hH : ∀ j, H j = G (j + (k - 0))) : tab (0 + (n - k)) H = (tab n G).drop k := by
  refine List.ext_getElem? fun j => ?_
  rw [List.getElem?_drop, tab_get?, tab_get?, hH, Nat.sub_zero, Nat.add_comm j k]
  by_cases h : j < 0 + (n - k)
  · rw [if_pos h, if_pos (by omega)]
  · rw [if_neg h, if_neg (by omega)]
theorem tab_take (n k : Nat) (hk : k ≤ n) (G : Nat → Smp) : tab k G = (tab n G).take k := by
  refine List.ext_getElem? fun j => ?_
  rw [List.getElem?_take, tab_get?, tab_get?]
  by_cases h : j < k
  · rw [if_pos h, if_pos h, if_pos (by omega)]
  · rw [if_neg h, if_neg h]
def row (g0 g1 g2 g3 g4 g5 g6 g7 g8 : Nat → Int) (j : Nat) : Smp := (g0 j, g1 j, g2 j, g3 j, g4 j, g5 j, g6 j, g7 j, g8 j)
theorem row_ins (i : Nat) (g0 g1 g2 g3 g4 g5 g6 g7 g8 : Nat → Int) (h0 h1 h2 h3 h4 h5 h6 h7 h8 : Nat → Int) (j : Nat) : row (insC i g0 h0) (insC i g1 h1) (insC i g2 h2) (insC i g3 h3) (insC i g4 h4) (insC i g5 h5) (insC i g6 h6) (insC i g7 h7) (insC i g8 h8) j = cond (Nat.blt j i) (row g0 g1 g2 g3 g4 g5 g6 g7 g8 j) (cond (Nat.beq j i) (h0 0, h1 0, h2 0, h3 0, h4 0, h5 0, h6 0, h7 0, h8 0) (row g0 g1 g2 g3 g4 g5 g6 g7 g8 (j - 1))) := by
  unfold row insC
  cases Nat.blt j i
  · cases Nat.beq j i <;> rfl
  · rfl
theorem row_del (d : Nat) (g0 g1 g2 g3 g4 g5 g6 g7 g8 : Nat → Int) (j : Nat) : row (delC 0 d g0) (delC 0 d g1) (delC 0 d g2) (delC 0 d g3) (delC 0 d g4) (delC 0 d g5) (delC 0 d g6) (delC 0 d g7) (delC 0 d g8) j = row g0 g1 g2 g3 g4 g5 g6 g7 g8 (j + d) := by
  unfold row delC
  have : Nat.blt j 0 = false := blt_false (by omega)
  rw [this]; rfl
/-! ring.compare -/
theorem cmp_eq (x y : Int) : f_cmp_Compare_int64_ x y = some (if x < y then -1 else if x > y then 1 else 0) := by
  unfold f_cmp_Compare_int64_ K_cmp_Compare_int64_ f_cmp_isNaN_int64_ K_cmp_isNaN_int64_
  have e : ∀ z : Int, (z != z) = false := fun z => by simp
  simp only [e, Option.bind_some, cond_false]
  by_cases h1 : x < y
  · simp [h1]
  · by_cases h2 : x > y
    · simp [h1, h2]
    · simp [h1, h2]
def sg3 (x y : Int) : Int := if x < y then -1 else if x > y then 1 else 0
theorem cmp_sg (x y : Int) : f_cmp_Compare_int64_ x y = some (sg3 x y) := cmp_eq x y
def sg8 (g h : Nat → Int) : Nat → Nat → Int
  | 0, _ => 0
  | m + 1, i => bif sg3 (g i) (h i) != 0 then sg3 (g i) (h i) else sg8 g h m (i + 1)
theorem compare8 (g h : Nat → Int) : f_slices_Compare___int64_int64_ 8 8 g h false false = some (sg8 g h 8 0) := by
  unfold f_slices_Compare___int64_int64_ K_slices_Compare___int64_int64_ L_slices_Compare___int64_int64__0
  refine loopK_inv (fun t d => ∃ i : Nat, i + t = 8 ∧ sg8 g h 8 0 = sg8 g h t i ∧ d = (8, false, 8, false, 8, false, Int.ofNat 8, Int.ofNat i, 8, g, 8, h)) ?_ 200 8 _ (by omega) ⟨0, by omega, rfl, rfl⟩
  rintro t _ c ⟨i, hi, hs, rfl⟩ hc
  unfold S_slices_Compare___int64_int64__0
  simp only
  rcases Nat.eq_zero_or_pos t with h0 | h0
  · subst h0
    have e : decide (Int.ofNat i < Int.ofNat 8) = false := by simp only [Int.ofNat_eq_natCast]; exact decide_eq_false (by omega)
    have e2 : decide (Int.ofNat 8 < Int.ofNat 8) = false := rfl
    simp only [e, e2, cond_false, Sum.elim_inr, hs]
    rfl
  · obtain ⟨m, rfl⟩ : ∃ m, t = m + 1 := ⟨t - 1, by omega⟩
    have e : decide (Int.ofNat i < Int.ofNat 8) = true := by simp only [Int.ofNat_eq_natCast]; exact decide_eq_true (by omega)
    have e2 : inR (Int.ofNat i) 8 = true := by unfold inR; simp only [Int.ofNat_eq_natCast, Bool.and_eq_true, decide_eq_true_eq]; omega
    have e3 : Int.toNat (Int.ofNat i) = i := by simp
    have e4 : IntKind.wrap IntKind.i64 (Int.ofNat i + 1) = Int.ofNat (i + 1) := (wrap_i64 (by simp only [Int.ofNat_eq_natCast]; omega) (by simp only [Int.ofNat_eq_natCast]; omega)).trans rfl
    have e5 : decide (Int.ofNat i ≥ Int.ofNat 8) = false := by simp only [Int.ofNat_eq_natCast]; exact decide_eq_false (by omega)
    simp only [e, e2, e3, e4, e5, cond_true, cond_false, cmp_sg, Option.bind_some]
    cases e6 : sg3 (g i) (h i) != 0
    · simp only [cond_false]
      refine hc m _ (by omega) ⟨i + 1, by omega, ?_, rfl⟩
      rw [hs, sg8, e6, cond_false]
    · simp only [cond_true, Sum.elim_inl]
      rw [hs, sg8, e6, cond_true]
theorem sg_step (x y r : Int) (b : Bool) (h : decide (r < 0) = b) : decide ((bif sg3 x y != 0 then sg3 x y else r) < 0) = (bif x != y then ltI x y else b) := by
  unfold sg3 ltI
  by_cases h1 : x < y
  · have : x ≠ y := by omega
    simp [h1, this]
  · by_cases h2 : x > y
    · have : x ≠ y := by omega
      simp [h1, h2, this]
    · have : x = y := by omega
      subst this
      simp [h]
theorem sg_last (x y : Int) : decide ((bif sg3 x y != 0 then sg3 x y else 0) < 0) = ltI x y := by
  rw [sg_step x y 0 false rfl]
  by_cases h : x = y
  · subst h; simp [ltI]
  · have : (x != y) = true := by simpa using h
    rw [this, cond_true]
theorem bif_some {α : Type} (c : Bool) (x y : α) : (bif c then some x else some y) = some (bif c then x else y) := by cases c <;> rfl
theorem sg8_step (g h : Nat → Int) (m i : Nat) : decide (sg8 g h (m + 1) i < 0) = bif g i != h i then ltI (g i) (h i) else decide (sg8 g h m (i + 1) < 0) := sg_step (g i) (h i) _ _ rfl
theorem sg8_last (g h : Nat → Int) (i : Nat) : decide (sg8 g h 1 i < 0) = ltI (g i) (h i) := sg_last (g i) (h i)
theorem sg8_lt (g h : Nat → Int) : decide (sg8 g h 8 0 < 0) = bif g 0 != h 0 then ltI (g 0) (h 0) else bif g 1 != h 1 then ltI (g 1) (h 1) else bif g 2 != h 2 then ltI (g 2) (h 2) else bif g 3 != h 3 then ltI (g 3) (h 3) else bif g 4 != h 4 then ltI (g 4) (h 4) else bif g 5 != h 5 then ltI (g 5) (h 5) else bif g 6 != h 6 then ltI (g 6) (h 6) else ltI (g 7) (h 7) := by
  rw [sg8_step, sg8_step, sg8_step, sg8_step, sg8_step, sg8_step, sg8_step, sg8_last]
theorem compare_eq (a0 a1 a2 a3 a4 a5 a6 a7 a8 b0 b1 b2 b3 b4 b5 b6 b7 b8 : Int) : ∃ d, f_ring_compare a0 a1 a2 a3 a4 a5 a6 a7 a8 b0 b1 b2 b3 b4 b5 b6 b7 b8 = some d ∧ decide (d < 0) = lt (a0, a1, a2, a3, a4, a5, a6, a7, a8) (b0, b1, b2, b3, b4, b5, b6, b7, b8) := by
  unfold f_ring_compare K_ring_compare
  rw [cmp_sg, Option.bind_some, compare8, Option.bind_some]
  rw [bif_some]
  refine ⟨_, rfl, ?_⟩
  refine (sg_step a0 b0 _ _ (sg8_lt _ _)).trans ?_
  rfl
/-! the search -/
theorem cut_of {n : Nat} (p : Nat → Bool) (hm : ∀ i j, i ≤ j → j < n → p j = true → p i = true) : ∃ k, k ≤ n ∧ (∀ j, j < k → p j = true) ∧ ∀ j, k ≤ j → j < n → p j = false := by
  induction n with
  | zero => exact ⟨0, Nat.le_refl _, fun j h => by omega, fun j _ h => by omega⟩
  | succ n ih =>
    obtain ⟨k, h1, h2, h3⟩ := ih fun i j hij hj => hm i j hij (by omega)
    cases hn : p n
    · refine ⟨k, by omega, h2, fun j hk hj => ?_⟩
      rcases Nat.lt_or_ge j n with h | h
      · exact h3 j hk h
      · rw [show j = n by omega]; exact hn
    · refine ⟨n + 1, Nat.le_refl _, fun j hj => ?_, fun j h1 h2 => by omega⟩
      exact hm j n (by omega) (by omega) hn
theorem search_eq (n : Nat) (hn : n ≤ 150) (s0 s1 s2 s3 s4 s5 s6 s7 s8 : Int) (g0 g1 g2 g3 g4 g5 g6 g7 g8 : Nat → Int) (hs : Srt (tab n (row g0 g1 g2 g3 g4 g5 g6 g7 g8))) :
    ∃ p e, p ≤ n ∧ (∀ j, j < p → lt (row g0 g1 g2 g3 g4 g5 g6 g7 g8 j) (s0, s1, s2, s3, s4, s5, s6, s7, s8) = true) ∧ (∀ j, p ≤ j → j < n → lt (row g0 g1 g2 g3 g4 g5 g6 g7 g8 j) (s0, s1, s2, s3, s4, s5, s6, s7, s8) = false) ∧ f_slices_BinarySearchFunc___api_Sample_api_Sample_api_Sample_ n s0 s1 s2 s3 s4 s5 s6 s7 s8 g0 g1 g2 g3 g4 g5 g6 g7 g8 true = some (Int.ofNat p, e) := by
  obtain ⟨p, hp, h1, h2⟩ := cut_of (n := n) (fun j => lt (row g0 g1 g2 g3 g4 g5 g6 g7 g8 j) (s0, s1, s2, s3, s4, s5, s6, s7, s8)) fun i j hij hj hl => by
    cases hi : lt (row g0 g1 g2 g3 g4 g5 g6 g7 g8 i) (s0, s1, s2, s3, s4, s5, s6, s7, s8)
    · have := le_trans' hi (tab_srt hs hij hj)
      rw [this] at hl; cases hl
    · rfl
  obtain ⟨e, he⟩ : ∃ e, (bif decide (Int.ofNat p < Int.ofNat n) then bif inR (Int.ofNat p) n then Option.bind (f_ring_compare (g0 (Int.toNat (Int.ofNat p))) (g1 (Int.toNat (Int.ofNat p))) (g2 (Int.toNat (Int.ofNat p))) (g3 (Int.toNat (Int.ofNat p))) (g4 (Int.toNat (Int.ofNat p))) (g5 (Int.toNat (Int.ofNat p))) (g6 (Int.toNat (Int.ofNat p))) (g7 (Int.toNat (Int.ofNat p))) (g8 (Int.toNat (Int.ofNat p))) s0 s1 s2 s3 s4 s5 s6 s7 s8) fun (d : Int) => some (Int.ofNat p, d == 0) else none else some (Int.ofNat p, false)) = some (Int.ofNat p, e) := by
    by_cases hpn : p < n
    · have e1 : decide (Int.ofNat p < Int.ofNat n) = true := by simp only [Int.ofNat_eq_natCast]; exact decide_eq_true (by omega)
      have e2 : inR (Int.ofNat p) n = true := by unfold inR; simp only [Int.ofNat_eq_natCast, Bool.and_eq_true, decide_eq_true_eq]; omega
      obtain ⟨d, hd, _⟩ := compare_eq (g0 (Int.toNat (Int.ofNat p))) (g1 (Int.toNat (Int.ofNat p))) (g2 (Int.toNat (Int.ofNat p))) (g3 (Int.toNat (Int.ofNat p))) (g4 (Int.toNat (Int.ofNat p))) (g5 (Int.toNat (Int.ofNat p))) (g6 (Int.toNat (Int.ofNat p))) (g7 (Int.toNat (Int.ofNat p))) (g8 (Int.toNat (Int.ofNat p))) s0 s1 s2 s3 s4 s5 s6 s7 s8
      rw [e1, e2, hd]
      exact ⟨_, rfl⟩
    · have e1 : decide (Int.ofNat p < Int.ofNat n) = false := by simp only [Int.ofNat_eq_natCast]; exact decide_eq_false (by omega)
      rw [e1]; exact ⟨_, rfl⟩
  refine ⟨p, e, hp, h1, h2, ?_⟩
  unfold f_slices_BinarySearchFunc___api_Sample_api_Sample_api_Sample_ K_slices_BinarySearchFunc___api_Sample_api_Sample_api_Sample_ L_slices_BinarySearchFunc___api_Sample_api_Sample_api_Sample__0
  refine loopK_inv (fun t d => ∃ i j : Nat, i + t = j ∧ i ≤ p ∧ p ≤ j ∧ j ≤ n ∧ d = (n, true, Int.ofNat n, Int.ofNat i, Int.ofNat j, n, g0, g1, g2, g3, g4, g5, g6, g7, g8, s0, s1, s2, s3, s4, s5, s6, s7, s8)) ?_ 200 n _ (by omega) ⟨0, n, by omega, by omega, hp, Nat.le_refl _, rfl⟩
  rintro t _ c ⟨i, j, hij, hip, hpj, hjn, rfl⟩ hc
  unfold S_slices_BinarySearchFunc___api_Sample_api_Sample_api_Sample__0
  simp only
  rcases Nat.eq_zero_or_pos t with h0 | h0
  · have e1 : decide (Int.ofNat i < Int.ofNat j) = false := by simp only [Int.ofNat_eq_natCast]; exact decide_eq_false (by omega)
    rw [e1, cond_false]
    obtain rfl : i = p := by omega
    exact he
  · have e1 : decide (Int.ofNat i < Int.ofNat j) = true := by simp only [Int.ofNat_eq_natCast]; exact decide_eq_true (by omega)
    have e2 : IntKind.wrap IntKind.i64 (Int.fdiv (IntKind.wrap IntKind.u64 (IntKind.wrap IntKind.i64 (Int.ofNat i + Int.ofNat j))) 2) = Int.ofNat ((i + j) / 2) := by
      simp only [Int.ofNat_eq_natCast]
      rw [wrap_i64 (n := (i : Int) + j) (by omega) (by omega), wrap_u64, Int.emod_eq_of_lt (by omega) (by omega), Int.fdiv_eq_ediv_of_nonneg _ (by omega), wrap_i64 (by omega) (by omega)]
      omega
    generalize hm : (i + j) / 2 = m at e2
    have hmi : i ≤ m := by omega
    have hmj : m < j := by omega
    have e3 : inR (Int.ofNat m) n = true := by unfold inR; simp only [Int.ofNat_eq_natCast, Bool.and_eq_true, decide_eq_true_eq]; omega
    have e4 : IntKind.wrap IntKind.i64 (Int.ofNat m + 1) = Int.ofNat (m + 1) := (wrap_i64 (by simp only [Int.ofNat_eq_natCast]; omega) (by simp only [Int.ofNat_eq_natCast]; omega)).trans rfl
    have e5 : Int.toNat (Int.ofNat m) = m := by simp
    obtain ⟨d, hd, hdl⟩ := compare_eq (g0 m) (g1 m) (g2 m) (g3 m) (g4 m) (g5 m) (g6 m) (g7 m) (g8 m) s0 s1 s2 s3 s4 s5 s6 s7 s8
    rw [e1, e2, e3, e4, e5, hd, Option.bind_some, cond_true, cond_true, hdl]
    cases hl : lt (g0 m, g1 m, g2 m, g3 m, g4 m, g5 m, g6 m, g7 m, g8 m) (s0, s1, s2, s3, s4, s5, s6, s7, s8)
    · rw [cond_false]
      refine hc (m - i) _ (by omega) ⟨i, m, by omega, hip, ?_, by omega, rfl⟩
      rcases Nat.lt_or_ge m p with h | h
      · have := h1 m h
        simp only [row] at this
        rw [hl] at this; cases this
      · exact h
    · rw [cond_true]
      refine hc (j - (m + 1)) _ (by omega) ⟨m + 1, j, by omega, ?_, hpj, hjn, rfl⟩
      rcases Nat.lt_or_ge m p with h | h
      · exact h
      · have := h2 m h (by omega)
        simp only [row] at this
        rw [hl] at this; cases this
end Go.Proofs.Ythbnojedlbeglaa
