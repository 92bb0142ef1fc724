/-
  The abstract machine and the model: two values told apart.
-/
import Derived.Test.YtphkdkkbbfnkaaaGreatAbF
namespace Go.Ab
variable [Amb]
section
variable {P : Program} {g : Gt}

theorem eqFs_run {rec_ : TypeId → RV → RV → Rd Bool} {D : Nat} (hrec : ∀ t x y r l, Ran (rec_ t x y) g r l → ∀ (π : Pi) a b (w : World), x.rel π a → y.rel π b → (Op.equalIn D t a b).run P w = .ok r w) {xs ys : Blk} : ∀ {fs : List Field} {r : Bool} {l : List Fp}, Ran (eqFs P rec_ xs ys fs) g r l →
    ∀ (π : Pi) (as bs : Array Value) (w : World), All2 (CV.rel π) xs.list as.toList → All2 (CV.rel π) ys.list bs.toList → (Op.eqFields D as bs fs).run P w = .ok r w
  | [], r, l, h, π, as, bs, w, _, _ => by cases h; simp [Op.eqFields]
  | f :: fs, r, l, h, π, as, bs, w, ha, hb => by
    simp only [eqFs] at h
    split at h
    · rename_i hn
      obtain ⟨x, ⟨_, h1⟩, _, h⟩ := Ran.bind' h
      obtain ⟨y, ⟨_, h2⟩, _, h⟩ := Ran.bind' h
      obtain ⟨r1, ⟨_, h3⟩, _, h⟩ := Ran.bind' h
      obtain ⟨r2, ⟨_, h4⟩, _, h⟩ := Ran.bind' h
      cases h
      obtain ⟨u, hu, hru⟩ := h1.partK ha w
      obtain ⟨v, hv, hrv⟩ := h2.partK hb w
      have e3 := hrec _ _ _ _ _ h3 π u v w hru hrv
      have e4 := eqFs_run hrec h4 π as bs w ha hb
      simp only [Op.eqFields, if_pos hn, Sem.run_bind, hu, hv, e3, Result.andThen_ok]
      cases r1 <;> simp [e4]
    · rename_i hn
      have e4 := eqFs_run hrec h π as bs w ha hb
      simp only [Op.eqFields, if_neg hn]; exact e4
theorem eqAs_run {rec_ : TypeId → RV → RV → Rd Bool} {D : Nat} {e : TypeId} {z : Nat} (hrec : ∀ t x y r l, Ran (rec_ t x y) g r l → ∀ (π : Pi) a b (w : World), x.rel π a → y.rel π b → (Op.equalIn D t a b).run P w = .ok r w) {xs ys : Blk} : ∀ {is : List Nat} {r : Bool} {l : List Fp}, Ran (eqAs P rec_ e z xs ys is) g r l →
    ∀ (π : Pi) (as bs : Array Value) (w : World), All2 (CV.rel π) xs.list as.toList → All2 (CV.rel π) ys.list bs.toList →
      (forIn is ((none, ()) : Option Bool × Unit) (fun i (_ : Option Bool × Unit) => (do
        let a ← part e as (i * z)
        let b ← part e bs (i * z)
        let c ← Op.equalIn D e a b
        if (!c) = true then pure (ForInStep.done (some false, ())) else pure (ForInStep.yield (none, ())) : Sem (ForInStep (Option Bool × Unit))))).run P w = .ok (if r then (none, ()) else (some false, ())) w
  | [], r, l, h, π, as, bs, w, _, _ => by cases h; simp
  | i :: is, r, l, h, π, as, bs, w, ha, hb => by
    obtain ⟨x, ⟨_, h1⟩, _, h⟩ := Ran.bind' h
    obtain ⟨y, ⟨_, h2⟩, _, h⟩ := Ran.bind' h
    obtain ⟨r1, ⟨_, h3⟩, _, h⟩ := Ran.bind' h
    obtain ⟨r2, ⟨_, h4⟩, _, h⟩ := Ran.bind' h
    cases h
    obtain ⟨u, hu, hru⟩ := h1.partK ha w
    obtain ⟨v, hv, hrv⟩ := h2.partK hb w
    have e3 := hrec _ _ _ _ _ h3 π u v w hru hrv
    have e4 := eqAs_run hrec h4 π as bs w ha hb
    rw [List.forIn_cons]
    simp only [Sem.run_bind, hu, hv, e3, Result.andThen_ok]
    cases r1
    · simp
    · simp only [Bool.not_true, Bool.false_eq_true, if_false, Sem.run_pure, Result.andThen_ok, Bool.true_and]
      exact e4
omit [Amb] in
theorem rget_one (c : Col) (j : Nat) : rget [c] j = .f (c.at j) := by
  unfold rget
  simp [Nat.mod_one]
theorem scalar_run {e : TypeId} {c c' : Col} {n : Nat} {r : Bool} (hs : scalarT P e [c] = true) (hc : colEq n [c] [c'] = some r) {D D2 : Nat} (hD : D = D2 + 1) (w : World) : ∃ q : Nat → Bool, r = allN n q ∧
    ∀ i a b, (c.at i).rel a → (c'.at i).rel b → (Op.equalIn D e a b).run P w = .ok (q i) w := by
  subst hD
  unfold scalarT at hs
  split at hs
  · rename_i g1 hu hcc
    cases hcc
    unfold colEq at hc
    split at hc
    · rename_i h1 h2; cases h1
    · rename_i g h h1 h2
      cases h1; cases h2
      cases hc
      refine ⟨_, rfl, fun i a b ha hb => ?_⟩
      have ha : a = .bool (g1 i) := ha
      have hb : b = .bool (h i) := hb
      subst ha hb
      exact run_equalIn_bool w D2 e _ _ hu
    · cases hc
  · rename_i k0 k1 g1 hu hcc
    cases hcc
    unfold colEq at hc
    split at hc
    · rename_i k g k' h h1 h2
      cases h1; cases h2
      split at hc
      · rename_i hk
        subst hk
        cases hc
        refine ⟨_, rfl, fun i a b ha hb => ?_⟩
        have ha : a = .int k1 (g1 i) := ha
        have hb : b = .int k1 (h i) := hb
        subst ha hb
        exact run_equalIn_int w D2 e k1 k0 _ _ hu
      · cases hc
    · rename_i h1 h2; cases h1
    · cases hc
  · cases hs
omit [Amb] in
theorem scalar_agg {e : TypeId} {c : Col} (hs : scalarT P e [c] = true) : aggT P e = some false := by
  unfold scalarT at hs
  unfold aggT
  split at hs
  · rename_i hu _; rw [hu]
  · rename_i hu _; rw [hu]
  · cases hs
theorem eqRow_loop {e : TypeId} {D n : Nat} {c c' : Col} {q : Nat → Bool} {w : World} (hagg : aggT P e = some false) (hq : ∀ i a b, (c.at i).rel a → (c'.at i).rel b → (Op.equalIn D e a b).run P w = .ok (q i) w) {π : Pi} {as bs : Array Value}
    (ha : All2 (CV.rel π) (Blk.list [.a (.l n) [c]]) as.toList) (hb : All2 (CV.rel π) (Blk.list [.a (.l n) [c']]) bs.toList) : ∀ {is : List Nat}, (∀ i ∈ is, i < n) →
      (forIn is ((none, ()) : Option Bool × Unit) (fun i (_ : Option Bool × Unit) => (do
        let a ← part e as (i * 1)
        let b ← part e bs (i * 1)
        let c ← Op.equalIn D e a b
        if (!c) = true then pure (ForInStep.done (some false, ())) else pure (ForInStep.yield (none, ())) : Sem (ForInStep (Option Bool × Unit))))).run P w = .ok (if is.all q then (none, ()) else (some false, ())) w
  | [], _ => by simp
  | i :: is, hi => by
    have cell : ∀ {c : Col} {as : Array Value}, All2 (CV.rel π) (Blk.list [.a (.l n) [c]]) as.toList → ∃ x, (part e as (i * 1)).run P w = .ok x w ∧ (c.at i).rel x := fun {c as} ha => by
      have hs : Blk.size [.a (.l n) [c]] = n := by simp [Blk.size, Sg.size, Sz.val]
      have hin := hi i (by simp)
      obtain ⟨x, hx, hr⟩ := (list_rel ha).2 i (by rw [hs]; exact hin)
      rw [Blk.get_lt (by simp [Sg.size, Sz.val]; exact hin), Sg.get_a, rget_one] at hr
      refine ⟨x, ?_, hr⟩
      have : as[i]? = some x := by simpa using hx
      simp [part, run_isAgg hagg, this]
    obtain ⟨u, hu, hru⟩ := cell ha
    obtain ⟨v, hv, hrv⟩ := cell hb
    have e3 := hq i u v hru hrv
    have e4 := eqRow_loop hagg hq ha hb (is := is) fun j hj => hi j (by simp [hj])
    rw [List.forIn_cons]
    simp only [Sem.run_bind, hu, hv, e3, Result.andThen_ok]
    cases hqi : q i
    · simp [hqi]
    · simp only [Bool.not_true, Bool.false_eq_true, if_false, Sem.run_pure, Result.andThen_ok, List.all_cons, hqi, Bool.true_and]
      exact e4
theorem eqT_run : ∀ {d : Nat} {t : TypeId} {x y : RV} {r : Bool} {l : List Fp}, Ran (eqT P d t x y) g r l → ∀ (D : Nat), d ≤ D → ∀ (π : Pi) a b (w : World), x.rel π a → y.rel π b → (Op.equalIn D t a b).run P w = .ok r w
  | 0, _, _, _, _, _, h, _, _, _, _, _, _, _, _ => by cases h
  | d + 1, t, x, y, r, l, h, D, hD, π, a, b, w, hx, hy => by
    obtain ⟨D', rfl⟩ : ∃ D', D = D' + 1 := ⟨D - 1, by omega⟩
    have ih : ∀ t x y r l, Ran (eqT P d t x y) g r l → ∀ (π : Pi) a b (w : World), x.rel π a → y.rel π b → (Op.equalIn D' t a b).run P w = .ok r w := fun t x y r l h π a b w hx hy => eqT_run h D' (by omega) π a b w hx hy
    unfold eqT at h
    split at h
    · rename_i p q hu
      cases h
      have hx : a = _ := hx
      have hy : b = _ := hy
      subst hx hy
      exact run_equalIn_bool w D' t p q hu
    · rename_i k0 k p k' q hu
      have hx : a = _ := hx
      have hy : b = _ := hy
      subst hx hy
      split at h
      · rename_i hk
        subst hk
        cases h
        exact run_equalIn_int w D' t k k0 p q hu
      · cases h
    · rename_i p q hu
      cases h
      have hx : a = _ := hx
      have hy : b = _ := hy
      subst hx hy
      rw [run_equalIn_string w D' t p q hu, beq_toListBytes]
    · rename_i e hu
      cases h
      have hx : a = _ := hx
      have hy : b = _ := hy
      subst hx hy
      simp [Op.equalIn, run_underlying hu]
    · rename_i e p1 p2 p3 hu
      cases h
      obtain ⟨B, s, q', e', _, hx, _⟩ := hx
      have hy : b = _ := hy
      subst hx hy
      simp [Op.equalIn, run_underlying hu]
    · rename_i e p1 p2 p3 hu
      cases h
      obtain ⟨B, s, q', e', _, hy, _⟩ := hy
      have hx : a = _ := hx
      subst hx hy
      simp [Op.equalIn, run_underlying hu]
    · rename_i fs xs ys hu
      split at h
      · cases h
      · rename_i hst
        obtain ⟨as, rfl, has⟩ := hx
        obtain ⟨bs, rfl, hbs⟩ := hy
        have hf : P.fieldsOf t = fs := by simp [Program.fieldsOf, hu]
        rw [run_equalIn_struct w D' t as bs (by rw [hf]; exact hu) hst, hf]
        exact eqFs_run ih h π as bs w has hbs
    · rename_i n e xs ys hu
      obtain ⟨z, ⟨_, h1⟩, _, h⟩ := Ran.bind' h
      obtain ⟨as, rfl, has⟩ := hx
      obtain ⟨bs, rfl, hbs⟩ := hy
      have e1 : List.range' 0 [:n].size = List.range n := by
        rw [List.range_eq_range']; simp [Std.Legacy.Range.size]
      split at h
      · rename_i r' hrow
        cases h
        unfold eqRow at hrow
        split at hrow
        · rename_i m c m' c'
          split at hrow
          · rename_i hc
            simp only [Bool.and_eq_true, beq_iff, ble_iff] at hc
            obtain ⟨hd1, rfl, rfl, rfl, hsc⟩ := hc
            obtain ⟨c0, rfl⟩ : ∃ c0, c = [c0] := by
              unfold scalarT at hsc
              split at hsc
              · exact ⟨_, rfl⟩
              · exact ⟨_, rfl⟩
              · cases hsc
            obtain ⟨c1, rfl⟩ : ∃ c1, c' = [c1] := by
              unfold colEq at hrow
              split at hrow
              · exact ⟨_, rfl⟩
              · exact ⟨_, rfl⟩
              · cases hrow
            obtain ⟨q, hq1, hq2⟩ := scalar_run hsc hrow (show D' = D' - 1 + 1 by omega) w
            have key := eqRow_loop (P := P) (scalar_agg hsc) hq2 has hbs (is := List.range m') (fun i hi => List.mem_range.1 hi)
            simp only [Op.equalIn, Sem.run_bind, run_underlying hu, Result.andThen_ok, run_sizeOf h1.ofO, Std.Legacy.Range.forIn_eq_forIn_range']
            rw [e1, key, hq1]
            unfold allN
            cases (List.range m').all q <;> simp
          · cases hrow
        · cases hrow
      · have key := eqAs_run ih h π as bs w has hbs
        simp only [Op.equalIn, Sem.run_bind, run_underlying hu, Result.andThen_ok, run_sizeOf h1.ofO, Std.Legacy.Range.forIn_eq_forIn_range']
        rw [e1, key]
        cases r <;> simp
    · cases h

theorem eqV_run {t : TypeId} {x y : RV} {r : Bool} {l : List Fp} (h : Ran (eqV P t x y) g r l) (π : Pi) (a b : Value) (w : World) (hx : x.rel π a) (hy : y.rel π b) :
    (∀ (op : BinOp) (p q : Operand), (eqGuard op t p q a b).run P w = .ok () w) ∧ (binOp .eql t a b).run P w = .ok (.bool r) w ∧ (binOp .neq t a b).run P w = .ok (.bool (!r)) w := by
  unfold eqV at h
  split at h
  · rename_i xs ys
    split at h
    · cases h
    · rename_i hg
      obtain ⟨as, rfl, has⟩ := hx
      obtain ⟨bs, rfl, hbs⟩ := hy
      have e := eqT_run (x := .agg xs) (y := .agg ys) h 10000 (by omega) π (.agg as) (.agg bs) w ⟨as, rfl, has⟩ ⟨bs, rfl, hbs⟩
      refine ⟨fun op p q => run_eqGuard_agg w op t p q as bs hg, ?_, ?_⟩
      · rw [run_eql_struct, e]; rfl
      · rw [run_neq_struct, e]; rfl
  · cases h
  · cases h
  · cases h
  · cases h
  · have e := eqT_run h 10000 (by omega) π a b w hx hy
    have e' : (Op.equal t a b).run P w = .ok r w := e
    -- what the operands are
    unfold eqT at h
    split at h
    · have hx : a = _ := hx
      have hy : b = _ := hy
      subst hx hy
      have := eql_run (by intros; simp) (by intros; simp) (by intros; simp) (by intros; simp) e'
      exact ⟨fun op p q => eqGuard_bool op t p q _ _ w, this⟩
    · exfalso; simp_all
    · exfalso; simp_all
    · have hx : a = _ := hx
      have hy : b = _ := hy
      subst hx hy
      have := eql_run (by intros; simp) (by intros; simp) (by intros; simp) (by intros; simp) e'
      exact ⟨fun op p q => eqGuard_ptr op t p q _ _ w, this⟩
    · obtain ⟨B, s, q', e', _, hx, _⟩ := hx
      have hy : b = _ := hy
      subst hx hy
      have := eql_run (by intros; simp) (by intros; simp) (by intros; simp) (by intros; simp) e
      exact ⟨fun op p q => eqGuard_ptr op t p q _ _ w, this⟩
    · obtain ⟨B, s, q', e', _, hy, _⟩ := hy
      have hx : a = _ := hx
      subst hx hy
      have := eql_run (by intros; simp) (by intros; simp) (by intros; simp) (by intros; simp) e
      exact ⟨fun op p q => eqGuard_ptr op t p q _ _ w, this⟩
    · exfalso; simp_all
    · exfalso; simp_all
    · cases h
end
end Go.Ab
