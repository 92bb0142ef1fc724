/-
  The abstract machine and the model: what a value, a heap, a state stand for; what a reading yields; that it hangs on what it notes alone.
-/
import Derived.Test.YtphkdkkbbfnkaaaGreatAbA
import Derived.Laws.IdiomCopy
import Derived.Laws.Cells
import Derived.Laws.Entries
namespace Go.Ab

def All2 {α β : Type} (R : α → β → Prop) : List α → List β → Prop
  | [], [] => True
  | a :: l, b :: m => R a b ∧ All2 R l m
  | _, _ => False
theorem All2.imp {α β : Type} {R S : α → β → Prop} (h : ∀ a b, R a b → S a b) : ∀ {l : List α} {m : List β}, All2 R l m → All2 S l m
  | [], [], _ => trivial
  | _ :: _, _ :: _, ⟨a, b⟩ => ⟨h _ _ a, All2.imp h b⟩
  | [], _ :: _, h => h.elim
  | _ :: _, [], h => h.elim
theorem All2.length {α β : Type} {R : α → β → Prop} : ∀ {l : List α} {m : List β}, All2 R l m → l.length = m.length
  | [], [], _ => rfl
  | _ :: _, _ :: _, ⟨_, b⟩ => by simp [All2.length b]
  | [], _ :: _, h => h.elim
  | _ :: _, [], h => h.elim
theorem All2.append {α β : Type} {R : α → β → Prop} : ∀ {l : List α} {m : List β} {l' : List α} {m' : List β}, All2 R l m → All2 R l' m' → All2 R (l ++ l') (m ++ m')
  | [], [], _, _, _, h => h
  | _ :: _, _ :: _, _, _, ⟨a, b⟩, h => ⟨a, All2.append b h⟩
  | [], _ :: _, _, _, h, _ => h.elim
  | _ :: _, [], _, _, h, _ => h.elim
theorem All2.get {α β : Type} {R : α → β → Prop} : ∀ {l : List α} {m : List β}, All2 R l m → ∀ {i : Nat} {a : α}, l[i]? = some a → ∃ b, m[i]? = some b ∧ R a b
  | a :: l, b :: m, ⟨h, _⟩, 0, x, e => ⟨b, rfl, by simp at e; exact e ▸ h⟩
  | a :: l, b :: m, ⟨_, h⟩, i + 1, x, e => by simp at e ⊢; exact All2.get h e
  | [], _, _, i, a, e => by simp at e
  | _ :: _, [], h, _, _, _ => h.elim
theorem All2.get' {α β : Type} {R : α → β → Prop} : ∀ {l : List α} {m : List β}, All2 R l m → ∀ {i : Nat} {b : β}, m[i]? = some b → ∃ a, l[i]? = some a ∧ R a b
  | a :: l, b :: m, ⟨h, _⟩, 0, x, e => ⟨a, rfl, by simp at e; exact e ▸ h⟩
  | a :: l, b :: m, ⟨_, h⟩, i + 1, x, e => by simp at e ⊢; exact All2.get' h e
  | _, [], _, i, a, e => by simp at e
  | [], _ :: _, h, _, _, _ => h.elim
theorem All2.of_get {α β : Type} {R : α → β → Prop} : ∀ {l : List α} {m : List β}, l.length = m.length → (∀ (i : Nat) a b, l[i]? = some a → m[i]? = some b → R a b) → All2 R l m
  | [], [], _, _ => trivial
  | a :: l, b :: m, e, h => ⟨h 0 a b rfl rfl, All2.of_get (by simpa using e) fun i x y hx hy => h (i + 1) x y (by simpa using hx) (by simpa using hy)⟩
  | [], _ :: _, e, _ => by simp at e
  | _ :: _, [], e, _ => by simp at e
theorem All2.take {α β : Type} {R : α → β → Prop} : ∀ {l : List α} {m : List β} (n : Nat), All2 R l m → All2 R (l.take n) (m.take n)
  | [], [], n, _ => by simp [All2]
  | _ :: _, _ :: _, 0, _ => by simp [All2]
  | _ :: _, _ :: _, n + 1, ⟨a, b⟩ => ⟨a, All2.take n b⟩
  | [], _ :: _, _, h => h.elim
  | _ :: _, [], _, h => h.elim
theorem All2.drop {α β : Type} {R : α → β → Prop} : ∀ {l : List α} {m : List β} (n : Nat), All2 R l m → All2 R (l.drop n) (m.drop n)
  | [], [], n, _ => by simp [All2]
  | _ :: _, _ :: _, 0, h => h
  | _ :: _, _ :: _, n + 1, ⟨_, b⟩ => All2.drop n b
  | [], _ :: _, _, h => h.elim
  | _ :: _, [], _, h => h.elim

abbrev Pi := Nat → Option (Nat × Nat × Nat × Nat)
def Ext (π π' : Pi) : Prop := ∀ b p, π b = some p → π' b = some p
theorem Ext.refl (π : Pi) : Ext π π := fun _ _ h => h
theorem Ext.trans {π π' π'' : Pi} (h : Ext π π') (k : Ext π' π'') : Ext π π'' := fun b p e => k b p (h b p e)

class Amb where
  h0 : Nat
  fs : Nat → Nat → Option Value
section
variable [Amb]

def FV.rel : FV → Value → Prop
  | .u, x => x.oneCell' = true
  | .b y, x => x = .bool y
  | .i k n, x => x = .int k n
  | .s y, x => x = .string y
  | .q n g, x => (n = 0 ∧ ∃ a, x = .slice a 0 0) ∨ ∃ B s cap, n ≤ cap ∧ x = .slice (some ⟨B, s, none⟩) n cap ∧ ∀ j, j < n → Amb.fs B (s + j) = some (.bool (g j))
def CV.rel (π : Pi) : CV → Value → Prop
  | .f v, x => v.rel x
  | .ptr b o n, x => ∃ B s q e, π b = some (B, s, q, e) ∧ x = .pointer (some ⟨B, s + o.val, none⟩) ∧ o.val + n ≤ q
  | .nilp, x => x = .pointer none
  | .sl b o n z own, x => ∃ B s q e, π b = some (B, s, q, e) ∧ o.val + n.val * z ≤ q ∧ (own = true → o.val + n.val * z = q) ∧ ((n.val = 0 ∧ ∃ a, x = .slice a 0 0) ∨ ∃ cap, n.val ≤ cap ∧ x = .slice (some ⟨B, s + o.val, none⟩) n.val cap ∧ (own = true → s + o.val + cap * z ≤ e))
  | .nils, x => x = .slice none 0 0
  | .nilf, x => x = .nilFunc
  | .nili, x => x = .nilIface
  | .cl fid b o n, x => ∃ B s q e, π b = some (B, s, q, e) ∧ x = .func (.func fid) #[] #[.pointer (some ⟨B, s + o.val, none⟩)] ∧ o.val + n ≤ q
  | .fs n z cols, x => cols.length = z ∧ ((n = 0 ∧ ∃ a, x = .slice a 0 0) ∨ ∃ B s cap, n ≤ cap ∧ x = .slice (some ⟨B, s, none⟩) n cap ∧ ∀ j, j < n * z → ∃ f v, rget cols j = .f f ∧ Amb.fs B (s + j) = some v ∧ f.rel v)
  | .fp l, x => ∃ B s, x = .pointer (some ⟨B, s, none⟩) ∧ ∀ j f, l[j]? = some f → ∃ v, Amb.fs B (s + j) = some v ∧ f.rel v
def RV.rel (π : Pi) : RV → Value → Prop
  | .c v, x => v.rel π x
  | .agg cs, x => ∃ a : Array Value, x = .agg a ∧ All2 (CV.rel π) cs.list a.toList
def AV.rel (π : Pi) : AV → Value → Prop
  | .r v, x => v.rel π x
  | .tup vs, x => ∃ a : Array Value, x = .tuple a ∧ All2 (RV.rel π) vs a.toList
  | .fn f vs, x => ∃ a : Array Value, x = .func (.func f) #[] a ∧ All2 (RV.rel π) vs a.toList
  | .und, _ => True

theorem FV.rel_one {v : FV} {x : Value} (h : v.rel x) : x.oneCell' = true := by
  cases v with
  | q n g =>
    simp only [FV.rel] at h
    obtain ⟨_, _, rfl⟩ | ⟨_, _, _, _, rfl, _⟩ := h <;> rfl
  | _ => simp [FV.rel] at h <;> first | exact h | (subst h; rfl)
theorem CV.rel_one {π : Pi} {v : CV} {x : Value} (h : v.rel π x) : x.oneCell' = true := by
  cases v <;> simp only [CV.rel] at h
  case f v => exact FV.rel_one h
  case ptr => obtain ⟨_, _, _, _, _, rfl, _⟩ := h; rfl
  case cl => obtain ⟨_, _, _, _, _, rfl, _⟩ := h; rfl
  case fs => obtain ⟨_, ⟨_, _, rfl⟩ | ⟨_, _, _, _, rfl, _⟩⟩ := h <;> rfl
  case fp => obtain ⟨_, _, rfl, _⟩ := h; rfl
  case sl => obtain ⟨_, _, _, _, _, _, _, ⟨_, _, rfl⟩ | ⟨_, _, rfl, _⟩⟩ := h <;> rfl
  all_goals (subst h; rfl)
theorem CV.rel_mono {π π' : Pi} (h : Ext π π') (v : CV) (x : Value) (r : v.rel π x) : v.rel π' x := by
  cases v <;> simp only [CV.rel] at r ⊢
  case ptr => obtain ⟨B, s, q, e, hb, hx⟩ := r; exact ⟨B, s, q, e, h _ _ hb, hx⟩
  case cl => obtain ⟨B, s, q, e, hb, hx⟩ := r; exact ⟨B, s, q, e, h _ _ hb, hx⟩
  case sl => obtain ⟨B, s, q, e, hb, hx⟩ := r; exact ⟨B, s, q, e, h _ _ hb, hx⟩
  all_goals exact r
theorem RV.rel_mono {π π' : Pi} (h : Ext π π') (v : RV) (x : Value) (r : v.rel π x) : v.rel π' x := by
  cases v <;> simp only [RV.rel] at r ⊢
  case c => exact CV.rel_mono h _ _ r
  case agg => obtain ⟨a, hx, ha⟩ := r; exact ⟨a, hx, ha.imp (CV.rel_mono h)⟩
theorem AV.rel_mono {π π' : Pi} (h : Ext π π') (v : AV) (x : Value) (r : v.rel π x) : v.rel π' x := by
  cases v <;> simp only [AV.rel] at r ⊢
  case r => exact RV.rel_mono h _ _ r
  case tup => obtain ⟨a, hx, ha⟩ := r; exact ⟨a, hx, ha.imp (RV.rel_mono h)⟩
  case fn => obtain ⟨a, hx, ha⟩ := r; exact ⟨a, hx, ha.imp (RV.rel_mono h)⟩

omit [Amb] in
theorem cells_one {x : Value} (h : x.oneCell' = true) : x.cells = #[x] := by
  cases x <;> simp_all [Value.oneCell', Value.cells]
omit [Amb] in
theorem list_one (v : CV) : Blk.list [.c v] = [v] := rfl
theorem RV.rel_cells {π : Pi} {v : RV} {x : Value} (h : v.rel π x) : All2 (CV.rel π) v.blk.list x.cells.toList := by
  cases v <;> simp only [RV.rel] at h
  case c v => rw [cells_one (CV.rel_one h)]; exact ⟨h, trivial⟩
  case agg => obtain ⟨a, rfl, ha⟩ := h; exact ha

structure Gt where
  t : Nat → AV
  c : Nat → Nat → CV
  z : Nat → Option Nat
noncomputable def St.gt (s : St) : Gt where
  t := s.tmp
  c := fun b j => match s.blk b with
    | some k => if j < k.size then k.get j else .f .u
    | none => .f .u
  z := fun b => (s.blk b).map Blk.size

inductive Pt where
  | t (i : Nat)
  | c (b j : Nat)
  | z (b : Nat)
inductive PV where
  | t (v : AV)
  | c (v : CV)
  | z (v : Option Nat)
def Gt.at (g : Gt) : Pt → PV
  | .t i => .t (g.t i)
  | .c b j => .c (g.c b j)
  | .z b => .z (g.z b)
omit [Amb] in
theorem Gt.ext_at {g g' : Gt} (h : ∀ p, g.at p = g'.at p) : g = g' := by
  cases g with | mk t c z => cases g' with | mk t' c' z' =>
  have h1 : t = t' := funext fun i => by simpa [Gt.at] using h (.t i)
  have h2 : c = c' := funext fun b => funext fun j => by simpa [Gt.at] using h (.c b j)
  have h3 : z = z' := funext fun b => by simpa [Gt.at] using h (.z b)
  subst h1 h2 h3; rfl

def inX (r : Option (Nat × Nat)) (j : Nat) : Prop :=
  match r with
  | some (lo, n) => lo ≤ j ∧ j < lo + n
  | none => True
def Fp.has : Fp → Pt → Prop
  | .t i, .t j => i = j
  | .c b r, .c b' j => b = b' ∧ inX r j
  | .z b, .z b' => b = b'
  | _, _ => False
def Up.touch : Up → Pt → Prop
  | .t i _, .t j => i = j
  | .c b o v, .c b' j => b = b' ∧ o.val ≤ j ∧ j < o.val + Blk.size v
  | .new b _, .c b' _ | .kill b, .c b' _ | .new b _, .z b' | .kill b, .z b' => b = b'
  | _, _ => False
omit [Amb] in
theorem szL_eq : ∀ {v : Blk} {n : Nat}, szL v = some n → Blk.size v = n
  | [], n, h => by simp only [szL, Option.some.injEq] at h; rw [← h]; rfl
  | .c _ :: r, n, h => by
    simp only [szL, Option.map_eq_some_iff] at h
    obtain ⟨m, h1, rfl⟩ := h
    rw [Blk.size_cons, Sg.size_c, szL_eq h1]
  | .a (.l k) cols :: r, n, h => by
    simp only [szL, Option.map_eq_some_iff] at h
    obtain ⟨m, h1, rfl⟩ := h
    rw [Blk.size_cons, Sg.size_a, szL_eq h1]; rfl
  | .a (.s _) _ :: _, n, h => by simp [szL] at h
omit [Amb] in
theorem extB_in {o : Off} {v : Blk} {j : Nat} (h1 : o.val ≤ j) (h2 : j < o.val + Blk.size v) : inX (extB o v) j := by
  unfold extB
  split
  · rename_i c
    cases hs : szL v with
    | none => trivial
    | some n =>
      have := szL_eq hs
      simp only [Option.map_some, inX]
      simp only [Off.val] at h1 h2
      omega
  · trivial
omit [Amb] in
theorem ext_in {o : Off} {cnt : Sz} {z j : Nat} (h : j < cnt.val * z) : inX (ext o cnt z) (o.val + j) := by
  unfold ext
  split
  · simp only [inX, Off.val]
    simp only [Sz.val] at h
    omega
  · trivial
omit [Amb] in
theorem meet_of {r r' : Option (Nat × Nat)} {j : Nat} (h1 : inX r j) (h2 : inX r' j) : meet r r' = true := by
  unfold meet
  split
  · simp only [inX] at h1 h2
    simp only [ovl, Bool.and_eq_true, blt_iff]; omega
  · rfl
omit [Amb] in
theorem Fp.hits_of {fp : Fp} {u : Up} {p : Pt} (h1 : fp.has p) (h2 : u.touch p) : fp.hits u = true := by
  cases fp <;> cases u <;> cases p <;> simp only [Fp.has, Up.touch, Fp.hits, beq_iff, Bool.and_eq_true] at * <;> first | omega | skip
  · exact ⟨by omega, meet_of h1.2 (extB_in h2.2.1 h2.2.2)⟩
omit [Amb] in
theorem Up.hits_of {u u' : Up} {p : Pt} (h1 : u.touch p) (h2 : u'.touch p) : u.hits u' = true := by
  cases u <;> cases u' <;> cases p <;> simp only [Up.touch, Up.hits, beq_iff, Bool.and_eq_true] at * <;> first | omega | skip
  · exact ⟨by omega, meet_of (extB_in h1.2.1 h1.2.2) (extB_in h2.2.1 h2.2.2)⟩

def Up.appG (u : Up) (g : Gt) : Gt :=
  match u with
  | .t i v => { g with t := fun j => if j = i then v else g.t j }
  | .c b o v => { g with c := fun b' j => if b' = b ∧ o.val ≤ j ∧ j < o.val + Blk.size v then Blk.get v (j - o.val) else g.c b' j }
  | .new b k => { g with c := fun b' j => if b' = b then (if j < k.size then k.get j else .f .u) else g.c b' j, z := fun b' => if b' = b then some k.size else g.z b' }
  | .kill b => { g with c := fun b' j => if b' = b then .f .u else g.c b' j, z := fun b' => if b' = b then none else g.z b' }
omit [Amb] in
theorem Up.at_appG_of_not {u : Up} {g : Gt} {p : Pt} (h : ¬ u.touch p) : (u.appG g).at p = g.at p := by
  cases u <;> cases p <;> simp_all [Up.touch, Up.appG, Gt.at] <;> first | (intro a; exact absurd a.symm (by assumption)) | (intros; omega) | (intro a; subst a; simp_all)
omit [Amb] in
theorem Up.at_appG_of {u : Up} {g g' : Gt} {p : Pt} (h : u.touch p) : (u.appG g).at p = (u.appG g').at p := by
  cases u <;> cases p <;> simp_all [Up.touch, Up.appG, Gt.at]
def appGs (us : List Up) (g : Gt) : Gt := us.foldl (fun g u => u.appG g) g
omit [Amb] in
theorem appGs_at_of_not : ∀ {us : List Up} {g : Gt} {p : Pt}, (∀ u ∈ us, ¬ u.touch p) → (appGs us g).at p = g.at p
  | [], _, _, _ => rfl
  | u :: us, g, p, h => by
    show (appGs us (u.appG g)).at p = _
    rw [appGs_at_of_not fun v hv => h v (by simp [hv]), Up.at_appG_of_not (h u (by simp))]
omit [Amb] in
theorem appGs_at_of : ∀ {us : List Up} {g g' : Gt} {p : Pt}, (∃ u ∈ us, u.touch p) ∨ g.at p = g'.at p → (appGs us g).at p = (appGs us g').at p
  | [], g, g', p, h => by
    rcases h with ⟨u, hu, _⟩ | h
    · simp at hu
    · exact h
  | u :: us, g, g', p, h => by
    show (appGs us (u.appG g)).at p = (appGs us (u.appG g')).at p
    apply appGs_at_of
    by_cases hu : u.touch p
    · exact .inr (Up.at_appG_of hu)
    · rcases h with ⟨v, hv, ht⟩ | h
      · rcases List.mem_cons.1 hv with rfl | hv
        · exact absurd ht hu
        · exact .inl ⟨v, hv, ht⟩
      · exact .inr (by rw [Up.at_appG_of_not hu, Up.at_appG_of_not hu, h])

/-! what a reading yields -/
inductive Ran {α : Type} : Rd α → Gt → α → List Fp → Prop where
  | ret (a : α) (g : Gt) : Ran (.ret a) g a []
  | tm {i : Nat} {k : AV → Rd α} {g : Gt} {a : α} {l : List Fp} (h : Ran (k (g.t i)) g a l) : Ran (.tm i k) g a (.t i :: l)
  | vw {b : Nat} {o : Off} {cnt : Sz} {z : Nat} {k : Blk → Rd α} {g : Gt} {a : α} {l : List Fp} (q : Nat) (v : Blk) (hz : g.z b = some q) (hs : Blk.size v = cnt.val * z) (hv : o.val + cnt.val * z ≤ q → ∀ j, j < cnt.val * z → Blk.get v j = g.c b (o.val + j)) (h : Ran (k v) g a l) : Ran (.vw b o cnt z k) g a (.c b (ext o cnt z) :: .z b :: l)
  | sz {b : Nat} {k : Rd α} {g : Gt} {a : α} {l : List Fp} (q : Nat) (hz : g.z b = some q) (h : Ran k g a l) : Ran (.sz b k) g a (.z b :: l)
  | test {x : Bool} {k : Bool → Rd α} {g : Gt} {a : α} {l : List Fp} (h : Ran (k x) g a l) : Ran (.test x k) g a l
  | opt {E : Type} {x : Option E} {k : E → Rd α} {d : E} {g : Gt} {a : α} {l : List Fp} (hx : x = some d) (h : Ran (k d) g a l) : Ran (.opt x k) g a l

omit [Amb] in
theorem Ran.local {α : Type} {m : Rd α} {g g' : Gt} {a : α} {l : List Fp} (h : Ran m g a l) : (∀ fp ∈ l, ∀ p, fp.has p → g.at p = g'.at p) → Ran m g' a l := by
  induction h with
  | ret a g => intro _; exact .ret _ _
  | @tm i k g a l h ih =>
    intro e
    have e1 : g.t i = g'.t i := by simpa [Gt.at] using e (.t i) (by simp) (.t i) rfl
    exact .tm (e1 ▸ ih fun fp hf => e fp (by simp [hf]))
  | @vw b o cnt z k g a l q v hz hs hv h ih =>
    intro e
    have e1 : g.z b = g'.z b := by simpa [Gt.at] using e (.z b) (by simp) (.z b) rfl
    refine .vw q v (e1 ▸ hz) hs (fun hle j hj => ?_) (ih fun fp hf => e fp (by simp [hf]))
    rw [hv hle j hj]
    simpa [Gt.at] using e (.c b (ext o cnt z)) (by simp) (.c b (o.val + j)) ⟨rfl, ext_in hj⟩
  | @sz b k g a l q hz h ih =>
    intro e
    have e1 : g.z b = g'.z b := by simpa [Gt.at] using e (.z b) (by simp) (.z b) rfl
    exact .sz q (e1 ▸ hz) (ih fun fp hf => e fp (by simp [hf]))
  | test h ih => intro e; exact .test (ih e)
  | opt hx h ih => intro e; exact .opt hx (ih e)

omit [Amb] in
theorem Ran.bind {α β : Type} {m : Rd α} {f : α → Rd β} {g : Gt} {b : β} {l : List Fp} (h : Ran (m.bind f) g b l) :
    ∃ a l1 l2, Ran m g a l1 ∧ Ran (f a) g b l2 ∧ l = l1 ++ l2 := by
  induction m generalizing l with
  | ret a => exact ⟨a, [], l, .ret _ _, h, rfl⟩
  | fail => cases h
  | tm i k ih => cases h with | tm h => obtain ⟨a, l1, l2, h1, h2, e⟩ := ih _ h; exact ⟨a, _, l2, .tm h1, h2, by simp [e]⟩
  | vw b o cnt z k ih => cases h with | vw q v hz hs hv h => obtain ⟨a, l1, l2, h1, h2, e⟩ := ih _ h; exact ⟨a, _, l2, .vw q v hz hs hv h1, h2, by simp [e]⟩
  | sz b k ih => cases h with | sz q hz h => obtain ⟨a, l1, l2, h1, h2, e⟩ := ih h; exact ⟨a, _, l2, .sz q hz h1, h2, by simp [e]⟩
  | opt x k ih => cases h with | opt hx h => obtain ⟨a, l1, l2, h1, h2, e⟩ := ih _ h; exact ⟨a, _, l2, .opt hx h1, h2, by simp [e]⟩
  | test x k ih => cases h with | test h => obtain ⟨a, l1, l2, h1, h2, e⟩ := ih _ h; exact ⟨a, _, l2, .test h1, h2, by simp [e]⟩
omit [Amb] in
theorem Ran.bind' {α β : Type} {m : Rd α} {f : α → Rd β} {g : Gt} {b : β} {l : List Fp} (h : Ran (m.bind f) g b l) :
    ∃ a, (∃ l1, Ran m g a l1) ∧ ∃ l2, Ran (f a) g b l2 := by
  obtain ⟨a, l1, l2, h1, h2, _⟩ := h.bind
  exact ⟨a, ⟨l1, h1⟩, l2, h2⟩

omit [Amb] in
theorem St.gt_z {s : St} {b : Nat} {k : Blk} (h : s.blk b = some k) : s.gt.z b = some k.size := by simp [St.gt, h]
omit [Amb] in
theorem St.gt_c {s : St} {b j : Nat} {k : Blk} (h : s.blk b = some k) (hj : j < k.size) : s.gt.c b j = k.get j := by simp [St.gt, h, hj]

omit [Amb] in
theorem Rd.run_sound {α ρ : Type} {m : Rd α} {s : St} {k : α → List Fp → Option ρ} {r : ρ} : ∀ {l : List Fp}, m.run s l k = some r →
    ∃ a fp, Ran m s.gt a fp ∧ k a (fp.reverse ++ l) = some r := by
  induction m with
  | ret a => intro l h; exact ⟨a, [], .ret _ _, h⟩
  | fail => intro l h; simp [Rd.run] at h
  | tm i f ih =>
    intro l h
    obtain ⟨a, fp, h1, h2⟩ := ih _ h
    exact ⟨a, .t i :: fp, .tm h1, by simpa using h2⟩
  | vw b o cnt z f ih =>
    intro l h
    simp only [Rd.run] at h
    split at h
    · rename_i blk hb
      split at h
      · rename_i p hp
        split at h
        · rename_i hg
          obtain ⟨a, fp, h1, h2⟩ := ih _ h
          obtain ⟨g, v⟩ := p
          simp only at hg h1
          subst hg
          obtain ⟨e1, e2⟩ := Blk.sub_spec hp
          exact ⟨a, .c b (ext o cnt z) :: .z b :: fp, .vw (Blk.size blk) _ (St.gt_z hb) e1 (fun hle j hj => (e2 hle j hj).trans (St.gt_c hb (by omega)).symm) h1, by simpa using h2⟩
        · simp at h
      · simp at h
    · simp at h
  | sz b f ih =>
    intro l h
    simp only [Rd.run] at h
    split at h
    · rename_i blk hb
      obtain ⟨a, fp, h1, h2⟩ := ih h
      exact ⟨a, .z b :: fp, .sz (Blk.size blk) (St.gt_z hb) h1, by simpa using h2⟩
    · simp at h
  | test x f ih =>
    intro l h
    cases x
    · obtain ⟨a, fp, h1, h2⟩ := ih _ h; exact ⟨a, fp, .test h1, h2⟩
    · obtain ⟨a, fp, h1, h2⟩ := ih _ h; exact ⟨a, fp, .test h1, h2⟩
  | opt x f ih =>
    intro l h
    cases x with
    | none => cases h
    | some d => obtain ⟨a, fp, h1, h2⟩ := ih d (l := l) h; exact ⟨a, fp, .opt rfl h1, h2⟩

/-! updates of a state, and of what can be asked of it -/
omit [Amb] in
theorem set_getD {α : Type} (l : List α) (i j : Nat) (v d : α) (h : i < l.length) : (l.set i v).getD j d = if j = i then v else l.getD j d := by
  simp only [List.getD, List.getElem?_set]
  by_cases e : i = j
  · subst e; simp [h]
  · simp [e, Ne.symm e]
omit [Amb] in
theorem tget_eq (l : List AV) (i : Nat) : tget l i = l.getD i udf := by
  induction l generalizing i with
  | nil => rfl
  | cons a l ih =>
    cases i with
    | zero => rfl
    | succ i => exact (ih i).trans (by simp [List.getD])
omit [Amb] in
theorem setN_eq {α ρ : Type} (l : List α) (i : Nat) (v : α) (k : List α → Option ρ) : setN l i v k = if i < l.length then k (l.set i v) else none := by
  induction l generalizing i k with
  | nil => rfl
  | cons a l ih =>
    cases i with
    | zero => rfl
    | succ i =>
      have : setN (a :: l) (i + 1) v k = setN l i v fun l' => k (a :: l') := rfl
      rw [this, ih]
      simp
omit [Amb] in
theorem blk_set {l : List (Option Blk)} {b b' : Nat} {x : Option Blk} (h : b < l.length) : ((l.set b x)[b']?).getD none = if b' = b then x else (l[b']?).getD none := by
  simp only [List.getElem?_set]
  by_cases e : b = b'
  · subst e; simp [h]
  · simp [e, Ne.symm e]
omit [Amb] in
theorem St.blk_lt {s : St} {b : Nat} {k : Blk} (h : s.blk b = some k) : b < s.heap.length := by
  rcases Nat.lt_or_ge b s.heap.length with h' | h'
  · exact h'
  · simp [St.blk, List.getElem?_eq_none h'] at h
omit [Amb] in
theorem blk_app {l : List (Option Blk)} {b' : Nat} {x : Option Blk} : ((l ++ [x])[b']?).getD none = if b' = l.length then x else (l[b']?).getD none := by
  rw [List.getElem?_append]
  by_cases h : b' < l.length
  · simp [h, Nat.ne_of_lt h]
  · by_cases e : b' = l.length
    · subst e; simp
    · rw [if_neg h, if_neg e, List.getElem?_eq_none (by simp; omega), List.getElem?_eq_none (by omega)]
omit [Amb] in
theorem Up.gt_app {s : St} {u : Up} (k : Nat) (h : u.ok s = true) : (u.app k s).gt = u.appG s.gt := by
  apply Gt.ext_at
  intro p
  cases u with
  | t i v =>
    have hi : i < s.tmps.length := by have h := h; simp [Up.ok, Nat.blt] at h; omega
    cases p <;> simp only [Gt.at, Up.app, Up.appG, St.gt, St.tmp, St.blk, PV.t.injEq]
    rw [tget_eq, tget_eq]
    exact set_getD _ _ _ _ _ hi
  | c b o v =>
    simp only [Up.ok] at h
    split at h
    · rename_i blk hb
      split at h
      · rename_i p' hp
        obtain ⟨g', nb⟩ := p'
        simp only [Bool.and_eq_true, ble_iff] at h
        obtain ⟨rfl, hle⟩ := h
        obtain ⟨hsz, hget⟩ := Blk.upd_spec hp
        have hlt := St.blk_lt hb
        have hblk : ∀ b', St.blk { s with heap := s.heap.set b (some nb), dirt := mark k b s.dirt } b' = if b' = b then some nb else s.blk b' := fun b' => blk_set hlt
        cases p with
        | t j => simp only [Gt.at, Up.app, Up.appG, St.gt, hb, St.tmp, hp]
        | c b' j =>
          simp only [Gt.at, Up.app, Up.appG, St.gt, hb, PV.c.injEq, hp, hblk]
          by_cases e : b' = b
          · subst e
            simp only [if_true, hb, hsz, true_and]
            by_cases hj : j < Blk.size blk
            · simp only [hj, if_true, hget j hj]
            · simp only [hj, if_false]
              rw [if_neg (by omega)]
          · simp only [e, if_false, false_and]
        | z b' =>
          simp only [Gt.at, Up.app, Up.appG, St.gt, hb, PV.z.injEq, hp, hblk]
          by_cases e : b' = b
          · subst e; simp [hb, hsz]
          · simp [e]
      · simp at h
    · simp at h
  | new b blk =>
    have hb : b = s.heap.length := Nat.eq_of_beq_eq_true h
    have hblk : ∀ b', St.blk { s with heap := s.heap ++ [some blk] } b' = if b' = b then some blk else s.blk b' := fun b' => by rw [hb]; exact blk_app
    cases p with
    | t j => simp only [Gt.at, Up.app, Up.appG, St.gt, St.tmp]
    | c b' j =>
      simp only [Gt.at, Up.app, Up.appG, St.gt, PV.c.injEq, hblk]
      by_cases e : b' = b <;> simp [e]
    | z b' =>
      simp only [Gt.at, Up.app, Up.appG, St.gt, PV.z.injEq, hblk]
      by_cases e : b' = b <;> simp [e]
  | kill b =>
    have hb : b < s.heap.length := by have h := h; simp [Up.ok, Nat.blt] at h; omega
    have hblk : ∀ b', St.blk { s with heap := s.heap.set b none, dirt := mark k b s.dirt } b' = if b' = b then none else s.blk b' := fun b' => blk_set hb
    cases p with
    | t j => simp only [Gt.at, Up.app, Up.appG, St.gt, St.tmp]
    | c b' j =>
      simp only [Gt.at, Up.app, Up.appG, St.gt, PV.c.injEq, hblk]
      by_cases e : b' = b <;> simp [e]
    | z b' =>
      simp only [Gt.at, Up.app, Up.appG, St.gt, PV.z.injEq, hblk]
      by_cases e : b' = b <;> simp [e]
omit [Amb] in
theorem appAll_gt {k : Nat} : ∀ {us : List Up} {s s' : St}, appAll k us s = some s' → s'.gt = appGs us s.gt
  | [], s, s', h => by simp [appAll] at h; subst h; rfl
  | u :: us, s, s', h => by
    simp only [appAll] at h
    split at h
    · rename_i hu
      rw [appAll_gt h, Up.gt_app k hu]; rfl
    · simp at h
/-! written out, it says the same -/
end
theorem forceL_eq {α ρ : Type} (l : List α) (k : List α → ρ) : forceL l k = k l := by
  induction l generalizing k with
  | nil => rfl
  | cons a l ih => exact ih fun l => k (a :: l)
theorem forceO_eq {ρ : Type} (o : Off) (k : Off → ρ) : forceO o k = k o := by cases o <;> rfl
theorem forceZ_eq {ρ : Type} (o : Sz) (k : Sz → ρ) : forceZ o k = k o := by cases o <;> rfl
theorem forceF_eq {ρ : Type} (o : FV) (k : FV → ρ) : forceF o k = k o := by cases o <;> rfl
theorem forceCol_eq {ρ : Type} (o : Col) (k : Col → ρ) : forceCol o k = k o := by cases o <;> rfl
theorem forceCols_eq {ρ : Type} (l : List Col) (k : List Col → ρ) : forceCols l k = k l := by
  induction l generalizing k with
  | nil => rfl
  | cons a l ih =>
    have : forceCols (a :: l) k = forceCol a fun a => forceCols l fun l => k (a :: l) := rfl
    rw [this, forceCol_eq, ih]
theorem forceFs_eq {ρ : Type} (l : List FV) (k : List FV → ρ) : forceFs l k = k l := by
  induction l generalizing k with
  | nil => rfl
  | cons a l ih =>
    have : forceFs (a :: l) k = forceF a fun a => forceFs l fun l => k (a :: l) := rfl
    rw [this, forceF_eq, ih]
theorem forceC_eq {ρ : Type} (o : CV) (k : CV → ρ) : forceC o k = k o := by
  cases o <;> simp only [forceC, forceF_eq, forceO_eq, forceZ_eq, forceCols_eq, forceFs_eq]
theorem forceSg_eq {ρ : Type} (o : Sg) (k : Sg → ρ) : forceSg o k = k o := by
  cases o <;> simp only [forceSg, forceC_eq, forceZ_eq, forceCols_eq]
theorem forceB_eq {ρ : Type} (l : Blk) (k : Blk → ρ) : forceB l k = k l := by
  induction l generalizing k with
  | nil => rfl
  | cons a l ih =>
    have : forceB (a :: l) k = forceSg a fun a => forceB l fun l => k (a :: l) := rfl
    rw [this, forceSg_eq, ih]
theorem forceR_eq {ρ : Type} (o : RV) (k : RV → ρ) : forceR o k = k o := by
  cases o <;> simp only [forceR, forceC_eq, forceB_eq]
theorem forceRs_eq {ρ : Type} (l : List RV) (k : List RV → ρ) : forceRs l k = k l := by
  induction l generalizing k with
  | nil => rfl
  | cons a l ih =>
    have : forceRs (a :: l) k = forceR a fun a => forceRs l fun l => k (a :: l) := rfl
    rw [this, forceR_eq, ih]
theorem forceV_eq {ρ : Type} (o : AV) (k : AV → ρ) : forceV o k = k o := by
  cases o <;> simp only [forceV, forceR_eq, forceRs_eq]
theorem forceU_eq {ρ : Type} (o : Up) (k : Up → ρ) : forceU o k = k o := by
  cases o <;> simp only [forceU, forceV_eq, forceO_eq, forceB_eq]
theorem forceUs_eq {ρ : Type} (l : List Up) (k : List Up → ρ) : forceUs l k = k l := by
  induction l generalizing k with
  | nil => rfl
  | cons a l ih =>
    have : forceUs (a :: l) k = forceU a fun a => forceUs l fun l => k (a :: l) := rfl
    rw [this, forceU_eq, ih]
theorem forceVs_eq {ρ : Type} (l : List AV) (k : List AV → ρ) : forceVs l k = k l := by
  induction l generalizing k with
  | nil => rfl
  | cons a l ih =>
    have : forceVs (a :: l) k = forceV a fun a => forceVs l fun l => k (a :: l) := rfl
    rw [this, forceV_eq, ih]
theorem forceOB_eq {ρ : Type} (o : Option Blk) (k : Option Blk → ρ) : forceOB o k = k o := by
  cases o <;> simp only [forceOB, forceB_eq]
theorem forceBs_eq {ρ : Type} (l : List (Option Blk)) (k : List (Option Blk) → ρ) : forceBs l k = k l := by
  induction l generalizing k with
  | nil => rfl
  | cons a l ih =>
    have : forceBs (a :: l) k = forceOB a fun a => forceBs l fun l => k (a :: l) := rfl
    rw [this, forceOB_eq, ih]
theorem forceAll_eq {ρ : Type} (s : St) (k : St → ρ) : forceAll s k = k s := by
  unfold forceAll; simp only [forceL_eq, forceVs_eq, forceBs_eq]
theorem Up.appK_eq {ρ : Type} (k : Nat) (u : Up) (s : St) (c : St → Option ρ) : u.appK k s c = match u.ok s with
    | true => c (u.app k s)
    | false => none := by
  cases u with
  | t i v =>
    simp only [Up.appK, setN_eq, Up.ok, Up.app]
    by_cases h : i < s.tmps.length
    · rw [if_pos h, blt_iff.2 h]
    · rw [if_neg h, blt_false h]
  | c b o v =>
    simp only [Up.appK, Up.ok, Up.app, forceB_eq, forceL_eq, setN_eq]
    split
    · rename_i blk hb
      have hlt : b < s.heap.length := St.blk_lt hb
      split
      · rename_i p hp
        split <;> rename_i hg <;> simp only [hb, hp, hg, hlt, if_true]
      · rename_i hp; simp only [hb, hp]
    · rename_i hb; simp only [hb]
  | new b blk =>
    simp only [Up.appK, Up.ok, Up.app, forceL_eq]
    cases Nat.beq b s.heap.length <;> rfl
  | kill b =>
    simp only [Up.appK, setN_eq, Up.ok, Up.app, forceL_eq]
    by_cases h : b < s.heap.length
    · rw [if_pos h, blt_iff.2 h]
    · rw [if_neg h, blt_false h]
theorem appK_eq {ρ : Type} (k : Nat) (us : List Up) (s : St) (c : St → Option ρ) : appK k us s c = match appAll k us s with
    | some s' => c s'
    | none => none := by
  induction us generalizing s with
  | nil => rfl
  | cons u us ih =>
    have : appK k (u :: us) s c = u.appK k s fun s => appK k us s c := rfl
    rw [this, Up.appK_eq, appAll]
    split
    · rename_i h; simp only [h, ih]
    · rename_i h; simp only [h]
end Go.Ab
