/-
  The abstract machine and the model: what a value, a heap, a state stand for; what a reading yields; that it hangs on what it notes alone.
-/
import Derived.Test.YtgbgdihahmecoaaAb
import Derived.Laws.IdiomCopy
import Derived.Laws.Cells
import Derived.Laws.Entries
namespace Go.Ab

def All2 {α β : Type} (R : α → β → Prop) : List α → List β → Prop
  | [], [] => True
  | a :: l, b :: m => R a b ∧ All2 R l m
  | _, _ => False
theorem All2.imp {α β : Type} {R S : α → β → Prop} (h : ∀ a b, R a b → S a b) : ∀ {l : List α} {m : List β}, All2 R l m → All2 S l m
  | [], [], _ => trivial
  | _ :: _, _ :: _, ⟨a, b⟩ => ⟨h _ _ a, All2.imp h b⟩
  | [], _ :: _, h => h.elim
  | _ :: _, [], h => h.elim
theorem All2.length {α β : Type} {R : α → β → Prop} : ∀ {l : List α} {m : List β}, All2 R l m → l.length = m.length
  | [], [], _ => rfl
  | _ :: _, _ :: _, ⟨_, b⟩ => by simp [All2.length b]
  | [], _ :: _, h => h.elim
  | _ :: _, [], h => h.elim
theorem All2.append {α β : Type} {R : α → β → Prop} : ∀ {l : List α} {m : List β} {l' : List α} {m' : List β}, All2 R l m → All2 R l' m' → All2 R (l ++ l') (m ++ m')
  | [], [], _, _, _, h => h
  | _ :: _, _ :: _, _, _, ⟨a, b⟩, h => ⟨a, All2.append b h⟩
  | [], _ :: _, _, _, h, _ => h.elim
  | _ :: _, [], _, _, h, _ => h.elim
theorem All2.get {α β : Type} {R : α → β → Prop} : ∀ {l : List α} {m : List β}, All2 R l m → ∀ {i : Nat} {a : α}, l[i]? = some a → ∃ b, m[i]? = some b ∧ R a b
  | a :: l, b :: m, ⟨h, _⟩, 0, x, e => ⟨b, rfl, by simp at e; exact e ▸ h⟩
  | a :: l, b :: m, ⟨_, h⟩, i + 1, x, e => by simp at e ⊢; exact All2.get h e
  | [], _, _, i, a, e => by simp at e
  | _ :: _, [], h, _, _, _ => h.elim
theorem All2.get' {α β : Type} {R : α → β → Prop} : ∀ {l : List α} {m : List β}, All2 R l m → ∀ {i : Nat} {b : β}, m[i]? = some b → ∃ a, l[i]? = some a ∧ R a b
  | a :: l, b :: m, ⟨h, _⟩, 0, x, e => ⟨a, rfl, by simp at e; exact e ▸ h⟩
  | a :: l, b :: m, ⟨_, h⟩, i + 1, x, e => by simp at e ⊢; exact All2.get' h e
  | _, [], _, i, a, e => by simp at e
  | [], _ :: _, h, _, _, _ => h.elim
theorem All2.of_get {α β : Type} {R : α → β → Prop} : ∀ {l : List α} {m : List β}, l.length = m.length → (∀ (i : Nat) a b, l[i]? = some a → m[i]? = some b → R a b) → All2 R l m
  | [], [], _, _ => trivial
  | a :: l, b :: m, e, h => ⟨h 0 a b rfl rfl, All2.of_get (by simpa using e) fun i x y hx hy => h (i + 1) x y (by simpa using hx) (by simpa using hy)⟩
  | [], _ :: _, e, _ => by simp at e
  | _ :: _, [], e, _ => by simp at e
theorem All2.take {α β : Type} {R : α → β → Prop} : ∀ {l : List α} {m : List β} (n : Nat), All2 R l m → All2 R (l.take n) (m.take n)
  | [], [], n, _ => by simp [All2]
  | _ :: _, _ :: _, 0, _ => by simp [All2]
  | _ :: _, _ :: _, n + 1, ⟨a, b⟩ => ⟨a, All2.take n b⟩
  | [], _ :: _, _, h => h.elim
  | _ :: _, [], _, h => h.elim
theorem All2.drop {α β : Type} {R : α → β → Prop} : ∀ {l : List α} {m : List β} (n : Nat), All2 R l m → All2 R (l.drop n) (m.drop n)
  | [], [], n, _ => by simp [All2]
  | _ :: _, _ :: _, 0, h => h
  | _ :: _, _ :: _, n + 1, ⟨_, b⟩ => All2.drop n b
  | [], _ :: _, _, h => h.elim
  | _ :: _, [], _, h => h.elim

/-- where a block lies: the model's block, its first cell, the cell behind its last one -/
abbrev Pi := Nat → Option (Nat × Nat × Nat)
def Ext (π π' : Pi) : Prop := ∀ b p, π b = some p → π' b = some p
theorem Ext.refl (π : Pi) : Ext π π := fun _ _ h => h
theorem Ext.trans {π π' π'' : Pi} (h : Ext π π') (k : Ext π' π'') : Ext π π'' := fun b p e => k b p (h b p e)

def FV.rel : FV → Value → Prop
  | .u, x => x.oneCell' = true
  | .b y, x => x = .bool y
  | .i k n, x => x = .int k n
  | .s y, x => x = .string y
def CV.rel (π : Pi) : CV → Value → Prop
  | .f v, x => v.rel x
  | .ptr b o _, x => ∃ B s e, π b = some (B, s, e) ∧ x = .pointer (some ⟨B, s + o, none⟩)
  | .nilp, x => x = .pointer none
  | .sl b o n z own, x => (n = 0 ∧ ∃ a, x = .slice a 0 0) ∨ ∃ B s e cap, π b = some (B, s, e) ∧ n ≤ cap ∧ x = .slice (some ⟨B, s + o, none⟩) n cap ∧ (own = true → s + o + cap * z ≤ e)
  | .nils, x => x = .slice none 0 0
  | .nilf, x => x = .nilFunc
  | .nili, x => x = .nilIface
def RV.rel (π : Pi) : RV → Value → Prop
  | .c v, x => v.rel π x
  | .agg cs, x => ∃ a : Array Value, x = .agg a ∧ All2 (CV.rel π) cs a.toList
def AV.rel (π : Pi) : AV → Value → Prop
  | .r v, x => v.rel π x
  | .tup vs, x => ∃ a : Array Value, x = .tuple a ∧ All2 (RV.rel π) vs a.toList
  | .fn f vs, x => ∃ a : Array Value, x = .func (.func f) #[] a ∧ All2 (RV.rel π) vs a.toList
  | .und, _ => True

theorem FV.rel_one {v : FV} {x : Value} (h : v.rel x) : x.oneCell' = true := by
  cases v <;> simp [FV.rel] at h <;> first | exact h | (subst h; rfl)
theorem CV.rel_one {π : Pi} {v : CV} {x : Value} (h : v.rel π x) : x.oneCell' = true := by
  cases v <;> simp only [CV.rel] at h
  case f v => exact FV.rel_one h
  case ptr => obtain ⟨_, _, _, _, rfl⟩ := h; rfl
  case sl => rcases h with ⟨_, _, rfl⟩ | ⟨_, _, _, _, _, _, rfl, _⟩ <;> rfl
  all_goals (subst h; rfl)
theorem CV.rel_mono {π π' : Pi} (h : Ext π π') (v : CV) (x : Value) (r : v.rel π x) : v.rel π' x := by
  cases v <;> simp only [CV.rel] at r ⊢
  case ptr => obtain ⟨B, s, e, hb, hx⟩ := r; exact ⟨B, s, e, h _ _ hb, hx⟩
  case sl => exact r.imp id fun ⟨B, s, e, cap, hb, hx⟩ => ⟨B, s, e, cap, h _ _ hb, hx⟩
  all_goals exact r
theorem RV.rel_mono {π π' : Pi} (h : Ext π π') (v : RV) (x : Value) (r : v.rel π x) : v.rel π' x := by
  cases v <;> simp only [RV.rel] at r ⊢
  case c => exact CV.rel_mono h _ _ r
  case agg => obtain ⟨a, hx, ha⟩ := r; exact ⟨a, hx, ha.imp (CV.rel_mono h)⟩
theorem AV.rel_mono {π π' : Pi} (h : Ext π π') (v : AV) (x : Value) (r : v.rel π x) : v.rel π' x := by
  cases v <;> simp only [AV.rel] at r ⊢
  case r => exact RV.rel_mono h _ _ r
  case tup => obtain ⟨a, hx, ha⟩ := r; exact ⟨a, hx, ha.imp (RV.rel_mono h)⟩
  case fn => obtain ⟨a, hx, ha⟩ := r; exact ⟨a, hx, ha.imp (RV.rel_mono h)⟩

/-- the cells of a value -/
theorem cells_one {x : Value} (h : x.oneCell' = true) : x.cells = #[x] := by
  cases x <;> simp_all [Value.oneCell', Value.cells]
theorem RV.rel_cells {π : Pi} {v : RV} {x : Value} (h : v.rel π x) : All2 (CV.rel π) v.cells x.cells.toList := by
  cases v <;> simp only [RV.rel] at h
  case c v => rw [cells_one (CV.rel_one h)]; exact ⟨h, trivial⟩
  case agg => obtain ⟨a, rfl, ha⟩ := h; exact ha

/-- the state as what can be asked of it -/
structure Gt where
  t : Nat → AV
  c : Nat → Nat → CV
  z : Nat → Option Nat
def St.gt (s : St) : Gt where
  t := s.tmp
  c := fun b j => match s.blk b with
    | some k => if j < k.size then k.get j else .f .u
    | none => .f .u
  z := fun b => (s.blk b).map Blk.size

inductive Pt where
  | t (i : Nat)
  | c (b j : Nat)
  | z (b : Nat)
inductive PV where
  | t (v : AV)
  | c (v : CV)
  | z (v : Option Nat)
def Gt.at (g : Gt) : Pt → PV
  | .t i => .t (g.t i)
  | .c b j => .c (g.c b j)
  | .z b => .z (g.z b)
theorem Gt.ext_at {g g' : Gt} (h : ∀ p, g.at p = g'.at p) : g = g' := by
  cases g with | mk t c z => cases g' with | mk t' c' z' =>
  have h1 : t = t' := funext fun i => by simpa [Gt.at] using h (.t i)
  have h2 : c = c' := funext fun b => funext fun j => by simpa [Gt.at] using h (.c b j)
  have h3 : z = z' := funext fun b => by simpa [Gt.at] using h (.z b)
  subst h1 h2 h3; rfl

def Fp.has : Fp → Pt → Prop
  | .t i, .t j => i = j
  | .c b lo n, .c b' j => b = b' ∧ lo ≤ j ∧ j < lo + n
  | .z b, .z b' => b = b'
  | _, _ => False
def Up.touch : Up → Pt → Prop
  | .t i _, .t j => i = j
  | .c b lo vs, .c b' j => b = b' ∧ lo ≤ j ∧ j < lo + vs.length
  | .new b _, .c b' _ | .kill b, .c b' _ | .new b _, .z b' | .kill b, .z b' => b = b'
  | _, _ => False
theorem Fp.hits_of {fp : Fp} {u : Up} {p : Pt} (h1 : fp.has p) (h2 : u.touch p) : fp.hits u = true := by
  cases fp <;> cases u <;> cases p <;> simp_all [Fp.has, Up.touch, Fp.hits, ovl, Nat.blt] <;> omega
theorem Up.hits_of {u u' : Up} {p : Pt} (h1 : u.touch p) (h2 : u'.touch p) : u.hits u' = true := by
  cases u <;> cases u' <;> cases p <;> simp_all [Up.touch, Up.hits, ovl, Nat.blt] <;> omega

/-- an update, of what can be asked -/
def Up.appG (u : Up) (g : Gt) : Gt :=
  match u with
  | .t i v => { g with t := fun j => if j = i then v else g.t j }
  | .c b lo vs => { g with c := fun b' j => if b' = b ∧ lo ≤ j ∧ j < lo + vs.length then vs.getD (j - lo) (.f .u) else g.c b' j }
  | .new b k => { g with c := fun b' j => if b' = b then (if j < k.size then k.get j else .f .u) else g.c b' j, z := fun b' => if b' = b then some k.size else g.z b' }
  | .kill b => { g with c := fun b' j => if b' = b then .f .u else g.c b' j, z := fun b' => if b' = b then none else g.z b' }
theorem Up.at_appG_of_not {u : Up} {g : Gt} {p : Pt} (h : ¬ u.touch p) : (u.appG g).at p = g.at p := by
  cases u <;> cases p <;> simp_all [Up.touch, Up.appG, Gt.at] <;> first | (intro a; exact absurd a.symm (by assumption)) | (intros; omega) | (intro a; subst a; simp_all)
theorem Up.at_appG_of {u : Up} {g g' : Gt} {p : Pt} (h : u.touch p) : (u.appG g).at p = (u.appG g').at p := by
  cases u <;> cases p <;> simp_all [Up.touch, Up.appG, Gt.at]
def appGs (us : List Up) (g : Gt) : Gt := us.foldl (fun g u => u.appG g) g
theorem appGs_at_of_not : ∀ {us : List Up} {g : Gt} {p : Pt}, (∀ u ∈ us, ¬ u.touch p) → (appGs us g).at p = g.at p
  | [], _, _, _ => rfl
  | u :: us, g, p, h => by
    show (appGs us (u.appG g)).at p = _
    rw [appGs_at_of_not fun v hv => h v (by simp [hv]), Up.at_appG_of_not (h u (by simp))]
theorem appGs_at_of : ∀ {us : List Up} {g g' : Gt} {p : Pt}, (∃ u ∈ us, u.touch p) ∨ g.at p = g'.at p → (appGs us g).at p = (appGs us g').at p
  | [], g, g', p, h => by
    rcases h with ⟨u, hu, _⟩ | h
    · simp at hu
    · exact h
  | u :: us, g, g', p, h => by
    show (appGs us (u.appG g)).at p = (appGs us (u.appG g')).at p
    apply appGs_at_of
    by_cases hu : u.touch p
    · exact .inr (Up.at_appG_of hu)
    · rcases h with ⟨v, hv, ht⟩ | h
      · rcases List.mem_cons.1 hv with rfl | hv
        · exact absurd ht hu
        · exact .inl ⟨v, hv, ht⟩
      · exact .inr (by rw [Up.at_appG_of_not hu, Up.at_appG_of_not hu, h])

/-! what a reading yields -/
inductive Ran {α : Type} : Rd α → Gt → α → List Fp → Prop where
  | ret (a : α) (g : Gt) : Ran (.ret a) g a []
  | tm {i : Nat} {k : AV → Rd α} {g : Gt} {a : α} {l : List Fp} (h : Ran (k (g.t i)) g a l) : Ran (.tm i k) g a (.t i :: l)
  | rng {b lo n : Nat} {k : List CV → Rd α} {g : Gt} {a : α} {l : List Fp} (q : Nat) (hz : g.z b = some q) (hn : lo + n ≤ q) (h : Ran (k ((List.range n).map fun j => g.c b (lo + j))) g a l) : Ran (.rng b lo n k) g a (.c b lo n :: .z b :: l)
  | vw {b lo n : Nat} {k : Blk → Rd α} {g : Gt} {a : α} {l : List Fp} (q : Nat) (v : Blk) (hz : g.z b = some q) (hn : lo + n ≤ q) (hs : v.size = n) (hv : ∀ j, j < n → v.get j = g.c b (lo + j)) (h : Ran (k v) g a l) : Ran (.vw b lo n k) g a (.c b lo n :: .z b :: l)
  | sz {b : Nat} {k : Nat → Rd α} {g : Gt} {a : α} {l : List Fp} (q : Nat) (hz : g.z b = some q) (h : Ran (k q) g a l) : Ran (.sz b k) g a (.z b :: l)
  | test {x : Bool} {k : Bool → Rd α} {g : Gt} {a : α} {l : List Fp} (h : Ran (k x) g a l) : Ran (.test x k) g a l

/-- it hangs on what it notes alone -/
theorem Ran.local {α : Type} {m : Rd α} {g g' : Gt} {a : α} {l : List Fp} (h : Ran m g a l) : (∀ fp ∈ l, ∀ p, fp.has p → g.at p = g'.at p) → Ran m g' a l := by
  induction h with
  | ret a g => intro _; exact .ret _ _
  | @tm i k g a l h ih =>
    intro e
    have e1 : g.t i = g'.t i := by simpa [Gt.at] using e (.t i) (by simp) (.t i) rfl
    exact .tm (e1 ▸ ih fun fp hf => e fp (by simp [hf]))
  | @rng b lo n k g a l q hz hn h ih =>
    intro e
    have e1 : g.z b = g'.z b := by simpa [Gt.at] using e (.z b) (by simp) (.z b) rfl
    have e2 : ((List.range n).map fun j => g.c b (lo + j)) = (List.range n).map fun j => g'.c b (lo + j) :=
      List.map_congr_left fun j hj => by simpa [Gt.at] using e (.c b lo n) (by simp) (.c b (lo + j)) ⟨rfl, by omega, by have := List.mem_range.1 hj; omega⟩
    exact .rng q (e1 ▸ hz) hn (e2 ▸ ih fun fp hf => e fp (by simp [hf]))
  | @vw b lo n k g a l q v hz hn hs hv h ih =>
    intro e
    have e1 : g.z b = g'.z b := by simpa [Gt.at] using e (.z b) (by simp) (.z b) rfl
    refine .vw q v (e1 ▸ hz) hn hs (fun j hj => ?_) (ih fun fp hf => e fp (by simp [hf]))
    rw [hv j hj]
    simpa [Gt.at] using e (.c b lo n) (by simp) (.c b (lo + j)) ⟨rfl, by omega, by omega⟩
  | @sz b k g a l q hz h ih =>
    intro e
    have e1 : g.z b = g'.z b := by simpa [Gt.at] using e (.z b) (by simp) (.z b) rfl
    exact .sz q (e1 ▸ hz) (ih fun fp hf => e fp (by simp [hf]))
  | test h ih => intro e; exact .test (ih e)

theorem Ran.bind {α β : Type} {m : Rd α} {f : α → Rd β} {g : Gt} {b : β} {l : List Fp} (h : Ran (m.bind f) g b l) :
    ∃ a l1 l2, Ran m g a l1 ∧ Ran (f a) g b l2 ∧ l = l1 ++ l2 := by
  induction m generalizing l with
  | ret a => exact ⟨a, [], l, .ret _ _, h, rfl⟩
  | fail => cases h
  | tm i k ih => cases h with | tm h => obtain ⟨a, l1, l2, h1, h2, e⟩ := ih _ h; exact ⟨a, _, l2, .tm h1, h2, by simp [e]⟩
  | rng b lo n k ih => cases h with | rng q hz hn h => obtain ⟨a, l1, l2, h1, h2, e⟩ := ih _ h; exact ⟨a, _, l2, .rng q hz hn h1, h2, by simp [e]⟩
  | vw b lo n k ih => cases h with | vw q v hz hn hs hv h => obtain ⟨a, l1, l2, h1, h2, e⟩ := ih _ h; exact ⟨a, _, l2, .vw q v hz hn hs hv h1, h2, by simp [e]⟩
  | sz b k ih => cases h with | sz q hz h => obtain ⟨a, l1, l2, h1, h2, e⟩ := ih _ h; exact ⟨a, _, l2, .sz q hz h1, h2, by simp [e]⟩
  | test x k ih => cases h with | test h => obtain ⟨a, l1, l2, h1, h2, e⟩ := ih _ h; exact ⟨a, _, l2, .test h1, h2, by simp [e]⟩
theorem Ran.bind' {α β : Type} {m : Rd α} {f : α → Rd β} {g : Gt} {b : β} {l : List Fp} (h : Ran (m.bind f) g b l) :
    ∃ a, (∃ l1, Ran m g a l1) ∧ ∃ l2, Ran (f a) g b l2 := by
  obtain ⟨a, l1, l2, h1, h2, _⟩ := h.bind
  exact ⟨a, ⟨l1, h1⟩, l2, h2⟩

theorem Blk.rng_eq {k : Blk} {lo n : Nat} (h : lo + n ≤ k.size) : k.rng lo n = (List.range n).map fun j => k.get (lo + j) := by
  cases k with
  | mix cs =>
    simp only [Blk.size] at h
    apply List.ext_getElem
    · simp [Blk.rng]; omega
    · intro i h1 h2
      have : lo + i < cs.length := by simp [Blk.rng] at h1; omega
      simp [Blk.rng, Blk.get, List.getD, this]
  | fnb q g => rfl
theorem CV.isF_fv {c : CV} (h : c.isF = true) : CV.f c.fv = c := by cases c <;> simp_all [CV.isF, CV.fv]
theorem Blk.part_get {k : Blk} {lo n : Nat} (h : lo + n ≤ k.size) : (k.part lo n).size = n ∧ ∀ j, j < n → (k.part lo n).get j = k.get (lo + j) := by
  cases k with
  | mix cs =>
    simp only [Blk.size] at h
    have hget : ∀ j, j < n → ((cs.drop lo).take n).getD j (.f .u) = cs.getD (lo + j) (.f .u) := fun j hj => by
      have : lo + j < cs.length := by omega
      simp [List.getD, List.getElem?_take, hj]
    simp only [Blk.part]
    split
    · rename_i ha
      refine ⟨rfl, fun j hj => ?_⟩
      simp only [Blk.get]
      rw [← hget j hj]
      apply CV.isF_fv
      have hj' : j < ((cs.drop lo).take n).length := by simp; omega
      have : ((cs.drop lo).take n).getD j (.f .u) ∈ (cs.drop lo).take n := by
        simp only [List.getD, List.getElem?_eq_getElem hj', Option.getD_some]
        exact List.getElem_mem hj'
      exact List.all_eq_true.1 ha _ this
    · refine ⟨by simp [Blk.size]; omega, fun j hj => by simpa [Blk.get] using hget j hj⟩
  | fnb q g => exact ⟨rfl, fun j _ => rfl⟩

theorem St.gt_z {s : St} {b : Nat} {k : Blk} (h : s.blk b = some k) : s.gt.z b = some k.size := by simp [St.gt, h]
theorem St.gt_c {s : St} {b j : Nat} {k : Blk} (h : s.blk b = some k) (hj : j < k.size) : s.gt.c b j = k.get j := by simp [St.gt, h, hj]

/-- the reading, carried out, is a reading -/
theorem Rd.run_sound {α ρ : Type} {m : Rd α} {s : St} {k : α → List Fp → Option ρ} {r : ρ} : ∀ {l : List Fp}, m.run s l k = some r →
    ∃ a fp, Ran m s.gt a fp ∧ k a (fp.reverse ++ l) = some r := by
  induction m with
  | ret a => intro l h; exact ⟨a, [], .ret _ _, h⟩
  | fail => intro l h; simp [Rd.run] at h
  | tm i f ih =>
    intro l h
    obtain ⟨a, fp, h1, h2⟩ := ih _ h
    exact ⟨a, .t i :: fp, .tm h1, by simpa using h2⟩
  | rng b lo n f ih =>
    intro l h
    simp only [Rd.run] at h
    split at h
    · rename_i blk hb
      split at h
      · rename_i hle
        have hle : lo + n ≤ blk.size := Nat.le_of_ble_eq_true hle
        obtain ⟨a, fp, h1, h2⟩ := ih _ h
        rw [Blk.rng_eq hle] at h1
        have e : ((List.range n).map fun j => blk.get (lo + j)) = (List.range n).map fun j => s.gt.c b (lo + j) :=
          List.map_congr_left fun j hj => (St.gt_c hb (by have := List.mem_range.1 hj; omega)).symm
        rw [e] at h1
        exact ⟨a, .c b lo n :: .z b :: fp, .rng blk.size (St.gt_z hb) hle h1, by simpa using h2⟩
      · simp at h
    · simp at h
  | vw b lo n f ih =>
    intro l h
    simp only [Rd.run] at h
    split at h
    · rename_i blk hb
      split at h
      · rename_i hle
        have hle : lo + n ≤ blk.size := Nat.le_of_ble_eq_true hle
        obtain ⟨a, fp, h1, h2⟩ := ih _ h
        have hp := Blk.part_get hle
        exact ⟨a, .c b lo n :: .z b :: fp, .vw blk.size _ (St.gt_z hb) hle hp.1 (fun j hj => (hp.2 j hj).trans (St.gt_c hb (by omega)).symm) h1, by simpa using h2⟩
      · simp at h
    · simp at h
  | sz b f ih =>
    intro l h
    simp only [Rd.run] at h
    split at h
    · rename_i blk hb
      obtain ⟨a, fp, h1, h2⟩ := ih _ h
      exact ⟨a, .z b :: fp, .sz blk.size (St.gt_z hb) h1, by simpa using h2⟩
    · simp at h
  | test x f ih =>
    intro l h
    cases x
    · obtain ⟨a, fp, h1, h2⟩ := ih _ h; exact ⟨a, fp, .test h1, h2⟩
    · obtain ⟨a, fp, h1, h2⟩ := ih _ h; exact ⟨a, fp, .test h1, h2⟩

/-! updates of a state, and of what can be asked of it -/
theorem set_getD {α : Type} (l : List α) (i j : Nat) (v d : α) (h : i < l.length) : (l.set i v).getD j d = if j = i then v else l.getD j d := by
  simp only [List.getD, List.getElem?_set]
  by_cases e : i = j
  · subst e; simp [h]
  · simp [e, Ne.symm e]
theorem splice_length {α : Type} {cs : List α} {lo : Nat} {vs : List α} (h : lo + vs.length ≤ cs.length) : (splice cs lo vs).length = cs.length := by
  simp [splice]; omega
theorem splice_getD {α : Type} {cs : List α} {lo : Nat} {vs : List α} (h : lo + vs.length ≤ cs.length) (j : Nat) (d : α) :
    (splice cs lo vs).getD j d = if lo ≤ j ∧ j < lo + vs.length then vs.getD (j - lo) d else cs.getD j d := by
  simp only [splice, List.getD, List.getElem?_append, List.length_append, List.length_take]
  by_cases h1 : j < lo
  · rw [if_pos (by omega), if_pos (by omega), if_neg (by omega)]
    simp [h1]
  · by_cases h2 : j < lo + vs.length
    · rw [if_pos (by omega), if_neg (by omega), if_pos (by omega)]
      simp [Nat.min_eq_left (show lo ≤ cs.length by omega)]
    · rw [if_neg (by omega), if_neg (by omega)]
      simp only [List.getElem?_drop, Nat.min_eq_left (show lo ≤ cs.length by omega)]
      rw [show lo + vs.length + (j - (lo + vs.length)) = j by omega]
theorem Blk.list_length (k : Blk) : k.list.length = k.size := by cases k <;> simp [Blk.list, Blk.size]
theorem Blk.list_getD (k : Blk) {j : Nat} (h : j < k.size) : k.list.getD j (.f .u) = k.get j := by
  cases k with
  | mix cs => rfl
  | fnb n g => simp only [Blk.size] at h; simp [Blk.list, Blk.get, List.getD, h]
theorem Blk.put_size {k : Blk} {lo : Nat} {vs : List CV} (h : lo + vs.length ≤ k.size) : (k.put lo vs).size = k.size := by
  cases k with
  | mix cs => exact splice_length h
  | fnb n g =>
    simp only [Blk.put]
    split
    · rfl
    · simp only [Blk.size]; rw [splice_length (by simpa [Blk.size] using h)]; simp
theorem Blk.put_get {k : Blk} {lo : Nat} {vs : List CV} (h : lo + vs.length ≤ k.size) {j : Nat} (hj : j < k.size) :
    (k.put lo vs).get j = if lo ≤ j ∧ j < lo + vs.length then vs.getD (j - lo) (.f .u) else k.get j := by
  cases k with
  | mix cs => exact splice_getD h j _
  | fnb n g =>
    simp only [Blk.size] at h hj
    simp only [Blk.put]
    split
    · rename_i ha
      simp only [Blk.get]
      by_cases hc : lo ≤ j ∧ j < lo + vs.length
      · rw [if_pos hc]
        have e : (Nat.ble lo j && Nat.blt j (lo + vs.length)) = true := by simp [Nat.blt]; omega
        rw [e]
        apply CV.isF_fv
        have hlt : j - lo < vs.length := by omega
        have : vs.getD (j - lo) (.f .u) ∈ vs := by
          simp only [List.getD, List.getElem?_eq_getElem hlt, Option.getD_some]
          exact List.getElem_mem hlt
        exact List.all_eq_true.1 ha _ this
      · rw [if_neg hc]
        have e : (Nat.ble lo j && Nat.blt j (lo + vs.length)) = false := by
          rw [Bool.eq_false_iff]; intro e; apply hc; simp [Nat.blt] at e; omega
        rw [e]
    · have := splice_getD (cs := (List.range n).map fun j => CV.f (g j)) (lo := lo) (vs := vs) (by simpa using h) j (.f .u)
      simp only [Blk.get]
      rw [this]
      split
      · rfl
      · simp [List.getD, hj]
theorem blk_set {l : List (Option Blk)} {b b' : Nat} {x : Option Blk} (h : b < l.length) : ((l.set b x)[b']?).getD none = if b' = b then x else (l[b']?).getD none := by
  simp only [List.getElem?_set]
  by_cases e : b = b'
  · subst e; simp [h]
  · simp [e, Ne.symm e]
theorem St.blk_lt {s : St} {b : Nat} {k : Blk} (h : s.blk b = some k) : b < s.heap.length := by
  rcases Nat.lt_or_ge b s.heap.length with h' | h'
  · exact h'
  · simp [St.blk, List.getElem?_eq_none h'] at h
theorem blk_app {l : List (Option Blk)} {b' : Nat} {x : Option Blk} : ((l ++ [x])[b']?).getD none = if b' = l.length then x else (l[b']?).getD none := by
  rw [List.getElem?_append]
  by_cases h : b' < l.length
  · simp [h, Nat.ne_of_lt h]
  · by_cases e : b' = l.length
    · subst e; simp
    · rw [if_neg h, if_neg e, List.getElem?_eq_none (by simp; omega), List.getElem?_eq_none (by omega)]
theorem Up.gt_app {s : St} {u : Up} (k : Nat) (h : u.ok s = true) : (u.app k s).gt = u.appG s.gt := by
  apply Gt.ext_at
  intro p
  cases u with
  | t i v =>
    have hi : i < s.tmps.length := by have h := h; simp [Up.ok, Nat.blt] at h; omega
    cases p <;> simp only [Gt.at, Up.app, Up.appG, St.gt, St.tmp, St.blk, PV.t.injEq]
    exact set_getD _ _ _ _ _ hi
  | c b lo vs =>
    simp only [Up.ok] at h
    split at h
    · rename_i blk hb
      have hle : lo + vs.length ≤ blk.size := Nat.le_of_ble_eq_true h
      have hlt := St.blk_lt hb
      have hblk : ∀ b', St.blk { s with heap := s.heap.set b (some (blk.put lo vs)), dirt := mark k b s.dirt } b' = if b' = b then some (blk.put lo vs) else s.blk b' := fun b' => blk_set hlt
      cases p with
      | t j => simp only [Gt.at, Up.app, Up.appG, St.gt, hb, St.tmp]
      | c b' j =>
        simp only [Gt.at, Up.app, Up.appG, St.gt, hb, PV.c.injEq, hblk]
        by_cases e : b' = b
        · subst e
          simp only [if_true, hb, Blk.put_size hle, true_and]
          by_cases hj : j < blk.size
          · simp only [hj, if_true, Blk.put_get hle hj]
          · simp only [hj, if_false]; rw [if_neg (by omega)]
        · simp only [e, if_false, false_and]
      | z b' =>
        simp only [Gt.at, Up.app, Up.appG, St.gt, hb, PV.z.injEq, hblk]
        by_cases e : b' = b
        · subst e; simp [hb, Blk.put_size hle]
        · simp [e]
    · simp at h
  | new b blk =>
    have hb : b = s.heap.length := Nat.eq_of_beq_eq_true h
    have hblk : ∀ b', St.blk { s with heap := s.heap ++ [some blk] } b' = if b' = b then some blk else s.blk b' := fun b' => by rw [hb]; exact blk_app
    cases p with
    | t j => simp only [Gt.at, Up.app, Up.appG, St.gt, St.tmp]
    | c b' j =>
      simp only [Gt.at, Up.app, Up.appG, St.gt, PV.c.injEq, hblk]
      by_cases e : b' = b <;> simp [e]
    | z b' =>
      simp only [Gt.at, Up.app, Up.appG, St.gt, PV.z.injEq, hblk]
      by_cases e : b' = b <;> simp [e]
  | kill b =>
    have hb : b < s.heap.length := by have h := h; simp [Up.ok, Nat.blt] at h; omega
    have hblk : ∀ b', St.blk { s with heap := s.heap.set b none, dirt := mark k b s.dirt } b' = if b' = b then none else s.blk b' := fun b' => blk_set hb
    cases p with
    | t j => simp only [Gt.at, Up.app, Up.appG, St.gt, St.tmp]
    | c b' j =>
      simp only [Gt.at, Up.app, Up.appG, St.gt, PV.c.injEq, hblk]
      by_cases e : b' = b <;> simp [e]
    | z b' =>
      simp only [Gt.at, Up.app, Up.appG, St.gt, PV.z.injEq, hblk]
      by_cases e : b' = b <;> simp [e]
theorem appAll_gt {k : Nat} : ∀ {us : List Up} {s s' : St}, appAll k us s = some s' → s'.gt = appGs us s.gt
  | [], s, s', h => by simp [appAll] at h; subst h; rfl
  | u :: us, s, s', h => by
    simp only [appAll] at h
    split at h
    · rename_i hu
      rw [appAll_gt h, Up.gt_app k hu]; rfl
    · simp at h
/-! written out, it says the same -/
theorem forceL_eq {α ρ : Type} (l : List α) (k : List α → ρ) : forceL l k = k l := by
  induction l generalizing k with
  | nil => rfl
  | cons a l ih => exact ih fun l => k (a :: l)
theorem forceV_eq {ρ : Type} (v : AV) (k : AV → ρ) : forceV v k = k v := by
  unfold forceV
  split
  · split <;> rfl
  all_goals first | rfl | exact forceL_eq _ _
theorem forceB_eq {ρ : Type} (b : Blk) (k : Blk → ρ) : forceB b k = k b := by
  unfold forceB
  split
  · exact forceL_eq _ _
  · rfl
theorem forceU_eq {ρ : Type} (u : Up) (k : Up → ρ) : forceU u k = k u := by
  unfold forceU
  split
  · exact forceV_eq _ _
  · exact forceL_eq _ _
  · exact forceB_eq _ _
  · rfl
theorem forceUs_eq {ρ : Type} : ∀ (l : List Up) (k : List Up → ρ), forceUs l k = k l
  | [], _ => rfl
  | u :: us, k => by rw [forceUs, forceU_eq, forceUs_eq us]
theorem forceVs_eq {ρ : Type} : ∀ (l : List AV) (k : List AV → ρ), forceVs l k = k l
  | [], _ => rfl
  | u :: us, k => by rw [forceVs, forceV_eq, forceVs_eq us]
theorem forceBs_eq {ρ : Type} : ∀ (l : List (Option Blk)) (k : List (Option Blk) → ρ), forceBs l k = k l
  | [], _ => rfl
  | some u :: us, k => by rw [forceBs, forceB_eq, forceBs_eq us]
  | none :: us, k => by rw [forceBs, forceBs_eq us]
theorem heap_same {s : St} {b : Nat} {blk : Blk} (h : s.blk b = some blk) : { s with heap := s.heap.set b (some blk) } = s := by
  have : s.heap.set b (some blk) = s.heap := by
    apply List.ext_getElem?
    intro i
    rw [List.getElem?_set]
    unfold St.blk at h
    by_cases e : b = i
    · subst e
      by_cases hl : b < s.heap.length
      · rw [if_pos rfl, if_pos hl]
        rw [List.getElem?_eq_getElem hl] at h ⊢
        simp only [Option.getD_some] at h
        rw [h]
      · rw [if_pos rfl, if_neg hl, List.getElem?_eq_none (by omega)]
    · rw [if_neg e]
  rw [this]
theorem forceAt_eq {ρ : Type} : ∀ (l : List Up) (s : St) (k : St → ρ), forceAt l s k = k s
  | [], _, _ => rfl
  | .c b _ _ :: us, s, k => by
    simp only [forceAt]
    split
    · rename_i blk hb
      rw [forceB_eq, forceAt_eq us, heap_same hb]
    · exact forceAt_eq us s k
  | .t _ _ :: us, s, k => forceAt_eq us s k
  | .new _ _ :: us, s, k => forceAt_eq us s k
  | .kill _ :: us, s, k => forceAt_eq us s k
theorem forceS_eq {ρ : Type} (s : St) (k : St → ρ) : forceS s k = k s := by
  unfold forceS; simp only [forceL_eq]
theorem forceAll_eq {ρ : Type} (s : St) (k : St → ρ) : forceAll s k = k s := by
  unfold forceAll; simp only [forceL_eq, forceVs_eq, forceBs_eq]
end Go.Ab
