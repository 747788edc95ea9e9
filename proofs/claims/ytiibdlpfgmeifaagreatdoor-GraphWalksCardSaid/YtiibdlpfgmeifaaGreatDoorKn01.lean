/- Kn, part 1: abstract values, their relation to Go values in memory, the invariant that a call's walk keeps. No program here. -/
import Derived.WalkKit
set_option autoImplicit false
namespace Go.Kn
open Go
inductive IV where
  | bool (b : Bool)
  | int (k : IntKind) (n : Int)
  | str (s : List UInt8)
  | nilP
  | rptr (cs : List IV)
  | slice (l : List IV)
  | agg (cs : List IV)
  | func (fn : Fn) (caps : List IV)
  | nilF
  | nilI
  | iface (t : TypeId) (x : IV)
  | tup (xs : List IV)
  deriving Inhabited
def IV.cells : IV → List IV
  | .agg cs => cs
  | v => [v]
abbrev Hp := Nat → Nat → Option Value
def Hp.le (h h' : Hp) : Prop := ∀ b o v, h b o = some v → h' b o = some v
theorem Hp.le_refl (h : Hp) : h.le h := fun _ _ _ e => e
theorem Hp.le_trans {h h' h'' : Hp} (a : h.le h') (b : h'.le h'') : h.le h'' := fun x y v e => b x y v (a x y v e)
def PlainA : Option Addr → Prop
  | some ⟨_, _, some _⟩ => False
  | _ => True
inductive RelI (h : Hp) : IV → Value → Prop where
  | bool (b : Bool) : RelI h (.bool b) (.bool b)
  | int (k : IntKind) (n : Int) : RelI h (.int k n) (.int k n)
  | str (s : List UInt8) : RelI h (.str s) (.string ⟨s.toArray⟩)
  | nilP : RelI h .nilP (.pointer none)
  | rptr (b o : Nat) (cs : List IV) (f : Nat → Value) (h1 : ∀ (i : Nat) (x : IV), cs[i]? = some x → (f i).oneCell' = true)
      (hc : ∀ (i : Nat) (x : IV), cs[i]? = some x → h b (o + i) = some (f i)) (hr : ∀ (i : Nat) (x : IV), cs[i]? = some x → RelI h x (f i)) : RelI h (.rptr cs) (.pointer (some ⟨b, o, none⟩))
  | nilS : RelI h (.slice []) (.slice none 0 0)
  | oddS (b o k : Nat) : RelI h (.slice []) (.slice (some ⟨b, o, some k⟩) 0 0)
  | slice (b o cap s : Nat) (l : List IV) (f : Nat → Nat → Value) (hcap : l.length ≤ cap) (hs : ∀ (i : Nat) (x : IV), l[i]? = some x → x.cells.length = s)
      (h1 : ∀ (i : Nat) (x : IV) (j : Nat) (y : IV), l[i]? = some x → x.cells[j]? = some y → (f i j).oneCell' = true)
      (hc : ∀ (i : Nat) (x : IV) (j : Nat) (y : IV), l[i]? = some x → x.cells[j]? = some y → h b (o + i * s + j) = some (f i j))
      (hr : ∀ (i : Nat) (x : IV) (j : Nat) (y : IV), l[i]? = some x → x.cells[j]? = some y → RelI h y (f i j)) : RelI h (.slice l) (.slice (some ⟨b, o, none⟩) l.length cap)
  | agg (cs : List IV) (vs : List Value) (hl : cs.length = vs.length) (h1 : ∀ v ∈ vs, v.oneCell' = true)
      (hr : ∀ (i : Nat) (x : IV) (v : Value), cs[i]? = some x → vs[i]? = some v → RelI h x v) : RelI h (.agg cs) (.agg vs.toArray)
  | func (fn : Fn) (cs : List IV) (vs : List Value) (hl : cs.length = vs.length)
      (hr : ∀ (i : Nat) (x : IV) (v : Value), cs[i]? = some x → vs[i]? = some v → RelI h x v) : RelI h (.func fn cs) (.func fn #[] vs.toArray)
  | nilF : RelI h .nilF .nilFunc
  | nilI : RelI h .nilI .nilIface
  | iface (t : TypeId) (x : IV) (v : Value) (hr : RelI h x v) : RelI h (.iface t x) (.iface t v)
  | tup (cs : List IV) (vs : List Value) (hl : cs.length = vs.length)
      (hr : ∀ (i : Nat) (x : IV) (v : Value), cs[i]? = some x → vs[i]? = some v → RelI h x v) : RelI h (.tup cs) (.tuple vs.toArray)
theorem RelI.mono {h h' : Hp} (hh : h.le h') {x : IV} {v : Value} (r : RelI h x v) : RelI h' x v := by
  induction r with
  | bool b => exact .bool b
  | int k n => exact .int k n
  | str s => exact .str s
  | nilP => exact .nilP
  | rptr b o cs f h1 hc _ ih => exact .rptr b o cs f h1 (fun i x e => hh _ _ _ (hc i x e)) ih
  | nilS => exact .nilS
  | oddS b o k => exact .oddS b o k
  | slice b o cap s l f hcap hs h1 hc _ ih => exact .slice b o cap s l f hcap hs h1 (fun i x j y e e' => hh _ _ _ (hc i x j y e e')) ih
  | agg cs vs hl h1 _ ih => exact .agg cs vs hl h1 ih
  | func fn cs vs hl _ ih => exact .func fn cs vs hl ih
  | nilF => exact .nilF
  | nilI => exact .nilI
  | iface t x v _ ih => exact .iface t x v ih
  | tup cs vs hl _ ih => exact .tup cs vs hl ih
abbrev Loc := Nat × Nat × Nat
structure Gh where
  h : Hp
  loc : Nat → Option Loc
inductive PV where
  | i (x : IV)
  | full (l : List IV)
  | tok (k s : Nat) (l : List IV)
  | ptr (k off : Nat)
  | view (k s off len : Nat)
  | vec (k s i n : Nat)
  | ep (k s i o : Nat)
  | agg (cs : List PV)
  | ifc (t : TypeId) (p : PV)
  | clo (fn : Fn) (caps : List PV)
  | bnd (fn : Fn) (first : List PV)
  | tup (vs : List PV)
  | dead
  deriving Inhabited
def Spare (a : Option Addr) (n cap s : Nat) (L : Loc) : Prop :=
  cap = n ∨ ∃ b o, a = some ⟨b, o, none⟩ ∧ L = (b, o + n * s, o + cap * s)
inductive RelP (σ : Gh) : PV → Value → Prop where
  | i (x : IV) (v : Value) (r : RelI σ.h x v) : RelP σ (.i x) v
  | full (l : List IV) (a : Option Addr) (r : RelI σ.h (.slice l) (.slice a l.length l.length)) (pl : PlainA a) : RelP σ (.full l) (.slice a l.length l.length)
  | tok (k s : Nat) (l : List IV) (a : Option Addr) (cap : Nat) (L : Loc) (hk : σ.loc k = some L) (r : RelI σ.h (.slice l) (.slice a l.length cap))
      (hs : ∀ x ∈ l, x.cells.length = s) (sp : Spare a l.length cap s L) : RelP σ (.tok k s l) (.slice a l.length cap)
  | ptr (k off : Nat) (L : Loc) (hk : σ.loc k = some L) : RelP σ (.ptr k off) (.pointer (some ⟨L.1, L.2.1 + off, none⟩))
  | view (k s off len cap : Nat) (L : Loc) (hk : σ.loc k = some L) (hc : len ≤ cap) : RelP σ (.view k s off len) (.slice (some ⟨L.1, L.2.1 + off, none⟩) len cap)
  | vec (k s i n cap : Nat) (L : Loc) (hk : σ.loc k = some L) (hc : n ≤ cap) (he : L.2.1 + i * s + cap * s = L.2.2) : RelP σ (.vec k s i n) (.slice (some ⟨L.1, L.2.1 + i * s, none⟩) n cap)
  | vec0 (k s i : Nat) (a : Option (Nat × Nat)) (L : Loc) (hk : σ.loc k = some L) (he : L.2.1 + i * s = L.2.2) : RelP σ (.vec k s i 0) (.slice (a.map fun x => ⟨x.1, x.2, none⟩) 0 0)
  | ep (k s i o : Nat) (L : Loc) (hk : σ.loc k = some L) : RelP σ (.ep k s i o) (.pointer (some ⟨L.1, L.2.1 + i * s + o, none⟩))
  | agg (cs : List PV) (vs : List Value) (hl : cs.length = vs.length) (h1 : ∀ v ∈ vs, v.oneCell' = true)
      (hr : ∀ (i : Nat) (x : PV) (v : Value), cs[i]? = some x → vs[i]? = some v → RelP σ x v) : RelP σ (.agg cs) (.agg vs.toArray)
  | ifc (t : TypeId) (p : PV) (v : Value) (hr : RelP σ p v) : RelP σ (.ifc t p) (.iface t v)
  | clo (fn : Fn) (cs : List PV) (vs : List Value) (hl : cs.length = vs.length)
      (hr : ∀ (i : Nat) (x : PV) (v : Value), cs[i]? = some x → vs[i]? = some v → RelP σ x v) : RelP σ (.clo fn cs) (.func fn #[] vs.toArray)
  | bnd (fn : Fn) (cs : List PV) (vs : List Value) (hl : cs.length = vs.length)
      (hr : ∀ (i : Nat) (x : PV) (v : Value), cs[i]? = some x → vs[i]? = some v → RelP σ x v) : RelP σ (.bnd fn cs) (.func fn vs.toArray #[])
  | tup (cs : List PV) (vs : List Value) (hl : cs.length = vs.length)
      (hr : ∀ (i : Nat) (x : PV) (v : Value), cs[i]? = some x → vs[i]? = some v → RelP σ x v) : RelP σ (.tup cs) (.tuple vs.toArray)
  | dead (v : Value) : RelP σ .dead v
mutual
def occ (d : Nat) : PV → Bool
  | .i _ => false
  | .full _ => false
  | .tok k _ _ => Nat.beq k d
  | .ptr k _ => Nat.beq k d
  | .view k _ _ _ => Nat.beq k d
  | .vec k _ _ _ => Nat.beq k d
  | .ep k _ _ _ => Nat.beq k d
  | .agg cs => occs d cs
  | .ifc _ p => occ d p
  | .clo _ cs => occs d cs
  | .bnd _ cs => occs d cs
  | .tup cs => occs d cs
  | .dead => false
def occs (d : Nat) : List PV → Bool
  | [] => false
  | p :: r => occ d p || occs d r
end
theorem occs_get {d : Nat} : ∀ {cs : List PV} {i : Nat} {x : PV}, cs[i]? = some x → occs d cs = false → occ d x = false
  | [], i, x, h, _ => by simp at h
  | p :: r, 0, x, h, e => by
    simp at h; subst h
    simp only [occs, Bool.or_eq_false_iff] at e
    exact e.1
  | p :: r, i + 1, x, h, e => by
    simp only [occs, Bool.or_eq_false_iff] at e
    exact occs_get (by simpa using h) e.2
def dem (ks : List Nat) : PV → PV
  | .tok k s l => bif ks.elem k then .i (.slice l) else .tok k s l
  | .ptr k o => bif ks.elem k then .dead else .ptr k o
  | .view k s o n => bif ks.elem k then .dead else .view k s o n
  | .vec k s i n => bif ks.elem k then .dead else .vec k s i n
  | .ep k s i o => bif ks.elem k then .dead else .ep k s i o
  | .agg cs => bif ks.isEmpty then .agg cs else .dead
  | .ifc t p => bif ks.isEmpty then .ifc t p else .dead
  | .clo fn cs => bif ks.isEmpty then .clo fn cs else .dead
  | .bnd fn cs => bif ks.any fun k => occs k cs then .dead else .bnd fn cs
  | .tup cs => bif ks.isEmpty then .tup cs else .dead
  | p => p
structure Mono (ks : List Nat) (σ σ' : Gh) : Prop where
  h : σ.h.le σ'.h
  loc : ∀ k L, k ∉ ks → σ.loc k = some L → σ'.loc k = some L
theorem Mono.refl (ks : List Nat) (σ : Gh) : Mono ks σ σ := ⟨Hp.le_refl _, fun _ _ _ e => e⟩
theorem RelP.mono0 {σ σ' : Gh} (m : Mono [] σ σ') {p : PV} {v : Value} (r : RelP σ p v) : RelP σ' p v := by
  induction r with
  | i x v r => exact .i x v (r.mono m.h)
  | full l a r pl => exact .full l a (r.mono m.h) pl
  | tok k s l a cap L hk r hs sp => exact .tok k s l a cap L (m.loc _ _ (by simp) hk) (r.mono m.h) hs sp
  | ptr k off L hk => exact .ptr k off L (m.loc _ _ (by simp) hk)
  | view k s off len cap L hk hc => exact .view k s off len cap L (m.loc _ _ (by simp) hk) hc
  | vec k s i n cap L hk hc he => exact .vec k s i n cap L (m.loc _ _ (by simp) hk) hc he
  | vec0 k s i a L hk he => exact .vec0 k s i a L (m.loc _ _ (by simp) hk) he
  | ep k s i o L hk => exact .ep k s i o L (m.loc _ _ (by simp) hk)
  | agg cs vs hl h1 _ ih => exact .agg cs vs hl h1 ih
  | ifc t p v _ ih => exact .ifc t p v ih
  | clo fn cs vs hl _ ih => exact .clo fn cs vs hl ih
  | bnd fn cs vs hl _ ih => exact .bnd fn cs vs hl ih
  | tup cs vs hl _ ih => exact .tup cs vs hl ih
  | dead v => exact .dead v
theorem RelP.keep {ks : List Nat} {σ σ' : Gh} (m : Mono ks σ σ') {p : PV} {v : Value} (r : RelP σ p v) : (∀ k ∈ ks, occ k p = false) → RelP σ' p v := by
  have nk : ∀ {k : Nat} {p : PV}, occ k p = true → (∀ j ∈ ks, occ j p = false) → k ∉ ks := fun h g hk => by rw [g _ hk] at h; cases h
  induction r with
  | i x v r => exact fun _ => .i x v (r.mono m.h)
  | full l a r pl => exact fun _ => .full l a (r.mono m.h) pl
  | tok k s l a cap L hk r hs sp => exact fun e => .tok k s l a cap L (m.loc _ _ (nk (by simp [occ]) e) hk) (r.mono m.h) hs sp
  | ptr k off L hk => exact fun e => .ptr k off L (m.loc _ _ (nk (by simp [occ]) e) hk)
  | view k s off len cap L hk hc => exact fun e => .view k s off len cap L (m.loc _ _ (nk (by simp [occ]) e) hk) hc
  | vec k s i n cap L hk hc he => exact fun e => .vec k s i n cap L (m.loc _ _ (nk (by simp [occ]) e) hk) hc he
  | vec0 k s i a L hk he => exact fun e => .vec0 k s i a L (m.loc _ _ (nk (by simp [occ]) e) hk) he
  | ep k s i o L hk => exact fun e => .ep k s i o L (m.loc _ _ (nk (by simp [occ]) e) hk)
  | agg cs vs hl h1 _ ih => exact fun e => .agg cs vs hl h1 fun i x v h1 h2 => ih i x v h1 h2 fun k hk => occs_get h1 (by simpa [occ] using e k hk)
  | ifc t p v _ ih => exact fun e => .ifc t p v (ih fun k hk => by simpa [occ] using e k hk)
  | clo fn cs vs hl _ ih => exact fun e => .clo fn cs vs hl fun i x v h1 h2 => ih i x v h1 h2 fun k hk => occs_get h1 (by simpa [occ] using e k hk)
  | bnd fn cs vs hl _ ih => exact fun e => .bnd fn cs vs hl fun i x v h1 h2 => ih i x v h1 h2 fun k hk => occs_get h1 (by simpa [occ] using e k hk)
  | tup cs vs hl _ ih => exact fun e => .tup cs vs hl fun i x v h1 h2 => ih i x v h1 h2 fun k hk => occs_get h1 (by simpa [occ] using e k hk)
  | dead v => exact fun _ => .dead v
theorem RelP.dem {ks : List Nat} {σ σ' : Gh} (m : Mono ks σ σ') {p : PV} {v : Value} (r : RelP σ p v) : RelP σ' (dem ks p) v := by
  cases r with
  | i x v r => exact .i x v (r.mono m.h)
  | full l a r pl => exact .full l a (r.mono m.h) pl
  | tok k s l a cap L hk r hs sp =>
    simp only [Kn.dem]
    cases e : ks.elem k with
    | true => exact .i _ _ (r.mono m.h)
    | false => exact .tok k s l a cap L (m.loc _ _ (by simpa using e) hk) (r.mono m.h) hs sp
  | ptr k off L hk =>
    simp only [Kn.dem]
    cases e : ks.elem k with
    | true => exact .dead _
    | false => exact .ptr k off L (m.loc _ _ (by simpa using e) hk)
  | view k s off len cap L hk hc =>
    simp only [Kn.dem]
    cases e : ks.elem k with
    | true => exact .dead _
    | false => exact .view k s off len cap L (m.loc _ _ (by simpa using e) hk) hc
  | vec k s i n cap L hk hc he =>
    simp only [Kn.dem]
    cases e : ks.elem k with
    | true => exact .dead _
    | false => exact .vec k s i n cap L (m.loc _ _ (by simpa using e) hk) hc he
  | vec0 k s i a L hk he =>
    simp only [Kn.dem]
    cases e : ks.elem k with
    | true => exact .dead _
    | false => exact .vec0 k s i a L (m.loc _ _ (by simpa using e) hk) he
  | ep k s i o L hk =>
    simp only [Kn.dem]
    cases e : ks.elem k with
    | true => exact .dead _
    | false => exact .ep k s i o L (m.loc _ _ (by simpa using e) hk)
  | agg cs vs hl h1 hr =>
    cases ks with
    | nil => exact .agg cs vs hl h1 fun i x v e e' => (hr i x v e e').mono0 m
    | cons => exact .dead _
  | ifc t p v hr =>
    cases ks with
    | nil => exact .ifc t p v (hr.mono0 m)
    | cons => exact .dead _
  | clo fn cs vs hl hr =>
    cases ks with
    | nil => exact .clo fn cs vs hl fun i x v e e' => (hr i x v e e').mono0 m
    | cons => exact .dead _
  | bnd fn cs vs hl hr =>
    simp only [Kn.dem]
    cases e : (ks.any fun k => occs k cs) with
    | true => exact .dead _
    | false =>
      simp only [List.any_eq_false, Bool.not_eq_true] at e
      exact (RelP.bnd fn cs vs hl hr).keep m fun k hk => by simpa [occ] using e k hk
  | tup cs vs hl hr =>
    cases ks with
    | nil => exact .tup cs vs hl fun i x v e e' => (hr i x v e e').mono0 m
    | cons => exact .dead _
  | dead v => exact .dead v
inductive MO where
  | var (cells : List PV)
  | tip
  | vec (s : Nat) (l : List PV) (c : Option Nat)
  deriving Inhabited
abbrev Mem := List (Nat × MO)
def lk {α : Type} (t : Nat) : List (Nat × α) → Option α
  | [] => none
  | (k, v) :: r => bif Nat.beq k t then some v else lk t r
def rm {α : Type} (t : Nat) : List (Nat × α) → List (Nat × α)
  | [] => []
  | (k, v) :: r => bif Nat.beq k t then rm t r else (k, v) :: rm t r
theorem lk_rm_self {α : Type} (t : Nat) : ∀ l : List (Nat × α), lk t (rm t l) = none
  | [] => rfl
  | (k, v) :: r => by
    simp only [rm]
    cases e : Nat.beq k t with
    | true => exact lk_rm_self t r
    | false => simp only [cond_false, lk, e]; exact lk_rm_self t r
theorem beq_ne {a b : Nat} (h : a ≠ b) : Nat.beq a b = false := by
  cases e : Nat.beq a b with
  | false => rfl
  | true => exact absurd (Nat.eq_of_beq_eq_true e) h
theorem lk_rm_other {α : Type} {t u : Nat} (h : u ≠ t) : ∀ l : List (Nat × α), lk u (rm t l) = lk u l
  | [] => rfl
  | (k, v) :: r => by
    simp only [rm]
    cases e : Nat.beq k t with
    | true =>
      have := Nat.eq_of_beq_eq_true e
      subst this
      simp only [cond_true, lk, beq_ne (Ne.symm h), cond_false]
      exact lk_rm_other h r
    | false => simp only [cond_false, lk]; rw [lk_rm_other h r]
theorem lk_cons_self {α : Type} (t : Nat) (v : α) (l : List (Nat × α)) : lk t ((t, v) :: l) = some v := by
  simp [lk]
theorem lk_cons_other {α : Type} {t u : Nat} (h : u ≠ t) (v : α) (l : List (Nat × α)) : lk u ((t, v) :: l) = lk u l := by
  simp [lk, beq_ne (Ne.symm h)]
def OwnR (σ : Gh) (w : World) (b lo hi : Nat) : Prop :=
  ∀ x, lo ≤ x → x < hi → σ.h b x = none ∧ (∃ v, w.cell? ⟨b, x, none⟩ = some v) ∧ w.frozen? ⟨b, x, none⟩ = false
def MOK (σ : Gh) (w : World) (b lo hi : Nat) : MO → Prop
  | .var cells => hi = lo + cells.length ∧ ∀ i p, cells[i]? = some p → ∃ v, w.cell? ⟨b, lo + i, none⟩ = some v ∧ RelP σ p v ∧ v.oneCell' = true
  | .tip => True
  | .vec s l c => 0 < s ∧ (lo < hi → ∀ x, w.frozen? ⟨b, x, none⟩ = false) ∧ (∀ x, lo ≤ x → x < hi → ∃ v, w.cell? ⟨b, x, none⟩ = some v ∧ v.oneCell' = true) ∧ ∃ cap, hi = lo + cap * s ∧ l.length ≤ cap ∧ (∀ c', c = some c' → c' = cap) ∧
      ∀ (i : Nat) (x : IV), l[i]? = some (.i x) → x.cells.length = s ∧ ∀ (j : Nat) (y : IV), x.cells[j]? = some y → ∃ v, w.cell? ⟨b, lo + i * s + j, none⟩ = some v ∧ RelI σ.h y v ∧ v.oneCell' = true
def isVar : MO → Bool
  | .var _ => true
  | _ => false
structure InvM (σ : Gh) (m : Mem) (w : World) : Prop where
  hh : ∀ b o v, σ.h b o = some v → w.cell? ⟨b, o, none⟩ = some v
  obj : ∀ k o, lk k m = some o → ∃ b lo hi, σ.loc k = some (b, lo, hi) ∧ lo ≤ hi ∧ OwnR σ w b lo hi ∧ MOK σ w b lo hi o
  dis : ∀ k k' o o' b lo hi b' lo' hi', lk k m = some o → lk k' m = some o' → k ≠ k' → σ.loc k = some (b, lo, hi) → σ.loc k' = some (b', lo', hi') → lo < hi → lo' < hi' → b ≠ b'
abbrev Gl := List (Nat × List IV)
structure Ent where
  w0 : World
  h0 : Hp
  B0 : Nat → Prop
  L0 : Nat → Option Loc
structure J (G : Gl) (R : Ent) (σ : Gh) (m : Mem) (w : World) : Prop where
  inv : InvM σ m w
  glob : ∀ g cs, lk g G = some cs → RelI σ.h (.rptr cs) (.pointer (some ⟨g, 0, none⟩))
  hm : R.h0.le σ.h
  os : w.os = R.w0.os
  tape : w.tape = R.w0.tape
  out : w.output = R.w0.output
  sz : R.w0.heap.size ≤ w.heap.size
  old : ∀ b, b < R.w0.heap.size → ¬ R.B0 b → w.heap[b]? = R.w0.heap[b]?
  hn : ∀ b o, b < R.w0.heap.size → ¬ R.B0 b → R.h0 b o = none → σ.h b o = none
  own : ∀ k o b lo hi, lk k m = some o → σ.loc k = some (b, lo, hi) → lo < hi → R.w0.heap.size ≤ b ∨ R.B0 b
  kp : ∀ k L, 1000 ≤ k → R.L0 k = some L → σ.loc k = some L
  kn : ∀ k o L, 1000 ≤ k → lk k m = some o → R.L0 k = some L → isVar o = true
abbrev Env := List (Nat × PV)
structure EnvOK (σ : Gh) (env : Env) (a : Act) : Prop where
  d : a.defers = []
  v : ∀ t p, lk t env = some p → ∃ v, a.tmps[t]? = some v ∧ RelP σ p v
def demE (ks : List Nat) (env : Env) : Env :=
  match ks with
  | [] => env
  | ks => env.map fun e => (e.1, dem ks e.2)
theorem lk_map {α β : Type} (f : α → β) (t : Nat) : ∀ l : List (Nat × α), lk t (l.map fun e => (e.1, f e.2)) = (lk t l).map f
  | [] => rfl
  | (k, v) :: r => by
    simp only [List.map_cons, lk]
    cases Nat.beq k t with
    | true => rfl
    | false => exact lk_map f t r
theorem dem_nil (p : PV) : dem [] p = p := by cases p <;> rfl
theorem lk_demE (ks : List Nat) (t : Nat) (env : Env) : lk t (demE ks env) = (lk t env).map (dem ks) := by
  cases ks with
  | nil =>
    have : (dem [] : PV → PV) = id := by funext p; exact dem_nil p
    simp [demE, this]
  | cons k ks => exact lk_map _ _ _
theorem EnvOK.dem {σ σ' : Gh} {env : Env} {a : Act} {ks : List Nat} (h : EnvOK σ env a) (m : Mono ks σ σ') : EnvOK σ' (demE ks env) a := by
  refine ⟨h.d, fun t p e => ?_⟩
  rw [lk_demE] at e
  cases e' : lk t env with
  | none => rw [e'] at e; cases e
  | some q =>
    rw [e'] at e
    cases e
    obtain ⟨v, hv, r⟩ := h.v t q e'
    exact ⟨v, hv, r.dem m⟩
def put (env : Env) (dst : Option Tmp) (r : PV) : Env :=
  match dst with
  | some d => (d, r) :: env
  | none => env
theorem EnvOK.put {σ : Gh} {env : Env} {a : Act} {dst : Option Tmp} {r : PV} {v : Value} (h : EnvOK σ env a) (hr : RelP σ r v)
    (hd : ∀ d, dst = some d → d < a.tmps.size) : EnvOK σ (Kn.put env dst r) (a.put dst v) := by
  cases dst with
  | none => exact h
  | some d =>
    refine ⟨h.d, fun t p e => ?_⟩
    simp only [Kn.put, Act.put] at e ⊢
    by_cases ht : t = d
    · subst ht
      rw [lk_cons_self] at e
      cases e
      exact ⟨v, by simp [Array.getElem?_setIfInBounds, hd t rfl], hr⟩
    · rw [lk_cons_other ht] at e
      obtain ⟨u, hu, ru⟩ := h.v t p e
      exact ⟨u, by rw [Array.getElem?_setIfInBounds, if_neg (Ne.symm ht)]; exact hu, ru⟩
theorem Act.put_size (a : Act) (dst : Option Tmp) (v : Value) : (a.put dst v).tmps.size = a.tmps.size := by
  cases dst <;> simp [Act.put]
end Go.Kn
namespace Go.Kn
open Go
structure TI where
  size : Nat
  bytes : Nat
  zero : Option Value
  d : TypeDesc
  deriving Inhabited
structure Ty where
  t : List (Nat × TI)
  v : List Nat
def Ty.vec (T : Ty) (v : List Nat) : Ty := { t := T.t, v := v }
structure TOK1 (P : Program) (t : Nat) (ti : TI) : Prop where
  info : ∃ i, P.info? t = some i ∧ i.size = ti.size ∧ i.bytes = ti.bytes ∧ i.zero = ti.zero
  und : P.underlying t = some ti.d
def TOK (P : Program) (T : Ty) : Prop := ∀ t ti, lk t T.t = some ti → TOK1 P t ti
def isAggD : TypeDesc → Bool
  | .struct _ => true
  | .array _ _ => true
  | _ => false
section
variable {P : Program} {t : Nat} {ti : TI}
theorem TOK1.run_size (h : TOK1 P t ti) (w : World) : (sizeOf t).run P w = .ok ti.size w := by
  obtain ⟨i, hi, hs, _⟩ := h.info
  simp [sizeOf, typeInfo, hi, hs]
theorem TOK1.run_info (h : TOK1 P t ti) (w : World) : ∃ i, (typeInfo t).run P w = .ok i w ∧ i.size = ti.size ∧ i.bytes = ti.bytes ∧ i.zero = ti.zero := by
  obtain ⟨i, hi, hs⟩ := h.info
  exact ⟨i, by simp [typeInfo, hi], hs⟩
theorem TOK1.run_und (h : TOK1 P t ti) (w : World) : (underlying t).run P w = .ok ti.d w := run_underlying h.und w
theorem TOK1.run_isAgg (h : TOK1 P t ti) (w : World) : (isAgg t).run P w = .ok (isAggD ti.d) w := by
  simp only [isAgg, Sem.run_bind, h.run_und, Result.andThen_ok]
  cases ti.d <;> rfl
theorem TOK1.run_zero (h : TOK1 P t ti) {v : Value} (hz : ti.zero = some v) (w : World) : (zeroValue t).run P w = .ok v w := by
  obtain ⟨i, hi, _, _, hz'⟩ := h.info
  simp [zeroValue, typeInfo, hi, hz', hz]
end
def ofV1 : Value → Option IV
  | .bool b => some (.bool b)
  | .int k n => some (.int k n)
  | .string s => some (.str s.data.toList)
  | .pointer none => some .nilP
  | .slice none n c => bif Nat.beq n 0 && Nat.beq c 0 then some (.slice []) else none
  | .nilFunc => some .nilF
  | .nilIface => some .nilI
  | .func fn f c => match f.toList, c.toList with
    | [], [] => some (.func fn [])
    | _, _ => none
  | _ => none
def ofVs : List Value → Option (List IV)
  | [] => some []
  | v :: r => match ofV1 v with
    | some x => match ofVs r with
      | some xs => some (x :: xs)
      | none => none
    | none => none
def ofV : Value → Option IV
  | .agg cs => match ofVs cs.toList with
    | some xs => some (.agg xs)
    | none => none
  | v => ofV1 v
theorem ofV1_rel {h : Hp} {v : Value} {x : IV} (e : ofV1 v = some x) : RelI h x v ∧ v.oneCell' = true := by
  unfold ofV1 at e
  split at e
  · cases e; exact ⟨.bool _, rfl⟩
  · cases e; exact ⟨.int _ _, rfl⟩
  · rename_i s; cases e; exact ⟨.str s.data.toList, rfl⟩
  · cases e; exact ⟨.nilP, rfl⟩
  · rename_i n c
    cases hb : (Nat.beq n 0 && Nat.beq c 0) with
    | false => simp [hb] at e
    | true =>
      simp only [hb, cond_true] at e
      cases e
      simp only [Bool.and_eq_true] at hb
      have h1 := Nat.eq_of_beq_eq_true hb.1
      have h2 := Nat.eq_of_beq_eq_true hb.2
      subst h1; subst h2
      exact ⟨.nilS, rfl⟩
  · cases e; exact ⟨.nilF, rfl⟩
  · cases e; exact ⟨.nilI, rfl⟩
  · rename_i fn f c
    split at e
    · rename_i hf hc
      cases e
      have hf' : f = #[] := by simpa using hf
      have hc' : c = #[] := by simpa using hc
      subst hf'; subst hc'
      exact ⟨.func fn [] [] rfl (by intro i x v e; simp at e), rfl⟩
    · cases e
  · cases e
theorem ofVs_rel {h : Hp} : ∀ {vs : List Value} {xs : List IV}, ofVs vs = some xs → xs.length = vs.length ∧ (∀ v ∈ vs, v.oneCell' = true) ∧ ∀ (i : Nat) (x : IV) (v : Value), xs[i]? = some x → vs[i]? = some v → RelI h x v
  | [], xs, e => by
    simp only [ofVs] at e
    cases e
    exact ⟨rfl, by simp, fun i x v e => by simp at e⟩
  | v :: r, xs, e => by
    simp only [ofVs] at e
    split at e
    · rename_i x hx
      split at e
      · rename_i ys hy
        cases e
        obtain ⟨a, b, c⟩ := ofVs_rel (h := h) hy
        obtain ⟨p, q⟩ := ofV1_rel (h := h) hx
        refine ⟨by simp [a], by simpa using ⟨q, b⟩, fun i x' v' e1 e2 => ?_⟩
        cases i with
        | zero => simp at e1 e2; subst e1; subst e2; exact p
        | succ i => exact c i x' v' (by simpa using e1) (by simpa using e2)
      · cases e
    · cases e
theorem ofV_rel {h : Hp} {v : Value} {x : IV} (e : ofV v = some x) : RelI h x v := by
  unfold ofV at e
  split at e
  · rename_i cs
    split at e
    · rename_i xs hx
      cases e
      obtain ⟨a, b, c⟩ := ofVs_rel (h := h) hx
      exact .agg xs cs.toList a b c
    · cases e
  · exact (ofV1_rel e).1
def constPV : Value → Option PV
  | .slice none n c => bif Nat.beq n 0 && Nat.beq c 0 then some (.full []) else none
  | v => match ofV v with
    | some x => some (.i x)
    | none => none
def evalO (G : Gl) (env : Env) : Operand → Option PV
  | .tmp t => lk t env
  | .const v => constPV v
  | .global g => match lk g G with
    | some cs => some (.i (.rptr cs))
    | none => none
  | .func f => some (.i (.func (.func f) []))
section
variable {P : Program} {G : Gl} {R : Ent} {σ : Gh} {m : Mem} {w : World} {env : Env} {a : Act}
theorem constPV_rel {v : Value} {p : PV} (e : constPV v = some p) : RelP σ p v := by
  unfold constPV at e
  split at e
  · rename_i n c
    cases hb : (Nat.beq n 0 && Nat.beq c 0) with
    | false => simp [hb] at e
    | true =>
      simp only [hb, cond_true] at e
      cases e
      simp only [Bool.and_eq_true] at hb
      have h1 := Nat.eq_of_beq_eq_true hb.1
      have h2 := Nat.eq_of_beq_eq_true hb.2
      subst h1; subst h2
      exact .full [] none .nilS trivial
  · split at e
    · rename_i x hx; cases e; exact .i _ _ (ofV_rel hx)
    · cases e
theorem evalO_rel (he : EnvOK σ env a) (hj : J G R σ m w) {x : Operand} {p : PV} (e : evalO G env x = some p) : RelP σ p (a.eval x) := by
  cases x with
  | tmp t =>
    obtain ⟨v, hv, r⟩ := he.v t p e
    have : a.eval (.tmp t) = v := by simp [Act.eval, Array.getD_eq_getD_getElem?, hv]
    rw [this]; exact r
  | const v => exact constPV_rel e
  | global g =>
    simp only [evalO] at e
    split at e
    · rename_i cs hc; cases e; exact .i _ _ (hj.glob g cs hc)
    · cases e
  | func f =>
    simp only [evalO] at e
    cases e
    exact .i _ _ (.func (.func f) [] [] rfl (by intro i x v e; simp at e))
end
def Step (P : Program) (G : Gl) (o : Oper) (env : Env) (m : Mem) (r : PV) (env1 : Env) (m1 : Mem) : Prop :=
  ∀ (R : Ent) (σ : Gh) (a : Act) (w : World), EnvOK σ env a → J G R σ m w → (∀ d, o.dst = some d → d < 1000) →
    ∀ (next : Act → World → Prop) (Q : Exit → Act → World → Prop),
      (∀ σ' v w', RelP σ' r v → EnvOK σ' env1 a → J G R σ' m1 w' → next (a.put o.dst v) w') → o.wp P a w next Q
def SV (P : Program) (G : Gl) (o : Oper) (env : Env) (m : Mem) (r : PV) : Prop :=
  ∀ (R : Ent) (σ : Gh) (a : Act) (w : World), EnvOK σ env a → J G R σ m w → ∃ v, RelP σ r v ∧ (execOp a.eval o).run P w = .ok (.value v) w
section
variable {P : Program} {G : Gl} {o : Oper} {env : Env} {m : Mem} {r : PV}
theorem SV.step (h : SV P G o env m r) : Step P G o env m r env m := by
  intro R σ a w he hj _ next Q k
  obtain ⟨v, hr, hx⟩ := h R σ a w he hj
  simp only [Oper.wp, hx, Oper.upon_value]
  exact k σ v w hr he hj
theorem step_skip (h : ∀ (R : Ent) (σ : Gh) (a : Act) (w : World), EnvOK σ env a → J G R σ m w → (execOp a.eval o).run P w = .ok .skip w) :
    Step P G o env m .dead env m := by
  intro R σ a w he hj _ next Q k
  simp only [Oper.wp, h R σ a w he hj, Oper.upon_skip]
  exact k σ undef w (.dead _) he hj
theorem step_move {x : Operand} (ho : o.op = .move x ∨ o.op = .assign x) (e : evalO G env x = some r) : SV P G o env m r := by
  refine fun R σ a w he hj => ⟨a.eval x, evalO_rel he hj e, ?_⟩
  rcases ho with ho | ho <;> simp [execOp, ho]
theorem step_pick_true {c x y : Operand} (ho : o.op = .pick c x y) (hc : evalO G env c = some (.i (.bool true))) (e : evalO G env x = some r) : SV P G o env m r := by
  refine fun R σ a w he hj => ⟨a.eval x, evalO_rel he hj e, ?_⟩
  have := evalO_rel he hj hc
  generalize hv : a.eval c = v at this
  cases this with | i _ _ h => cases h; simp [execOp, ho, hv, asBool]
theorem step_pick_false {c x y : Operand} (ho : o.op = .pick c x y) (hc : evalO G env c = some (.i (.bool false))) (e : evalO G env y = some r) : SV P G o env m r := by
  refine fun R σ a w he hj => ⟨a.eval y, evalO_rel he hj e, ?_⟩
  have := evalO_rel he hj hc
  generalize hv : a.eval c = v at this
  cases this with | i _ _ h => cases h; simp [execOp, ho, hv, asBool]
end
section
variable {P : Program} {G : Gl} {o : Oper} {env : Env} {m : Mem}
theorem rel_int {σ : Gh} {k : IntKind} {n : Int} {v : Value} (r : RelP σ (.i (.int k n)) v) : v = .int k n := by
  cases r with | i _ _ h => cases h; rfl
theorem rel_bool {σ : Gh} {b : Bool} {v : Value} (r : RelP σ (.i (.bool b)) v) : v = .bool b := by
  cases r with | i _ _ h => cases h; rfl
theorem rel_str {σ : Gh} {s : List UInt8} {v : Value} (r : RelP σ (.i (.str s)) v) : v = .string ⟨s.toArray⟩ := by
  cases r with | i _ _ h => cases h; rfl
theorem step_bin {op : BinOp} {xT yT : TypeId} {x y : Operand} (ho : o.op = .binOp op xT x y yT) {p q : PV} (hp : evalO G env x = some p) (hq : evalO G env y = some q) {z : IV}
    (h : ∀ (σ : Gh) (w : World) (u v : Value), RelP σ p u → RelP σ q v → ∃ s, RelI σ.h z s ∧ (do eqGuard op xT x y u v; binOp op xT u v : Sem Value).run P w = .ok s w) :
    SV P G o env m (.i z) := by
  refine fun R σ a w he hj => ?_
  obtain ⟨s, hs, hr⟩ := h σ w _ _ (evalO_rel he hj hp) (evalO_rel he hj hq)
  refine ⟨s, .i _ _ hs, ?_⟩
  simp only [execOp, ho]
  simp only [Sem.run_bind] at hr ⊢
  cases hg : (eqGuard op xT x y (a.eval x) (a.eval y)).run P w with
  | halt e w' => rw [hg] at hr; simp at hr
  | ok u w' =>
    rw [hg] at hr
    simp only [Result.andThen_ok] at hr ⊢
    rw [hr]
    simp
theorem run_eqGuard_scalar (op : BinOp) (xT : TypeId) (x y : Operand) (u v : Value) (w : World) (h1 : ∀ cs, u ≠ .agg cs) (h2 : u ≠ .nilIface) :
    (eqGuard op xT x y u v).run P w = .ok () w := by
  unfold eqGuard
  cases u <;> first
    | exact absurd rfl h2
    | exact absurd rfl (h1 _)
    | (cases op <;> rfl)
def iArith (op : BinOp) (k : IntKind) (a b : Int) : Option IV :=
  match op with
  | .add => some (.int k (k.wrap (a + b)))
  | .sub => some (.int k (k.wrap (a - b)))
  | .mul => some (.int k (k.wrap (a * b)))
  | .and => some (.int k (Go.bits .and k a b))
  | .or => some (.int k (Go.bits .or k a b))
  | .xor => some (.int k (Go.bits .xor k a b))
  | .andNot => some (.int k (Go.bits .andNot k a b))
  | .eql => some (.bool (a == b))
  | .neq => some (.bool (a != b))
  | .lss => some (.bool (decide (a < b)))
  | .leq => some (.bool (decide (a ≤ b)))
  | .gtr => some (.bool (decide (a > b)))
  | .geq => some (.bool (decide (a ≥ b)))
  | _ => none
theorem run_iArith {op : BinOp} {k : IntKind} {a b : Int} {z : IV} (h : iArith op k a b = some z) (t : TypeId) (w : World) :
    ∀ hp, ∃ s, RelI hp z s ∧ (binOp op t (.int k a) (.int k b)).run P w = .ok s w := by
  intro hp
  cases op <;> simp only [iArith] at h <;> first
    | (cases h; done)
    | (cases h; refine ⟨_, .int _ _, ?_⟩; simp [binOp, Op.intArith]; done)
    | (cases h; refine ⟨_, .bool _, ?_⟩; simp [binOp, Op.intCmp]; done)
    | (cases h; refine ⟨_, .int _ _, ?_⟩; simp [binOp, intBits_and, intBits_or, intBits_xor, intBits_andNot]; done)
theorem step_iArith {op : BinOp} {xT yT : TypeId} {x y : Operand} {k : IntKind} {a b : Int} {z : IV} (ho : o.op = .binOp op xT x y yT) (hp : evalO G env x = some (.i (.int k a)))
    (hq : evalO G env y = some (.i (.int k b))) (h : iArith op k a b = some z) : SV P G o env m (.i z) := by
  refine step_bin ho hp hq fun σ w u v hu hv => ?_
  rw [rel_int hu, rel_int hv]
  obtain ⟨s, hs, hr⟩ := run_iArith (P := P) h xT w σ.h
  refine ⟨s, hs, ?_⟩
  simp only [Sem.run_bind, run_eqGuard_scalar op xT x y (.int k a) (.int k b) w (by simp) (by simp), Result.andThen_ok, hr]
theorem step_iDiv {op : BinOp} {xT yT : TypeId} {x y : Operand} {k : IntKind} {a b : Int} (ho : o.op = .binOp op xT x y yT) (hop : op = .quo) (hp : evalO G env x = some (.i (.int k a)))
    (hq : evalO G env y = some (.i (.int k b))) (hb : b ≠ 0) : SV P G o env m (.i (.int k (k.wrap (a.tdiv b)))) := by
  refine step_bin ho hp hq fun σ w u v hu hv => ?_
  rw [rel_int hu, rel_int hv]
  refine ⟨_, .int _ _, ?_⟩
  simp only [Sem.run_bind, run_eqGuard_scalar op xT x y (.int k a) (.int k b) w (by simp) (by simp), Result.andThen_ok]
  subst hop
  simp [binOp, Op.intDiv, hb]
theorem step_iRem {op : BinOp} {xT yT : TypeId} {x y : Operand} {k : IntKind} {a b : Int} (ho : o.op = .binOp op xT x y yT) (hop : op = .rem) (hp : evalO G env x = some (.i (.int k a)))
    (hq : evalO G env y = some (.i (.int k b))) (hb : b ≠ 0) : SV P G o env m (.i (.int k (a.tmod b))) := by
  refine step_bin ho hp hq fun σ w u v hu hv => ?_
  rw [rel_int hu, rel_int hv]
  refine ⟨_, .int _ _, ?_⟩
  simp only [Sem.run_bind, run_eqGuard_scalar op xT x y (.int k a) (.int k b) w (by simp) (by simp), Result.andThen_ok]
  subst hop
  simp [binOp, Op.intDiv, hb]
def iShift (op : BinOp) (k : IntKind) (a b : Int) : Option IV :=
  match op with
  | .shl => some (.int k (k.wrap (a * 2 ^ (min b.toNat k.bits))))
  | .shr => some (.int k (a.fdiv (2 ^ (min b.toNat k.bits))))
  | _ => none
theorem step_iShift {op : BinOp} {xT yT : TypeId} {x y : Operand} {k k' : IntKind} {a b : Int} {z : IV} (ho : o.op = .binOp op xT x y yT) (hp : evalO G env x = some (.i (.int k a)))
    (hq : evalO G env y = some (.i (.int k' b))) (h : iShift op k a b = some z) (hb : 0 ≤ b) : SV P G o env m (.i z) := by
  refine step_bin ho hp hq fun σ w u v hu hv => ?_
  rw [rel_int hu, rel_int hv]
  have hb' : ¬ b < 0 := by omega
  cases op <;> simp only [iShift] at h <;> first
    | (cases h; done)
    | (cases h; refine ⟨_, .int _ _, ?_⟩
       simp only [Sem.run_bind, run_eqGuard_scalar _ xT x y (.int k a) (.int k' b) w (by simp) (by simp), Result.andThen_ok]
       simp [binOp, Op.shift, hb'])
theorem toList_mk (s : List UInt8) : (⟨s.toArray⟩ : ByteArray).toList = s := by
  simp [ByteArray.toList_eq]
end
end Go.Kn
namespace Go.Kn
open Go
section
variable {P : Program} {G : Gl} {o : Oper} {env : Env} {m : Mem}
def EqOK (P : Program) (t : TypeId) (p q : PV) (b : Bool) : Prop :=
  ∀ (σ : Gh) (w : World) (u v : Value) (x y : Operand), RelP σ p u → RelP σ q v →
    (do eqGuard .eql t x y u v; binOp .eql t u v : Sem Value).run P w = .ok (.bool b) w ∧
    (do eqGuard .neq t x y u v; binOp .neq t u v : Sem Value).run P w = .ok (.bool (!b)) w
theorem step_eql {xT yT : TypeId} {x y : Operand} (ho : o.op = .binOp .eql xT x y yT) {p q : PV} (hp : evalO G env x = some p) (hq : evalO G env y = some q) {b : Bool}
    (h : EqOK P xT p q b) : SV P G o env m (.i (.bool b)) :=
  step_bin ho hp hq fun σ w u v hu hv => ⟨_, .bool b, (h σ w u v x y hu hv).1⟩
theorem step_neq {xT yT : TypeId} {x y : Operand} (ho : o.op = .binOp .neq xT x y yT) {p q : PV} (hp : evalO G env x = some p) (hq : evalO G env y = some q) {b : Bool}
    (h : EqOK P xT p q b) : SV P G o env m (.i (.bool (!b))) :=
  step_bin ho hp hq fun σ w u v hu hv => ⟨_, .bool _, (h σ w u v x y hu hv).2⟩
def iStr (op : BinOp) (a b : List UInt8) : Option IV :=
  match op with
  | .add => some (.str (a ++ b))
  | .eql => some (.bool (a == b))
  | .neq => some (.bool (!(a == b)))
  | .lss => some (.bool (Op.bytesLess a b))
  | .leq => some (.bool (Op.bytesLess a b || a == b))
  | .gtr => some (.bool (!(Op.bytesLess a b || a == b)))
  | .geq => some (.bool (!Op.bytesLess a b))
  | _ => none
theorem step_iStr {op : BinOp} {xT yT : TypeId} {x y : Operand} {a b : List UInt8} {z : IV} (ho : o.op = .binOp op xT x y yT) (hp : evalO G env x = some (.i (.str a)))
    (hq : evalO G env y = some (.i (.str b))) (h : iStr op a b = some z) (hb : a.length + b.length ≤ 9223372036854775807) : SV P G o env m (.i z) := by
  refine step_bin ho hp hq fun σ w u v hu hv => ?_
  rw [rel_str hu, rel_str hv]
  have hz : ¬ (((⟨a.toArray⟩ : ByteArray).size + (⟨b.toArray⟩ : ByteArray).size : Nat) : Int) > IntKind.i64.max := by
    simp only [ByteArray.size, List.size_toArray, IntKind.max, IntKind.signed, IntKind.bits]
    simp
    omega
  have hg : ∀ op, (eqGuard op xT x y (.string ⟨a.toArray⟩) (.string ⟨b.toArray⟩)).run P w = .ok () w := fun op => run_eqGuard_scalar op xT x y _ _ w (by simp) (by simp)
  have hap : (⟨a.toArray⟩ : ByteArray) ++ ⟨b.toArray⟩ = ⟨(a ++ b).toArray⟩ := by
    apply ByteArray.ext; simp
  cases op <;> simp only [iStr] at h <;> first
    | (cases h; done)
    | (cases h; refine ⟨_, .str _, ?_⟩; simp only [Sem.run_bind, hg, Result.andThen_ok]; simp only [binOp, Op.stringOp, if_neg hz, hap]; rfl)
    | (cases h; refine ⟨_, .bool _, ?_⟩; simp only [Sem.run_bind, hg, Result.andThen_ok]; simp only [binOp, Op.stringOp, toList_mk]; rfl)
theorem step_not {xT : TypeId} {x : Operand} {b : Bool} (ho : o.op = .unOp .not xT x) (hp : evalO G env x = some (.i (.bool b))) : SV P G o env m (.i (.bool (!b))) := by
  refine fun R σ a w he hj => ⟨_, .i _ _ (.bool _), ?_⟩
  simp [execOp, ho, rel_bool (evalO_rel he hj hp), Op.unary]
theorem step_neg {xT : TypeId} {x : Operand} {k : IntKind} {n : Int} (ho : o.op = .unOp .neg xT x) (hp : evalO G env x = some (.i (.int k n))) : SV P G o env m (.i (.int k (k.wrap (0 - n)))) := by
  refine fun R σ a w he hj => ⟨_, .i _ _ (.int _ _), ?_⟩
  simp [execOp, ho, rel_int (evalO_rel he hj hp), Op.unary, Op.intArith]
theorem step_com {xT : TypeId} {x : Operand} {k : IntKind} {n : Int} (ho : o.op = .unOp .xor xT x) (hp : evalO G env x = some (.i (.int k n))) :
    SV P G o env m (.i (.int k (Go.bits .xor k (if k.signed then -1 else k.max) n))) := by
  refine fun R σ a w he hj => ⟨_, .i _ _ (.int _ _), ?_⟩
  simp [execOp, ho, rel_int (evalO_rel he hj hp), Op.unary, intBits_xor]
theorem step_extract {x : Operand} {xs : List IV} {n : Nat} {y : IV} (ho : o.op = .extract x n) (hp : evalO G env x = some (.i (.tup xs))) (hy : xs[n]? = some y) :
    SV P G o env m (.i y) := by
  refine fun R σ a w he hj => ?_
  have r := evalO_rel he hj hp
  generalize hv : a.eval x = v at r
  cases r with | i _ _ r =>
  cases r with | tup cs vs hl hr =>
  have hn : n < vs.length := by
    rw [← hl]; exact (List.getElem?_eq_some_iff.1 hy).1
  refine ⟨vs[n], .i _ _ (hr n y vs[n] hy (by simp [hn])), ?_⟩
  simp [execOp, ho, hv, Instr.extract, hn]
theorem step_extractP {x : Operand} {xs : List PV} {n : Nat} {y : PV} (ho : o.op = .extract x n) (hp : evalO G env x = some (.tup xs)) (hy : xs[n]? = some y) :
    SV P G o env m y := by
  refine fun R σ a w he hj => ?_
  have r := evalO_rel he hj hp
  generalize hv : a.eval x = v at r
  cases r with | tup cs vs hl hr =>
  have hn : n < vs.length := by
    rw [← hl]; exact (List.getElem?_eq_some_iff.1 hy).1
  refine ⟨vs[n], hr n y vs[n] hy (by simp [hn]), ?_⟩
  simp [execOp, ho, hv, Instr.extract, hn]
theorem add_plain (b off n : Nat) : (⟨b, off, none⟩ : Addr).add n = ⟨b, off + n, none⟩ := by
  unfold Addr.add
  by_cases h : n = 0 <;> simp [h]
theorem take_get {α : Type} {l : List α} {n i : Nat} {x : α} (h : (l.take n)[i]? = some x) : l[i]? = some x := by
  rw [List.getElem?_take] at h
  split at h
  · exact h
  · cases h
theorem relI_aggOf {h : Hp} (cs : List IV) (f : Nat → Value) (h1 : ∀ (i : Nat) (x : IV), cs[i]? = some x → (f i).oneCell' = true)
    (hr : ∀ (i : Nat) (x : IV), cs[i]? = some x → RelI h x (f i)) : RelI h (.agg cs) (.agg ((List.range cs.length).map f).toArray) := by
  refine .agg cs _ (by simp) ?_ ?_
  · intro v hv
    simp only [List.mem_map, List.mem_range] at hv
    obtain ⟨i, hi, rfl⟩ := hv
    exact h1 i cs[i] (by simp [hi])
  · intro i x v hx hv
    have hi := (List.getElem?_eq_some_iff.1 hx).1
    simp [hi] at hv
    subst hv
    exact hr i x hx
theorem run_loadVar_agg {t : Nat} {ti : TI} (T : TOK1 P t ti) (ha : isAggD ti.d = true) (b off : Nat) (f : Nat → Value) (w : World)
    (h : ∀ j, j < ti.size → w.cell? ⟨b, off + j, none⟩ = some (f j)) : (loadVar t ⟨b, off, none⟩).run P w = .ok (.agg ((List.range ti.size).map f).toArray) w := by
  have hl := run_loadCells (P := P) w ⟨b, off, none⟩ ti.size f (fun j hj => by
    rw [add_plain]; exact h j hj)
  simp only [loadVar, Sem.run_bind, T.run_isAgg, T.run_size, Result.andThen_ok, ha, if_true]
  rw [hl]
  rfl
theorem run_loadVar_one {t : Nat} {ti : TI} (T : TOK1 P t ti) (ha : isAggD ti.d = false) (x : Addr) (v : Value) (w : World)
    (h : w.cell? x = some v) : (loadVar t x).run P w = .ok v w := by
  simp only [loadVar, Sem.run_bind, T.run_isAgg, Result.andThen_ok, ha, Bool.false_eq_true, if_false, run_load, h]
theorem step_load_ragg {t : Nat} {ti : TI} {x : Operand} {cs : List IV} (T : TOK1 P t ti) (ha : isAggD ti.d = true) (ho : o.op = .load t x)
    (hp : evalO G env x = some (.i (.rptr cs))) (hl : (cs.take ti.size).length = ti.size) : SV P G o env m (.i (.agg (cs.take ti.size))) := by
  refine fun R σ a w he hj => ?_
  have r := evalO_rel he hj hp
  generalize hv : a.eval x = v at r
  cases r with | i _ _ r =>
  cases r with | rptr b off cs f h1 hc hr =>
  have hsz : ti.size ≤ cs.length := by simp at hl; omega
  refine ⟨_, .i _ _ (relI_aggOf (cs.take ti.size) f (fun i x hx => h1 i x (take_get hx))
    (fun i x hx => hr i x (take_get hx))), ?_⟩
  rw [hl]
  simp only [execOp, ho, Instr.loadAt, hv, Instr.sureAddr, Sem.run_bind, Sem.run_pure, Result.andThen_ok]
  rw [run_loadVar_agg T ha b off f w (fun j hj' => hj.inv.hh _ _ _ (hc j cs[j] (by simp)))]
  simp
theorem step_load_rone {t : Nat} {ti : TI} {x : Operand} {c : IV} {cs : List IV} (T : TOK1 P t ti) (ha : isAggD ti.d = false) (ho : o.op = .load t x)
    (hp : evalO G env x = some (.i (.rptr (c :: cs)))) : SV P G o env m (.i c) := by
  refine fun R σ a w he hj => ?_
  have r := evalO_rel he hj hp
  generalize hv : a.eval x = v at r
  cases r with | i _ _ r =>
  cases r with | rptr b off cs f h1 hc hr =>
  refine ⟨f 0, .i _ _ (hr 0 c rfl), ?_⟩
  simp only [execOp, ho, Instr.loadAt, hv, Instr.sureAddr, Sem.run_bind, Sem.run_pure, Result.andThen_ok]
  rw [run_loadVar_one T ha _ (f 0) w (by simpa using hj.inv.hh _ _ _ (hc 0 c rfl))]
  simp
mutual
def iv? : PV → Option IV
  | .i x => some x
  | .full l => some (.slice l)
  | .tok _ _ l => some (.slice l)
  | .agg cs => match ivs? cs with
    | some xs => some (.agg xs)
    | none => none
  | .ifc t p => match iv? p with
    | some x => some (.iface t x)
    | none => none
  | _ => none
def ivs? : List PV → Option (List IV)
  | [] => some []
  | p :: r => match iv? p with
    | some x => match ivs? r with
      | some xs => some (x :: xs)
      | none => none
    | none => none
end
theorem ivs?_get : ∀ {ps : List PV} {xs : List IV}, ivs? ps = some xs → xs.length = ps.length ∧ ∀ (i : Nat) (p : PV), ps[i]? = some p → ∃ x, xs[i]? = some x ∧ iv? p = some x
  | [], xs, e => by cases e; simp
  | p :: r, xs, e => by
    simp only [ivs?] at e
    split at e
    · rename_i x hx
      split at e
      · rename_i ys hy
        cases e
        obtain ⟨a, b⟩ := ivs?_get hy
        refine ⟨by simp [a], fun i q hq => ?_⟩
        cases i with
        | zero => simp at hq; subst hq; exact ⟨x, rfl, hx⟩
        | succ i => simpa using b i q (by simpa using hq)
      · cases e
    · cases e
theorem RelP.iv {σ : Gh} {p : PV} {v : Value} (r : RelP σ p v) : ∀ {x : IV}, iv? p = some x → RelI σ.h x v := by
  induction r with
  | i x v r => intro x e; simp only [iv?] at e; cases e; exact r
  | full l a r pl => intro x e; simp only [iv?] at e; cases e; exact r
  | tok k s l a cap L hk r hs sp => intro x e; simp only [iv?] at e; cases e; exact r
  | agg cs vs hl h1 _ ih =>
    intro x e
    simp only [iv?] at e
    split at e
    · rename_i xs hx
      cases e
      obtain ⟨g1, g2⟩ := ivs?_get hx
      refine .agg xs vs (g1.trans hl) h1 fun i y v e1 e2 => ?_
      have hi : i < cs.length := by rw [← g1]; exact (List.getElem?_eq_some_iff.1 e1).1
      obtain ⟨x', q1, q2⟩ := g2 i cs[i] (List.getElem?_eq_getElem hi)
      rw [e1] at q1; cases q1
      exact ih i cs[i] v (List.getElem?_eq_getElem hi) e2 q2
    · cases e
  | ifc t p v _ ih =>
    intro x e
    simp only [iv?] at e
    split at e
    · rename_i y hy; cases e; exact .iface t y v (ih hy)
    · cases e
  | _ => intro x e; simp only [iv?] at e; cases e
theorem step_load_agg {t : Nat} {ti : TI} {x : Operand} {k off : Nat} {cells : List PV} {cs : List IV} (T : TOK1 P t ti) (ha : isAggD ti.d = true) (ho : o.op = .load t x)
    (hp : evalO G env x = some (.ptr k off)) (hm : lk k m = some (.var cells)) (hi : ivs? ((cells.drop off).take ti.size) = some cs) (hl : cs.length = ti.size) :
    SV P G o env m (.i (.agg cs)) := by
  refine fun R σ a w he hj => ?_
  have r := evalO_rel he hj hp
  generalize hv : a.eval x = v at r
  cases r with | ptr _ _ L hk =>
  obtain ⟨b, lo, hi', hk', hle, hown, hhi, hcells⟩ := hj.inv.obj k _ hm
  rw [hk] at hk'
  cases hk'
  obtain ⟨hlen, hget⟩ := ivs?_get hi
  have key : ∀ (i : Nat) (x : IV), cs[i]? = some x → ∃ v, w.cell? ⟨b, lo + off + i, none⟩ = some v ∧ RelI σ.h x v ∧ v.oneCell' = true := by
    intro i x hx
    have hi2 : i < ((cells.drop off).take ti.size).length := by rw [← hlen]; exact (List.getElem?_eq_some_iff.1 hx).1
    obtain ⟨p, hp'⟩ : ∃ p, ((cells.drop off).take ti.size)[i]? = some p := ⟨_, List.getElem?_eq_getElem hi2⟩
    obtain ⟨x', hx', hiv⟩ := hget i p hp'
    rw [hx] at hx'; cases hx'
    rw [List.getElem?_take] at hp'
    split at hp'
    · rw [List.getElem?_drop] at hp'
      obtain ⟨v, h1, h2, h3⟩ := hcells (off + i) p hp'
      exact ⟨v, by rw [Nat.add_assoc]; exact h1, h2.iv hiv, h3⟩
    · cases hp'
  refine ⟨_, .i _ _ (relI_aggOf cs (fun i => (w.cell? ⟨b, lo + off + i, none⟩).getD undef) (fun i x hx => ?_) (fun i x hx => ?_)), ?_⟩
  · obtain ⟨v, h1, h2, h3⟩ := key i x hx
    simp [h1, h3]
  · obtain ⟨v, h1, h2, h3⟩ := key i x hx
    simpa [h1] using h2
  · rw [hl]
    simp only [execOp, ho, Instr.loadAt, hv, Instr.sureAddr, Sem.run_bind, Sem.run_pure, Result.andThen_ok]
    rw [run_loadVar_agg T ha b (lo + off) (fun i => (w.cell? ⟨b, lo + off + i, none⟩).getD undef) w (fun j hj' => ?_)]
    · simp
    · obtain ⟨v, h1, h2, h3⟩ := key j cs[j] (by simp)
      simp [h1]
theorem step_load_one {t : Nat} {ti : TI} {x : Operand} {k off : Nat} {cells : List PV} {p : PV} (T : TOK1 P t ti) (ha : isAggD ti.d = false) (ho : o.op = .load t x)
    (hp : evalO G env x = some (.ptr k off)) (hm : lk k m = some (.var cells)) (hc : cells[off]? = some p) : SV P G o env m p := by
  refine fun R σ a w he hj => ?_
  have r := evalO_rel he hj hp
  generalize hv : a.eval x = v at r
  cases r with | ptr _ _ L hk =>
  obtain ⟨b, lo, hi', hk', hle, hown, hhi, hcells⟩ := hj.inv.obj k _ hm
  rw [hk] at hk'
  cases hk'
  obtain ⟨v, h1, h2, h3⟩ := hcells off p hc
  refine ⟨v, h2, ?_⟩
  simp only [execOp, ho, Instr.loadAt, hv, Instr.sureAddr, Sem.run_bind, Sem.run_pure, Result.andThen_ok]
  rw [run_loadVar_one T ha _ v w h1]
  simp
theorem RelI.rdrop {h : Hp} {b off : Nat} {cs : List IV} (n : Nat) (r : RelI h (.rptr cs) (.pointer (some ⟨b, off, none⟩))) :
    RelI h (.rptr (cs.drop n)) (.pointer (some ⟨b, off + n, none⟩)) := by
  cases r with | rptr _ _ cs f h1 hc hr =>
  refine .rptr b (off + n) (cs.drop n) (fun i => f (n + i)) (fun i x hx => h1 _ x (by rwa [List.getElem?_drop] at hx)) (fun i x hx => ?_) (fun i x hx => hr _ x (by rwa [List.getElem?_drop] at hx))
  rw [List.getElem?_drop] at hx
  have := hc _ x hx
  rwa [show off + n + i = off + (n + i) by omega]
theorem run_fieldAt {s : Nat} {fs : Array Field} {f : Nat} {fl : Field} {ti : TI} (hs : P.underlying s = some (.struct fs)) (hf : fs[f]? = some fl) (T : TOK1 P fl.type ti) (hz : ti.size ≠ 0)
    (b off : Nat) (w : World) : (Instr.fieldAt s (.pointer (some ⟨b, off, none⟩)) f).run P w = .ok (.pointer (some ⟨b, off + fl.offset, none⟩)) w := by
  simp only [Instr.fieldAt, Sem.run_bind, run_underlying hs, Result.andThen_ok, hf, Instr.sureAddr, Sem.run_pure, fieldPlace, T.run_size, if_neg hz, add_plain]
theorem step_fieldR {s f : Nat} {x : Operand} {fs : Array Field} {fl : Field} {ti : TI} {cs : List IV} (ho : o.op = .fieldAddr s x f) (hs : P.underlying s = some (.struct fs)) (hf : fs[f]? = some fl)
    (T : TOK1 P fl.type ti) (hz : ti.size ≠ 0) (hp : evalO G env x = some (.i (.rptr cs))) : SV P G o env m (.i (.rptr (cs.drop fl.offset))) := by
  refine fun R σ a w he hj => ?_
  have r := evalO_rel he hj hp
  generalize hv : a.eval x = v at r
  cases r with | i _ _ r =>
  have r' := r
  cases r' with | rptr b off cs f' h1 hc hr =>
  refine ⟨_, .i _ _ (r.rdrop fl.offset), ?_⟩
  simp only [execOp, ho, hv, Sem.run_bind, run_fieldAt hs hf T hz, Result.andThen_ok, Sem.run_pure]
theorem step_fieldP {s f : Nat} {x : Operand} {fs : Array Field} {fl : Field} {ti : TI} {k off : Nat} (ho : o.op = .fieldAddr s x f) (hs : P.underlying s = some (.struct fs)) (hf : fs[f]? = some fl)
    (T : TOK1 P fl.type ti) (hz : ti.size ≠ 0) (hp : evalO G env x = some (.ptr k off)) : SV P G o env m (.ptr k (off + fl.offset)) := by
  refine fun R σ a w he hj => ?_
  have r := evalO_rel he hj hp
  generalize hv : a.eval x = v at r
  cases r with | ptr _ _ L hk =>
  have := RelP.ptr (σ := σ) k (off + fl.offset) L hk
  rw [← Nat.add_assoc] at this
  refine ⟨_, this, ?_⟩
  simp only [execOp, ho, hv, Sem.run_bind, run_fieldAt hs hf T hz, Result.andThen_ok, Sem.run_pure]
theorem run_indexAt_arr {t n e : Nat} {ti : TI} (ht : P.underlying t = some (.array n e)) (T : TOK1 P e ti) (b off : Nat) (k : IntKind) (i : Int) (h0 : 0 ≤ i) (h1 : i < n) (w : World) :
    (Instr.indexAt t (.pointer (some ⟨b, off, none⟩)) (.int k i)).run P w = .ok (.pointer (some ⟨b, off + i.toNat * ti.size, none⟩)) w := by
  simp [Instr.indexAt, asIntOf, run_underlying ht, Instr.sureAddr, T.run_size, h0, h1, add_plain]
theorem run_indexAt_slice {t e : Nat} {ti : TI} (ht : P.underlying t = some (.slice e)) (T : TOK1 P e ti) (b off len cap : Nat) (k : IntKind) (i : Int) (h0 : 0 ≤ i) (h1 : i < len) (w : World) :
    (Instr.indexAt t (.slice (some ⟨b, off, none⟩) len cap) (.int k i)).run P w = .ok (.pointer (some ⟨b, off + i.toNat * ti.size, none⟩)) w := by
  simp [Instr.indexAt, asIntOf, run_underlying ht, T.run_size, h0, h1, add_plain]
theorem step_indexAddr_ptr {t n e : Nat} {ti : TI} {x ix : Operand} {k off : Nat} {kk : IntKind} {i : Int} (ho : o.op = .indexAddr t x ix) (ht : P.underlying t = some (.array n e)) (T : TOK1 P e ti)
    (hp : evalO G env x = some (.ptr k off)) (hi : evalO G env ix = some (.i (.int kk i))) (h0 : 0 ≤ i) (h1 : i < n) : SV P G o env m (.ptr k (off + i.toNat * ti.size)) := by
  refine fun R σ a w he hj => ?_
  have r := evalO_rel he hj hp
  have ri := rel_int (evalO_rel he hj hi)
  generalize hv : a.eval x = v at r
  cases r with | ptr _ _ L hk =>
  have := RelP.ptr (σ := σ) k (off + i.toNat * ti.size) L hk
  rw [← Nat.add_assoc] at this
  refine ⟨_, this, ?_⟩
  simp only [execOp, ho, hv, ri, Sem.run_bind, run_indexAt_arr ht T _ _ kk i h0 h1, Result.andThen_ok, Sem.run_pure]
theorem step_indexAddr_rptr {t n e : Nat} {ti : TI} {x ix : Operand} {cs : List IV} {kk : IntKind} {i : Int} (ho : o.op = .indexAddr t x ix) (ht : P.underlying t = some (.array n e)) (T : TOK1 P e ti)
    (hp : evalO G env x = some (.i (.rptr cs))) (hi : evalO G env ix = some (.i (.int kk i))) (h0 : 0 ≤ i) (h1 : i < n) : SV P G o env m (.i (.rptr (cs.drop (i.toNat * ti.size)))) := by
  refine fun R σ a w he hj => ?_
  have r := evalO_rel he hj hp
  have ri := rel_int (evalO_rel he hj hi)
  generalize hv : a.eval x = v at r
  cases r with | i _ _ r =>
  have r' := r
  cases r' with | rptr b off cs f' h1' hc hr =>
  refine ⟨_, .i _ _ (r.rdrop (i.toNat * ti.size)), ?_⟩
  simp only [execOp, ho, hv, ri, Sem.run_bind, run_indexAt_arr ht T _ _ kk i h0 h1, Result.andThen_ok, Sem.run_pure]
theorem step_indexAddr_slice {t e : Nat} {ti : TI} {x ix : Operand} {p : PV} {l : List IV} {kk : IntKind} {i : Int} {y : IV} (ho : o.op = .indexAddr t x ix) (ht : P.underlying t = some (.slice e)) (T : TOK1 P e ti)
    (hp : evalO G env x = some p) (hl : iv? p = some (.slice l)) (hi : evalO G env ix = some (.i (.int kk i))) (h0 : 0 ≤ i) (hy : l[i.toNat]? = some y) (hs : y.cells.length = ti.size) :
    SV P G o env m (.i (.rptr y.cells)) := by
  refine fun R σ a w he hj => ?_
  have r := (evalO_rel he hj hp).iv hl
  have ri := rel_int (evalO_rel he hj hi)
  generalize hv : a.eval x = v at r
  have hlt := (List.getElem?_eq_some_iff.1 hy).1
  cases r with
  | nilS => simp at hlt
  | oddS => simp at hlt
  | slice b off cap s l f hcap hs' h1 hc hr =>
    have hs2 := hs' _ _ hy
    rw [hs] at hs2
    subst hs2
    refine ⟨_, .i _ _ (.rptr b (off + i.toNat * ti.size) y.cells (fun j => f i.toNat j) (fun j z hz => h1 _ _ j z hy hz) (fun j z hz => hc _ _ j z hy hz) (fun j z hz => hr _ _ j z hy hz)), ?_⟩
    simp only [execOp, ho, hv, ri, Sem.run_bind, run_indexAt_slice ht T b off l.length cap kk i h0 (by omega), Result.andThen_ok, Sem.run_pure]
theorem step_nilCheck {x : Operand} {p : PV} (ho : o.op = .nilCheck x) (hp : evalO G env x = some p) (hn : (∃ k f, p = .ptr k f) ∨ ∃ cs, p = .i (.rptr cs)) : SV P G o env m p := by
  refine fun R σ a w he hj => ⟨a.eval x, evalO_rel he hj hp, ?_⟩
  have r := evalO_rel he hj hp
  rcases hn with ⟨k, f, rfl⟩ | ⟨cs, rfl⟩
  · generalize hv : a.eval x = v at r
    cases r
    simp [execOp, ho, hv]
  · generalize hv : a.eval x = v at r
    cases r with | i _ _ r =>
    cases r
    simp [execOp, ho, hv]
theorem step_index_str {t : Nat} {x ix : Operand} {s : List UInt8} {kk : IntKind} {i : Int} (ho : o.op = .index t x ix) (ht : P.underlying t = some .string)
    (hp : evalO G env x = some (.i (.str s))) (hi : evalO G env ix = some (.i (.int kk i))) (h0 : 0 ≤ i) (h1 : i < s.length) : SV P G o env m (.i (.int .u8 ((s.getD i.toNat 0).toNat : Int))) := by
  refine fun R σ a w he hj => ⟨_, .i _ _ (.int _ _), ?_⟩
  have r := rel_str (evalO_rel he hj hp)
  have ri := rel_int (evalO_rel he hj hi)
  have hn : i.toNat < s.length := by omega
  have hg : (⟨s.toArray⟩ : ByteArray)[i.toNat]? = some (s[i.toNat]) := by
    show (if h : i.toNat < (⟨s.toArray⟩ : ByteArray).size then some ((⟨s.toArray⟩ : ByteArray)[i.toNat]) else none) = _
    rw [dif_pos (by simpa [ByteArray.size] using hn)]
    rfl
  simp [execOp, ho, r, ri, Instr.index, asIntOf, run_underlying ht, h0, hg, hn]
theorem run_part_one {t : Nat} {ti : TI} (T : TOK1 P t ti) (ha : isAggD ti.d = false) (vs : List Value) (off : Nat) (v : Value) (h : vs[off]? = some v) (w : World) : (part t vs.toArray off).run P w = .ok v w := by
  simp only [part, Sem.run_bind, T.run_isAgg, Result.andThen_ok, ha, Bool.false_eq_true, if_false]
  have : vs.toArray[off]? = some v := by simpa using h
  rw [this]
  rfl
theorem run_part_agg {t : Nat} {ti : TI} (T : TOK1 P t ti) (ha : isAggD ti.d = true) (vs : List Value) (off : Nat) (w : World) : (part t vs.toArray off).run P w = .ok (.agg ((vs.drop off).take ti.size).toArray) w := by
  simp only [part, Sem.run_bind, T.run_isAgg, Result.andThen_ok, ha, if_true, T.run_size, Sem.run_pure]
  congr 2
  rw [List.extract_toArray, List.extract_eq_take_drop]
  simp
theorem RelI.agg_get {h : Hp} {cs : List IV} {vs : List Value} (r : RelI h (.agg cs) (.agg vs.toArray)) : cs.length = vs.length ∧ (∀ v ∈ vs, v.oneCell' = true) ∧
    ∀ (i : Nat) (x : IV) (v : Value), cs[i]? = some x → vs[i]? = some v → RelI h x v := by
  generalize hv : Value.agg vs.toArray = v at r
  cases r with | agg _ vs' hl h1 hr =>
  have : vs = vs' := by simpa using hv
  subst this
  exact ⟨hl, h1, hr⟩
def partI (ti : TI) (cs : List IV) (off : Nat) : Option IV :=
  bif isAggD ti.d then (bif Nat.beq ((cs.drop off).take ti.size).length ti.size then some (.agg ((cs.drop off).take ti.size)) else none) else cs[off]?
theorem run_partI {t : Nat} {ti : TI} (T : TOK1 P t ti) {h : Hp} {cs : List IV} {vs : List Value} (r : RelI h (.agg cs) (.agg vs.toArray)) {off : Nat} {x : IV} (e : partI ti cs off = some x) (w : World) :
    ∃ v, RelI h x v ∧ (part t vs.toArray off).run P w = .ok v w := by
  obtain ⟨hl, h1, hr⟩ := r.agg_get
  unfold partI at e
  cases ha : isAggD ti.d with
  | true =>
    simp only [ha, cond_true] at e
    cases hb : Nat.beq ((cs.drop off).take ti.size).length ti.size with
    | false => rw [hb] at e; cases e
    | true =>
      simp only [hb, cond_true] at e
      cases e
      refine ⟨_, .agg _ _ ?_ ?_ ?_, run_part_agg T ha vs off w⟩
      · simp [hl]
      · intro v hv; exact h1 v (List.mem_of_mem_drop (List.mem_of_mem_take hv))
      · intro i x v hx hv
        rw [List.getElem?_take] at hx hv
        split at hx
        · rename_i hi
          rw [if_pos hi, List.getElem?_drop] at hv
          rw [List.getElem?_drop] at hx
          exact hr _ _ _ hx hv
        · cases hx
  | false =>
    simp only [ha, cond_false] at e
    have hlt := (List.getElem?_eq_some_iff.1 e).1
    have hv : vs[off]? = some (vs[off]'(by omega)) := List.getElem?_eq_getElem (by omega)
    exact ⟨_, hr _ _ _ e hv, run_part_one T ha vs off _ hv w⟩
theorem step_field {t f : Nat} {x : Operand} {fs : Array Field} {fl : Field} {ti : TI} {cs : List IV} {y : IV} (ho : o.op = .field t x f) (ht : P.underlying t = some (.struct fs)) (hf : fs[f]? = some fl)
    (T : TOK1 P fl.type ti) (hp : evalO G env x = some (.i (.agg cs))) (e : partI ti cs fl.offset = some y) : SV P G o env m (.i y) := by
  refine fun R σ a w he hj => ?_
  have r := evalO_rel he hj hp
  generalize hv : a.eval x = v at r
  cases r with | i _ _ r =>
  have r' := r
  cases r' with | agg _ vs hl h1 hr =>
  obtain ⟨v, hv1, hv2⟩ := run_partI T r e w
  refine ⟨v, .i _ _ hv1, ?_⟩
  simp only [execOp, ho, hv, Instr.field, Sem.run_bind, run_underlying ht, Result.andThen_ok, hf, asAgg, Sem.run_pure, hv2]
theorem step_index_arr {t n e : Nat} {ti : TI} {x ix : Operand} {cs : List IV} {kk : IntKind} {i : Int} {y : IV} (ho : o.op = .index t x ix) (ht : P.underlying t = some (.array n e))
    (T : TOK1 P e ti) (hp : evalO G env x = some (.i (.agg cs))) (hi : evalO G env ix = some (.i (.int kk i))) (h0 : 0 ≤ i) (h1 : i < n) (hy : partI ti cs (i.toNat * ti.size) = some y) :
    SV P G o env m (.i y) := by
  refine fun R σ a w he hj => ?_
  have r := evalO_rel he hj hp
  have ri := rel_int (evalO_rel he hj hi)
  generalize hv : a.eval x = v at r
  cases r with | i _ _ r =>
  have r' := r
  cases r' with | agg _ vs hl h1' hr =>
  obtain ⟨v, hv1, hv2⟩ := run_partI T r hy w
  refine ⟨v, .i _ _ hv1, ?_⟩
  simp [execOp, ho, hv, ri, Instr.index, asIntOf, run_underlying ht, h0, h1, T.run_size, hv2]
end
end Go.Kn
namespace Go.Kn
open Go
theorem heap_setCells_other (b : Nat) : ∀ (vs : List Value) (o : Nat) (w : World) (k : Nat), k ≠ b → (w.setCells b o vs).heap[k]? = w.heap[k]?
  | [], _, _, _, _ => rfl
  | v :: r, o, w, k, h => by
    rw [World.setCells, heap_setCells_other b r (o + 1) _ k h]
    exact Go.RowKit.Below.heap_setCell w _ _ _ h
theorem setCells_rest (b : Nat) : ∀ (vs : List Value) (o : Nat) (w : World), (w.setCells b o vs).os = w.os ∧ (w.setCells b o vs).tape = w.tape ∧ (w.setCells b o vs).output = w.output ∧ (w.setCells b o vs).heap.size = w.heap.size
  | [], _, _ => ⟨rfl, rfl, rfl, rfl⟩
  | v :: r, o, w => by
    rw [World.setCells]
    obtain ⟨a, b', c, d⟩ := setCells_rest b r (o + 1) (w.setCell ⟨b, o, none⟩ v)
    exact ⟨a, b', c, by rw [d]; simp [World.setCell]⟩
theorem setCells_isSome (b : Nat) (vs : List Value) (o : Nat) (w : World) (x : Addr) (h : ∃ v, w.cell? x = some v)
    (hc : ∀ j, j < vs.length → (w.cell? ⟨b, o + j, none⟩).isSome = true) : ∃ v, (w.setCells b o vs).cell? x = some v := by
  by_cases hx : x.block = b ∧ x.spot = none ∧ o ≤ x.off ∧ x.off < o + vs.length
  · obtain ⟨h1, h2, h3, h4⟩ := hx
    have := World.cell?_setCells_in b vs o w hc (x.off - o) (by omega)
    obtain ⟨xb, xo, xs⟩ := x
    simp only at h1 h2 h3 h4 this
    subst h1; subst h2
    rw [show o + (xo - o) = xo by omega] at this
    exact ⟨_, this⟩
  · obtain ⟨v, hv⟩ := h
    exact ⟨v, by rw [World.cell?_setCells_out b vs o w x (fun h1 h2 => by
      by_cases h3 : x.off < o
      · exact .inl h3
      · exact .inr (by
          by_cases h4 : o + vs.length ≤ x.off
          · exact h4
          · exact absurd ⟨h1, h2, by omega, by omega⟩ hx))]; exact hv⟩
theorem size_alloc (w : World) (o : Obj) : (w.alloc o).heap.size = w.heap.size + 1 := Array.size_push ..
theorem cell_lt {w : World} {b o : Nat} {v : Value} (h : w.cell? ⟨b, o, none⟩ = some v) : b < w.heap.size := by
  unfold World.cell? at h
  simp only at h
  cases e : w.heap[b]? with
  | none => rw [e] at h; cases h
  | some x => exact (Array.getElem?_eq_some_iff.1 e).1
structure But (d : Nat) (σ σ' : Gh) : Prop where
  h : σ.h.le σ'.h
  loc : ∀ k L, k ≠ d → σ.loc k = some L → σ'.loc k = some L
theorem RelP.but {d : Nat} {σ σ' : Gh} (m : But d σ σ') {p : PV} {v : Value} (r : RelP σ p v) : occ d p = false → RelP σ' p v := by
  induction r with
  | i x v r => exact fun _ => .i x v (r.mono m.h)
  | full l a r pl => exact fun _ => .full l a (r.mono m.h) pl
  | tok k s l a cap L hk r hs sp =>
    intro e
    refine .tok k s l a cap L (m.loc _ _ ?_ hk) (r.mono m.h) hs sp
    rintro rfl
    simp [occ] at e
  | ptr k off L hk =>
    intro e
    refine .ptr k off L (m.loc _ _ ?_ hk)
    rintro rfl
    simp [occ] at e
  | view k s off len cap L hk hc =>
    intro e
    refine .view k s off len cap L (m.loc _ _ ?_ hk) hc
    rintro rfl
    simp [occ] at e
  | vec k s i n cap L hk hc he =>
    intro e
    refine .vec k s i n cap L (m.loc _ _ ?_ hk) hc he
    rintro rfl
    simp [occ] at e
  | vec0 k s i a L hk he =>
    intro e
    refine .vec0 k s i a L (m.loc _ _ ?_ hk) he
    rintro rfl
    simp [occ] at e
  | ep k s i o L hk =>
    intro e
    refine .ep k s i o L (m.loc _ _ ?_ hk)
    rintro rfl
    simp [occ] at e
  | agg cs vs hl h1 _ ih => exact fun e => .agg cs vs hl h1 fun i x v h1 h2 => ih i x v h1 h2 (occs_get h1 (by simpa [occ] using e))
  | ifc t p v _ ih => exact fun e => .ifc t p v (ih (by simpa [occ] using e))
  | clo fn cs vs hl _ ih => exact fun e => .clo fn cs vs hl fun i x v h1 h2 => ih i x v h1 h2 (occs_get h1 (by simpa [occ] using e))
  | bnd fn cs vs hl _ ih => exact fun e => .bnd fn cs vs hl fun i x v h1 h2 => ih i x v h1 h2 (occs_get h1 (by simpa [occ] using e))
  | tup cs vs hl _ ih => exact fun e => .tup cs vs hl fun i x v h1 h2 => ih i x v h1 h2 (occs_get h1 (by simpa [occ] using e))
  | dead v => exact fun _ => .dead v
theorem But.mono {d : Nat} {σ σ' : Gh} (m : But d σ σ') : Mono [d] σ σ' := ⟨m.h, fun k L hk e => m.loc k L (by simpa using hk) e⟩
def occE (d : Nat) : Env → Bool
  | [] => false
  | (_, p) :: r => occ d p || occE d r
def occM (d : Nat) : Mem → Bool
  | [] => false
  | (_, .var cells) :: r => occs d cells || occM d r
  | (_, .tip) :: r => occM d r
  | (_, .vec _ _ _) :: r => occM d r
theorem occE_get {d : Nat} : ∀ {env : Env} {t : Nat} {p : PV}, lk t env = some p → occE d env = false → occ d p = false
  | [], _, _, h, _ => by cases h
  | (k, q) :: r, t, p, h, e => by
    simp only [occE, Bool.or_eq_false_iff] at e
    simp only [lk] at h
    cases hb : Nat.beq k t with
    | true => rw [hb] at h; cases h; exact e.1
    | false => rw [hb] at h; exact occE_get h e.2
theorem occM_get {d : Nat} : ∀ {m : Mem} {t : Nat} {cells : List PV}, lk t m = some (.var cells) → occM d m = false → occs d cells = false
  | [], _, _, h, _ => by cases h
  | (k, .var c) :: r, t, cells, h, e => by
    simp only [occM, Bool.or_eq_false_iff] at e
    simp only [lk] at h
    cases hb : Nat.beq k t with
    | true => rw [hb] at h; cases h; exact e.1
    | false => rw [hb] at h; exact occM_get h e.2
  | (k, .tip) :: r, t, cells, h, e => by
    simp only [occM] at e
    simp only [lk] at h
    cases hb : Nat.beq k t with
    | true => rw [hb] at h; cases h
    | false => rw [hb] at h; exact occM_get h e
  | (k, .vec _ _ _) :: r, t, cells, h, e => by
    simp only [occM] at e
    simp only [lk] at h
    cases hb : Nat.beq k t with
    | true => rw [hb] at h; cases h
    | false => rw [hb] at h; exact occM_get h e
def demO (ks : List Nat) : MO → MO
  | .var cells => .var (cells.map (dem ks))
  | .tip => .tip
  | .vec s l c => .vec s l c
theorem isVar_demO (ks : List Nat) (o : MO) : isVar (demO ks o) = isVar o := by cases o <;> rfl
theorem MOK.vecMono {σ σ' : Gh} {w w' : World} {b lo hi s : Nat} {l : List PV} {c : Option Nat} (hh : σ.h.le σ'.h) (hf : (lo < hi → ∀ x, w.frozen? ⟨b, x, none⟩ = false) → lo < hi → ∀ x, w'.frozen? ⟨b, x, none⟩ = false)
    (hc : ∀ x v, lo ≤ x → x < hi → w.cell? ⟨b, x, none⟩ = some v → w'.cell? ⟨b, x, none⟩ = some v) (h : MOK σ w b lo hi (.vec s l c)) : MOK σ' w' b lo hi (.vec s l c) := by
  obtain ⟨h0, h1, hx, cap, h2, h3, h4, h5⟩ := h
  refine ⟨h0, hf h1, fun x g1 g2 => by obtain ⟨v, g3, g4⟩ := hx x g1 g2; exact ⟨v, hc x v g1 g2 g3, g4⟩, cap, h2, h3, h4, fun i x hi => ?_⟩
  obtain ⟨h6, h7⟩ := h5 i x hi
  refine ⟨h6, fun j y hj => ?_⟩
  obtain ⟨v, g1, g2, g3⟩ := h7 j y hj
  have hi' := (List.getElem?_eq_some_iff.1 hi).1
  have hj' := (List.getElem?_eq_some_iff.1 hj).1
  have hle : (i + 1) * s ≤ cap * s := Nat.mul_le_mul_right s (by omega)
  rw [Nat.add_mul] at hle
  exact ⟨v, hc _ v (by omega) (by omega) g1, g2.mono hh, g3⟩
def demM (ks : List Nat) (m : Mem) : Mem := m.map fun e => (e.1, demO ks e.2)
theorem lk_demM (ks : List Nat) (t : Nat) (m : Mem) : lk t (demM ks m) = (lk t m).map (demO ks) := lk_map _ _ _
structure Gives (d : Nat) (env : Env) (m : Mem) (env1 : Env) (m1 : Mem) : Prop where
  env : ∀ {σ σ' : Gh} {a : Act}, But d σ σ' → EnvOK σ env a → EnvOK σ' env1 a
  dom : ∀ k o, lk k m1 = some o → ∃ o', lk k m = some o' ∧ isVar o' = isVar o ∧ ∀ {σ σ' : Gh} {w : World} {b lo hi : Nat}, But d σ σ' → MOK σ w b lo hi o' → MOK σ' w b lo hi o
theorem gives_plain {d : Nat} {env : Env} {m : Mem} (h1 : occE d env = false) (h2 : occM d m = false) : Gives d env m env m where
  env := fun b h => ⟨h.d, fun t p e => by obtain ⟨v, hv, r⟩ := h.v t p e; exact ⟨v, hv, r.but b (occE_get e h1)⟩⟩
  dom := fun k o e => ⟨o, e, rfl, fun b h => by
    cases o with
    | tip => trivial
    | vec s l c => exact h.vecMono b.h id fun _ _ _ _ e => e
    | var cells =>
      refine ⟨h.1, fun i p hp => ?_⟩
      obtain ⟨v, q1, q2, q3⟩ := h.2 i p hp
      exact ⟨v, q1, q2.but b (occs_get hp (occM_get e h2)), q3⟩⟩
theorem gives_dem {d : Nat} {env : Env} {m : Mem} : Gives d env m (demE [d] env) (demM [d] m) where
  env := fun b h => h.dem b.mono
  dom := fun k o e => by
    rw [lk_demM] at e
    cases e' : lk k m with
    | none => rw [e'] at e; cases e
    | some o' =>
      rw [e'] at e
      cases e
      refine ⟨o', rfl, (isVar_demO _ _).symm, fun b h => ?_⟩
      cases o' with
      | tip => trivial
      | vec s l c => exact h.vecMono b.h id fun _ _ _ _ e => e
      | var cells =>
        refine ⟨by simpa [demO] using h.1, fun i p hp => ?_⟩
        rw [List.getElem?_map] at hp
        cases hq : cells[i]? with
        | none => rw [hq] at hp; cases hp
        | some q =>
          rw [hq] at hp
          cases hp
          obtain ⟨v, q1, q2, q3⟩ := h.2 i q hq
          exact ⟨v, q1, q2.dem b.mono, q3⟩
section
variable {P : Program} {G : Gl} {R : Ent} {σ : Gh} {env : Env} {m : Mem} {w : World}
theorem own_lt {b lo hi : Nat} (h : OwnR σ w b lo hi) (hl : lo < hi) : b < w.heap.size := by
  obtain ⟨_, ⟨v, hv⟩, _⟩ := h lo (Nat.le_refl _) hl
  exact cell_lt hv
theorem cell_alloc_old {o : Obj} {b x : Nat} {v : Value} (h : w.cell? ⟨b, x, none⟩ = some v) : (w.alloc o).cell? ⟨b, x, none⟩ = some v := by
  rw [World.cell?_alloc_lt w o ⟨b, x, none⟩ (cell_lt h)]; exact h
theorem frozen_alloc_old {o : Obj} {b x : Nat} (h : b < w.heap.size) : (w.alloc o).frozen? ⟨b, x, none⟩ = w.frozen? ⟨b, x, none⟩ := by
  unfold World.frozen?
  simp only [Go.RowKit.Below.heap_alloc w o b h]
theorem OwnR.alloc {σ' : Gh} {o : Obj} {b lo hi : Nat} (h : OwnR σ w b lo hi) (hh : ∀ x, b < w.heap.size → σ.h b x = none → σ'.h b x = none) : OwnR σ' (w.alloc o) b lo hi := by
  intro x h1 h2
  obtain ⟨a, ⟨v, hv⟩, c⟩ := h x h1 h2
  have := cell_lt hv
  exact ⟨hh x this a, ⟨v, cell_alloc_old hv⟩, by rw [frozen_alloc_old this]; exact c⟩
theorem frozen_alloc_all {o : Obj} {b : Nat} (hb : b < w.heap.size) (h : ∀ x, w.frozen? ⟨b, x, none⟩ = false) : ∀ x, (w.alloc o).frozen? ⟨b, x, none⟩ = false := fun x => by
  rw [frozen_alloc_old hb]; exact h x
theorem MOK.alloc {ob : Obj} {b lo hi : Nat} {o : MO} (hown : OwnR σ w b lo hi) (h : MOK σ w b lo hi o) : MOK σ (w.alloc ob) b lo hi o := by
  cases o with
  | tip => trivial
  | vec s l c => exact h.vecMono (Hp.le_refl _) (fun g hl => frozen_alloc_all (own_lt hown hl) (g hl)) fun x v _ _ e => cell_alloc_old e
  | var cells => exact ⟨h.1, fun i p hp => by obtain ⟨v, a, b, c⟩ := h.2 i p hp; exact ⟨v, cell_alloc_old a, b, c⟩⟩
theorem J.alloc {env1 : Env} {m1 : Mem} {a : Act} (hj : J G R σ m w) (he : EnvOK σ env a) (d : Nat) (hd : d < 1000 ∨ ∀ L, R.L0 d ≠ some L) (g : Gives d env m env1 m1) (vs : List Value) (T : TypeId) (c : Nat) (hc : c ≤ vs.length) (ob : MO)
    (hob : ∀ σ' : Gh, But d σ σ' → σ'.loc d = some (w.heap.size, c, vs.length) → MOK σ' (w.alloc (.cells vs.toArray T)) w.heap.size c vs.length ob) :
    ∃ σ' : Gh, But d σ σ' ∧ σ'.loc d = some (w.heap.size, c, vs.length) ∧ (∀ o, o < c → σ'.h w.heap.size o = vs[o]?) ∧ EnvOK σ' env1 a ∧ J G R σ' ((d, ob) :: rm d m1) (w.alloc (.cells vs.toArray T)) := by
  let σ' : Gh := { h := fun b o => if b = w.heap.size then (if o < c then vs[o]? else none) else σ.h b o, loc := fun k => if k = d then some (w.heap.size, c, vs.length) else σ.loc k }
  have hne : ∀ {b o v}, σ.h b o = some v → b ≠ w.heap.size := fun {b o v} e => by have := cell_lt (hj.inv.hh b o v e); omega
  have hB : But d σ σ' := ⟨fun b o v e => by simp only [σ', if_neg (hne e)]; exact e, fun k L hk e => by simp only [σ', if_neg hk]; exact e⟩
  have hd' : σ'.loc d = some (w.heap.size, c, vs.length) := by simp [σ']
  have hnew : ∀ x, (w.alloc (.cells vs.toArray T)).cell? ⟨w.heap.size, x, none⟩ = vs[x]? := fun x => by rw [World.cell?_alloc_new]; simp
  have hlk : ∀ k o, lk k ((d, ob) :: rm d m1) = some o → (k = d ∧ o = ob) ∨ (k ≠ d ∧ ∃ o', lk k m = some o' ∧ isVar o' = isVar o ∧ ∀ {σ σ' : Gh} {w : World} {b lo hi : Nat}, But d σ σ' → MOK σ w b lo hi o' → MOK σ' w b lo hi o) := by
    intro k o e
    by_cases hk : k = d
    · subst hk; rw [lk_cons_self] at e; cases e; exact .inl ⟨rfl, rfl⟩
    · rw [lk_cons_other hk, lk_rm_other hk] at e
      exact .inr ⟨hk, g.dom k o e⟩
  refine ⟨σ', hB, hd', fun o ho => by simp [σ', ho], g.env hB he, ?_⟩
  refine { inv := { hh := ?_, obj := ?_, dis := ?_ }, glob := fun g' cs e => (hj.glob g' cs e).mono hB.h, hm := Hp.le_trans hj.hm hB.h, os := hj.os, tape := hj.tape, out := hj.out,
           sz := Nat.le_trans hj.sz (by rw [size_alloc]; omega), old := fun b hb hnb => ?_, hn := fun b o hb hnb e => ?_, own := ?_, kp := fun k L hk e => ?_, kn := fun k o L hk e hL => ?_ }
  · intro b o v e
    by_cases hb : b = w.heap.size
    · subst hb
      simp only [σ', if_true] at e
      split at e
      · rw [hnew]; exact e
      · cases e
    · simp only [σ', if_neg hb] at e
      exact cell_alloc_old (hj.inv.hh b o v e)
  · intro k o e
    rcases hlk k o e with ⟨rfl, rfl⟩ | ⟨hk, o', ho', _, ht⟩
    · refine ⟨_, _, _, hd', hc, fun x h2 h3 => ⟨by simp [σ', Nat.not_lt.2 h2], ⟨vs[x], by rw [hnew]; simp [h3]⟩, ?_⟩, hob σ' hB hd'⟩
      exact World.frozen?_alloc_new w _ _ _
    · obtain ⟨b, lo, hi, q1, q2, q3, q4⟩ := hj.inv.obj k o' ho'
      exact ⟨b, lo, hi, hB.loc k _ hk q1, q2, q3.alloc (fun x hx e => by simp only [σ', if_neg (show b ≠ w.heap.size by omega)]; exact e), ht hB (MOK.alloc q3 q4)⟩
  · intro k k' o o' b lo hi b' lo' hi' e e' hkk l l' hl hl'
    rcases hlk k o e with ⟨rfl, rfl⟩ | ⟨hk, o2, ho2, _, _⟩ <;> rcases hlk k' o' e' with ⟨rfl, rfl⟩ | ⟨hk', o2', ho2', _, _⟩
    · exact absurd rfl hkk
    · rw [hd'] at l; cases l
      simp only [σ', if_neg hk'] at l'
      obtain ⟨b2, lo2, hi2, q1, q2, q3, q4⟩ := hj.inv.obj k' o2' ho2'
      rw [q1] at l'; cases l'
      have := own_lt q3 hl'
      omega
    · rw [hd'] at l'; cases l'
      simp only [σ', if_neg hk] at l
      obtain ⟨b2, lo2, hi2, q1, q2, q3, q4⟩ := hj.inv.obj k o2 ho2
      rw [q1] at l; cases l
      have := own_lt q3 hl
      omega
    · simp only [σ', if_neg hk, if_neg hk'] at l l'
      exact hj.inv.dis k k' o2 o2' b lo hi b' lo' hi' ho2 ho2' hkk l l' hl hl'
  · rw [Go.RowKit.Below.heap_alloc w _ b (Nat.lt_of_lt_of_le hb hj.sz)]
    exact hj.old b hb hnb
  · simp only [σ', if_neg (show b ≠ w.heap.size by have := hj.sz; omega)]
    exact hj.hn b o hb hnb e
  · intro k o b lo hi e l hl
    rcases hlk k o e with ⟨rfl, rfl⟩ | ⟨hk, o2, ho2, _⟩
    · rw [hd'] at l; cases l; exact .inl hj.sz
    · simp only [σ', if_neg hk] at l
      exact hj.own k o2 b lo hi ho2 l hl
  · simp only [σ', if_neg (show k ≠ d by rintro rfl; rcases hd with hd | hd; omega; exact hd L e)]
    exact hj.kp k L hk e
  · rcases hlk k o e with ⟨rfl, rfl⟩ | ⟨_, o2, ho2, hv, _⟩
    · rcases hd with hd | hd
      · omega
      · exact absurd hL (hd L)
    · rw [← hv]; exact hj.kn k o2 L hk ho2 hL
theorem J.row (hj : J G R σ m w) (vs : List Value) (T : TypeId) :
    ∃ σ' : Gh, Mono [] σ σ' ∧ (∀ o, σ'.h w.heap.size o = vs[o]?) ∧ J G R σ' m (w.alloc (.cells vs.toArray T)) := by
  let σ' : Gh := { h := fun b o => if b = w.heap.size then vs[o]? else σ.h b o, loc := σ.loc }
  have hne : ∀ {b o v}, σ.h b o = some v → b ≠ w.heap.size := fun {b o v} e => by have := cell_lt (hj.inv.hh b o v e); omega
  have hM : Mono [] σ σ' := ⟨fun b o v e => by simp only [σ', if_neg (hne e)]; exact e, fun k L _ e => e⟩
  refine ⟨σ', hM, fun o => by simp [σ'], ?_⟩
  refine { inv := { hh := ?_, obj := ?_, dis := hj.inv.dis }, glob := fun g' cs e => (hj.glob g' cs e).mono hM.h, hm := Hp.le_trans hj.hm hM.h, os := hj.os, tape := hj.tape, out := hj.out,
           sz := Nat.le_trans hj.sz (by rw [size_alloc]; omega), old := fun b hb hnb => ?_, hn := fun b o hb hnb e => ?_, own := hj.own, kp := hj.kp, kn := hj.kn }
  · intro b o v e
    by_cases hb : b = w.heap.size
    · subst hb
      simp only [σ', if_true] at e
      rw [World.cell?_alloc_new]; simpa using e
    · simp only [σ', if_neg hb] at e
      exact cell_alloc_old (hj.inv.hh b o v e)
  · intro k o e
    obtain ⟨b, lo, hi, q1, q2, q3, q4⟩ := hj.inv.obj k o e
    refine ⟨b, lo, hi, q1, q2, q3.alloc (fun x hx e => by simp only [σ', if_neg (show b ≠ w.heap.size by omega)]; exact e), ?_⟩
    cases o with
    | tip => trivial
    | vec s l c => exact q4.vecMono hM.h (fun g hl => frozen_alloc_all (own_lt q3 hl) (g hl)) fun x v _ _ e => cell_alloc_old e
    | var cells => exact ⟨q4.1, fun i p hp => by obtain ⟨v, a, b, c⟩ := q4.2 i p hp; exact ⟨v, cell_alloc_old a, b.mono0 hM, c⟩⟩
  · rw [Go.RowKit.Below.heap_alloc w _ b (Nat.lt_of_lt_of_le hb hj.sz)]
    exact hj.old b hb hnb
  · simp only [σ', if_neg (show b ≠ w.heap.size by have := hj.sz; omega)]
    exact hj.hn b o hb hnb e
theorem J.drew (hj : J G R σ m w) : J G R σ m w.drew :=
  { inv := ⟨hj.inv.hh, hj.inv.obj, hj.inv.dis⟩, glob := hj.glob, hm := hj.hm, os := hj.os, tape := hj.tape, out := hj.out, sz := hj.sz, old := hj.old, hn := hj.hn, own := hj.own, kp := hj.kp, kn := hj.kn }
theorem frozen_set {b : Nat} {vs : List Value} {o : Nat} {x : Addr} : (w.setCells b o vs).frozen? x = w.frozen? x := World.frozen?_setCells ..
theorem J.setObj {k b lo hi : Nat} {o : MO} (hj : J G R σ m w) (hm : lk k m = some o) (hk : σ.loc k = some (b, lo, hi)) (off : Nat) (vs : List Value) (hb : lo + off + vs.length ≤ hi) (o' : MO) (hv : isVar o' = isVar o)
    (hnew : (∀ x v, w.cell? ⟨b, x, none⟩ = some v → (x < lo + off ∨ lo + off + vs.length ≤ x) → (w.setCells b (lo + off) vs).cell? ⟨b, x, none⟩ = some v) →
      (∀ j, j < vs.length → (w.setCells b (lo + off) vs).cell? ⟨b, lo + off + j, none⟩ = vs[j]?) → MOK σ (w.setCells b (lo + off) vs) b lo hi o') :
    J G R σ ((k, o') :: rm k m) (w.setCells b (lo + off) vs) := by
  obtain ⟨b', lo', hi', hk', hle, hown, _⟩ := hj.inv.obj k _ hm
  rw [hk] at hk'; cases hk'
  obtain ⟨e1, e2, e3, e4⟩ := setCells_rest b vs (lo + off) w
  have hex : ∀ j, j < vs.length → (w.cell? ⟨b, lo + off + j, none⟩).isSome = true := fun j hj' => by
    obtain ⟨_, ⟨v, hv⟩, _⟩ := hown (lo + off + j) (by omega) (by omega)
    simp [hv]
  have hlk : ∀ k' o1, lk k' ((k, o') :: rm k m) = some o1 → (k' = k ∧ o1 = o') ∨ (k' ≠ k ∧ lk k' m = some o1) := by
    intro k' o1 e
    by_cases hkk : k' = k
    · subst hkk; rw [lk_cons_self] at e; cases e; exact .inl ⟨rfl, rfl⟩
    · rw [lk_cons_other hkk, lk_rm_other hkk] at e; exact .inr ⟨hkk, e⟩
  have hout : ∀ b' x, b' = b → lo ≤ x → x < hi → σ.h b' x = none := fun b' x e h1 h2 => by subst e; exact (hown x h1 h2).1
  have hkeep : ∀ b' x v, w.cell? ⟨b', x, none⟩ = some v → (b' ≠ b ∨ x < lo + off ∨ lo + off + vs.length ≤ x) → (w.setCells b (lo + off) vs).cell? ⟨b', x, none⟩ = some v := fun b' x v hv ho => by
    rw [World.cell?_setCells_out b vs (lo + off) w ⟨b', x, none⟩ (fun h1 _ => by rcases ho with ho | ho; exact absurd h1 ho; exact ho)]
    exact hv
  refine { inv := { hh := ?_, obj := ?_, dis := ?_ }, glob := hj.glob, hm := hj.hm, os := e1.trans hj.os, tape := e2.trans hj.tape, out := e3.trans hj.out, sz := by rw [e4]; exact hj.sz,
           old := fun b' hb' hnb => ?_, hn := hj.hn, own := ?_, kp := hj.kp, kn := fun k' o1 L h1 h2 h3 => ?_ }
  · intro b' o v e
    refine hkeep b' o v (hj.inv.hh _ _ _ e) ?_
    by_cases h1 : b' = b
    · right
      by_cases h2 : o < lo + off
      · exact .inl h2
      · right
        by_cases h3 : lo + off + vs.length ≤ o
        · exact h3
        · rw [hout b' o h1 (by omega) (by omega)] at e; cases e
    · exact .inl h1
  · intro k' o1 e
    rcases hlk k' o1 e with ⟨rfl, rfl⟩ | ⟨hkk, e'⟩
    · refine ⟨b, lo, hi, hk, hle, fun x h1 h2 => ?_, hnew (fun x v h1 h2 => hkeep b x v h1 (.inr h2)) fun j hj' => ?_⟩
      · obtain ⟨a1, a2, a3⟩ := hown x h1 h2
        exact ⟨a1, setCells_isSome b vs _ w _ a2 hex, by rw [World.frozen?_setCells]; exact a3⟩
      · rw [World.cell?_setCells_in b vs (lo + off) w hex j hj', List.getElem?_eq_getElem hj']
    · obtain ⟨b2, lo2, hi2, q1, q2, q3, q4⟩ := hj.inv.obj k' o1 e'
      have hkeep2 : ∀ x v, lo2 ≤ x → x < hi2 → w.cell? ⟨b2, x, none⟩ = some v → (w.setCells b (lo + off) vs).cell? ⟨b2, x, none⟩ = some v := fun x v g1 g2 g3 => by
        refine hkeep b2 x v g3 ?_
        by_cases hz : lo < hi
        · exact .inl fun e => hj.inv.dis k' k _ _ b2 lo2 hi2 b lo hi e' hm hkk q1 hk (by omega) hz e
        · right
          by_cases h5 : x < lo + off
          · exact .inl h5
          · exact .inr (by omega)
      refine ⟨b2, lo2, hi2, q1, q2, fun x h1 h2 => ?_, ?_⟩
      · obtain ⟨a1, a2, a3⟩ := q3 x h1 h2
        exact ⟨a1, setCells_isSome b vs _ w _ a2 hex, by rw [World.frozen?_setCells]; exact a3⟩
      · cases o1 with
        | tip => trivial
        | vec s l c => exact q4.vecMono (Hp.le_refl _) (fun g hl x => by rw [World.frozen?_setCells]; exact g hl x) hkeep2
        | var cells2 =>
          refine ⟨q4.1, fun i p hp => ?_⟩
          obtain ⟨v, r1, r2, r3⟩ := q4.2 i p hp
          have hi3 := (List.getElem?_eq_some_iff.1 hp).1
          have h41 : hi2 = lo2 + cells2.length := q4.1
          exact ⟨v, hkeep2 _ _ (by omega) (by omega) r1, r2, r3⟩
  · intro k1 k2 o1 o2 b1 lo1 hi1 b2 lo2 hi2 h1 h2 h3 h4 h5 h6 h7
    have g1 : ∃ o, lk k1 m = some o := by rcases hlk k1 o1 h1 with ⟨rfl, _⟩ | ⟨_, e⟩; exact ⟨_, hm⟩; exact ⟨_, e⟩
    have g2 : ∃ o, lk k2 m = some o := by rcases hlk k2 o2 h2 with ⟨rfl, _⟩ | ⟨_, e⟩; exact ⟨_, hm⟩; exact ⟨_, e⟩
    obtain ⟨p1, hp1⟩ := g1
    obtain ⟨p2, hp2⟩ := g2
    exact hj.inv.dis k1 k2 p1 p2 b1 lo1 hi1 b2 lo2 hi2 hp1 hp2 h3 h4 h5 h6 h7
  · by_cases hz : vs = []
    · subst hz; exact hj.old b' hb' hnb
    · have : 0 < vs.length := List.length_pos_iff.2 hz
      rw [heap_setCells_other b vs _ w b' (fun e => by
        rcases hj.own k _ b lo hi hm hk (by omega) with h1 | h1
        · omega
        · subst e; exact hnb h1)]
      exact hj.old b' hb' hnb
  · intro k1 o1 b1 lo1 hi1 h1 h2 h3
    have g1 : ∃ o, lk k1 m = some o := by rcases hlk k1 o1 h1 with ⟨rfl, _⟩ | ⟨_, e⟩; exact ⟨_, hm⟩; exact ⟨_, e⟩
    obtain ⟨p1, hp1⟩ := g1
    exact hj.own k1 p1 b1 lo1 hi1 hp1 h2 h3
  · rcases hlk k' o1 h2 with ⟨rfl, rfl⟩ | ⟨_, e⟩
    · rw [hv]; exact hj.kn _ o L h1 hm h3
    · exact hj.kn k' o1 L h1 e h3
theorem J.write {k b lo hi : Nat} {cells : List PV} (hj : J G R σ m w) (hm : lk k m = some (.var cells)) (hk : σ.loc k = some (b, lo, hi)) (off : Nat) (ps : List PV) (vs : List Value)
    (hl : ps.length = vs.length) (hb : off + ps.length ≤ cells.length) (hr : ∀ (i : Nat) (p : PV) (v : Value), ps[i]? = some p → vs[i]? = some v → RelP σ p v ∧ v.oneCell' = true) :
    J G R σ ((k, .var (cells.take off ++ ps ++ cells.drop (off + ps.length))) :: rm k m) (w.setCells b (lo + off) vs) := by
  obtain ⟨b', lo', hi', hk', hle, hown, hhi, hcells⟩ := hj.inv.obj k _ hm
  rw [hk] at hk'; cases hk'
  refine hj.setObj hm hk off vs (by omega) _ rfl fun hkeep hin => ⟨by simp; omega, ?_⟩
  intro i p hp
  by_cases h1 : i < off
  · rw [List.append_assoc, List.getElem?_append_left (by simp; omega), List.getElem?_take, if_pos h1] at hp
    obtain ⟨v, q1, q2, q3⟩ := hcells i p hp
    exact ⟨v, hkeep _ _ q1 (.inl (by omega)), q2, q3⟩
  · by_cases h2 : i < off + ps.length
    · rw [List.append_assoc, List.getElem?_append_right (by simp; omega), List.getElem?_append_left (by simp; omega)] at hp
      have hmin : min off cells.length = off := by omega
      simp only [List.length_take, hmin] at hp
      have hi' : i - off < vs.length := by omega
      obtain ⟨r1, r2⟩ := hr (i - off) p vs[i - off] hp (by simp [hi'])
      refine ⟨vs[i - off], ?_, r1, r2⟩
      have := hin (i - off) hi'
      rw [List.getElem?_eq_getElem hi'] at this
      rwa [show lo + off + (i - off) = lo + i by omega] at this
    · rw [List.getElem?_append_right (by simp; omega)] at hp
      have hmin : min off cells.length = off := by omega
      simp only [List.length_append, List.length_take, hmin, List.getElem?_drop] at hp
      rw [show off + ps.length + (i - (off + ps.length)) = i by omega] at hp
      obtain ⟨v, q1, q2, q3⟩ := hcells i p hp
      exact ⟨v, hkeep _ _ q1 (.inr (by omega)), q2, q3⟩
end
end Go.Kn
namespace Go.Kn
open Go
section
variable {P : Program} {G : Gl} {o : Oper} {env : Env} {m : Mem}
def isCell : PV → Bool
  | .i (.agg _) => false
  | .i (.tup _) => false
  | .tup _ => false
  | .agg _ => false
  | .dead => false
  | _ => true
def pcells : PV → Option (List PV)
  | .i (.agg cs) => some (cs.map .i)
  | .agg cs => some cs
  | p => bif isCell p then some [p] else none
theorem rel_oneCell {σ : Gh} {p : PV} {v : Value} (r : RelP σ p v) (h : isCell p = true) : v.oneCell' = true ∧ v.cells = #[v] := by
  cases r with
  | i x v r => cases r <;> first | exact ⟨rfl, rfl⟩ | (simp [isCell] at h)
  | tup => simp [isCell] at h
  | agg => simp [isCell] at h
  | dead => simp [isCell] at h
  | _ => exact ⟨rfl, rfl⟩
theorem rel_pcells {σ : Gh} {p : PV} {v : Value} {ps : List PV} (r : RelP σ p v) (h : pcells p = some ps) :
    ps.length = v.cells.toList.length ∧ ∀ (i : Nat) (q : PV) (u : Value), ps[i]? = some q → v.cells.toList[i]? = some u → RelP σ q u ∧ u.oneCell' = true := by
  have key : isCell p = true → ps = [p] → ps.length = v.cells.toList.length ∧ ∀ (i : Nat) (q : PV) (u : Value), ps[i]? = some q → v.cells.toList[i]? = some u → RelP σ q u ∧ u.oneCell' = true := by
    intro hc hp
    subst hp
    obtain ⟨h1, h2⟩ := rel_oneCell r hc
    rw [h2]
    refine ⟨rfl, fun i q u e e' => ?_⟩
    cases i with
    | zero => simp at e e'; subst e; subst e'; exact ⟨r, h1⟩
    | succ i => simp at e
  unfold pcells at h
  split at h
  · rename_i cs
    cases h
    cases r with | i _ _ r =>
    cases r with | agg _ vs hl h1 hr =>
    refine ⟨by simpa [Value.cells] using hl, fun i q u e e' => ?_⟩
    simp only [Value.cells] at e'
    rw [List.getElem?_map] at e
    cases hx : cs[i]? with
    | none => rw [hx] at e; cases e
    | some x =>
      rw [hx] at e
      cases e
      exact ⟨.i _ _ (hr i x u hx e'), h1 u (List.mem_of_getElem? e')⟩
  · cases h
    cases r with | agg cs vs hl h1 hr =>
    refine ⟨by simpa [Value.cells] using hl, fun i q u e e' => ?_⟩
    simp only [Value.cells] at e'
    exact ⟨hr i q u e e', h1 u (List.mem_of_getElem? e')⟩
  · cases hc : isCell p with
    | false => rw [hc] at h; cases h
    | true => rw [hc] at h; cases h; exact key hc rfl
theorem run_storeVar {t : Nat} {ti : TI} (T : TOK1 P t ti) (b off : Nat) (v : Value) (w : World) (hs : v.cells.toList.length = ti.size)
    (hc : ∀ j, j < v.cells.toList.length → (w.cell? ⟨b, off + j, none⟩).isSome = true) (hf : ∀ j, j < v.cells.toList.length → w.frozen? ⟨b, off + j, none⟩ = false) (h1 : ∀ u ∈ v.cells.toList, u.oneCell' = true) :
    (storeVar t ⟨b, off, none⟩ v).run P w = .ok () (w.setCells b off v.cells.toList) := by
  have hs' : ¬ v.cells.size ≠ ti.size := by simpa using hs
  simp only [storeVar, Sem.run_bind, T.run_size, Result.andThen_ok, Sem.run_ite, if_neg hs']
  have := run_storeCells_cells (P := P) b off v.cells.toList 0 w (by simpa using hc) (by simpa using hf) h1
  simpa using this
theorem step_store {t : Nat} {ti : TI} {x y : Operand} {k off : Nat} {cells ps : List PV} {p : PV} (T : TOK1 P t ti) (ho : o.op = .store t x y)
    (hx : evalO G env x = some (.ptr k off)) (hy : evalO G env y = some p) (hp : pcells p = some ps) (hm : lk k m = some (.var cells)) (hs : ps.length = ti.size) (hb : off + ps.length ≤ cells.length) :
    Step P G o env m .dead env ((k, .var (cells.take off ++ ps ++ cells.drop (off + ps.length))) :: rm k m) := by
  intro R σ a w he hj _ next Q kk
  have rx := evalO_rel he hj hx
  have ry := evalO_rel he hj hy
  generalize hv : a.eval x = v at rx
  cases rx with | ptr _ _ L hk =>
  obtain ⟨b, lo, hi⟩ := L
  obtain ⟨b', lo', hi', hk', hle, hown, hhi, hcells⟩ := hj.inv.obj k _ hm
  rw [hk] at hk'; cases hk'
  obtain ⟨hl, hr⟩ := rel_pcells ry hp
  have hrun : (execOp a.eval o).run P w = .ok .skip (w.setCells b (lo + off) (a.eval y).cells.toList) := by
    simp only [execOp, ho, hv, Instr.storeAt, Instr.sureAddr, Sem.run_bind, Sem.run_pure, Result.andThen_ok]
    rw [run_storeVar T b (lo + off) (a.eval y) w (by omega)]
    · rfl
    · intro j hj'
      obtain ⟨_, ⟨v, hv⟩, _⟩ := hown (lo + off + j) (by omega) (by omega)
      simp [hv]
    · intro j hj'
      exact (hown (lo + off + j) (by omega) (by omega)).2.2
    · intro u hu
      obtain ⟨i, hi, rfl⟩ := List.mem_iff_getElem.1 hu
      exact (hr i ps[i] _ (List.getElem?_eq_getElem (by omega)) (List.getElem?_eq_getElem hi)).2
  simp only [Oper.wp, hrun, Oper.upon_skip]
  exact kk σ undef _ (.dead _) he (hj.write hm hk off ps _ hl hb hr)
theorem ofV_cells {v : Value} {x : IV} (h : ofV v = some x) : ∃ ps, pcells (.i x) = some ps := by
  cases x with
  | agg cs => exact ⟨_, rfl⟩
  | tup cs =>
    exfalso
    have := ofV_rel (h := fun _ _ => none) h
    cases this
    simp [ofV, ofV1] at h
  | _ => exact ⟨_, rfl⟩
theorem run_newVar (t : TypeId) (v : Value) (w : World) : (newVar t v).run P w = .ok ⟨w.heap.size, 0, none⟩ (w.alloc (.cells v.cells.toList.toArray t)) := by
  simp only [newVar, newRow, Sem.run_bind, run_newObj_alloc, Result.andThen_ok, Sem.run_pure, Array.toArray_toList]
theorem step_newVar {d t : Nat} {env1 : Env} {m1 : Mem} {p : PV} {ps : List PV} (hd : o.dst = some d)
    (hrun : ∀ (R : Ent) (σ : Gh) (a : Act) (w : World), EnvOK σ env a → J G R σ m w → ∃ v, RelP σ p v ∧ (execOp a.eval o).run P w = .ok (.value (.pointer (some ⟨w.heap.size, 0, none⟩))) (w.alloc (.cells v.cells.toList.toArray t)))
    (hp : pcells p = some ps) (hoc : occs d ps = false) (g : Gives d env m env1 m1) : Step P G o env m (.ptr d 0) env1 ((d, .var ps) :: rm d m1) := by
  intro R σ a w he hj hd' next Q kk
  obtain ⟨v, hv, hr⟩ := hrun R σ a w he hj
  obtain ⟨hl, hq⟩ := rel_pcells hv hp
  obtain ⟨σ', hB, hloc, _, he', hj'⟩ := hj.alloc he d (.inl (hd' d hd)) g v.cells.toList t 0 (Nat.zero_le _) (.var ps) (fun σ' hB _ => ⟨by simpa using hl.symm, fun i q hq' => by
    have hi : i < v.cells.toList.length := by rw [← hl]; exact (List.getElem?_eq_some_iff.1 hq').1
    obtain ⟨r1, r2⟩ := hq i q _ hq' (List.getElem?_eq_getElem hi)
    refine ⟨_, ?_, r1.but hB (occs_get hq' hoc), r2⟩
    rw [World.cell?_alloc_new]
    simp⟩)
  simp only [Oper.wp, hr, Oper.upon_value]
  exact kk σ' _ _ (.ptr d 0 _ hloc) he' hj'
theorem step_alloc {d t : Nat} {ti : TI} {z : Value} {x : IV} {ps : List PV} {env1 : Env} {m1 : Mem} (ho : o.op = .alloc t) (hd : o.dst = some d) (T : TOK1 P t ti) (hz : ti.zero = some z) (hx : ofV z = some x)
    (hp : pcells (.i x) = some ps) (hoc : occs d ps = false) (g : Gives d env m env1 m1) : Step P G o env m (.ptr d 0) env1 ((d, .var ps) :: rm d m1) := by
  refine step_newVar (t := t) hd (fun R σ a w he hj => ⟨z, .i x z (ofV_rel hx), ?_⟩) hp hoc g
  simp only [execOp, ho, Instr.alloc, Sem.run_bind, T.run_zero hz, Result.andThen_ok, run_newVar, Sem.run_pure]
theorem step_box {d t : Nat} {y : Operand} {p : PV} {ps : List PV} {env1 : Env} {m1 : Mem} (ho : o.op = .box t y) (hd : o.dst = some d) (hy : evalO G env y = some p)
    (hp : pcells p = some ps) (hoc : occs d ps = false) (g : Gives d env m env1 m1) : Step P G o env m (.ptr d 0) env1 ((d, .var ps) :: rm d m1) := by
  refine step_newVar (t := t) hd (fun R σ a w he hj => ⟨a.eval y, evalO_rel he hj hy, ?_⟩) hp hoc g
  simp only [execOp, ho, Instr.box, Sem.run_bind, Result.andThen_ok, run_newVar, Sem.run_pure]
def aFill (place : Nat → Option (Nat × Nat)) (cells : List IV) : List (Nat × IV) → Option (List IV)
  | [] => some cells
  | (i, x) :: rest =>
    match place i with
    | none => none
    | some (off, size) => bif Nat.beq x.cells.length size && Nat.ble (off + size) cells.length then aFill place (cells.take off ++ x.cells ++ cells.drop (off + size)) rest else none
theorem foldl_set (l : List Value) : ∀ (cs : Array Value) (off n : Nat), off + n + l.length ≤ cs.size →
    ((l.zipIdx n).foldl (fun (cs : Array Value) (e : Value × Nat) => cs.setIfInBounds (off + e.2) e.1) cs).toList = cs.toList.take (off + n) ++ l ++ cs.toList.drop (off + n + l.length) := by
  induction l with
  | nil => intro cs off n h; simp
  | cons v r ih =>
    intro cs off n h
    simp only [List.length_cons] at h
    simp only [List.zipIdx_cons, List.foldl_cons]
    rw [ih (cs.setIfInBounds (off + n) v) off (n + 1) (by simp; omega)]
    apply List.ext_getElem?
    intro i
    have hsz : (cs.setIfInBounds (off + n) v).toList = cs.toList.set (off + n) v := by simp
    rw [hsz]
    simp only [List.append_assoc]
    by_cases h1 : i < off + n
    · rw [List.getElem?_append_left (by simp; omega), List.getElem?_append_left (by simp; omega)]
      rw [List.getElem?_take, List.getElem?_take, if_pos (by omega), if_pos h1, List.getElem?_set_ne (by omega)]
    · rw [List.getElem?_append_right (l₁ := List.take (off + n) cs.toList) (by simp; omega)]
      by_cases h2 : i = off + n
      · subst h2
        rw [List.getElem?_append_left (by simp; omega), List.getElem?_take, if_pos (by omega)]
        rw [List.getElem?_set_self (by simp; omega)]
        simp [show min (off + n) cs.size = off + n by omega]
      · rw [List.getElem?_append_right (by simp; omega)]
        simp only [List.length_take, List.length_set, Array.length_toList]
        rw [show min (off + (n + 1)) cs.size = off + n + 1 by omega, show min (off + n) cs.size = off + n by omega]
        rw [show i - (off + n) = (i - (off + n + 1)) + 1 by omega]
        simp only [List.cons_append, List.getElem?_cons_succ]
        by_cases h3 : i - (off + n + 1) < r.length
        · rw [List.getElem?_append_left h3, List.getElem?_append_left h3]
        · rw [List.getElem?_append_right (by omega), List.getElem?_append_right (by omega)]
          rw [List.getElem?_drop, List.getElem?_drop, List.getElem?_set_ne (by omega)]
          simp only [List.length_cons]
          congr 1
          omega
theorem fill_rel {h : Hp} {place : Nat → Option (Nat × Nat)} : ∀ (ps : List (Nat × IV)) (vs : List (Nat × Value)) (cs cs' : List IV) (cells : Array Value), ps.length = vs.length →
    (∀ (i : Nat) (p : Nat × IV) (v : Nat × Value), ps[i]? = some p → vs[i]? = some v → p.1 = v.1 ∧ RelI h p.2 v.2) → RelI h (.agg cs) (.agg cells) → aFill place cs ps = some cs' →
    (∀ (i : Nat) (p : Nat × IV), ps[i]? = some p → isCell (.i p.2) = true ∨ ∃ l, p.2 = .agg l) →
    ∃ cells', Instr.fill place cells vs = some cells' ∧ RelI h (.agg cs') (.agg cells')
  | [], [], cs, cs', cells, _, _, r, e, _ => by
    simp only [aFill] at e; cases e
    exact ⟨cells, rfl, r⟩
  | (i, x) :: ps, (j, v) :: vs, cs, cs', cells, hl, hr, r, e, hw => by
    obtain ⟨hij, rx⟩ := hr 0 (i, x) (j, v) rfl rfl
    simp only at hij rx
    subst hij
    simp only [aFill] at e
    cases hp : place i with
    | none => rw [hp] at e; cases e
    | some os =>
      obtain ⟨off, size⟩ := os
      simp only [hp] at e
      cases hb : (Nat.beq x.cells.length size && Nat.ble (off + size) cs.length) with
      | false => rw [hb] at e; cases e
      | true =>
        rw [hb] at e
        simp only [cond_true] at e
        simp only [Bool.and_eq_true] at hb
        have hb1 := Nat.eq_of_beq_eq_true hb.1
        have hb2 := Nat.le_of_ble_eq_true hb.2
        obtain ⟨cl⟩ := cells
        obtain ⟨g1, g2, g3⟩ := r.agg_get
        have hxv : x.cells.length = v.cells.toList.length ∧ (∀ u ∈ v.cells.toList, u.oneCell' = true) ∧ ∀ (i : Nat) (y : IV) (u : Value), x.cells[i]? = some y → v.cells.toList[i]? = some u → RelI h y u := by
          have hw0 := hw 0 (i, x) rfl
          cases rx with
          | agg cs2 vs2 q1 q2 q3 => exact ⟨q1, q2, q3⟩
          | tup => rcases hw0 with h0 | ⟨l, h0⟩; simp [isCell] at h0; cases h0
          | _ => refine ⟨rfl, by simp [Value.cells, Value.oneCell'], fun i y u e1 e2 => ?_⟩
                 cases i with
                 | zero => simp [IV.cells, Value.cells] at e1 e2; subst e1; subst e2; constructor <;> assumption
                 | succ i => simp [IV.cells] at e1
        obtain ⟨a1, a2, a3⟩ := hxv
        have hsz : v.cells.size = size := by rw [← hb1, a1]; simp
        have hfold := foldl_set v.cells.toList (⟨cl⟩ : Array Value) off 0 (by simp; omega)
        simp only [Nat.add_zero] at hfold
        have hfold2 : v.cells.zipIdx.foldl (fun cs (c, j) => cs.setIfInBounds (off + j) c) (⟨cl⟩ : Array Value) = (⟨cl.take off ++ v.cells.toList ++ cl.drop (off + v.cells.toList.length)⟩ : Array Value) := by
          apply Array.ext'
          rw [← Array.foldl_toList, Array.toList_zipIdx]
          exact hfold
        have hnew : RelI h (.agg (cs.take off ++ x.cells ++ cs.drop (off + size))) (.agg (⟨cl.take off ++ v.cells.toList ++ cl.drop (off + v.cells.toList.length)⟩ : Array Value)) := by
          refine .agg _ _ (by simp; omega) ?_ ?_
          · intro u hu
            simp only [List.mem_append] at hu
            rcases hu with (hu | hu) | hu
            · exact g2 u (List.mem_of_mem_take hu)
            · exact a2 u hu
            · exact g2 u (List.mem_of_mem_drop hu)
          · intro k y u e1 e2
            rw [List.append_assoc] at e1 e2
            by_cases k1 : k < off
            · rw [List.getElem?_append_left (by simp; omega)] at e1 e2
              rw [List.getElem?_take, if_pos k1] at e1 e2
              exact g3 k y u e1 e2
            · rw [List.getElem?_append_right (by simp; omega)] at e1 e2
              have m1 : min off cs.length = off := by omega
              have m2 : min off cl.length = off := by omega
              simp only [List.length_take, m1, m2] at e1 e2
              by_cases k2 : k - off < x.cells.length
              · rw [List.getElem?_append_left (by omega)] at e1 e2
                exact a3 _ y u e1 e2
              · rw [List.getElem?_append_right (by omega)] at e1 e2
                rw [List.getElem?_drop] at e1 e2
                refine g3 (off + size + (k - off - x.cells.length)) y u e1 ?_
                rw [← e2]
                congr 1
                omega
        obtain ⟨cells', hf, hrel⟩ := fill_rel ps vs _ cs' _ (by simpa using hl) (fun k p v' h1 h2 => hr (k + 1) p v' (by simpa using h1) (by simpa using h2)) hnew e
          (fun k p h1 => hw (k + 1) p (by simpa using h1))
        refine ⟨cells', ?_, hrel⟩
        simp only [Instr.fill, hp]
        rw [if_neg (by rw [hsz]; simp; omega), hfold2]
        exact hf
  | [], _ :: _, _, _, _, h, _, _, _, _ => by simp at h
  | _ :: _, [], _, _, _, h, _, _, _, _ => by simp at h
end
end Go.Kn
namespace Go.Kn
open Go
section
variable {P : Program} {G : Gl} {o : Oper} {env : Env} {m : Mem}
def notTup : IV → Bool
  | .tup _ => false
  | _ => true
def evalParts (G : Gl) (env : Env) : List (Nat × Operand) → Option (List (Nat × IV))
  | [] => some []
  | (i, x) :: r => match evalO G env x with
    | none => none
    | some p => match iv? p with
      | none => none
      | some y => bif notTup y then (match evalParts G env r with
        | none => none
        | some l => some ((i, y) :: l)) else none
theorem evalParts_rel {R : Ent} {σ : Gh} {a : Act} {w : World} (he : EnvOK σ env a) (hj : J G R σ m w) : ∀ {ps : List (Nat × Operand)} {l : List (Nat × IV)}, evalParts G env ps = some l →
    l.length = ps.length ∧ (∀ (i : Nat) (p : Nat × IV) (v : Nat × Value), l[i]? = some p → (ps.map fun (e : Nat × Operand) => (e.1, a.eval e.2))[i]? = some v → p.1 = v.1 ∧ RelI σ.h p.2 v.2) ∧
    ∀ (i : Nat) (p : Nat × IV), l[i]? = some p → isCell (.i p.2) = true ∨ ∃ l', p.2 = .agg l'
  | [], l, h => by simp only [evalParts] at h; cases h; simp
  | (i, x) :: r, l, h => by
    simp only [evalParts] at h
    cases e1 : evalO G env x with
    | none => rw [e1] at h; cases h
    | some p =>
      simp only [e1] at h
      cases e2 : iv? p with
      | none => rw [e2] at h; cases h
      | some y =>
        simp only [e2] at h
        cases e4 : notTup y with
        | false => rw [e4] at h; cases h
        | true =>
          rw [e4] at h
          simp only [cond_true] at h
          cases e3 : evalParts G env r with
          | none => rw [e3] at h; cases h
          | some l' =>
            rw [e3] at h
            cases h
            obtain ⟨a1, a2, a3⟩ := evalParts_rel he hj e3
            have r1 := (evalO_rel he hj e1).iv e2
            refine ⟨by simp [a1], fun k q v h1 h2 => ?_, fun k q h1 => ?_⟩
            · cases k with
              | zero => simp at h1 h2; subst h1; subst h2; exact ⟨rfl, r1⟩
              | succ k => exact a2 k q v (by simpa using h1) (by simpa using h2)
            · cases k with
              | zero =>
                simp at h1; subst h1
                cases y <;> first | (left; rfl) | (right; exact ⟨_, rfl⟩) | (simp [notTup] at e4)
              | succ k => exact a3 k q (by simpa using h1)
def fplaces (T : Ty) : List Field → Option (List (Nat × Nat))
  | [] => some []
  | f :: r => match lk f.type T.t with
    | none => none
    | some ti => match fplaces T r with
      | none => none
      | some l => some ((f.offset, ti.size) :: l)
theorem run_fplaces {T : Ty} (hT : TOK P T) : ∀ {fs : List Field} {l : List (Nat × Nat)} (w : World), fplaces T fs = some l →
    (fs.mapM fun f => do pure (f.offset, ← sizeOf f.type) : Sem (List (Nat × Nat))).run P w = .ok l w
  | [], l, w, h => by simp only [fplaces] at h; cases h; simp
  | f :: r, l, w, h => by
    simp only [fplaces] at h
    cases e1 : lk f.type T.t with
    | none => rw [e1] at h; cases h
    | some ti =>
      simp only [e1] at h
      cases e2 : fplaces T r with
      | none => rw [e2] at h; cases h
      | some l' =>
        rw [e2] at h
        cases h
        have ih := run_fplaces hT w e2
        simp only [List.mapM_cons, Sem.run_bind, (hT _ _ e1).run_size, Result.andThen_ok, Sem.run_pure]
        rw [ih]
        simp
theorem step_build_struct {T : Ty} (hT : TOK P T) {t : Nat} {ti : TI} {fs : Array Field} {parts : Array (Nat × Operand)} {z : Value} {zs cs : List IV} {pl : List (Nat × Nat)} {ps : List (Nat × IV)}
    (ho : o.op = .build t parts) (T1 : TOK1 P t ti) (hd : ti.d = .struct fs) (hz : ti.zero = some z) (hx : ofV z = some (.agg zs)) (hpl : fplaces T fs.toList = some pl)
    (hp : evalParts G env parts.toList = some ps) (hf : aFill (fun (i : Nat) => pl[i]?) zs ps = some cs) : SV P G o env m (.i (.agg cs)) := by
  refine fun R σ a w he hj => ?_
  obtain ⟨a1, a2, a3⟩ := evalParts_rel he hj hp
  have rz := ofV_rel (h := σ.h) hx
  cases rz with | agg _ vs hl h1 hr =>
  obtain ⟨cells', hfill, hrel⟩ := fill_rel ps (parts.toList.map fun (e : Nat × Operand) => (e.1, a.eval e.2)) zs cs vs.toArray (by simpa using a1) a2 (.agg _ _ hl h1 hr) hf a3
  refine ⟨_, .i _ _ hrel, ?_⟩
  have hmap : (fs.mapM fun f => do pure (f.offset, ← sizeOf f.type) : Sem (Array (Nat × Nat))).run P w = .ok pl.toArray w := by
    rw [Array.mapM_eq_mapM_toList]
    simp only [Sem.run_map, run_fplaces hT w hpl, Result.andThen_ok]
  have hplace : (fun (i : Nat) => pl.toArray[i]?) = fun (i : Nat) => pl[i]? := by funext i; simp
  have hpt : (parts.map fun (i, x) => (i, a.eval x)).toList = parts.toList.map fun (e : Nat × Operand) => (e.1, a.eval e.2) := by simp
  simp only [execOp, ho, Instr.build, Sem.run_bind, T1.run_zero hz, T1.run_und, hd, Result.andThen_ok, Value.cells]
  rw [hmap]
  simp only [Result.andThen_ok, hplace, hpt, hfill, Sem.run_pure]
theorem step_build_array {t e n : Nat} {ti te : TI} {parts : Array (Nat × Operand)} {z : Value} {zs cs : List IV} {ps : List (Nat × IV)}
    (ho : o.op = .build t parts) (T1 : TOK1 P t ti) (hd : ti.d = .array n e) (T2 : TOK1 P e te) (hz : ti.zero = some z) (hx : ofV z = some (.agg zs))
    (hp : evalParts G env parts.toList = some ps) (hf : aFill (fun i => some (i * te.size, te.size)) zs ps = some cs) : SV P G o env m (.i (.agg cs)) := by
  refine fun R σ a w he hj => ?_
  obtain ⟨a1, a2, a3⟩ := evalParts_rel he hj hp
  have rz := ofV_rel (h := σ.h) hx
  cases rz with | agg _ vs hl h1 hr =>
  obtain ⟨cells', hfill, hrel⟩ := fill_rel ps (parts.toList.map fun (e : Nat × Operand) => (e.1, a.eval e.2)) zs cs vs.toArray (by simpa using a1) a2 (.agg _ _ hl h1 hr) hf a3
  refine ⟨_, .i _ _ hrel, ?_⟩
  have hpt : (parts.map fun (i, x) => (i, a.eval x)).toList = parts.toList.map fun (e : Nat × Operand) => (e.1, a.eval e.2) := by simp
  simp only [execOp, ho, Instr.build, Sem.run_bind, T1.run_zero hz, T1.run_und, hd, T2.run_size, Result.andThen_ok, Value.cells, hpt, hfill, Sem.run_pure]
structure CellsOf (h : Hp) (l : List IV) (size : Nat) (vs : List Value) : Prop where
  len : vs.length = l.length * size
  es : ∀ x ∈ l, x.cells.length = size
  one : ∀ v ∈ vs, v.oneCell' = true
  get : ∀ (i : Nat) (x : IV) (j : Nat) (y : IV), l[i]? = some x → x.cells[j]? = some y → ∃ v, vs[i * size + j]? = some v ∧ RelI h y v
theorem CellsOf.nil (h : Hp) (size : Nat) : CellsOf h [] size [] := ⟨by simp, by simp, by simp, by simp⟩
theorem CellsOf.mono {h h' : Hp} (hh : h.le h') {l : List IV} {size : Nat} {vs : List Value} (c : CellsOf h l size vs) : CellsOf h' l size vs :=
  ⟨c.len, c.es, c.one, fun i x j y e1 e2 => by obtain ⟨v, a, b⟩ := c.get i x j y e1 e2; exact ⟨v, a, b.mono hh⟩⟩
theorem cell_pos {i n j s : Nat} (hi : i < n) (hj : j < s) : i * s + j < n * s := by
  have : (i + 1) * s ≤ n * s := Nat.mul_le_mul_right s hi
  rw [Nat.succ_mul] at this
  omega
theorem CellsOf.append {h : Hp} {l l2 : List IV} {size : Nat} {vs vs2 : List Value} (c : CellsOf h l size vs) (c2 : CellsOf h l2 size vs2) : CellsOf h (l ++ l2) size (vs ++ vs2) where
  len := by simp [c.len, c2.len, Nat.add_mul]
  es := fun x hx => by rcases List.mem_append.1 hx with h1 | h1; exact c.es x h1; exact c2.es x h1
  one := fun x hx => by rcases List.mem_append.1 hx with h1 | h1; exact c.one x h1; exact c2.one x h1
  get := fun i x j y e1 e2 => by
    have hj : j < x.cells.length := (List.getElem?_eq_some_iff.1 e2).1
    by_cases hi : i < l.length
    · rw [List.getElem?_append_left hi] at e1
      have := c.es x (List.mem_of_getElem? e1)
      rw [List.getElem?_append_left (by rw [c.len]; exact cell_pos hi (by omega))]
      exact c.get i x j y e1 e2
    · rw [List.getElem?_append_right (by omega)] at e1
      have := c2.es x (List.mem_of_getElem? e1)
      obtain ⟨v, a, b⟩ := c2.get _ x j y e1 e2
      refine ⟨v, ?_, b⟩
      have hle : l.length * size ≤ i * size := Nat.mul_le_mul_right size (by omega)
      rw [List.getElem?_append_right (by rw [c.len]; omega), c.len]
      rw [← a]
      congr 1
      rw [Nat.sub_mul]
      omega
theorem CellsOf.rel {h h' : Hp} {l : List IV} {size : Nat} {vs : List Value} (c : CellsOf h l size vs) (hh : h.le h') (b off cap : Nat) (hc : l.length ≤ cap)
    (hv : ∀ k v, vs[k]? = some v → h' b (off + k) = some v) : RelI h' (.slice l) (.slice (some ⟨b, off, none⟩) l.length cap) := by
  refine .slice b off cap size l (fun i j => vs.getD (i * size + j) undef) hc (fun i x e => c.es x (List.mem_of_getElem? e)) ?_ ?_ ?_
  · intro i x j y e1 e2
    obtain ⟨v, a, _⟩ := c.get i x j y e1 e2
    simp only [List.getD_eq_getElem?_getD, a, Option.getD_some]
    exact c.one v (List.mem_of_getElem? a)
  · intro i x j y e1 e2
    obtain ⟨v, a, _⟩ := c.get i x j y e1 e2
    simp only [List.getD_eq_getElem?_getD, a, Option.getD_some]
    rw [Nat.add_assoc]
    exact hv _ v a
  · intro i x j y e1 e2
    obtain ⟨v, a, r⟩ := c.get i x j y e1 e2
    simp only [List.getD_eq_getElem?_getD, a, Option.getD_some]
    exact r.mono hh
theorem slice_cells {h : Hp} {l : List IV} {a : Option Addr} {cap size : Nat} (r : RelI h (.slice l) (.slice a l.length cap)) (hs : ∀ x ∈ l, x.cells.length = size) :
    ∃ vs, CellsOf h l size vs ∧ (∀ w : World, (∀ b o v, h b o = some v → w.cell? ⟨b, o, none⟩ = some v) → (Builtin.firstCells size l.length (.slice a l.length cap)).run P w = .ok vs.toArray w) ∧
      (l.length = 0 ∨ ∃ b off, a = some ⟨b, off, none⟩ ∧ ∀ k v, vs[k]? = some v → h b (off + k) = some v) := by
  generalize hn : l.length = n at r
  cases r with
  | nilS => exact ⟨[], CellsOf.nil h size, fun w _ => by simp [Builtin.firstCells], .inl hn⟩
  | oddS => exact ⟨[], CellsOf.nil h size, fun w _ => by simp [Builtin.firstCells, loadCells, loadCellsFrom], .inl hn⟩
  | slice b off _ s _ f hcap hs' h1 hc hr =>
    by_cases hl : l = []
    · subst hl
      exact ⟨[], CellsOf.nil h size, fun w _ => by simp [Builtin.firstCells, loadCells, loadCellsFrom], .inl rfl⟩
    · have hss : s = size := by
        cases l with
        | nil => exact absurd rfl hl
        | cons x r => rw [← hs' 0 x rfl]; exact hs x (by simp)
      subst hss
      refine ⟨(List.range (l.length * s)).map fun k => f (k / s) (k % s), ?_, ?_, .inr ⟨b, off, rfl, ?_⟩⟩
      · have key : ∀ k, k < l.length * s → ∃ x y, l[k / s]? = some x ∧ x.cells[k % s]? = some y := by
          intro k hk
          have hs0 : 0 < s := by
            rcases Nat.eq_zero_or_pos s with h0 | h0
            · subst h0; simp at hk
            · exact h0
          have hi : k / s < l.length := Nat.div_lt_of_lt_mul (by rw [Nat.mul_comm]; exact hk)
          have hj : k % s < l[k / s].cells.length := by rw [hs _ (List.getElem_mem hi)]; exact Nat.mod_lt _ hs0
          exact ⟨_, _, List.getElem?_eq_getElem hi, List.getElem?_eq_getElem hj⟩
        refine ⟨by simp, hs, ?_, ?_⟩
        · intro v hv
          simp only [List.mem_map, List.mem_range] at hv
          obtain ⟨k, hk, rfl⟩ := hv
          obtain ⟨x, y, e1, e2⟩ := key k hk
          exact h1 _ x _ y e1 e2
        · intro i x j y e1 e2
          have hj : j < s := by rw [← hs x (List.mem_of_getElem? e1)]; exact (List.getElem?_eq_some_iff.1 e2).1
          have hi : i < l.length := (List.getElem?_eq_some_iff.1 e1).1
          refine ⟨f i j, ?_, hr i x j y e1 e2⟩
          have hk := cell_pos hi hj
          simp only [List.getElem?_map, List.getElem?_range hk, Option.map_some]
          have d1 : (i * s + j) / s = i := by rw [Nat.mul_comm, Nat.mul_add_div (by omega), Nat.div_eq_of_lt hj]; omega
          have d2 : (i * s + j) % s = j := by rw [Nat.mul_comm, Nat.mul_add_mod, Nat.mod_eq_of_lt hj]
          rw [d1, d2]
      · intro w hw
        simp only [Builtin.firstCells]
        rw [run_loadCells (P := P) w ⟨b, off, none⟩ (l.length * s) (fun k => f (k / s) (k % s)) (fun k hk => by
          rw [add_plain]
          have hs0 : 0 < s := by
            rcases Nat.eq_zero_or_pos s with h0 | h0
            · subst h0; simp at hk
            · exact h0
          have hi : k / s < l.length := Nat.div_lt_of_lt_mul (by rw [Nat.mul_comm]; exact hk)
          have hj : k % s < l[k / s].cells.length := by rw [hs _ (List.getElem_mem hi)]; exact Nat.mod_lt _ hs0
          have := hc _ _ _ _ (List.getElem?_eq_getElem hi) (List.getElem?_eq_getElem hj)
          rw [Nat.add_assoc, Nat.mul_comm, Nat.div_add_mod] at this
          exact hw _ _ _ this)]
      · intro k v hv
        have hk : k < l.length * s := by
          have := (List.getElem?_eq_some_iff.1 hv).1
          simpa using this
        simp only [List.getElem?_map, List.getElem?_range hk, Option.map_some, Option.some.injEq] at hv
        have hs0 : 0 < s := by
          rcases Nat.eq_zero_or_pos s with h0 | h0
          · subst h0; simp at hk
          · exact h0
        have hi : k / s < l.length := Nat.div_lt_of_lt_mul (by rw [Nat.mul_comm]; exact hk)
        have hj : k % s < l[k / s].cells.length := by rw [hs _ (List.getElem_mem hi)]; exact Nat.mod_lt _ hs0
        have := hc _ _ _ _ (List.getElem?_eq_getElem hi) (List.getElem?_eq_getElem hj)
        rw [Nat.add_assoc, Nat.mul_comm, Nat.div_add_mod] at this
        rw [this, hv]
end
end Go.Kn
namespace Go.Kn
open Go
section
variable {P : Program} {G : Gl} {o : Oper} {env : Env} {m : Mem}
theorem J.but_env {R : Ent} {σ : Gh} {w : World} (hj : J G R σ m w) {d : Nat} {env1 : Env} {m1 : Mem} {a : Act} (he : EnvOK σ env a) (hd : d < 1000) (g : Gives d env m env1 m1) :
    ∃ σ' : Gh, But d σ σ' ∧ σ'.loc d = some (0, 0, 0) ∧ EnvOK σ' env1 a ∧ J G R σ' ((d, .tip) :: rm d m1) w := by
  let σ' : Gh := { h := σ.h, loc := fun k => if k = d then some (0, 0, 0) else σ.loc k }
  have hB : But d σ σ' := ⟨Hp.le_refl _, fun k L hk e => by simp only [σ', if_neg hk]; exact e⟩
  have hlk : ∀ k o, lk k ((d, MO.tip) :: rm d m1) = some o → (k = d ∧ o = .tip) ∨ (k ≠ d ∧ ∃ o', lk k m = some o' ∧ isVar o' = isVar o ∧ ∀ {σ σ' : Gh} {w : World} {b lo hi : Nat}, But d σ σ' → MOK σ w b lo hi o' → MOK σ' w b lo hi o) := by
    intro k o e
    by_cases hk : k = d
    · subst hk; rw [lk_cons_self] at e; cases e; exact .inl ⟨rfl, rfl⟩
    · rw [lk_cons_other hk, lk_rm_other hk] at e
      exact .inr ⟨hk, g.dom k o e⟩
  refine ⟨σ', hB, by simp [σ'], g.env hB he, ?_⟩
  refine { inv := { hh := hj.inv.hh, obj := ?_, dis := ?_ }, glob := hj.glob, hm := hj.hm, os := hj.os, tape := hj.tape, out := hj.out,
           sz := hj.sz, old := hj.old, hn := hj.hn, own := ?_, kp := fun k L hk e => ?_, kn := fun k o L hk e hL => ?_ }
  · intro k o e
    rcases hlk k o e with ⟨rfl, rfl⟩ | ⟨hk, o', ho', _, ht⟩
    · exact ⟨0, 0, 0, by simp [σ'], Nat.le_refl _, fun x h1 h2 => by omega, trivial⟩
    · obtain ⟨b, lo, hi, q1, q2, q3, q4⟩ := hj.inv.obj k o' ho'
      exact ⟨b, lo, hi, hB.loc k _ hk q1, q2, q3, ht hB q4⟩
  · intro k k' o o' b lo hi b' lo' hi' e e' hkk l l' hl hl'
    rcases hlk k o e with ⟨rfl, rfl⟩ | ⟨hk, o2, ho2, _⟩
    · simp only [σ', if_true] at l; cases l; omega
    · rcases hlk k' o' e' with ⟨rfl, rfl⟩ | ⟨hk', o2', ho2', _⟩
      · simp only [σ', if_true] at l'; cases l'; omega
      · simp only [σ', if_neg hk, if_neg hk'] at l l'
        exact hj.inv.dis k k' o2 o2' b lo hi b' lo' hi' ho2 ho2' hkk l l' hl hl'
  · intro k o b lo hi e l hl
    rcases hlk k o e with ⟨rfl, rfl⟩ | ⟨hk, o2, ho2, _⟩
    · simp only [σ', if_true] at l; cases l; omega
    · simp only [σ', if_neg hk] at l
      exact hj.own k o2 b lo hi ho2 l hl
  · simp only [σ', if_neg (show k ≠ d by omega)]
    exact hj.kp k L hk e
  · rcases hlk k o e with ⟨rfl, rfl⟩ | ⟨_, o2, ho2, hv, _⟩
    · omega
    · rw [← hv]; exact hj.kn k o2 L hk ho2 hL
theorem J.tipwrite {R : Ent} {σ : Gh} {w : World} (hj : J G R σ m w) {d b lo hi : Nat} {env1 : Env} {m1 : Mem} {a : Act} (he : EnvOK σ env a) (hd : d < 1000) (g : Gives d env m env1 m1)
    {o0 : MO} (hm : lk d m = some o0) (hk : σ.loc d = some (b, lo, hi)) (vs : List Value) (hb : lo + vs.length ≤ hi) :
    ∃ σ' : Gh, But d σ σ' ∧ σ'.loc d = some (b, lo + vs.length, hi) ∧ (∀ k v, vs[k]? = some v → σ'.h b (lo + k) = some v) ∧ EnvOK σ' env1 a ∧ J G R σ' ((d, .tip) :: rm d m1) (w.setCells b lo vs) := by
  obtain ⟨b', lo', hi', hk', hle, hown, _⟩ := hj.inv.obj d _ hm
  rw [hk] at hk'; cases hk'
  obtain ⟨e1, e2, e3, e4⟩ := setCells_rest b vs lo w
  have hex : ∀ j, j < vs.length → (w.cell? ⟨b, lo + j, none⟩).isSome = true := fun j hj' => by
    obtain ⟨_, ⟨v, hv⟩, _⟩ := hown (lo + j) (by omega) (by omega)
    simp [hv]
  let σ' : Gh := { h := fun b' x => if b' = b ∧ lo ≤ x ∧ x < lo + vs.length then vs[x - lo]? else σ.h b' x, loc := fun k => if k = d then some (b, lo + vs.length, hi) else σ.loc k }
  have hne : ∀ {b' x v}, σ.h b' x = some v → ¬ (b' = b ∧ lo ≤ x ∧ x < lo + vs.length) := fun {b' x v} e ⟨h1, h2, h3⟩ => by
    subst h1
    rw [(hown x h2 (by omega)).1] at e; cases e
  have hB : But d σ σ' := ⟨fun b' x v e => by simp only [σ', if_neg (hne e)]; exact e, fun k L hk e => by simp only [σ', if_neg hk]; exact e⟩
  have hlk : ∀ k o, lk k ((d, MO.tip) :: rm d m1) = some o → (k = d ∧ o = .tip) ∨ (k ≠ d ∧ ∃ o', lk k m = some o' ∧ isVar o' = isVar o ∧ ∀ {σ σ' : Gh} {w : World} {b lo hi : Nat}, But d σ σ' → MOK σ w b lo hi o' → MOK σ' w b lo hi o) := by
    intro k o e
    by_cases hk : k = d
    · subst hk; rw [lk_cons_self] at e; cases e; exact .inl ⟨rfl, rfl⟩
    · rw [lk_cons_other hk, lk_rm_other hk] at e
      exact .inr ⟨hk, g.dom k o e⟩
  have hkeep : ∀ b' x v, w.cell? ⟨b', x, none⟩ = some v → ¬ (b' = b ∧ lo ≤ x ∧ x < lo + vs.length) → (w.setCells b lo vs).cell? ⟨b', x, none⟩ = some v := fun b' x v hv ho => by
    rw [World.cell?_setCells_out b vs lo w ⟨b', x, none⟩ (fun h1 _ => by
      simp only at h1 ⊢
      by_cases h2 : x < lo
      · exact .inl h2
      · exact .inr (by
          by_cases h3 : lo + vs.length ≤ x
          · exact h3
          · exact absurd ⟨h1, by omega, by omega⟩ ho))]
    exact hv
  have hother : ∀ k o' b2 lo2 hi2, k ≠ d → lk k m = some o' → σ.loc k = some (b2, lo2, hi2) → lo2 < hi2 → 0 < vs.length → b2 ≠ b := fun k o' b2 lo2 hi2 hkd ho' q1 hz hz' =>
    hj.inv.dis k d o' o0 b2 lo2 hi2 b lo hi ho' hm hkd q1 hk hz (by omega)
  refine ⟨σ', hB, by simp [σ'], fun k v e => ?_, g.env hB he, ?_⟩
  · have := (List.getElem?_eq_some_iff.1 e).1
    show (if b = b ∧ lo ≤ lo + k ∧ lo + k < lo + vs.length then vs[lo + k - lo]? else σ.h b (lo + k)) = some v
    rw [if_pos ⟨rfl, by omega, by omega⟩, show lo + k - lo = k by omega]; exact e
  refine { inv := { hh := ?_, obj := ?_, dis := ?_ }, glob := fun g' cs e => (hj.glob g' cs e).mono hB.h, hm := Hp.le_trans hj.hm hB.h, os := e1.trans hj.os, tape := e2.trans hj.tape, out := e3.trans hj.out,
           sz := by rw [e4]; exact hj.sz, old := fun b' hb' hnb => ?_, hn := fun b' x hb' hnb e => ?_, own := ?_, kp := fun k L hk e => ?_, kn := fun k o L hk e hL => ?_ }
  · intro b' x v e
    by_cases hc : b' = b ∧ lo ≤ x ∧ x < lo + vs.length
    · simp only [σ', if_pos hc] at e
      obtain ⟨rfl, h2, h3⟩ := hc
      have := World.cell?_setCells_in b' vs lo w hex (x - lo) (by omega)
      rw [show lo + (x - lo) = x by omega] at this
      rw [this]
      rw [List.getElem?_eq_getElem (by omega)] at e
      exact e
    · simp only [σ', if_neg hc] at e
      exact hkeep b' x v (hj.inv.hh _ _ _ e) hc
  · intro k o e
    rcases hlk k o e with ⟨rfl, rfl⟩ | ⟨hkd, o', ho', _, ht⟩
    · refine ⟨b, lo + vs.length, hi, by simp [σ'], hb, fun x h1 h2 => ?_, trivial⟩
      obtain ⟨a1, a2, a3⟩ := hown x (by omega) h2
      refine ⟨?_, setCells_isSome b vs _ w _ a2 hex, by rw [World.frozen?_setCells]; exact a3⟩
      show (if b = b ∧ lo ≤ x ∧ x < lo + vs.length then vs[x - lo]? else σ.h b x) = none
      rw [if_neg (by omega)]
      exact a1
    · obtain ⟨b2, lo2, hi2, q1, q2, q3, q4⟩ := hj.inv.obj k o' ho'
      refine ⟨b2, lo2, hi2, hB.loc k _ hkd q1, q2, fun x h1 h2 => ?_, ht hB ?_⟩
      · obtain ⟨a1, a2, a3⟩ := q3 x h1 h2
        refine ⟨?_, setCells_isSome b vs _ w _ a2 hex, by rw [World.frozen?_setCells]; exact a3⟩
        have hno : ¬ (b2 = b ∧ lo ≤ x ∧ x < lo + vs.length) := fun ⟨h3, h4, h5⟩ => hother k o' b2 lo2 hi2 hkd ho' q1 (by omega) (by omega) h3
        simp only [σ', if_neg hno]
        exact a1
      · cases o' with
        | tip => trivial
        | vec s l c =>
          exact q4.vecMono (Hp.le_refl _) (fun g hl x => by rw [World.frozen?_setCells]; exact g hl x) fun x v g1 g2 g3 =>
            hkeep _ _ _ g3 (fun ⟨h3, h4, h5⟩ => hother k _ b2 lo2 hi2 hkd ho' q1 (by omega) (by omega) h3)
        | var cells =>
          refine ⟨q4.1, fun i p hp => ?_⟩
          obtain ⟨v, r1, r2, r3⟩ := q4.2 i p hp
          have hi3 := (List.getElem?_eq_some_iff.1 hp).1
          have h41 : hi2 = lo2 + cells.length := q4.1
          refine ⟨v, hkeep _ _ _ r1 (fun ⟨h3, h4, h5⟩ => hother k _ b2 lo2 hi2 hkd ho' q1 (by omega) (by omega) h3), r2, r3⟩
  · intro k k' o o' b1 lo1 hi1 b2 lo2 hi2 e e' hkk l l' hl hl'
    rcases hlk k o e with ⟨rfl, rfl⟩ | ⟨hk1, o1, ho1, _⟩ <;> rcases hlk k' o' e' with ⟨rfl, rfl⟩ | ⟨hk2, o2, ho2, _⟩
    · exact absurd rfl hkk
    · simp only [σ', if_true] at l; cases l
      simp only [σ', if_neg hk2] at l'
      exact hj.inv.dis k k' o0 o2 b lo hi b2 lo2 hi2 hm ho2 hkk hk l' (by omega) hl'
    · simp only [σ', if_true] at l'; cases l'
      simp only [σ', if_neg hk1] at l
      exact hj.inv.dis k k' o1 o0 b1 lo1 hi1 b lo hi ho1 hm hkk l hk hl (by omega)
    · simp only [σ', if_neg hk1, if_neg hk2] at l l'
      exact hj.inv.dis k k' o1 o2 b1 lo1 hi1 b2 lo2 hi2 ho1 ho2 hkk l l' hl hl'
  · by_cases hz : vs = []
    · subst hz; exact hj.old b' hb' hnb
    · have : 0 < vs.length := List.length_pos_iff.2 hz
      rw [heap_setCells_other b vs _ w b' (fun e => by
        rcases hj.own d _ b lo hi hm hk (by omega) with h1 | h1
        · omega
        · subst e; exact hnb h1)]
      exact hj.old b' hb' hnb
  · have hno : ¬ (b' = b ∧ lo ≤ x ∧ x < lo + vs.length) := fun ⟨h3, h4, h5⟩ => by
      rcases hj.own d _ b lo hi hm hk (by omega) with h1 | h1
      · omega
      · subst h3; exact hnb h1
    simp only [σ', if_neg hno]
    exact hj.hn b' x hb' hnb e
  · intro k o b1 lo1 hi1 e l hl
    rcases hlk k o e with ⟨rfl, rfl⟩ | ⟨hk1, o1, ho1, _⟩
    · simp only [σ', if_true] at l; cases l
      exact hj.own k _ _ _ _ hm hk (by omega)
    · simp only [σ', if_neg hk1] at l
      exact hj.own k o1 b1 lo1 hi1 ho1 l hl
  · simp only [σ', if_neg (show k ≠ d by omega)]
    exact hj.kp k L hk e
  · rcases hlk k o e with ⟨rfl, rfl⟩ | ⟨_, o2, ho2, hv, _⟩
    · omega
    · rw [← hv]; exact hj.kn k o2 L hk ho2 hL
structure AppT (P : Program) (sT xT e : Nat) (ti : TI) (z : Value) : Prop where
  st : P.underlying sT = some (.slice e)
  xt : ∃ e', P.underlying xT = some (.slice e')
  et : TOK1 P e ti
  zv : ti.zero = some z
  zs : z.cells.size = ti.size
theorem run_append_in {sT xT e : Nat} {ti : TI} {z : Value} (A : AppT P sT xT e ti z) (ty : TypeId) (b off sLen sCap n : Nat) (x : Value) (news : List Value) (w : World) (hx : ∃ a c, x = .slice a n c)
    (hN : (Builtin.firstCells ti.size n x).run P w = .ok news.toArray w) (hc : sLen + n ≤ sCap)
    (hex : ∀ j, j < news.length → (w.cell? ⟨b, off + sLen * ti.size + j, none⟩).isSome = true) (hf : ∀ j, j < news.length → w.frozen? ⟨b, off + sLen * ti.size + j, none⟩ = false) (h1 : ∀ u ∈ news, u.oneCell' = true) :
    (Builtin.append_ #[sT, xT] ty #[.slice (some ⟨b, off, none⟩) sLen sCap, x]).run P w = .ok (.slice (some ⟨b, off, none⟩) (sLen + n) sCap) (w.setCells b (off + sLen * ti.size) news) := by
  obtain ⟨a, c, rfl⟩ := hx
  obtain ⟨e', he'⟩ := A.xt
  have hst := run_storeCells_cells (P := P) b (off + sLen * ti.size) news 0 w (by simpa using hex) (by simpa using hf) h1
  simp only [Nat.add_zero] at hst
  simp [Builtin.append_, run_underlying A.st, run_underlying he', A.et.run_size, Builtin.lenOf, hN, hc, add_plain, hst]
theorem run_append_in_nil {sT xT e : Nat} {ti : TI} {z : Value} (A : AppT P sT xT e ti z) (ty : TypeId) (base : Option Addr) (sLen sCap : Nat) (x : Value) (w : World) (hx : ∃ a c, x = .slice a 0 c)
    (hN : (Builtin.firstCells ti.size 0 x).run P w = .ok #[] w) (hc : sLen ≤ sCap) :
    (Builtin.append_ #[sT, xT] ty #[.slice base sLen sCap, x]).run P w = .ok (.slice base sLen sCap) w := by
  obtain ⟨a, c, rfl⟩ := hx
  obtain ⟨e', he'⟩ := A.xt
  cases base <;> simp [Builtin.append_, run_underlying A.st, run_underlying he', A.et.run_size, Builtin.lenOf, hN, hc, storeCells]
theorem zeroCells_eq (zero : Array Value) (n : Nat) : (Builtin.zeroCells zero n).size = n * zero.size := by simp [Builtin.zeroCells]
theorem run_append_grow {sT xT e : Nat} {ti : TI} {z : Value} (A : AppT P sT xT e ti z) (ty : TypeId) (base : Option Addr) (sLen sCap n : Nat) (x : Value) (old news : List Value) (w : World) (hx : ∃ a c, x = .slice a n c)
    (hN : (Builtin.firstCells ti.size n x).run P w.drew = .ok news.toArray w.drew) (hO : (Builtin.firstCells ti.size sLen (.slice base sLen sCap)).run P w.drew = .ok old.toArray w.drew) (hc : sCap < sLen + n)
    (hb : (sLen + n) * ti.bytes ≤ 140737488355328) (hbb : ti.bytes ≠ 0) :
    ∃ (newCap : Nat) (rest : List Value), sLen + n ≤ newCap ∧ rest.length = (newCap - (sLen + n)) * ti.size ∧ (∀ u ∈ rest, u ∈ z.cells.toList) ∧
      (Builtin.append_ #[sT, xT] ty #[.slice base sLen sCap, x]).run P w = .ok (.slice (some ⟨w.heap.size, 0, none⟩) (sLen + n) newCap) (w.drew.alloc (.cells (old ++ news ++ rest).toArray e)) := by
  obtain ⟨a, c, rfl⟩ := hx
  obtain ⟨e', he'⟩ := A.xt
  obtain ⟨i, hi, hi1, hi2, hi3⟩ := A.et.info
  refine ⟨grownCap w (sLen + n) sCap e, (Builtin.zeroCells z.cells (grownCap w (sLen + n) sCap e - (sLen + n))).toList, ?_, ?_, ?_, ?_⟩
  · unfold grownCap
    simp only [Question.cut]
    omega
  · simp [zeroCells_eq, A.zs]
  · intro u hu
    simp only [Builtin.zeroCells, Array.toList_map, Array.toList_range, List.mem_map, List.mem_range] at hu
    obtain ⟨j, hj, rfl⟩ := hu
    have hpos : 0 < z.cells.size := by
      rcases Nat.eq_zero_or_pos z.cells.size with h0 | h0
      · rw [h0] at hj; simp at hj
      · exact h0
    have hlt := Nat.mod_lt j hpos
    rw [getElem!_pos z.cells _ hlt]
    simp
  · have hfit := growslice_fits (bytes := ti.bytes) hc hb
    have hn : ¬ (sLen + n ≤ sCap) := by omega
    have h48' : ¬ (281474976710656 < Builtin.nextslicecap (sLen + n) sCap * ti.bytes) := by omega
    have hz := A.zv
    rw [← hi3] at hz
    rw [← hi1] at hN hO
    simp [Builtin.append_, run_underlying A.st, run_underlying he', sizeOf, typeInfo, zeroValue, hi, hz, Builtin.lenOf, hn, h48', Question.forced, hN, hO, newRow, grownCap, hi2, hbb]
    try (congr 2; apply Array.ext'; simp [List.append_assoc])
end
end Go.Kn
namespace Go.Kn
open Go
section
variable {P : Program} {G : Gl} {o : Oper} {env : Env} {m : Mem}
theorem exec_append {sT xT : Nat} {x y : Operand} (ho : o.op = .call { callee := .builtin .append, args := #[x, y], argTypes := #[sT, xT] }) (a : Act) {w w' : World} {v : Value}
    (h : (Builtin.append_ #[sT, xT] o.type #[a.eval x, a.eval y]).run P w = .ok v w') : (execOp a.eval o).run P w = .ok (.value v) w' := by
  simp only [execOp, ho, resolve, Sem.run_bind, Sem.run_pure, Result.andThen_ok, invoke, builtin]
  simp [h]
theorem run_of_relI {σ : Gh} {l : List IV} {u : Value} (r : RelI σ.h (.slice l) u) : ∃ a c, u = .slice a l.length c := by
  cases r with
  | nilS => exact ⟨none, 0, rfl⟩
  | oddS => exact ⟨_, 0, rfl⟩
  | slice b o c s l f => exact ⟨_, _, rfl⟩
theorem step_append {sT xT e d : Nat} {ti : TI} {z : Value} {x y : Operand} {p q : PV} {l l2 : List IV} {env1 : Env} {m1 : Mem} (A : AppT P sT xT e ti z) (hbb : ti.bytes ≠ 0)
    (ho : o.op = .call { callee := .builtin .append, args := #[x, y], argTypes := #[sT, xT] }) (hd : o.dst = some d ∨ ∃ c, o.dst = some c) (hd1 : d < 1000)
    (hp : evalO G env x = some p) (hq : evalO G env y = some q) (hl2 : iv? q = some (.slice l2))
    (hc : (p = .tok d ti.size l ∧ lk d m = some .tip) ∨ (p = .full l)) (hs : ∀ v ∈ l, v.cells.length = ti.size) (hs2 : ∀ v ∈ l2, v.cells.length = ti.size)
    (hb : (l.length + l2.length) * ti.bytes ≤ 140737488355328) (g : Gives d env m env1 m1) :
    Step P G o env m (.tok d ti.size (l ++ l2)) env1 ((d, .tip) :: rm d m1) := by
  intro R σ a w he hj _ next Q kk
  have rp := evalO_rel he hj hp
  have rq := (evalO_rel he hj hq).iv hl2
  obtain ⟨xb, xc, hxv⟩ := run_of_relI rq
  have hww : ∀ b o v, σ.h b o = some v → w.cell? ⟨b, o, none⟩ = some v := hj.inv.hh
  obtain ⟨news, hcn, hN, _⟩ := slice_cells (P := P) (by rw [hxv] at rq; exact rq) hs2
  have hNw := hN w hww
  have hNd := hN w.drew hww
  rw [← hxv] at hNw hNd
  obtain ⟨base, cap, hav, rl⟩ : ∃ base cap, a.eval x = .slice base l.length cap ∧ RelI σ.h (.slice l) (.slice base l.length cap) := by
    rcases hc with ⟨rfl, _⟩ | rfl
    · generalize hv : a.eval x = v at rp
      cases rp with | tok _ _ _ b c L hk r hs' sp => exact ⟨_, _, rfl, r⟩
    · generalize hv : a.eval x = v at rp
      cases rp with | full _ b r => exact ⟨_, _, rfl, r⟩
  obtain ⟨olds, hco, hO, hOl⟩ := slice_cells (P := P) rl hs
  have hOd := hO w.drew hww
  have hcat := hco.append hcn
  have hlc : l.length ≤ cap := by
    cases rl with
    | nilS => exact Nat.zero_le _
    | oddS => exact Nat.zero_le _
    | slice b o c s l f h => exact h
  by_cases hroom : l.length + l2.length ≤ cap
  · by_cases hz : l2 = []
    ·
      subst hz
      have hNw' := hNw
      have hn0 : news = [] := List.eq_nil_of_length_eq_zero (by simpa using hcn.len)
      subst hn0
      have hrun := run_append_in_nil A o.type base l.length cap (a.eval y) w ⟨xb, xc, hxv⟩ hNw hlc
      rw [← hav] at hrun
      simp only [Oper.wp, exec_append ho a hrun, Oper.upon_value]
      rcases hc with ⟨rfl, hm⟩ | rfl
      · have rp' := rp
        rw [hav] at rp'
        cases rp' with | tok _ _ _ _ _ L hk r hs' sp =>
        obtain ⟨b, lo, hi, hk2, hle, hown, _⟩ := hj.inv.obj d _ hm
        obtain ⟨σ', hB, hloc, _, he', hj'⟩ := hj.tipwrite he hd1 g hm hk2 [] (by simpa using hle)
        rw [hk2] at hk; cases hk
        refine kk σ' _ _ ?_ he' hj'
        rw [hav, List.append_nil]
        exact .tok d ti.size l base cap _ hloc (r.mono hB.h) hs' (by simpa using sp)
      · have rp' := rp
        rw [hav] at rp'
        have hcap : cap = l.length := by cases rp' with | full _ _ r => rfl
        subst hcap
        obtain ⟨σ', hB, hloc, he', hj'⟩ := hj.but_env he hd1 g
        refine kk σ' _ _ ?_ he' hj'
        rw [hav, List.append_nil]
        exact .tok d ti.size l base _ _ hloc (rl.mono hB.h) hs (.inl rfl)
    ·
      have hpos : 0 < l2.length := List.length_pos_iff.2 hz
      rcases hc with ⟨rfl, hm⟩ | rfl
      · have rp' := rp
        rw [hav] at rp'
        cases rp' with | tok _ _ _ _ _ L hk r hs' sp =>
        rcases sp with sp | ⟨b, off, hbase, hL⟩
        · omega
        · subst hbase; subst hL
          obtain ⟨b', lo', hi', hk2, hle, hown, _⟩ := hj.inv.obj d _ hm
          rw [hk] at hk2; cases hk2
          have hfit : off + l.length * ti.size + news.length ≤ off + cap * ti.size := by
            have := Nat.mul_le_mul_right ti.size hroom
            rw [Nat.add_mul] at this
            rw [hcn.len]; omega
          have hrun := run_append_in A o.type b off l.length cap l2.length (a.eval y) news w ⟨xb, xc, hxv⟩ hNw hroom
            (fun j hj' => by obtain ⟨_, ⟨v, hv⟩, _⟩ := hown (off + l.length * ti.size + j) (by omega) (by omega); simp [hv])
            (fun j hj' => (hown (off + l.length * ti.size + j) (by omega) (by omega)).2.2) hcn.one
          rw [← hav] at hrun
          simp only [Oper.wp, exec_append ho a hrun, Oper.upon_value]
          obtain ⟨σ', hB, hloc, hnew, he', hj'⟩ := hj.tipwrite he hd1 g hm hk news hfit
          refine kk σ' _ _ ?_ he' hj'
          have hlen : (l ++ l2).length = l.length + l2.length := by simp
          rw [← hlen]
          refine .tok d ti.size (l ++ l2) (some ⟨b, off, none⟩) cap _ hloc (hcat.rel hB.h b off cap (by omega) (fun k v hv => ?_)) hcat.es (.inr ⟨b, off, rfl, ?_⟩)
          · by_cases hk1 : k < olds.length
            · rw [List.getElem?_append_left hk1] at hv
              rcases hOl with h0 | ⟨b2, off2, hb2, ho2⟩
              · rw [hco.len, h0] at hk1; omega
              · cases hb2; exact hB.h _ _ _ (ho2 k v hv)
            · rw [List.getElem?_append_right (by omega)] at hv
              have := hnew _ v hv
              rw [hco.len] at this hk1
              rwa [show off + l.length * ti.size + (k - l.length * ti.size) = off + k by omega] at this
          · rw [hlen, hcn.len, Nat.add_mul, Nat.add_assoc]
      · have rp' := rp
        rw [hav] at rp'
        have hcap : cap = l.length := by cases rp' with | full _ _ r => rfl
        omega
  · obtain ⟨newCap, rest, hnc, hrl, _, hrun⟩ := run_append_grow A o.type base l.length cap l2.length (a.eval y) olds news w ⟨xb, xc, hxv⟩ hNd hOd (by omega) hb hbb
    rw [← hav] at hrun
    simp only [Oper.wp, exec_append ho a hrun, Oper.upon_value]
    have hjd := hj.drew
    have hlv : (olds ++ news ++ rest).length = newCap * ti.size := by
      simp only [List.length_append, hco.len, hcn.len, hrl]
      rw [← Nat.add_mul, ← Nat.add_mul]
      congr 1
      omega
    have hcl : (olds ++ news).length = (l.length + l2.length) * ti.size := by
      simp only [List.length_append, hco.len, hcn.len]
      rw [← Nat.add_mul]
    obtain ⟨σ', hB, hloc, hnew, he', hj'⟩ := hjd.alloc (a := a) ⟨he.d, he.v⟩ d (.inl hd1) g (olds ++ news ++ rest) e ((l.length + l2.length) * ti.size) (by rw [← hcl]; simp) .tip (fun _ _ _ => trivial)
    refine kk σ' _ _ ?_ he' hj'
    have hlen : (l ++ l2).length = l.length + l2.length := by simp
    rw [← hlen]
    refine .tok d ti.size (l ++ l2) (some ⟨w.heap.size, 0, none⟩) newCap _ hloc (hcat.rel hB.h w.heap.size 0 newCap (by omega) (fun k v hv => ?_)) hcat.es (.inr ⟨w.heap.size, 0, rfl, ?_⟩)
    · have hk := (List.getElem?_eq_some_iff.1 hv).1
      have := hnew k (by rw [← hcl]; exact hk)
      rw [Nat.zero_add]
      rw [show w.heap.size = w.drew.heap.size from rfl, this, List.getElem?_append_left hk]
      exact hv
    · rw [hlen, hlv, Nat.zero_add, Nat.zero_add]
      rfl
def evalElems (G : Gl) (env : Env) (size : Nat) : Nat → List (Nat × Operand) → Option (List IV)
  | _, [] => some []
  | n, (i, x) :: r => bif Nat.beq i n then (match evalO G env x with
    | none => none
    | some p => match iv? p with
      | none => none
      | some y => bif Nat.beq y.cells.length size && notTup y then (match evalElems G env size (n + 1) r with
        | none => none
        | some l => some (y :: l)) else none) else none
theorem evalElems_parts {size : Nat} : ∀ {n : Nat} {ps : List (Nat × Operand)} {l : List IV}, evalElems G env size n ps = some l →
    evalParts G env ps = some ((l.zipIdx n).map fun e => (e.2, e.1)) ∧ (∀ x ∈ l, x.cells.length = size) ∧ l.length = ps.length
  | n, [], l, h => by simp only [evalElems] at h; cases h; simp [evalParts]
  | n, (i, x) :: r, l, h => by
    simp only [evalElems] at h
    cases hb : Nat.beq i n with
    | false => rw [hb] at h; cases h
    | true =>
      have hi := Nat.eq_of_beq_eq_true hb
      subst hi
      simp only [hb, cond_true] at h
      cases e1 : evalO G env x with
      | none => rw [e1] at h; cases h
      | some p =>
        simp only [e1] at h
        cases e2 : iv? p with
        | none => rw [e2] at h; cases h
        | some y =>
          simp only [e2] at h
          cases e4 : (Nat.beq y.cells.length size && notTup y) with
          | false => rw [e4] at h; cases h
          | true =>
            simp only [e4, cond_true] at h
            simp only [Bool.and_eq_true] at e4
            cases e3 : evalElems G env size (i + 1) r with
            | none => rw [e3] at h; cases h
            | some l' =>
              rw [e3] at h
              cases h
              obtain ⟨a1, a2, a3⟩ := evalElems_parts e3
              refine ⟨?_, ?_, by simp [a3]⟩
              · simp only [evalParts, e1, e2, a1, List.zipIdx_cons, List.map_cons]
                rw [e4.2]
                rfl
              · intro u hu
                rcases List.mem_cons.1 hu with rfl | hu
                · exact Nat.eq_of_beq_eq_true e4.1
                · exact a2 u hu
def flatCells (l : List IV) : List IV := l.flatMap IV.cells
theorem fill_all (size : Nat) : ∀ (l : List IV) (n : Nat) (cs : List IV), (∀ x ∈ l, x.cells.length = size) → (n + l.length) * size = cs.length →
    aFill (fun i => some (i * size, size)) cs ((l.zipIdx n).map fun e => (e.2, e.1)) = some (cs.take (n * size) ++ flatCells l)
  | [], n, cs, _, hl => by
    simp only [List.zipIdx_nil, List.map_nil, aFill, flatCells, List.flatMap_nil, List.append_nil]
    rw [List.take_of_length_le (by simp at hl; omega)]
  | x :: r, n, cs, hs, hl => by
    have hx := hs x (by simp)
    simp only [List.length_cons] at hl
    have h1 : (n + 1) * size ≤ cs.length := by rw [← hl]; exact Nat.mul_le_mul_right _ (by omega)
    rw [Nat.succ_mul] at h1
    simp only [List.zipIdx_cons, List.map_cons, aFill]
    rw [show (Nat.beq x.cells.length size && Nat.ble (n * size + size) cs.length) = true by
      rw [hx]; simp [Nat.beq_refl, Nat.ble_eq, h1]]
    simp only [cond_true]
    rw [fill_all size r (n + 1) _ (fun y hy => hs y (by simp [hy])) (by
      simp only [List.length_append, List.length_take, List.length_drop, hx]
      rw [show n + 1 + r.length = n + (r.length + 1) by omega, hl]
      omega)]
    congr 1
    have hmin : min (n * size) cs.length = n * size := by omega
    rw [Nat.succ_mul, List.take_append_of_le_length (by simp [hx]; omega), List.take_of_length_le (by simp [hx]; omega)]
    simp [flatCells]
theorem flat_get (size : Nat) : ∀ (l : List IV) (i j : Nat) (x y : IV), (∀ x ∈ l, x.cells.length = size) → l[i]? = some x → x.cells[j]? = some y → (flatCells l)[i * size + j]? = some y
  | [], i, j, x, y, _, e, _ => by simp at e
  | a :: r, 0, j, x, y, hs, e, e2 => by
    simp at e; subst e
    simp only [flatCells, List.flatMap_cons, Nat.zero_mul, Nat.zero_add]
    rw [List.getElem?_append_left (List.getElem?_eq_some_iff.1 e2).1]
    exact e2
  | a :: r, i + 1, j, x, y, hs, e, e2 => by
    simp only [flatCells, List.flatMap_cons]
    have ha := hs a (by simp)
    rw [List.getElem?_append_right (by rw [ha, Nat.succ_mul]; omega), ha, show (i + 1) * size + j - size = i * size + j by rw [Nat.succ_mul]; omega]
    exact flat_get size r i j x y (fun z hz => hs z (by simp [hz])) (by simpa using e) e2
theorem flat_length (size : Nat) : ∀ (l : List IV), (∀ x ∈ l, x.cells.length = size) → (flatCells l).length = l.length * size
  | [], _ => by simp [flatCells]
  | a :: r, hs => by
    have ih := flat_length size r (fun x hx => hs x (by simp [hx]))
    simp only [flatCells, List.flatMap_cons, List.length_append, List.length_cons] at ih ⊢
    rw [ih, hs a (by simp), Nat.succ_mul]
    omega
theorem run_buildSlice {t e n : Nat} {te : TI} {parts : Array (Nat × Operand)} {z : Value} {zx : IV} {l : List IV} {R : Ent} {σ : Gh} {a : Act} {w : World} (ho : o.op = .buildSlice t n parts) (ht : P.underlying t = some (.slice e)) (T2 : TOK1 P e te)
    (hz : te.zero = some z) (hx : ofV z = some zx) (hzl : zx.cells.length = te.size) (hp : evalElems G env te.size 0 parts.toList = some l) (hn : l.length = n) (hsm : n * te.size ≤ 16777216) (he : EnvOK σ env a) (hj : J G R σ m w) :
    ∃ cl : List Value, CellsOf σ.h l te.size cl ∧ (execOp a.eval o).run P w = .ok (.value (.slice (some ⟨w.heap.size, 0, none⟩) n n)) (w.alloc (.cells cl.toArray e)) := by
  obtain ⟨b1, b2, b3⟩ := evalElems_parts hp
  obtain ⟨a1, a2, a3⟩ := evalParts_rel he hj b1
  have rz := ofV_rel (h := σ.h) hx
  have hzc : zx.cells.length = z.cells.size ∧ (∀ u ∈ z.cells.toList, u.oneCell' = true) ∧ ∀ (i : Nat) (y : IV) (u : Value), zx.cells[i]? = some y → z.cells.toList[i]? = some u → RelI σ.h y u := by
    obtain ⟨ps, hps⟩ := ofV_cells hx
    obtain ⟨q1, q2⟩ := rel_pcells (.i _ _ rz : RelP σ (.i zx) z) hps
    have hpe : ps = zx.cells.map .i := by
      cases zx <;> simp only [pcells, isCell, cond_true, cond_false] at hps <;> first | (cases hps; rfl) | cases hps
    subst hpe
    simp only [List.length_map] at q1
    refine ⟨by simpa using q1, fun u hu => ?_, fun i y u e1 e2 => ?_⟩
    · obtain ⟨i, hi, rfl⟩ := List.mem_iff_getElem.1 hu
      have hi2 : i < zx.cells.length := by omega
      exact (q2 i (.i zx.cells[i]) _ (by simp [hi2]) (List.getElem?_eq_getElem hi)).2
    · have := (q2 i (.i y) u (by simp [e1]) e2).1
      cases this; assumption
  obtain ⟨c1, c2, c3⟩ := hzc
  have hs0 : n * te.size = 0 ∨ 0 < te.size := by
    rcases Nat.eq_zero_or_pos te.size with h | h
    · left; rw [h]; simp
    · right; exact h
  let zs : List Value := (List.range (n * te.size)).map fun i => z.cells.toList.getD (i % te.size) undef
  let zi : List IV := (List.range (n * te.size)).map fun i => zx.cells.getD (i % te.size) .nilP
  have hmod : ∀ i, i < n * te.size → i % te.size < te.size := fun i hi => by
    rcases hs0 with h | h
    · omega
    · exact Nat.mod_lt _ h
  have rzs : RelI σ.h (.agg zi) (.agg zs.toArray) := by
    refine .agg zi zs (by simp [zi, zs]) ?_ ?_
    · intro v hv
      simp only [zs, List.mem_map, List.mem_range] at hv
      obtain ⟨i, hi, rfl⟩ := hv
      have := hmod i hi
      rw [List.getD_eq_getElem?_getD, List.getElem?_eq_getElem (by rw [Array.length_toList]; omega)]
      exact c2 _ (List.getElem_mem _)
    · intro i x v e1 e2
      have hi : i < n * te.size := by
        have := (List.getElem?_eq_some_iff.1 e1).1
        simpa [zi] using this
      have hm := hmod i hi
      simp only [zi, zs, List.getElem?_map, List.getElem?_range hi, Option.map_some, Option.some.injEq] at e1 e2
      rw [List.getD_eq_getElem?_getD, List.getElem?_eq_getElem (by omega)] at e1
      rw [List.getD_eq_getElem?_getD, List.getElem?_eq_getElem (by rw [Array.length_toList]; omega)] at e2
      exact c3 (i % te.size) x v (by rw [List.getElem?_eq_getElem (by omega)]; simpa using e1) (by rw [List.getElem?_eq_getElem (by rw [Array.length_toList]; omega)]; simpa using e2)
  have hfill := fill_all te.size l 0 zi b2 (by simp [zi, hn])
  simp only [Nat.zero_mul, List.take_zero, List.nil_append] at hfill
  obtain ⟨cells', hf, hrel⟩ := fill_rel _ (parts.toList.map fun (e : Nat × Operand) => (e.1, a.eval e.2)) zi (flatCells l) zs.toArray (by simpa using a1) a2 rzs hfill a3
  have hrun : (execOp a.eval o).run P w = .ok (.value (.slice (some ⟨w.heap.size, 0, none⟩) n n)) (w.alloc (.cells cells'.toList.toArray e)) := by
    have hpt : (parts.map fun (i, x) => (i, a.eval x)).toList = parts.toList.map fun (e : Nat × Operand) => (e.1, a.eval e.2) := by simp
    have hzz : (Array.range (n * te.size)).map (fun i => z.cells[i % z.cells.size]!) = zs.toArray := by
      apply Array.ext'
      simp only [Array.toList_map, Array.toList_range, zs]
      apply List.map_congr_left
      intro i hi
      have hi' := hmod i (by simpa using hi)
      rw [← c1, hzl]
      rw [List.getD_eq_getElem?_getD, getElem!_pos z.cells (i % te.size) (by omega), List.getElem?_eq_getElem (by rw [Array.length_toList]; omega)]
      rfl
    simp only [execOp, ho, Instr.buildSlice, Sem.run_bind, run_underlying ht, Result.andThen_ok, T2.run_size, Sem.run_ite]
    rw [if_neg (by simpa using hsm)]
    by_cases hz0 : n * te.size = 0
    · have hzn : zs = [] := by simp [zs, hz0]
      have he0 : (Array.range (n * te.size)).map (fun i => (#[] : Array Value)[i % (#[] : Array Value).size]!) = #[] := by simp [hz0]
      rw [hzn] at hf
      rw [if_pos hz0]
      simp only [Sem.run_pure, Result.andThen_ok, he0, hpt]
      rw [hf]
      simp [newRow, run_newObj_alloc]
    · rw [if_neg hz0]
      simp only [T2.run_zero hz, Sem.run_pure, Result.andThen_ok, hzz, hpt]
      rw [hf]
      simp [newRow, run_newObj_alloc]
  obtain ⟨cl⟩ := cells'
  obtain ⟨g1, g2, g3⟩ := hrel.agg_get
  have hco : CellsOf σ.h l te.size cl := ⟨by rw [← g1, flat_length te.size l b2], b2, g2, fun i x j y e1 e2 => by
    have hfl := flat_get te.size l i j x y b2 e1 e2
    have hlt : i * te.size + j < cl.length := by rw [← g1]; exact (List.getElem?_eq_some_iff.1 hfl).1
    exact ⟨_, List.getElem?_eq_getElem hlt, g3 _ _ _ hfl (List.getElem?_eq_getElem hlt)⟩⟩
  exact ⟨cl, hco, hrun⟩
theorem step_buildSlice {t e n : Nat} {te : TI} {parts : Array (Nat × Operand)} {z : Value} {zx : IV} {l : List IV} (ho : o.op = .buildSlice t n parts) (ht : P.underlying t = some (.slice e)) (T2 : TOK1 P e te)
    (hz : te.zero = some z) (hx : ofV z = some zx) (hzl : zx.cells.length = te.size) (hp : evalElems G env te.size 0 parts.toList = some l) (hn : l.length = n) (hsm : n * te.size ≤ 16777216) :
    Step P G o env m (.full l) env m := by
  intro R σ a w he hj _ next Q kk
  obtain ⟨cl, hco, hrun⟩ := run_buildSlice ho ht T2 hz hx hzl hp hn hsm he hj
  simp only [Oper.wp, hrun, Oper.upon_value]
  obtain ⟨σ', hM, hnew, hj'⟩ := hj.row cl e
  subst hn
  refine kk σ' _ _ (.full l _ (hco.rel hM.h w.heap.size 0 l.length (Nat.le_refl _) (fun k v hv => ?_)) trivial) ⟨he.d, fun t p e => by obtain ⟨v, q1, q2⟩ := he.v t p e; exact ⟨v, q1, q2.mono0 hM⟩⟩ hj'
  rw [Nat.zero_add, hnew]; exact hv
end
end Go.Kn
