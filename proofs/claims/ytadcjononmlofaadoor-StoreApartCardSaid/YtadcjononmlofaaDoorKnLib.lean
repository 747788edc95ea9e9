/- Kn, part 14: words for walks: loops by a state, numbers, ids. No program here. -/
import Derived.Test.YtadcjononmlofaaDoorKnDraw
set_option autoImplicit false
namespace Go.Kn
open Go

/-! ## Loops by a state -/
def LkE (env : Env) : Env → Prop
  | [] => True
  | (t, q) :: r => lk t env = some q ∧ LkE env r

def LkM (m : Mem) : Mem → Prop
  | [] => True
  | (t, q) :: r => lk t m = some q ∧ LkM m r

theorem LkE.sle {env : Env} : ∀ {env' : Env}, LkE env env' → ∀ x ∈ env', ∃ p, lk x.1 env = some p ∧ PLe p x.2
  | [], _, x, hx => by cases hx
  | (t, q) :: r, h, x, hx => by
    rcases List.mem_cons.1 hx with rfl | hx
    · exact ⟨q, h.1, .refl _⟩
    · exact LkE.sle h.2 x hx

theorem LkM.sle {m : Mem} : ∀ {m' : Mem}, LkM m m' → ∀ x ∈ m', lk x.1 m = some x.2
  | [], _, x, hx => by cases hx
  | (t, q) :: r, h, x, hx => by
    rcases List.mem_cons.1 hx with rfl | hx
    · exact h.1
    · exact LkM.sle h.2 x hx

section
variable {P : Program} {T : Ty} {G : Gl} {n : Nat}

/-- A loop whose frame and memory at each round's head are E s and M s for a state s with I s; each round lowers μ s. -/
theorem loopS (hT : TOK P T) {c : Code} {env : Env} {m : Mem} {Q : EQ} {S : Type} (E : S → Env) (M : S → Mem) (μ : S → Nat) (I : S → Prop) (s0 : S)
    (hE : LkE env (E s0)) (hM : LkM m (M s0)) (h0 : I s0)
    (round : ∀ s, I s → awpC P T G n c (fun e env' m' => match e with
      | .normal => ∃ s', (μ s' < μ s ∧ I s') ∧ LkE env' (E s') ∧ LkM m' (M s')
      | e => Q e env' m') (E s) (M s)) : LoopW P G n c env m Q := by
  refine loopW (fun k env m => ∃ s, k = μ s ∧ I s ∧ env = E s ∧ m = M s) (μ s0) ⟨hE.sle, hM.sle⟩ ⟨s0, rfl, h0, rfl, rfl⟩ ?_
  rintro k env m ⟨s, rfl, hI, rfl, rfl⟩
  refine CW.mono (awpC_ok hT c _ _ _ (round s hI)) ?_
  rintro e env' m' q
  cases e with
  | normal =>
    obtain ⟨s', ⟨h1, h2⟩, h3, h4⟩ := q
    exact ⟨μ s', E s', M s', h1, ⟨h3.sle, h4.sle⟩, s', rfl, h2, rfl, rfl⟩
  | _ => exact q
end


section
variable {P : Program} {T : Ty} {G : Gl} {n : Nat}

theorem CW.monoW {c : Code} {env : Env} {m : Mem} {Q Q' : EQ} (h : CW P G n c env m Q) (hq : ∀ e env m, Q e env m → ∃ env' m', SLe env m env' m' ∧ Q' e env' m') : CW P G n c env m Q' := by
  intro R σ a w he hj hn
  refine wp_mono (h R σ a w he hj hn) ?_
  rintro e a w ⟨σ, env, m, q, r1, r2, r3⟩
  obtain ⟨env', m', hl, hq'⟩ := hq _ _ _ q
  exact ⟨σ, env', m', hq', r1.le hl.e, r2.le hl.m, r3⟩

theorem SLe.refl' (env : Env) (m : Mem) (hE : ∀ x ∈ env, lk x.1 env = some x.2) (hM : ∀ x ∈ m, lk x.1 m = some x.2) : SLe env m env m :=
  ⟨fun x hx => ⟨x.2, hE x hx, .refl _⟩, hM⟩

/-- A loop that is left by 'exit id': there the frame and the memory are EX x and MX x for some x with X x; what stands behind goes on from there. -/
theorem loopX (hT : TOK P T) {c : Code} {env : Env} {m : Mem} {Q : EQ} (id : Nat) {S S' : Type} (E : S → Env) (M : S → Mem) (μ : S → Nat) (I : S → Prop) (EX : S' → Env) (MX : S' → Mem) (X : S' → Prop) (s0 : S)
    (hE : LkE env (E s0)) (hM : LkM m (M s0)) (h0 : I s0)
    (round : ∀ s, I s → awpC P T G n c (fun e env' m' => match e with
      | .normal => ∃ s', (μ s' < μ s ∧ I s') ∧ LkE env' (E s') ∧ LkM m' (M s')
      | .exit id' => bif Nat.beq id' id then ∃ x, X x ∧ LkE env' (EX x) ∧ LkM m' (MX x) else Q (.exit id') env' m'
      | e => Q e env' m') (E s) (M s))
    (rest : ∀ x, X x → Q (.exit id) (EX x) (MX x)) : LoopW P G n c env m Q := by
  let Q1 : EQ := fun e env' m' => match e with
      | .exit id' => bif Nat.beq id' id then ∃ x, X x ∧ LkE env' (EX x) ∧ LkM m' (MX x) else Q (.exit id') env' m'
      | e => Q e env' m'
  have h1 : LoopW P G n c env m Q1 := by
    refine loopW (fun k env m => ∃ s, k = μ s ∧ I s ∧ env = E s ∧ m = M s) (μ s0) ⟨hE.sle, hM.sle⟩ ⟨s0, rfl, h0, rfl, rfl⟩ ?_
    rintro k env m ⟨s, rfl, hI, rfl, rfl⟩
    refine CW.mono (awpC_ok hT c _ _ _ (round s hI)) ?_
    rintro e env' m' q
    cases e with
    | normal =>
      obtain ⟨s', ⟨h1, h2⟩, h3, h4⟩ := q
      exact ⟨μ s', E s', M s', h1, ⟨h3.sle, h4.sle⟩, s', rfl, h2, rfl, rfl⟩
    | _ => exact q
  intro R σ a w he hj hn
  refine wp_mono (h1 R σ a w he hj hn) ?_
  rintro e a w ⟨σ, env, m, q, r1, r2, r3⟩
  cases e with
  | exit id' =>
    simp only [Q1] at q
    cases hb : Nat.beq id' id with
    | true =>
      rw [hb] at q
      obtain ⟨x, h2, h3, h4⟩ := q
      have := Nat.eq_of_beq_eq_true hb
      subst this
      exact ⟨σ, EX x, MX x, rest x h2, r1.le h3.sle, r2.le h4.sle, r3⟩
    | false =>
      rw [hb] at q
      exact ⟨σ, env, m, q, r1, r2, r3⟩
  | _ => exact ⟨σ, env, m, q, r1, r2, r3⟩
end

/-- The bodies of the loops of a code, in the text's order, an outer one ahead of its inner ones. -/
def loopsOf : Code → List Code
  | .seq a b => loopsOf a ++ loopsOf b
  | .cond _ a b => loopsOf a ++ loopsOf b
  | .block _ c => loopsOf c
  | .scope c => loopsOf c
  | .loop c => c :: loopsOf c
  | _ => []

def nthLoop (fn : Func) (k : Nat) : Code :=
  match fn.body with
  | some c => match (loopsOf c)[k]? with
    | some c => c
    | none => .skip
  | none => .skip

/-! ## Numbers -/
theorem wrap_i64_eq (a : Int) : IntKind.i64.wrap a = if a % 18446744073709551616 ≥ 9223372036854775808 then a % 18446744073709551616 - 18446744073709551616 else a % 18446744073709551616 := by
  simp [IntKind.wrap, IntKind.signed, IntKind.bits]

theorem wrap_i64 {a : Int} (h0 : -9223372036854775808 ≤ a) (h1 : a < 9223372036854775808) : IntKind.i64.wrap a = a := by
  rw [wrap_i64_eq]
  split <;> omega

theorem wrap_nat {n : Nat} (h : n < 9223372036854775808) : IntKind.i64.wrap (n : Int) = (n : Int) := wrap_i64 (by omega) (by omega)

theorem int_succ {i : Nat} (h : i < 9223372036854775807) : IntKind.i64.wrap ((i : Int) + 1) = ((i + 1 : Nat) : Int) := by
  rw [show (i : Int) + 1 = ((i + 1 : Nat) : Int) by omega, wrap_nat (by omega)]

theorem wrap_u8_mod (a : Int) : IntKind.u8.wrap a = a % 256 := by simp [IntKind.wrap, IntKind.signed, IntKind.bits]
theorem wrap_u16_mod (a : Int) : IntKind.u16.wrap a = a % 65536 := by simp [IntKind.wrap, IntKind.signed, IntKind.bits]
theorem wrap_u32_mod (a : Int) : IntKind.u32.wrap a = a % 4294967296 := by simp [IntKind.wrap, IntKind.signed, IntKind.bits]
theorem wrap_u64_mod (a : Int) : IntKind.u64.wrap a = a % 18446744073709551616 := by simp [IntKind.wrap, IntKind.signed, IntKind.bits]

theorem wrap_u8 {a : Int} (h0 : 0 ≤ a) (h1 : a < 256) : IntKind.u8.wrap a = a := by rw [wrap_u8_mod]; omega
theorem wrap_u32 {a : Int} (h0 : 0 ≤ a) (h1 : a < 4294967296) : IntKind.u32.wrap a = a := by rw [wrap_u32_mod]; omega
theorem wrap_u64 {a : Int} (h0 : 0 ≤ a) (h1 : a < 18446744073709551616) : IntKind.u64.wrap a = a := by rw [wrap_u64_mod]; omega

/-! ## Ids -/
structure Id where
  bytes : List UInt8
  len : bytes.length = 32

theorem Id.ext {a b : Id} (h : a.bytes = b.bytes) : a = b := by
  cases a; cases b; cases h; rfl

instance : DecidableEq Id := fun a b => if h : a.bytes = b.bytes then isTrue (Id.ext h) else isFalse fun e => h (by rw [e])

def Id.b (x : Id) (i : Nat) : UInt8 := x.bytes.getD i 0

/-- n bytes as cells. -/
def u8c (n : Nat) (f : Nat → UInt8) : List IV := (List.range n).map fun i => .int .u8 ((f i).toNat : Int)
def idC (x : Id) : List IV := u8c 32 x.b
def encId (x : Id) : IV := .agg (idC x)

theorem u8c_get (f : Nat → UInt8) {n i : Nat} (h : i < n) : ((u8c n f).map PV.i)[i]? = some (.i (.int .u8 ((f i).toNat : Int))) := by
  simp [u8c, h]

theorem u8c_get' (f : Nat → UInt8) {n i : Nat} (h : i < n) : (u8c n f)[i]? = some (.int .u8 ((f i).toNat : Int)) := by
  simp [u8c, h]

theorem Id.bytes_eq (x : Id) : x.bytes = (List.range 32).map x.b := by
  apply List.ext_getElem?
  intro i
  by_cases h : i < 32
  · simp [h, Id.b, x.len]
  · simp [h, x.len]

theorem Id.eq_iff {a b : Id} : a = b ↔ ∀ i, i < 32 → a.b i = b.b i := by
  refine ⟨fun h i _ => by rw [h], fun h => Id.ext ?_⟩
  rw [a.bytes_eq, b.bytes_eq]
  exact List.map_congr_left fun i hi => h i (by simpa using hi)

/-- A list of UInt8 as a string's bytes: getD. -/
theorem toNat_inj {a b : UInt8} (h : ((a.toNat : Nat) : Int) = (b.toNat : Int)) : a = b := by
  apply UInt8.toNat_inj.1
  omega

theorem ne_toNat (a b : UInt8) : (((a.toNat : Nat) : Int) != (b.toNat : Int)) = decide (a ≠ b) := by
  by_cases h : a = b
  · subst h; simp
  · simp only [ne_eq, h, not_false_eq_true, decide_true, bne_iff_ne]
    exact fun e => h (toNat_inj e)

theorem eq_toNat (a b : UInt8) : (((a.toNat : Nat) : Int) == (b.toNat : Int)) = decide (a = b) := by
  by_cases h : a = b
  · subst h; simp
  · simp only [h, decide_false, beq_eq_false_iff_ne, ne_eq]
    exact fun e => h (toNat_inj e)

theorem lt_toNat (a b : UInt8) : decide (((a.toNat : Nat) : Int) < (b.toNat : Int)) = decide (a < b) := by
  congr 1
  rw [UInt8.lt_iff_toNat_lt]
  exact propext (by omega)

end Go.Kn

namespace Go.Kn
open Go

/-- One value may be taken for another, where d is a new name for nothing. -/
inductive TLe (d : Nat) : PV → PV → Prop where
  | le (p q : PV) (h : PLe p q) : TLe d p q
  | tok (s : Nat) : TLe d (.full []) (.tok d s [])
  | vec (s : Nat) : TLe d (.full []) (.vec d s 0 0)

theorem TLe.refl {d : Nat} (p : PV) : TLe d p p := .le _ _ (.refl _)

theorem TLe.rel {d : Nat} {σ : Gh} {p q : PV} {v : Value} (hd : σ.loc d = some (0, 0, 0)) (h : TLe d p q) (r : RelP σ p v) : RelP σ q v := by
  cases h with
  | le _ _ h => exact h.rel r
  | tok s =>
    cases r with
    | full _ a r => exact .tok d s [] a 0 _ hd r (by simp) (.inl rfl)
  | vec s =>
    cases r with
    | full _ a r pl =>
      cases r with
      | nilS => exact .vec0 d s 0 none _ hd (by simp)
      | oddS => exact pl.elim
      | slice b o cap sz l f => exact .vec0 d s 0 (some (b, o)) _ hd (by simp)

def TLes (d : Nat) : List PV → List PV → Prop
  | [], l => l = []
  | p :: r, l => match l with
    | q :: s => TLe d p q ∧ TLes d r s
    | [] => False

theorem TLes.get {d : Nat} : ∀ {l l' : List PV}, TLes d l l' → l.length = l'.length ∧ ∀ (i : Nat) (q : PV), l'[i]? = some q → ∃ p, l[i]? = some p ∧ TLe d p q
  | [], l', h => by simp only [TLes] at h; subst h; exact ⟨rfl, fun i q e => by simp at e⟩
  | p :: r, l', h => by
    simp only [TLes] at h
    split at h
    · rename_i q s
      obtain ⟨g1, g2⟩ := TLes.get h.2
      refine ⟨by simp [g1], fun i q' e => ?_⟩
      cases i with
      | zero => simp at e; subst e; exact ⟨p, rfl, h.1⟩
      | succ i => exact g2 i q' (by simpa using e)
    · exact h.elim

theorem TLes.refl {d : Nat} : ∀ l : List PV, TLes d l l
  | [] => rfl
  | p :: r => ⟨.refl p, TLes.refl r⟩

theorem TLes.append {d : Nat} {a a' b b' : List PV} (h1 : TLes d a a') (h2 : TLes d b b') : TLes d (a ++ b) (a' ++ b') := by
  induction a generalizing a' with
  | nil => simp only [TLes] at h1; subst h1; exact h2
  | cons p r ih =>
    simp only [TLes] at h1
    split at h1
    · exact ⟨h1.1, ih h1.2⟩
    · exact h1.elim

/-- One object may be taken for another, where d is a new name for nothing. -/
inductive OLe (d : Nat) : MO → MO → Prop where
  | refl (o : MO) : OLe d o o
  | var (l l' : List PV) (h : TLes d l l') : OLe d (.var l) (.var l')

theorem OLe.of_eq {d : Nat} {o o' : MO} (h : o = o') : OLe d o o' := by subst h; exact .refl _

theorem OLe.isVar {d : Nat} {o o' : MO} (h : OLe d o o') : Kn.isVar o = Kn.isVar o' := by cases h <;> rfl

theorem OLe.ok {d : Nat} {o o' : MO} {σ : Gh} {w : World} {b lo hi : Nat} (hd : σ.loc d = some (0, 0, 0)) (h : OLe d o o') (hm : MOK σ w b lo hi o) : MOK σ w b lo hi o' := by
  cases h with
  | refl => exact hm
  | var l l' h =>
    obtain ⟨h1, h2⟩ := h.get
    refine ⟨by rw [← h1]; exact hm.1, fun i q e => ?_⟩
    obtain ⟨p, e1, hle⟩ := h2 i q e
    obtain ⟨v, r1, r2, r3⟩ := hm.2 i p e1
    exact ⟨v, r1, hle.rel hd r2, r3⟩

def LkT (d : Nat) (env : Env) : Env → Prop
  | [] => True
  | (t, q) :: r => (∃ p, lk t env = some p ∧ TLe d p q) ∧ LkT d env r

/-- An object d of nothing. -/
inductive NewO : MO → Prop where
  | tip : NewO .tip
  | vec (s : Nat) (hs : 0 < s) : NewO (.vec s [] none)

theorem NewO.vec' {s : Nat} (h : Nat.blt 0 s = true) : NewO (.vec s [] none) := .vec s (by simpa [Nat.blt_eq] using h)

def LkTM (d : Nat) (m : Mem) : Mem → Prop
  | [] => True
  | (t, q) :: r => ((t = d ∧ NewO q) ∨ (t ≠ d ∧ ∃ o, lk t m = some o ∧ OLe d o q)) ∧ LkTM d m r

theorem LkT.get {d : Nat} {env : Env} : ∀ {env' : Env}, LkT d env env' → ∀ t q, lk t env' = some q → ∃ p, lk t env = some p ∧ TLe d p q
  | [], _, t, q, e => by cases e
  | (t', q') :: r, h, t, q, e => by
    simp only [lk] at e
    cases hb : Nat.beq t' t with
    | true =>
      rw [hb] at e
      cases e
      have := Nat.eq_of_beq_eq_true hb
      subst this
      exact h.1
    | false =>
      rw [hb] at e
      exact LkT.get h.2 t q e

theorem LkTM.get {d : Nat} {m : Mem} : ∀ {m' : Mem}, LkTM d m m' → ∀ t q, lk t m' = some q → (t = d ∧ NewO q) ∨ (t ≠ d ∧ ∃ o, lk t m = some o ∧ OLe d o q)
  | [], _, t, q, e => by cases e
  | (t', q') :: r, h, t, q, e => by
    simp only [lk] at e
    cases hb : Nat.beq t' t with
    | true =>
      rw [hb] at e
      cases e
      have := Nat.eq_of_beq_eq_true hb
      subst this
      exact h.1
    | false =>
      rw [hb] at e
      exact LkTM.get h.2 t q e

section
variable {P : Program} {G : Gl} {n : Nat}

theorem J.ole {R : Ent} {σ : Gh} {d : Nat} {m m' : Mem} {w : World} (hd : σ.loc d = some (0, 0, 0)) (h : J G R σ ((d, .tip) :: rm d m) w)
    (hl : ∀ t q, lk t m' = some q → (t = d ∧ NewO q) ∨ (t ≠ d ∧ ∃ o, lk t m = some o ∧ OLe d o q)) : J G R σ m' w := by
  have hx : ∀ k o, lk k m' = some o → ∃ o1, lk k ((d, .tip) :: rm d m) = some o1 ∧ isVar o1 = isVar o ∧ ∀ {b lo hi : Nat}, σ.loc k = some (b, lo, hi) → MOK σ w b lo hi o1 → MOK σ w b lo hi o := fun k o e => by
    rcases hl k o e with ⟨rfl, hn⟩ | ⟨hk, o1, e1, hle⟩
    · refine ⟨.tip, lk_cons_self _ _ _, ?_, fun {b lo hi} hb _ => ?_⟩
      · cases hn <;> rfl
      · rw [hd] at hb; cases hb
        cases hn with
        | tip => trivial
        | vec s hs =>
          refine ⟨hs, fun h => by omega, fun x h1 h2 => by omega, 0, by simp, by simp, (fun c h => nomatch h), fun i x h => nomatch h⟩
    · exact ⟨o1, by rw [lk_cons_other hk, lk_rm_other hk]; exact e1, hle.isVar, fun _ hm => hle.ok hd hm⟩
  exact {
    inv := ⟨h.inv.hh, fun k o e => by
        obtain ⟨o1, e1, _, ht⟩ := hx k o e
        obtain ⟨b, lo, hi, q1, q2, q3, q4⟩ := h.inv.obj k o1 e1
        exact ⟨b, lo, hi, q1, q2, q3, ht q1 q4⟩, fun k k' o o' b lo hi b' lo' hi' e e' => by
        obtain ⟨o1, e1, _⟩ := hx k o e
        obtain ⟨o2, e2, _⟩ := hx k' o' e'
        exact h.inv.dis k k' o1 o2 b lo hi b' lo' hi' e1 e2⟩
    glob := h.glob
    hm := h.hm
    os := h.os
    tape := h.tape
    out := h.out
    sz := h.sz
    old := h.old
    hn := h.hn
    own := fun k o b lo hi e => by
      obtain ⟨o1, e1, _⟩ := hx k o e
      exact h.own k o1 b lo hi e1
    kp := h.kp
    kn := fun k o L e1 e2 e3 => by
      obtain ⟨o1, e4, hv, _⟩ := hx k o e2
      rw [← hv]; exact h.kn k o1 L e1 e4 e3 }

theorem CW.tok0 (d : Nat) {c : Code} {env env' : Env} {m m' : Mem} {Q : EQ} (hd : Nat.blt d 1000 = true) (hg : (occE d env || occM d m) = false) (he : LkT d env env') (hm : LkTM d m m') (h : CW P G n c env' m' Q) : CW P G n c env m Q := by
  intro R σ a w he0 hj hn
  have hd' : d < 1000 := by simpa [Nat.blt_eq] using hd
  simp only [Bool.or_eq_false_iff] at hg
  obtain ⟨σ', hB, hloc, he1, hj1⟩ := hj.but_env he0 hd' (gives_plain hg.1 hg.2)
  refine h R σ' a w ⟨he1.d, fun t q e => ?_⟩ (hj1.ole hloc hm.get) hn
  obtain ⟨p, hp, hle⟩ := he.get t q e
  obtain ⟨v, hv, r⟩ := he1.v t p hp
  exact ⟨v, hv, hle.rel hloc r⟩

theorem LoopW.tok0 (d : Nat) {c : Code} {env env' : Env} {m m' : Mem} {Q : EQ} (hd : Nat.blt d 1000 = true) (hg : (occE d env || occM d m) = false) (he : LkT d env env') (hm : LkTM d m m') (h : LoopW P G n c env' m' Q) : LoopW P G n c env m Q :=
  CW.tok0 d hd hg he hm h
/-- A cut: behind c the frame and the memory are E s and M s for some s with I s. -/
theorem CW.cut {T : Ty} (hT : TOK P T) {c d : Code} {env : Env} {m : Mem} {Q : EQ} {S : Type} (E : S → Env) (M : S → Mem) (I : S → Prop)
    (h1 : awpC P T G n c (fun e env m => match e with | .normal => ∃ s, I s ∧ LkE env (E s) ∧ LkM m (M s) | e => Q e env m) env m)
    (h2 : ∀ s, I s → CW P G n d (E s) (M s) Q) : CW P G n (.seq c d) env m Q := by
  intro R σ a w he hj hn
  refine wp_seq (wp_mono (awpC_ok hT c _ _ _ h1 R σ a w he hj hn) ?_)
  rintro e a' w' ⟨σ', env', m', q, he', hj', hn'⟩
  cases e with
  | normal =>
    obtain ⟨s, hs, h3, h4⟩ := q
    exact h2 s hs R σ' a' w' (he'.le h3.sle) (hj'.le h4.sle) hn'
  | _ => exact ⟨σ', env', m', q, he', hj', hn'⟩
end
theorem renO_ivs (f : Nat → Nat) (l : List IV) : renO f (.var (l.map .i)) = .var (l.map .i) := by
  have : ∀ l : List IV, rens f (l.map .i) = l.map .i := by
    intro l
    induction l with
    | nil => rfl
    | cons x r ih => simp only [List.map_cons, rens, ih]; rfl
  simp only [renO, this]

theorem MLe.ivs {f : Nat → Nat} (l : List IV) : MLe (.var (l.map .i)) (renO f (.var (l.map .i))) := by
  rw [renO_ivs]; exact MLe.refl _
end Go.Kn
