/- Kn, part 13: a region that draws its order comes to what the text's order comes to, where its operations do not disturb each other. No program here. -/
import Derived.Test.YtadcjononmlofaaDoorKnCode
set_option autoImplicit false
namespace Go.Kn
open Go

/-! ## States with more in them -/
section
variable {P : Program} {T : Ty} {G : Gl} {n : Nat}

theorem EnvOK.sub {σ : Gh} {oe env : Env} {a : Act} (h : Sub oe env) (he : EnvOK σ env a) : EnvOK σ oe a := ⟨he.d, fun t p e => he.v t p (h t p e)⟩

theorem J.sub {R : Ent} {σ : Gh} {om m : Mem} {w : World} (h : Sub om m) (hj : J G R σ m w) : J G R σ om w where
  inv := ⟨hj.inv.hh, fun k o e => hj.inv.obj k o (h _ _ e), fun k k' o o' b lo hi b' lo' hi' e e' => hj.inv.dis k k' o o' b lo hi b' lo' hi' (h _ _ e) (h _ _ e')⟩
  glob := hj.glob
  hm := hj.hm
  os := hj.os
  tape := hj.tape
  out := hj.out
  sz := hj.sz
  old := hj.old
  hn := hj.hn
  own := fun k o b lo hi e => hj.own k o b lo hi (h _ _ e)
  kp := hj.kp
  kn := fun k o L e1 e2 e3 => hj.kn k o L e1 (h _ _ e2) e3

/-! ## One operation of a region, by its number -/
def StepI (P : Program) (G : Gl) (n : Nat) (ops : Array Oper) (i : Nat) (env : Env) (m : Mem) (env' : Env) (m' : Mem) : Prop :=
  ∀ (R : Ent) (σ : Gh) (a : Act) (w : World), EnvOK σ env a → J G R σ m w → a.tmps.size = n → ∀ (rest : List Nat) (Q : Exit → Act → World → Prop),
    (∀ (σ' : Gh) (a' : Act) (w' : World), EnvOK σ' env' a' → J G R σ' m' w' → a'.tmps.size = n → wpOps P ops Q rest a' w') → wpOps P ops Q (i :: rest) a w

structure Rec where
  dst : Option Nat
  oe : Env
  om : Mem
  r : PV
  w : Mem
  κ : List Nat

def Rec.env (c : Rec) (env : Env) : Env := put (killE c.κ env) c.dst c.r
def Rec.mem (c : Rec) (m : Mem) : Mem := setM c.w (killM c.κ m)

def RecOK (P : Program) (G : Gl) (n : Nat) (ops : Array Oper) (i : Nat) (c : Rec) : Prop :=
  ∀ (env : Env) (m : Mem), Sub c.oe env → Sub c.om m → StepI P G n ops i env m (c.env env) (c.mem m)


theorem stepI_of {ops : Array Oper} {i : Nat} {o : Oper} {env env1 : Env} {m m1 : Mem} {r : PV} (ho : ops[i]? = some o) (hw : ∀ (σ : Gh) (a : Act), EnvOK σ env a → Region.wanted o (yielded ops a.tmps) = true)
    (hs : Step P G o env m r env1 m1) (hd : dstOK n o.dst = true) : StepI P G n ops i env m (put env1 o.dst r) m1 := by
  intro R σ a w he hj hn rest Q k
  unfold wpOps
  simp only [ho, hw σ a he, if_true]
  left
  exact step_wpList hs hd he hj hn fun σ' a' w' he' hj' hn' => k σ' a' w' he' hj' hn'

theorem stepI_skip {ops : Array Oper} {i : Nat} {o : Oper} {env : Env} {m : Mem} (ho : ops[i]? = some o) (hw : ∀ (σ : Gh) (a : Act), EnvOK σ env a → Region.wanted o (yielded ops a.tmps) = false)
    (hd : dstOK n o.dst = true) : StepI P G n ops i env m (put env o.dst (.tup [])) m := by
  intro R σ a w he hj hn rest Q k
  unfold wpOps
  simp only [ho, hw σ a he, Bool.false_eq_true, if_false]
  refine k σ _ w (he.put (rel_undef σ) fun d e => ?_) hj (by rw [Act.put_size]; exact hn)
  rw [hn]
  rw [e] at hd
  simp only [dstOK, Bool.and_eq_true, Nat.blt_eq] at hd
  exact hd.1

/-! ## Chains of records -/
structure EqS (env : Env) (m : Mem) (env' : Env) (m' : Mem) : Prop where
  e : ∀ t, lk t env = lk t env'
  m : ∀ k, lk k m = lk k m'

def Closed (K : Env → Mem → Prop) : Prop := ∀ env m env' m', EqS env m env' m' → K env m → K env' m'

def Ch : List (Nat × Rec) → Env → Mem → (Env → Mem → Prop) → Prop
  | [], env, m, K => K env m
  | (_, c) :: l, env, m, K => Sub c.oe env ∧ Sub c.om m ∧ Ch l (c.env env) (c.mem m) K

theorem lk_env (c : Rec) (t : Nat) (env : Env) : lk t (c.env env) = if c.dst = some t then some c.r else (lk t env).map (kill c.κ) := by
  simp only [Rec.env, lk_put, lk_killE]

theorem lk_mem' (c : Rec) (k : Nat) (m : Mem) : lk k (c.mem m) = match lk k c.w with
    | some o => some o
    | none => (lk k m).map (killO c.κ) := by
  unfold Rec.mem
  rw [lk_setM, lk_killM]
  rfl

theorem EqS.step {env env' : Env} {m m' : Mem} (h : EqS env m env' m') (c : Rec) : EqS (c.env env) (c.mem m) (c.env env') (c.mem m') :=
  ⟨fun t => by rw [lk_env, lk_env, h.e], fun k => by rw [lk_mem', lk_mem', h.m]⟩

theorem Ch.eq {K : Env → Mem → Prop} (hK : Closed K) : ∀ {l : List (Nat × Rec)} {env env' : Env} {m m' : Mem}, EqS env m env' m' → Ch l env m K → Ch l env' m' K
  | [], env, env', m, m', h, hc => hK _ _ _ _ h hc
  | (i, c) :: l, env, env', m, m', h, hc => by
    obtain ⟨h1, h2, h3⟩ := hc
    exact ⟨fun t p e => by rw [← h.e]; exact h1 t p e, fun k o e => by rw [← h.m]; exact h2 k o e, Ch.eq hK (h.step c) h3⟩

/-! ### independence, as a computed check -/
def notDead : PV → Bool
  | .dead => false
  | _ => true

def dstIn (d : Option Nat) (env : Env) : Bool :=
  match d with
  | none => false
  | some d => (lk d env).isSome

def occO (κ : List Nat) : MO → Bool
  | .var cells => cells.any (occL κ)
  | .tip => false
  | .vec _ _ _ => false

def liveO : MO → Bool
  | .var cells => cells.all notDead
  | .tip => true
  | .vec _ _ _ => true

/-- 'a' disturbs nothing: it writes no object and gives up no key. -/
def Rec.quiet (a : Rec) : Bool := a.w.isEmpty && a.κ.isEmpty

/-- effect 'e' and quiet record 'q' don't disturb each other. -/
def indep1 (e q : Rec) : Bool :=
  (e.w.all fun x => (lk x.1 q.om).isNone) &&
  (e.κ.isEmpty || ((q.oe.all fun x => !occL e.κ x.2) && (q.om.all fun x => !occO e.κ x.2) && !occL e.κ q.r))

def indep (a b : Rec) : Bool :=
  (match a.dst, b.dst with
  | some x, some y => !Nat.beq x y
  | _, _ => true) && !dstIn a.dst b.oe && !dstIn b.dst a.oe &&
  (a.oe.all fun x => notDead x.2) && (b.oe.all fun x => notDead x.2) && (a.om.all fun x => liveO x.2) && (b.om.all fun x => liveO x.2) &&
  ((b.quiet && indep1 a b) || (a.quiet && indep1 b a))

theorem all_lk {α : Type} {f : α → Bool} {l : List (Nat × α)} (h : (l.all fun x => f x.2) = true) {t : Nat} {p : α} (e : lk t l = some p) : f p = true :=
  List.all_eq_true.1 h _ (lk_mem e)

theorem kill_id {κ : List Nat} {p : PV} (h : occL κ p = false) : kill κ p = p := by simp [kill, h]
theorem killO_id {κ : List Nat} {o : MO} (h : occO κ o = false) : killO κ o = o := by
  cases o with
  | tip => rfl
  | vec => rfl
  | var cells =>
    simp only [killO]
    congr 1
    have : ∀ (l : List PV), l.any (occL κ) = false → l.map (kill κ) = l := by
      intro l
      induction l with
      | nil => intro _; rfl
      | cons p r ih =>
        intro e
        simp only [List.any_cons, Bool.or_eq_false_iff] at e
        simp [kill_id e.1, ih e.2]
    exact this cells h

theorem kill_live {κ : List Nat} {p q : PV} (h : kill κ p = q) (hq : notDead q = true) : p = q := by
  unfold kill at h
  cases ho : occL κ p with
  | true => rw [ho] at h; simp only [cond_true] at h; subst h; simp [notDead] at hq
  | false => rw [ho] at h; exact h

theorem killO_live {κ : List Nat} {p q : MO} (h : killO κ p = q) (hq : liveO q = true) : p = q := by
  cases p with
  | tip => exact h
  | vec => exact h
  | var cells =>
    subst h
    simp only [killO, liveO] at hq ⊢
    congr 1
    induction cells with
    | nil => rfl
    | cons p r ih =>
      simp only [List.map_cons, List.all_cons, Bool.and_eq_true] at hq ⊢
      rw [← ih hq.2, ← kill_live rfl hq.1]

theorem Ch.swap {K : Env → Mem → Prop} (hK : Closed K) {i j : Nat} {a b : Rec} {l : List (Nat × Rec)} {env : Env} {m : Mem} (hi : indep a b = true) (h : Ch ((i, a) :: (j, b) :: l) env m K) :
    Ch ((j, b) :: (i, a) :: l) env m K := by
  obtain ⟨h1, h2, h3, h4, h5⟩ := h
  simp only [indep, Bool.and_eq_true, Bool.or_eq_true, Bool.not_eq_true'] at hi
  obtain ⟨⟨⟨⟨⟨⟨⟨c1, c2⟩, c3⟩, c4⟩, c5⟩, c6⟩, c7⟩, c8⟩ := hi
  have d1 : ∀ t, a.dst = some t → b.dst ≠ some t := fun t e e' => by rw [e, e'] at c1; simp at c1
  have d2 : ∀ t p, lk t b.oe = some p → a.dst ≠ some t := fun t p e e' => by rw [e'] at c2; simp [dstIn, e] at c2
  have d3 : ∀ t p, lk t a.oe = some p → b.dst ≠ some t := fun t p e e' => by rw [e'] at c3; simp [dstIn, e] at c3
  have key : ∀ (q e : Rec), q.quiet = true → indep1 e q = true → q.w = [] ∧ q.κ = [] ∧ (∀ k o, lk k e.w = some o → lk k q.om = none) ∧
      ((∀ t p, lk t q.oe = some p → occL e.κ p = false) ∧ (∀ t p, lk t q.om = some p → occO e.κ p = false) ∧ occL e.κ q.r = false) := by
    intro q e hq he
    simp only [Rec.quiet, Bool.and_eq_true, List.isEmpty_iff] at hq
    simp only [indep1, Bool.and_eq_true, Bool.or_eq_true, List.isEmpty_iff] at he
    refine ⟨hq.1, hq.2, fun k o ew => ?_, ?_⟩
    · simpa using List.all_eq_true.1 he.1 _ (lk_mem ew)
    · rcases he.2 with h0 | h0
      · rw [h0]
        refine ⟨fun _ _ _ => rfl, fun _ p _ => ?_, rfl⟩
        cases p with
        | var cells => simp [occO, occL]
        | _ => rfl
      · exact ⟨fun t p e => by simpa using all_lk (f := fun p => !occL _ p) h0.1.1 e, fun t p e => by simpa using all_lk (f := fun p => !occO _ p) h0.1.2 e, by simpa using h0.2⟩
  rcases c8 with ⟨bq, bi⟩ | ⟨aq, ai⟩
  · obtain ⟨bw, bk, b1, b2⟩ := key b a bq bi
    have hbe : ∀ env, b.env env = put env b.dst b.r := fun env => by simp [Rec.env, bk, killE]
    have hbm : ∀ m, b.mem m = m := fun m => by simp [Rec.mem, bk, bw, killM, setM]
    refine ⟨fun t p e => ?_, fun k o e => ?_, fun t p e => ?_, fun k o e => ?_, Ch.eq hK ⟨fun t => ?_, fun k => ?_⟩ h5⟩
    · have := h3 t p e
      rw [lk_env, if_neg (d2 t p e)] at this
      cases ht : lk t env with
      | none => rw [ht] at this; cases this
      | some q =>
        rw [ht] at this
        simp only [Option.map_some, Option.some.injEq] at this
        rw [kill_live this (all_lk c5 e)]
    · have := h4 k o e
      rw [lk_mem'] at this
      have hcore : (lk k m).map (killO a.κ) = some o := by
        cases ha : lk k a.w with
        | none => rw [ha] at this; exact this
        | some x => rw [b1 k x ha] at e; cases e
      cases ht : lk k m with
      | none => rw [ht] at hcore; cases hcore
      | some q =>
        rw [ht] at hcore
        simp only [Option.map_some, Option.some.injEq] at hcore
        rw [killO_live hcore (all_lk c7 e)]
    · rw [hbe, lk_put, if_neg (d3 t p e)]; exact h1 t p e
    · rw [hbm]; exact h2 k o e
    · simp only [hbe, lk_put, lk_env]
      by_cases hb : b.dst = some t
      · have ha : a.dst ≠ some t := fun e => d1 t e hb
        simp only [hb, if_true, if_neg ha, Option.map_some]
        rw [kill_id b2.2.2]
      · simp only [if_neg hb]
    · rw [hbm, hbm]
  · obtain ⟨aw, ak, a1, a2⟩ := key a b aq ai
    have hae : ∀ env, a.env env = put env a.dst a.r := fun env => by simp [Rec.env, ak, killE]
    have ham : ∀ m, a.mem m = m := fun m => by simp [Rec.mem, ak, aw, killM, setM]
    rw [hae] at h3
    rw [ham] at h4
    refine ⟨fun t p e => ?_, h4, fun t p e => ?_, fun k o e => ?_, Ch.eq hK ⟨fun t => ?_, fun k => ?_⟩ h5⟩
    · have := h3 t p e
      rw [lk_put, if_neg (d2 t p e)] at this
      exact this
    · rw [lk_env, if_neg (d3 t p e), h1 t p e]
      simp only [Option.map_some, Option.some.injEq]
      exact kill_id (a2.1 t p e)
    · rw [lk_mem']
      have hcore : (lk k m).map (killO b.κ) = some o := by
        rw [h2 k o e]
        simp only [Option.map_some, Option.some.injEq]
        exact killO_id (a2.2.1 k o e)
      cases hb : lk k b.w with
      | none => exact hcore
      | some x => rw [a1 k x hb] at e; cases e
    · simp only [hae, lk_put, lk_env]
      by_cases ha : a.dst = some t
      · have hb : b.dst ≠ some t := d1 t ha
        simp only [ha, if_true, if_neg hb, Option.map_some]
        rw [kill_id a2.2.2]
      · simp only [if_neg ha]
    · rw [ham, ham]

/-- A record to which all ahead of it are indifferent may come first. -/
theorem Ch.front {K : Env → Mem → Prop} (hK : Closed K) {x : Nat × Rec} {l2 : List (Nat × Rec)} : ∀ {l1 : List (Nat × Rec)} {env : Env} {m : Mem}, (∀ y ∈ l1, indep y.2 x.2 = true) → Ch (l1 ++ x :: l2) env m K → Ch (x :: (l1 ++ l2)) env m K
  | [], env, m, _, h => h
  | y :: l1, env, m, hi, h => by
    obtain ⟨i, a⟩ := y
    obtain ⟨j, b⟩ := x
    obtain ⟨h1, h2, h3⟩ := h
    have := Ch.front hK (x := (j, b)) (fun z hz => hi z (by simp [hz])) h3
    exact Ch.swap (l := l1 ++ l2) hK (hi (i, a) (by simp)) ⟨h1, h2, this⟩


/-! ## Orders -/
def edgesM (md : Region.Mode) (ops : Array Oper) (i : Nat) : List Nat :=
  match ops[i]? with
  | some o => (o.after.toList.filter (Region.binds md)).map (·.on)
  | none => []

def edges (ops : Array Oper) (i : Nat) : List Nat := edgesM .any ops i

def Lin (ops : Array Oper) : List Nat → List Nat → Prop
  | _, [] => True
  | done, i :: l => (∀ e ∈ edges ops i, e ∈ done) ∧ Lin ops (i :: done) l

/-- C x y: y must run ahead of x. It tells only what the edges force. -/
def ClOK (ops : Array Oper) (C : Nat → Nat → Prop) : Prop := ∀ x y, C x y → y ∈ edges ops x ∨ ∃ z ∈ edges ops x, C z y

theorem run_lin {ops : Array Oper} {C : Nat → Nat → Prop} (hcl : ClOK ops C) {K : Env → Mem → Prop} (hK : Closed K) {R : Ent} {Q : Exit → Act → World → Prop}
    (hKQ : ∀ (σ : Gh) (env : Env) (m : Mem) (a : Act) (w : World), K env m → EnvOK σ env a → J G R σ m w → a.tmps.size = n → Q .normal a w) :
    ∀ (L : List Nat) (l : List (Nat × Rec)) (done : List Nat) (env : Env) (m : Mem), L.Perm (l.map (·.1)) → (l.map (·.1)).Nodup → (∀ x ∈ l, x.1 ∉ done) → (∀ z ∈ done, ∀ y, C z y → y ∈ done) →
      Lin ops done L → (∀ x ∈ l, RecOK P G n ops x.1 x.2) → l.Pairwise (fun y x => C x.1 y.1 ∨ indep y.2 x.2 = true) → Ch l env m K →
      ∀ (σ : Gh) (a : Act) (w : World), EnvOK σ env a → J G R σ m w → a.tmps.size = n → wpOps P ops Q L a w
  | [], l, done, env, m, hp, _, _, _, _, _, _, hc, σ, a, w, he, hj, hn => by
    have hl : l = [] := by
      have := hp.length_eq
      simp at this
      exact List.eq_nil_of_length_eq_zero this.symm
    subst hl
    exact hKQ σ env m a w hc he hj hn
  | i :: L, l, done, env, m, hp, hnd, hdj, hdc, hlin, hrec, hpair, hc, σ, a, w, he, hj, hn => by
    have hi : i ∈ l.map (·.1) := hp.mem_iff.1 (by simp)
    obtain ⟨x, hx, hxi⟩ := List.mem_map.1 hi
    obtain ⟨l1, l2, rfl⟩ := List.append_of_mem hx
    obtain ⟨j, c⟩ := x
    simp only at hxi
    subst hxi
    have hind : ∀ y ∈ l1, indep y.2 c = true := by
      intro y hy
      have hpy := (List.pairwise_append.1 hpair).2.2 y hy (j, c) (by simp)
      rcases hpy with h | h
      · exfalso
        have : y.1 ∈ done := by
          rcases hcl j y.1 h with h1 | ⟨z, hz, h1⟩
          · exact hlin.1 _ h1
          · exact hdc z (hlin.1 z hz) _ h1
        exact hdj y (by simp [hy]) this
      · exact h
    have hc2 := Ch.front hK hind hc
    obtain ⟨h1, h2, h3⟩ := hc2
    have hperm2 : L.Perm ((l1 ++ l2).map (·.1)) := by
      have h4 : (j :: L).Perm (j :: (l1 ++ l2).map (·.1)) := hp.trans (by simp [List.perm_middle])
      exact h4.cons_inv
    have hnd2 : ((l1 ++ l2).map (·.1)).Nodup ∧ j ∉ (l1 ++ l2).map (·.1) := by
      have h5 : (j :: (l1 ++ l2).map (·.1)).Nodup := (List.Perm.nodup_iff (by simp [List.perm_middle])).1 hnd
      rw [List.nodup_cons] at h5
      exact ⟨h5.2, h5.1⟩
    refine hrec (j, c) (by simp) env m h1 h2 R σ a w he hj hn L Q fun σ' a' w' he' hj' hn' => ?_
    refine run_lin hcl hK hKQ L (l1 ++ l2) (j :: done) _ _ hperm2 hnd2.1 ?_ ?_ hlin.2 (fun x hx => hrec x (by simp at hx ⊢; rcases hx with h | h <;> simp [h])) ?_ h3 σ' a' w' he' hj' hn'
    · intro x hx hm
      rcases List.mem_cons.1 hm with h | h
      · exact hnd2.2 (List.mem_map.2 ⟨x, hx, h⟩)
      · exact hdj x (by simp at hx ⊢; rcases hx with h' | h' <;> simp [h']) h
    · intro z hz y hy
      rcases List.mem_cons.1 hz with h | h
      · subst h
        rcases hcl z y hy with h1 | ⟨u, hu, h1⟩
        · exact List.mem_cons_of_mem _ (hlin.1 _ h1)
        · exact List.mem_cons_of_mem _ (hdc u (hlin.1 u hu) _ h1)
      · exact List.mem_cons_of_mem _ (hdc z h y hy)
    · rw [List.pairwise_append] at hpair ⊢
      obtain ⟨q1, q2, q3⟩ := hpair
      rw [List.pairwise_cons] at q2
      exact ⟨q1, q2.2, fun y hy z hz => q3 y hy z (by simp [hz])⟩

/-! ### what the schedule gives -/
def topoB (md : Region.Mode) (ops : Array Oper) : List Nat → List Nat → Bool
  | _, [] => true
  | done, i :: l => ((edgesM md ops i).all fun e => done.elem e) && topoB md ops (i :: done) l

def coverB (k : Nat) (l : List Nat) : Bool := (List.range k).all fun i => l.elem i

theorem binds_any {md : Region.Mode} {e : Edge} (h : Region.binds .any e = true) : Region.binds md e = true := by
  unfold Region.binds at h ⊢
  split at h <;> simp_all

theorem ready_exists {md : Region.Mode} {ops : Array Oper} (f : Nat → Bool) : ∀ (topo done : List Nat), topoB md ops done topo = true → (∀ d ∈ done, f d = true) → (∃ i ∈ topo, f i = false) →
    ∃ i ∈ topo, f i = false ∧ ∀ e ∈ edgesM md ops i, f e = true
  | [], _, _, _, h => by obtain ⟨i, hi, _⟩ := h; cases hi
  | j :: topo, done, ht, hd, h => by
    simp only [topoB, Bool.and_eq_true] at ht
    cases hj : f j with
    | false =>
      refine ⟨j, by simp, hj, fun e he => ?_⟩
      have := List.all_eq_true.1 ht.1 e he
      exact hd e (by simpa using this)
    | true =>
      obtain ⟨i, hi, hfi⟩ := h
      have hi' : i ∈ topo := by
        rcases List.mem_cons.1 hi with h | h
        · subst h; rw [hj] at hfi; cases hfi
        · exact h
      obtain ⟨k, hk, h2⟩ := ready_exists f topo (j :: done) ht.2 (fun d hd' => by rcases List.mem_cons.1 hd' with h | h; subst h; exact hj; exact hd d h) ⟨i, hi', hfi⟩
      exact ⟨k, by simp [hk], h2⟩

theorem cover_len : ∀ (n : Nat) (acc : List Nat), (∀ i, i < n → i ∈ acc) → n ≤ acc.length
  | 0, _, _ => Nat.zero_le _
  | n + 1, acc, h => by
    have h1 := h n (by omega)
    have := cover_len n (acc.erase n) (fun i hi => (List.mem_erase_of_ne (by omega)).2 (h i (by omega)))
    rw [List.length_erase_of_mem h1] at this
    have := List.length_pos_of_mem h1
    omega

theorem go_lin {md : Region.Mode} {ops : Array Oper} {topo : List Nat} (ht : topoB md ops [] topo = true) (hcov : coverB ops.size topo = true) (hrng : ∀ i ∈ topo, i < ops.size) :
    ∀ (fuel t : Nat) (listed : Array Bool) (acc : List Nat), listed.size = ops.size → (∀ i, i < ops.size → (listed.getD i false = true ↔ i ∈ acc)) → (∀ i ∈ acc, i < ops.size) → acc.Nodup → fuel + acc.length = ops.size →
      ∃ L, Region.linearise.go md ops fuel t listed acc = acc.reverse ++ L ∧ Lin ops acc L ∧ (acc.reverse ++ L).Nodup ∧ (∀ i ∈ L, i < ops.size) ∧ L.length = fuel
  | 0, t, listed, acc, _, _, _, hnd, hl => ⟨[], by simp [Region.linearise.go], trivial, by simpa using (List.reverse_perm acc).nodup_iff.2 hnd, by simp, rfl⟩
  | fuel + 1, t, listed, acc, hs, hlist, hacc, hnd, hl => by
    have hgetT : ∀ i, i < ops.size → listed.getD i true = listed.getD i false := fun i hi => by
      simp [Array.getD_eq_getD_getElem?, show i < listed.size by omega]
    -- something is ready
    have hex : ∃ i ∈ topo, listed.getD i false = false ∧ ∀ e ∈ edgesM md ops i, listed.getD e false = true := by
      refine ready_exists _ topo [] ht (by simp) ?_
      -- some index is not yet listed
      have : ∃ i, i < ops.size ∧ i ∉ acc := by
        refine Classical.byContradiction fun hno => ?_
        have h1 := cover_len ops.size acc fun i hi => Classical.byContradiction fun h => hno ⟨i, hi, h⟩
        omega
      obtain ⟨i, hi, hni⟩ := this
      refine ⟨i, ?_, ?_⟩
      · have := List.all_eq_true.1 hcov i (by simpa using hi)
        simpa using this
      · cases hb : listed.getD i false with
        | false => rfl
        | true => exact absurd ((hlist i hi).1 hb) hni
    obtain ⟨i0, hi0, hf0, he0⟩ := hex
    let rs := (List.range ops.size).filter fun i => !listed.getD i true && ((ops[i]?).map (·.after.all fun e => !Region.binds md e || listed.getD e.on false)).getD false
    have hrsm : ∀ i, i ∈ rs → i < ops.size ∧ listed.getD i true = false ∧ ∀ e ∈ edgesM md ops i, listed.getD e false = true := by
      intro i hi
      simp only [rs, List.mem_filter, List.mem_range, Bool.and_eq_true, Bool.not_eq_true'] at hi
      refine ⟨hi.1, hi.2.1, fun e he => ?_⟩
      have h2 := hi.2.2
      simp only [edgesM] at he
      cases ho : ops[i]? with
      | none => rw [ho] at he; simp at he
      | some o =>
        rw [ho] at he h2
        simp only [Option.map_some, Option.getD_some] at h2
        simp only [List.mem_map, List.mem_filter] at he
        obtain ⟨ed, ⟨hed, hb⟩, rfl⟩ := he
        have := Array.all_eq_true_iff_forall_mem.1 h2 ed (by simpa using hed)
        simpa [hb] using this
    have htopolt : ∀ i ∈ topo, listed.getD i false = false → i < ops.size → (∀ e ∈ edgesM md ops i, listed.getD e false = true) → i ∈ rs := by
      intro i _ hf hi he
      simp only [rs, List.mem_filter, List.mem_range, Bool.and_eq_true, Bool.not_eq_true']
      refine ⟨hi, by rw [hgetT i hi]; exact hf, ?_⟩
      have ho : ops[i]? = some ops[i] := Array.getElem?_eq_getElem hi
      rw [ho]
      simp only [Option.map_some, Option.getD_some]
      refine Array.all_eq_true_iff_forall_mem.2 fun ed hed => ?_
      cases hb : Region.binds md ed with
      | false => rfl
      | true =>
        simp only [Bool.not_true, Bool.false_or]
        refine he ed.on ?_
        simp only [edgesM, ho, List.mem_map, List.mem_filter]
        exact ⟨ed, ⟨by simpa using hed, hb⟩, rfl⟩
    have hne : rs ≠ [] := List.ne_nil_of_mem (htopolt i0 hi0 hf0 (hrng i0 hi0) he0)
    have hpos : 0 < rs.length := List.length_pos_iff.2 hne
    have hmod : t % rs.length < rs.length := Nat.mod_lt _ hpos
    have hpick : rs[t % rs.length]? = some rs[t % rs.length] := List.getElem?_eq_getElem hmod
    obtain ⟨g1, g2, g3⟩ := hrsm _ (List.getElem_mem hmod)
    generalize hi : rs[t % rs.length] = i at hpick g1 g2 g3
    have hni : i ∉ acc := fun h => by
      have := (hlist i g1).2 h
      rw [hgetT i g1, this] at g2; cases g2
    have hset : ∀ k, k < ops.size → ((listed.setIfInBounds i true).getD k false = true ↔ k ∈ i :: acc) := by
      intro k hk
      by_cases hki : k = i
      · subst hki; simp [Array.getD_eq_getD_getElem?, Array.getElem?_setIfInBounds, show k < listed.size by omega]
      · have h1 : (listed.setIfInBounds i true).getD k false = listed.getD k false := by
          simp [Array.getD_eq_getD_getElem?, Array.getElem?_setIfInBounds, Ne.symm hki]
        rw [h1, hlist k hk]
        simp [hki]
    obtain ⟨L, q1, q2, q3, q4, q5⟩ := go_lin ht hcov hrng fuel (t / rs.length) (listed.setIfInBounds i true) (i :: acc) (by simpa using hs) hset
      (fun k hk => by rcases List.mem_cons.1 hk with h | h; subst h; exact g1; exact hacc k h) (List.nodup_cons.2 ⟨hni, hnd⟩) (by simp; omega)
    refine ⟨i :: L, ?_, ⟨fun e he => ?_, q2⟩, ?_, ?_, by simp [q5]⟩
    · simp only [Region.linearise.go]
      rw [hpick]
      simp only [rs] at q1 ⊢
      rw [q1]
      simp
    · simp only [edges, edgesM] at he
      have he2 : e ∈ edgesM md ops i := by
        simp only [edgesM]
        split at he
        · rename_i o ho
          simp only [List.mem_map, List.mem_filter] at he ⊢
          obtain ⟨ed, ⟨hed, hb⟩, rfl⟩ := he
          exact ⟨ed, ⟨hed, binds_any hb⟩, rfl⟩
        · cases he
      have h1 := g3 e he2
      by_cases hes : e < ops.size
      · exact (hlist e hes).1 h1
      · simp [Array.getD_eq_getD_getElem?, show listed.size ≤ e by omega] at h1
    · simpa using q3
    · intro k hk
      rcases List.mem_cons.1 hk with h | h
      · subst h; exact g1
      · exact q4 k h

def topoOK (md : Region.Mode) (ops : Array Oper) (topo : List Nat) : Bool :=
  topoB md ops [] topo && coverB ops.size topo && topo.all fun i => Nat.blt i ops.size

theorem nodup_len : ∀ (n : Nat) (l : List Nat), l.Nodup → (∀ i ∈ l, i < n) → l.length ≤ n
  | 0, l, _, h => by
    cases l with
    | nil => simp
    | cons x r => exact absurd (h x (by simp)) (by omega)
  | n + 1, l, hnd, h => by
    have := nodup_len n (l.erase n) (hnd.erase n) (fun i hi => by
      have h1 := h i (List.mem_of_mem_erase hi)
      have h2 : i ≠ n := fun e => by subst e; exact hnd.not_mem_erase hi
      omega)
    have h3 := List.length_erase (a := n) (l := l)
    split at h3 <;> omega

theorem linearise_lin {md : Region.Mode} {ops : Array Oper} {topo : List Nat} (h : topoOK md ops topo = true) (t : Nat) :
    Lin ops [] (Region.linearise md ops t) ∧ (Region.linearise md ops t).Perm (List.range ops.size) := by
  simp only [topoOK, Bool.and_eq_true] at h
  obtain ⟨L, q1, q2, q3, q4, q5⟩ := go_lin h.1.1 h.1.2 (fun i hi => by simpa [Nat.blt_eq] using List.all_eq_true.1 h.2 i hi) ops.size t (Array.replicate ops.size false) [] (by simp)
    (fun i hi => by simp [Array.getD_eq_getD_getElem?, hi]) (by simp) List.nodup_nil (by simp)
  simp only [List.reverse_nil, List.nil_append] at q1 q3
  rw [Region.linearise, q1]
  refine ⟨q2, ?_⟩
  refine (List.perm_ext_iff_of_nodup q3 List.nodup_range).2 fun i => ⟨fun hi => by simpa using q4 i hi, fun hi => Classical.byContradiction fun hni => ?_⟩
  have := nodup_len ops.size (i :: L) (List.nodup_cons.2 ⟨hni, q3⟩) (fun k hk => by
    rcases List.mem_cons.1 hk with h | h
    · subst h; simpa using hi
    · exact q4 k h)
  simp at this
  omega

/-- The closed check on a region that draws: every schedule is a whole one. -/
def drawChk (ops : Array Oper) : Bool :=
  topoOK .any ops (List.range ops.size) && (!Region.departs ops || (topoOK .text ops (List.range ops.size) && topoOK .gc ops (Region.linearise .gc ops 0)))

theorem schedule_lin {ops : Array Oper} (h : drawChk ops = true) (mixed : Bool) (t : Nat) : Lin ops [] (Region.schedule mixed ops t) ∧ (Region.schedule mixed ops t).Perm (List.range ops.size) := by
  simp only [drawChk, Bool.and_eq_true, Bool.or_eq_true, Bool.not_eq_true'] at h
  unfold Region.schedule
  split
  · exact linearise_lin h.1 t
  · rename_i hm
    have hd : Region.departs ops = true := by
      cases hx : Region.departs ops with
      | true => rfl
      | false => simp [hx] at hm
    rcases h.2 with h2 | h2
    · rw [hd] at h2; cases h2
    · split
      · exact linearise_lin h2.1 _
      · exact linearise_lin h2.2 _


/-! ## The text's order, with its records -/
def reach (ops : Array Oper) : Nat → Nat → Nat → Bool
  | 0, _, _ => false
  | f + 1, x, y => (edges ops x).elem y || (edges ops x).any fun z => reach ops f z y

theorem reach_ok (ops : Array Oper) : ClOK ops fun x y => ∃ f, reach ops f x y = true := by
  rintro x y ⟨f, h⟩
  cases f with
  | zero => cases h
  | succ f =>
    simp only [reach, Bool.or_eq_true, List.any_eq_true] at h
    rcases h with h | ⟨z, hz, h⟩
    · exact .inl (by simpa using h)
    · exact .inr ⟨z, hz, f, h⟩

/-- A number, worked out before it is used. -/
def frc {α : Type} (n : Nat) (f : Nat → α) : α :=
  match n with
  | 0 => f 0
  | k + 1 => f (Nat.succ k)

theorem frc_eq {α : Type} (n : Nat) (f : Nat → α) : frc n f = f n := by cases n <;> rfl

def nthR : List Nat → Nat → Nat
  | [], _ => 0
  | r :: l, z => bif Nat.beq l.length z then r else nthR l z

/-- What an operation must run behind, as bits, where 'tbl' has the rows of those ahead of it. -/
def rowR (tbl : List Nat) : List Nat → Nat
  | [] => 0
  | z :: l => Nat.lor (Nat.lor (Nat.shiftLeft 1 z) (nthR tbl z)) (rowR tbl l)

def tblR (ops : Array Oper) : Nat → List Nat → (List Nat → Bool) → Bool
  | 0, tbl, k => k tbl
  | m + 1, tbl, k => frc (rowR tbl (edges ops tbl.length)) fun r => tblR ops m (r :: tbl) k

def okOneR (r : Nat) (x : Nat × Rec) : List (Nat × Rec) → Bool
  | [] => true
  | y :: l => (Nat.testBit r y.1 || indep y.2 x.2) && okOneR r x l

def okFastR (tbl : List Nat) : List (Nat × Rec) → Bool
  | [] => true
  | x :: l => frc (nthR tbl x.1) (fun r => okOneR r x l) && okFastR tbl l

/-- 'l' from its last record on to its first. -/
def okFast (ops : Array Oper) (l : List (Nat × Rec)) : Bool := tblR ops ops.size [] fun tbl => okFastR tbl l

def TblOK (ops : Array Oper) (tbl : List Nat) : Prop := ∀ z y, (nthR tbl z).testBit y = true → ∃ f, reach ops f z y = true

theorem rowR_ok {ops : Array Oper} {tbl : List Nat} (ht : TblOK ops tbl) {i : Nat} : ∀ (l : List Nat), (∀ z ∈ l, z ∈ edges ops i) → ∀ y, (rowR tbl l).testBit y = true → ∃ f, reach ops f i y = true
  | [], _, y, h => by simp [rowR] at h
  | z :: l, hl, y, h => by
    have h' : (((1 <<< z) ||| nthR tbl z) ||| rowR tbl l).testBit y = true := h
    rw [Nat.testBit_or, Nat.testBit_or] at h'
    simp only [Bool.or_eq_true] at h'
    have hz := hl z (by simp)
    rcases h' with (h1 | h1) | h1
    · have : y = z := by
        rw [Nat.one_shiftLeft, Nat.testBit_two_pow] at h1
        simpa using (of_decide_eq_true h1).symm
      subst this
      exact ⟨1, by simp only [reach, Bool.or_eq_true]; left; simpa using hz⟩
    · obtain ⟨f, hf⟩ := ht z y h1
      refine ⟨f + 1, ?_⟩
      simp only [reach, Bool.or_eq_true, List.any_eq_true]
      exact .inr ⟨z, hz, hf⟩
    · exact rowR_ok ht l (fun z' h => hl z' (by simp [h])) y h1

theorem TblOK.cons {ops : Array Oper} {tbl : List Nat} (ht : TblOK ops tbl) : TblOK ops (rowR tbl (edges ops tbl.length) :: tbl) := by
  intro z y h
  simp only [nthR] at h
  cases hb : Nat.beq tbl.length z with
  | true =>
    have := Nat.eq_of_beq_eq_true hb
    subst this
    simp only [hb, cond_true] at h
    exact rowR_ok ht _ (fun _ h => h) y h
  | false =>
    simp only [hb, cond_false] at h
    exact ht z y h

theorem tblR_ok {ops : Array Oper} {k : List Nat → Bool} : ∀ {m : Nat} {tbl : List Nat}, TblOK ops tbl → tblR ops m tbl k = true → ∃ tbl', TblOK ops tbl' ∧ k tbl' = true
  | 0, tbl, ht, h => ⟨tbl, ht, h⟩
  | m + 1, tbl, ht, h => by
    simp only [tblR, frc_eq] at h
    exact tblR_ok ht.cons h

theorem okFastR_pairwise {ops : Array Oper} {tbl : List Nat} (ht : TblOK ops tbl) : ∀ {l : List (Nat × Rec)}, okFastR tbl l = true → l.Pairwise fun x y => (∃ f, reach ops f x.1 y.1 = true) ∨ indep y.2 x.2 = true
  | [], _ => .nil
  | x :: l, h => by
    simp only [okFastR, frc_eq, Bool.and_eq_true] at h
    refine .cons ?_ (okFastR_pairwise ht h.2)
    intro y hy
    have : ∀ {l : List (Nat × Rec)}, okOneR (nthR tbl x.1) x l = true → ∀ y ∈ l, (∃ f, reach ops f x.1 y.1 = true) ∨ indep y.2 x.2 = true := by
      intro l
      induction l with
      | nil => intro _ y hy; cases hy
      | cons z l ih =>
        intro e y hy
        simp only [okOneR, Bool.and_eq_true, Bool.or_eq_true] at e
        rcases List.mem_cons.1 hy with rfl | hy
        · rcases e.1 with e1 | e1
          · exact .inl (ht _ _ e1)
          · exact .inr e1
        · exact ih e.2 y hy
    exact this h.1 y hy

theorem okFast_pairwise {ops : Array Oper} {l : List (Nat × Rec)} (h : okFast ops l = true) : l.Pairwise fun x y => (∃ f, reach ops f x.1 y.1 = true) ∨ indep y.2 x.2 = true := by
  obtain ⟨tbl, h1, h2⟩ := tblR_ok (ops := ops) (tbl := []) (fun z y h => by simp [nthR] at h) h
  exact okFastR_pairwise h1 h2

def tmpsOf (xs : List Operand) : List Nat := xs.filterMap fun
  | .tmp t => some t
  | _ => none

def getE (env : Env) : List Nat → Env
  | [] => []
  | t :: r => match lk t env with
    | some p => (t, p) :: getE env r
    | none => getE env r

mutual
def keysP : PV → List Nat
  | .ptr k _ => [k]
  | .view k _ _ _ => [k]
  | .tok k _ _ => [k]
  | .vec k _ _ _ => [k]
  | .ep k _ _ _ => [k]
  | .agg cs => keysPs cs
  | .ifc _ p => keysP p
  | .clo _ cs => keysPs cs
  | .tup cs => keysPs cs
  | _ => []
def keysPs : List PV → List Nat
  | [] => []
  | p :: r => match keysP p with
    | [] => keysPs r
    | k :: l => k :: (l ++ keysPs r)
end

def keysO : MO → List Nat
  | .var cells => keysPs cells
  | _ => []

def keysE : Env → List Nat
  | [] => []
  | (_, p) :: r => keysP p ++ keysE r

/-- How an operation looks at memory: not at all; at the objects that it names; at all to which these lead. -/
inductive Look where
  | no | near | far

def lookOf (o : Oper) : Look :=
  match o.op with
  | .load _ _ => .near
  | .store _ _ _ => .near
  | .convert _ _ _ => .near
  | .slice _ _ _ _ _ => .near
  | .call c => match c.callee with
    | .builtin _ => .near
    | _ => .far
  | _ => .no

def keysL (l : Look) (env : Env) : List Nat :=
  match l with
  | .no => []
  | _ => keysE env

def moreL (l : Look) (o : MO) (r : List Nat) : List Nat :=
  match l with
  | .far => keysO o ++ r
  | _ => r

/-- The objects to which some names lead. -/
def getM (l : Look) (m : Mem) : Nat → List Nat → Mem
  | 0, _ => []
  | _ + 1, [] => []
  | f + 1, k :: r => match lk k m with
    | some o => (k, o) :: getM l m f (moreL l o r)
    | none => getM l m f r

theorem getE_sub (env : Env) : ∀ l : List Nat, Sub (getE env l) env
  | [], t, p, h => by cases h
  | u :: r, t, p, h => by
    simp only [getE] at h
    cases e : lk u env with
    | none => rw [e] at h; exact getE_sub env r t p h
    | some q =>
      rw [e] at h
      by_cases ht : t = u
      · subst ht; rw [lk_cons_self] at h; cases h; exact e
      · rw [lk_cons_other ht] at h; exact getE_sub env r t p h

theorem getM_sub (lo : Look) (m : Mem) : ∀ (f : Nat) (l : List Nat), Sub (getM lo m f l) m
  | 0, _, t, p, h => by cases h
  | _ + 1, [], t, p, h => by cases h
  | f + 1, k :: r, t, p, h => by
    simp only [getM] at h
    cases e2 : lk k m with
    | none => rw [e2] at h; exact getM_sub lo m f r t p h
    | some o =>
      rw [e2] at h
      by_cases ht : t = k
      · subst ht; rw [lk_cons_self] at h; cases h; exact e2
      · rw [lk_cons_other ht] at h; exact getM_sub lo m f _ t p h

def aStoreC (ti : TI) (p q : PV) (m : Mem) (K : Nat → List PV → Prop) : Prop :=
  match p with
  | .ptr k off => match lk k m with
    | some (.var cells) => match pcells q with
      | some ps => bif Nat.beq ps.length ti.size && Nat.ble (off + ps.length) cells.length then
          K k (cells.take off ++ ps ++ cells.drop (off + ps.length)) else False
      | none => False
    | _ => False
  | _ => False

def aAppendC (T : Ty) (sT xT d : Nat) (p q : PV) (m : Mem) (K : Nat → Nat → List IV → Prop) : Prop :=
  withT T sT fun ts => withT T xT fun tx => match ts.d with
    | .slice e => match tx.d with
      | .slice _ => withT T e fun te => match te.zero with
        | some z => bif Nat.beq z.cells.size te.size && !Nat.beq te.bytes 0 && Nat.blt d 1000 then
            (match iv? q with
            | some (.slice l2) => match p with
              | .tok k s l => bif Nat.beq s te.size then (match lk k m with
                | some .tip => bif Nat.blt k 1000 then ((hasSize te.size l ∧ hasSize te.size l2) ∧ (l.length + l2.length) * te.bytes ≤ 140737488355328) ∧ K k s (l ++ l2) else False
                | _ => False) else False
              | .full l => ((hasSize te.size l ∧ hasSize te.size l2) ∧ (l.length + l2.length) * te.bytes ≤ 140737488355328) ∧ K d te.size (l ++ l2)
              | _ => False
            | _ => False) else False
        | none => False
      | _ => False
    | _ => False

/-- A call that lends, with all that the rule asks. -/
structure LendC (P : Program) (G : Gl) (f : FuncId) (ρ : List (Nat × Nat)) (cargs args : List PV) (cm m : Mem) (cr : PV) (cm' : Mem) : Prop where
  body : Body P f
  c : AC P G f cargs cm cr cm'
  args : argOK (rho ρ) cargs args
  mem : MemAs (rho ρ) cm m
  names : namesOK ρ cm cm' cr = true

theorem MemAs.sub {f : Nat → Nat} {cm om m : Mem} (h : MemAs f cm om) (hs : Sub om m) : MemAs f cm m :=
  ⟨fun k o e => by obtain ⟨o1, h1, h2⟩ := h.1 k o e; exact ⟨o1, hs _ _ h1, h2⟩, h.2⟩

def aRec0 (P : Program) (T : Ty) (G : Gl) (o : Oper) (oe : Env) (om : Mem) (K : Rec → Prop) : Prop :=
  match o.op with
  | .store t x y => withT T t fun ti => withO (evalO G oe x) fun p => withO (evalO G oe y) fun q => aStoreC ti p q om fun k cells => K ⟨o.dst, oe, om, .dead, [(k, .var cells)], []⟩
  | .alloc t => match o.dst with
    | some d => withT T t fun ti => match ti.zero with
      | some z => match ofV z with
        | some x => match pcells (.i x) with
          | some ps => bif occs d ps then False else K ⟨some d, oe, om, .ptr d 0, [(d, .var ps)], [d]⟩
          | none => False
        | none => False
      | none => False
    | none => False
  | .box _ y => match o.dst with
    | some d => withO (evalO G oe y) fun p => match pcells p with
      | some ps => bif occs d ps then False else K ⟨some d, oe, om, .ptr d 0, [(d, .var ps)], [d]⟩
      | none => False
    | none => False
  | .buildSlice t n parts => aBuildSlice T G t n parts.toList oe fun p => K ⟨o.dst, oe, om, p, [], []⟩
  | .call c => match c.callee with
    | .builtin .append => match o.dst, c.args.toList, c.argTypes.toList with
      | some d, [x, y], [sT, xT] => withO (evalO G oe x) fun p => withO (evalO G oe y) fun q => aAppendC T sT xT d p q om fun k s l => K ⟨some d, oe, om, .tok k s l, [(k, .tip)], [k]⟩
      | _, _, _ => False
    | .builtin _ => aopV P T G o oe om fun r => K ⟨o.dst, oe, om, r, [], []⟩
    | .value f => withO (evalO G oe f) fun p => match evalArgs G oe c.args.toList with
      | some args => match p with
        | .i (.func (.func f) ics) => match ivs? args with
          | some as => ∃ as' x, (as ++ ics = as' ∧ PureC P G f as' x) ∧ K ⟨o.dst, oe, om, .i x, [], []⟩
          | none => ∃ ρ cargs cm cr cm', LendC P G f ρ cargs (args ++ ics.map .i) cm om cr cm' ∧ K ⟨o.dst, oe, om, ren (rho ρ) cr, renM ρ cm', moved cm (backs ρ cm')⟩
        | .clo (.func f) caps => ∃ ρ cargs cm cr cm', LendC P G f ρ cargs (args ++ caps) cm om cr cm' ∧ K ⟨o.dst, oe, om, ren (rho ρ) cr, renM ρ cm', moved cm (backs ρ cm')⟩
        | _ => False
      | none => False
    | .invoke _ _ => False
  | _ => aopV P T G o oe om fun r => K ⟨o.dst, oe, om, r, [], []⟩

def aRec (P : Program) (T : Ty) (G : Gl) (o : Oper) (oe : Env) (om : Mem) (K : Rec → Prop) : Prop :=
  bif effQ T G o oe then aEff T G o oe om (fun r w κ => K ⟨o.dst, oe, om, r, w, κ⟩) else
  bif elQ T G o oe om then aEl T G o oe om (fun r w κ => K ⟨o.dst, oe, om, r, w, κ⟩) else aRec0 P T G o oe om K

def getEK (env : Env) : List Nat → (Env → Prop) → Prop
  | [], K => K []
  | t :: r, K => match lk t env with
    | some p => getEK env r fun l => K ((t, p) :: l)
    | none => getEK env r K

def getMK (lo : Look) (m : Mem) (K : Mem → Prop) : Nat → List Nat → (Mem → Mem) → Prop
  | 0, _, acc => K (acc [])
  | _ + 1, [], acc => K (acc [])
  | f + 1, k :: r, acc => match lk k m with
    | some o => getMK lo m K f (moreL lo o r) fun l => acc ((k, o) :: l)
    | none => getMK lo m K f r acc

theorem getEK_eq (env : Env) : ∀ (ts : List Nat) (K : Env → Prop), getEK env ts K = K (getE env ts)
  | [], _ => rfl
  | t :: r, K => by
    simp only [getEK, getE]
    cases lk t env with
    | none => exact getEK_eq env r K
    | some p => exact getEK_eq env r _

theorem getMK_eq (lo : Look) (m : Mem) (K : Mem → Prop) : ∀ (f : Nat) (l : List Nat) (acc : Mem → Mem), getMK lo m K f l acc = K (acc (getM lo m f l))
  | 0, _, _ => rfl
  | _ + 1, [], _ => rfl
  | f + 1, k :: r, acc => by
    simp only [getMK, getM]
    cases lk k m with
    | none => exact getMK_eq lo m K f r acc
    | some o => exact getMK_eq lo m K f _ _

def Rec.goK (c : Rec) (env : Env) (m : Mem) (K : Env → Mem → Prop) : Prop :=
  match c with
  | ⟨dst, _, _, r, w, κ⟩ => match κ with
    | [] => putK env dst r fun env1 => K env1 (setM w m)
    | κ => putK (killE κ env) dst r fun env1 => K env1 (setM w (killM κ m))

theorem Rec.goK_eq (c : Rec) (env : Env) (m : Mem) (K : Env → Mem → Prop) : c.goK env m K = K (c.env env) (c.mem m) := by
  obtain ⟨dst, oe, om, r, w, κ⟩ := c
  cases κ <;> simp only [Rec.goK, putK_eq, Rec.env, Rec.mem, killE, killM]

def condR (b : Bool) : PV := .i (.bool b)

abbrev DP := Nat → Env → Mem → List (Nat × Rec) → (Env → Mem → Prop) → Prop

def awpDN (ops : Array Oper) : DP := fun _ env m recs K => okFast ops recs = true ∧ K env m

def awpDS (P : Program) (T : Ty) (G : Gl) (n : Nat) (ops : Array Oper) (o : Oper) (ih : DP) : DP := fun i env m recs K =>
    bif dstOK n o.dst then
      (match o.guard with
      | none => getEK env (tmpsOf o.op.operands.toList) fun oe => getMK (lookOf o) m (fun om =>
        aRec P T G o oe om fun c => c.goK env m fun env1 m1 => ih (i + 1) env1 m1 ((i, c) :: recs) K) 16 (keysL (lookOf o) oe) fun l => l
      | some (j, want) => match (ops[j]?).bind (·.dst) with
        | some t => match lk t env with
          | some (.i (.bool b)) => condG want b
              (getEK ((t, condR want) :: env) (t :: tmpsOf o.op.operands.toList) fun oe => getMK (lookOf o) m (fun om =>
               aRec P T G o oe om fun c => c.goK ((t, condR want) :: env) m fun env1 m1 => ih (i + 1) env1 m1 ((i, c) :: recs) K) 16 (keysL (lookOf o) oe) fun l => l)
              ((⟨o.dst, [(t, condR (!want))], [], .tup [], [], []⟩ : Rec).goK ((t, condR (!want)) :: env) m fun env1 m1 =>
               ih (i + 1) env1 m1 ((i, ⟨o.dst, [(t, condR (!want))], [], .tup [], [], []⟩) :: recs) K)
          | some (.tup []) => (⟨o.dst, [(t, .tup [])], [], .tup [], [], []⟩ : Rec).goK env m fun env1 m1 =>
               ih (i + 1) env1 m1 ((i, ⟨o.dst, [(t, .tup [])], [], .tup [], [], []⟩) :: recs) K
          | _ => False
        | none => False)
    else False

noncomputable def awpD (P : Program) (T : Ty) (G : Gl) (n : Nat) (ops : Array Oper) (l : List Oper) : DP :=
  @List.rec Oper (fun _ => DP) (awpDN ops) (fun o _ ih => awpDS P T G n ops o ih) l

theorem awpD_nil (P : Program) (T : Ty) (G : Gl) (n : Nat) (ops : Array Oper) (i : Nat) (env : Env) (m : Mem) (recs : List (Nat × Rec)) (K : Env → Mem → Prop) :
    awpD P T G n ops [] i env m recs K = (okFast ops recs = true ∧ K env m) := rfl
theorem awpD_cons (P : Program) (T : Ty) (G : Gl) (n : Nat) (ops : Array Oper) (o : Oper) (rest : List Oper) (i : Nat) (env : Env) (m : Mem) (recs : List (Nat × Rec)) (K : Env → Mem → Prop) :
    awpD P T G n ops (o :: rest) i env m recs K = awpDS P T G n ops o (awpD P T G n ops rest) i env m recs K := rfl

/-- What a record is worth as a step. -/
def StepR (P : Program) (G : Gl) (o : Oper) (c : Rec) : Prop := ∀ (env : Env) (m : Mem), Sub c.oe env → Sub c.om m → Step P G o env m c.r (killE c.κ env) (c.mem m)

def OkR (P : Program) (G : Gl) (o : Oper) (oe : Env) (om : Mem) (K : Rec → Prop) : Prop := ∃ c : Rec, c.dst = o.dst ∧ c.oe = oe ∧ c.om = om ∧ StepR P G o c ∧ K c

theorem OkV.rec {o : Oper} {oe : Env} {om : Mem} {K : Rec → Prop} (h : OkV P G o oe om fun r => K ⟨o.dst, oe, om, r, [], []⟩) : OkR P G o oe om K := by
  obtain ⟨r, h1, h2⟩ := h
  refine ⟨_, rfl, rfl, rfl, fun env m he hm => ?_, h2⟩
  have : SV P G o env m r := fun R σ a w hE hj => h1 R σ a w (hE.sub he) (hj.sub hm)
  exact this.step

theorem evalArgs_mono {oe env : Env} (h : Sub oe env) : ∀ {xs : List Operand} {l : List PV}, evalArgs G oe xs = some l → evalArgs G env xs = some l
  | [], l, e => e
  | x :: r, l, e => by
    simp only [evalArgs] at e ⊢
    cases e1 : evalO G oe x with
    | none => rw [e1] at e; cases e
    | some p =>
      rw [evalO_mono h e1]
      simp only [e1] at e ⊢
      cases e2 : evalArgs G oe r with
      | none => rw [e2] at e; cases e
      | some l' => rw [evalArgs_mono h e2]; rw [e2] at e; exact e

theorem aBuildSlice_rec (hT : TOK P T) {o : Oper} {oe : Env} {om : Mem} {K : Rec → Prop} {t n : Nat} {parts : Array (Nat × Operand)} (ho : o.op = .buildSlice t n parts)
    (h : aBuildSlice T G t n parts.toList oe fun p => K ⟨o.dst, oe, om, p, [], []⟩) : OkR P G o oe om K := by
  obtain ⟨ti, e1, h⟩ := withT.out h
  have hu := (hT _ _ e1).und
  split at h
  · rename_i e hd
    rw [hd] at hu
    obtain ⟨te, e2, h⟩ := withT.out h
    split at h
    · rename_i z hz
      split at h
      · rename_i zx hzx
        split at h
        · rename_i l hl
          obtain ⟨e3, h⟩ := bif_true h
          simp only [Bool.and_eq_true] at e3
          exact ⟨_, rfl, rfl, rfl, fun env m he hm => step_buildSlice ho hu (hT _ _ e2) hz hzx (Nat.eq_of_beq_eq_true e3.1.1) (evalElems_mono he hl) (Nat.eq_of_beq_eq_true e3.1.2) (Nat.le_of_ble_eq_true e3.2), h⟩
        · exact h.elim
      · exact h.elim
    · exact h.elim
  · exact h.elim

theorem ivs?_append : ∀ {ps : List PV} {xs ics : List IV}, ivs? ps = some xs → ivs? (ps ++ ics.map .i) = some (xs ++ ics)
  | [], xs, ics, e => by
    cases e
    simp only [List.nil_append]
    induction ics with
    | nil => rfl
    | cons x r ih => simp only [List.map_cons, ivs?, iv?, ih]
  | p :: r, xs, ics, e => by
    simp only [ivs?] at e
    cases e1 : iv? p with
    | none => rw [e1] at e; cases e
    | some x =>
      simp only [e1] at e
      cases e2 : ivs? r with
      | none => rw [e2] at e; cases e
      | some l =>
        rw [e2] at e
        cases e
        simp only [List.cons_append, ivs?, e1, ivs?_append e2]

theorem aAppend_rec (hT : TOK P T) {o : Oper} {oe : Env} {om : Mem} {K : Rec → Prop} {sT xT d : Nat} {x y : Operand} {p q : PV} (ho : o.op = .call { callee := .builtin .append, args := #[x, y], argTypes := #[sT, xT] }) (hd : o.dst = some d)
    (hp : evalO G oe x = some p) (hq : evalO G oe y = some q) (h : aAppendC T sT xT d p q om fun k s l => K ⟨some d, oe, om, .tok k s l, [(k, .tip)], [k]⟩) : OkR P G o oe om K := by
  obtain ⟨ts, e1, h⟩ := withT.out h
  obtain ⟨tx, e2, h⟩ := withT.out h
  have hus := (hT _ _ e1).und
  have hux := (hT _ _ e2).und
  split at h
  · rename_i e hds
    rw [hds] at hus
    split at h
    · rename_i e' hdx
      rw [hdx] at hux
      obtain ⟨te, e3, h⟩ := withT.out h
      split at h
      · rename_i z hz
        obtain ⟨e4, h⟩ := bif_true h
        simp only [Bool.and_eq_true] at e4
        have A : AppT P sT xT e te z := ⟨hus, ⟨_, hux⟩, hT _ _ e3, hz, Nat.eq_of_beq_eq_true e4.1.1⟩
        have hbb : te.bytes ≠ 0 := by
          intro h0
          simp [h0] at e4
        have hd1 : d < 1000 := by simpa [Nat.blt_eq] using e4.2
        split at h
        · rename_i l2 hl2
          split at h
          · rename_i k s l
            obtain ⟨e5, h⟩ := bif_true h
            have hs := Nat.eq_of_beq_eq_true e5
            subst hs
            split at h
            · rename_i hm
              obtain ⟨e6, h⟩ := bif_true h
              exact ⟨_, hd.symm, rfl, rfl, fun env m he hsub => step_append A hbb ho (.inr ⟨d, hd⟩) (by simpa [Nat.blt_eq] using e6) (evalO_mono he hp) (evalO_mono he hq) hl2 (.inl ⟨rfl, hsub _ _ hm⟩) h.1.1.1 h.1.1.2 h.1.2 gives_kill, h.2⟩
            · exact h.elim
          · exact ⟨_, hd.symm, rfl, rfl, fun env m he hsub => step_append A hbb ho (.inl hd) hd1 (evalO_mono he hp) (evalO_mono he hq) hl2 (.inr rfl) h.1.1.1 h.1.1.2 h.1.2 gives_kill, h.2⟩
          · exact h.elim
        · exact h.elim
      · exact h.elim
    · exact h.elim
  · exact h.elim

theorem aRec0_ok (hT : TOK P T) {o : Oper} {oe : Env} {om : Mem} {K : Rec → Prop} (h : aRec0 P T G o oe om K) : OkR P G o oe om K := by
  unfold aRec0 at h
  split at h
  · rename_i t x y ho
    obtain ⟨ti, e1, h⟩ := withT.out h
    obtain ⟨p, hp, h⟩ := withO.out h
    obtain ⟨q, hq, h⟩ := withO.out h
    unfold aStoreC at h
    split at h
    · split at h
      · rename_i cells hm
        split at h
        · rename_i ps hps
          obtain ⟨e, h⟩ := bif_true h
          simp only [Bool.and_eq_true] at e
          exact ⟨_, rfl, rfl, rfl, fun env m he hsub => step_store (hT _ _ e1) ho (evalO_mono he hp) (evalO_mono he hq) hps (hsub _ _ hm) (Nat.eq_of_beq_eq_true e.1) (Nat.le_of_ble_eq_true e.2), h⟩
        · exact h.elim
      · exact h.elim
    · exact h.elim
  · rename_i t ho
    split at h
    · rename_i d hd
      obtain ⟨ti, e1, h⟩ := withT.out h
      split at h
      · rename_i z hz
        split at h
        · rename_i x hx
          split at h
          · rename_i ps hps
            cases hoc : occs d ps with
            | true => rw [hoc] at h; exact h.elim
            | false =>
              rw [hoc] at h
              exact ⟨_, hd.symm, rfl, rfl, fun env m he hsub => step_alloc ho hd (hT _ _ e1) hz hx hps hoc gives_kill, h⟩
          · exact h.elim
        · exact h.elim
      · exact h.elim
    · exact h.elim
  · rename_i t y ho
    split at h
    · rename_i d hd
      obtain ⟨p, hp, h⟩ := withO.out h
      split at h
      · rename_i ps hps
        cases hoc : occs d ps with
        | true => rw [hoc] at h; exact h.elim
        | false =>
          rw [hoc] at h
          exact ⟨_, hd.symm, rfl, rfl, fun env m he hsub => step_box ho hd (evalO_mono he hp) hps hoc gives_kill, h⟩
      · exact h.elim
    · exact h.elim
  · rename_i t n parts ho
    exact aBuildSlice_rec hT ho h
  · rename_i c ho
    obtain ⟨callee, args, ats⟩ := c
    simp only at h
    split at h
    · split at h
      · rename_i d x y sT xT hd hx ht
        rw [list_two hx, list_two ht] at ho
        obtain ⟨p, hp, h⟩ := withO.out h
        obtain ⟨q, hq, h⟩ := withO.out h
        exact aAppend_rec hT ho hd hp hq h
      · exact h.elim
    · exact (aopV_ok hT h).rec
    · obtain ⟨p, hp, h⟩ := withO.out h
      split at h
      · rename_i as hargs
        split at h
        · rename_i f ics
          split at h
          · rename_i ivs hivs
            obtain ⟨as', x, ⟨rfl, hpure⟩, h⟩ := h
            exact ⟨_, rfl, rfl, rfl, fun env m he hsub => step_call ho (.inr ⟨_, evalO_mono he hp, rfl⟩) (evalArgs_rel (evalArgs_mono he hargs)) (pureCall hpure (ivs?_append hivs)), h⟩
          · obtain ⟨ρ, cargs, cm, cr, cm', hl, h⟩ := h
            exact ⟨_, rfl, rfl, rfl, fun env m he hsub => step_call ho (.inr ⟨_, evalO_mono he hp, rfl⟩) (evalArgs_rel (evalArgs_mono he hargs)) (lendCall hl.body hl.c hl.args (hl.mem.sub hsub) hl.names), h⟩
        · obtain ⟨ρ, cargs, cm, cr, cm', hl, h⟩ := h
          exact ⟨_, rfl, rfl, rfl, fun env m he hsub => step_call ho (.inl (evalO_mono he hp)) (evalArgs_rel (evalArgs_mono he hargs)) (lendCall hl.body hl.c hl.args (hl.mem.sub hsub) hl.names), h⟩
        · exact h.elim
      · exact h.elim
    · exact h.elim
  · exact (aopV_ok hT h).rec

theorem aRec_ok (hT : TOK P T) {o : Oper} {oe : Env} {om : Mem} {K : Rec → Prop} (h : aRec P T G o oe om K) : OkR P G o oe om K := by
  unfold aRec at h
  cases hq : effQ T G o oe with
  | true =>
    rw [hq] at h
    obtain ⟨r, w, κ, hs, h⟩ := aEff_ok hT h
    exact ⟨_, rfl, rfl, rfl, fun env m he hm => hs env m he hm, h⟩
  | false =>
    rw [hq] at h
    simp only [cond_false] at h
    cases hq2 : elQ T G o oe om with
    | true =>
      rw [hq2] at h
      obtain ⟨r, w, κ, hs, h⟩ := aEl_ok hT h
      exact ⟨_, rfl, rfl, rfl, fun env m he hm => hs env m he hm, h⟩
    | false =>
      rw [hq2] at h
      exact aRec0_ok hT h

theorem Ch.append {K : Env → Mem → Prop} : ∀ {l1 l2 : List (Nat × Rec)} {env : Env} {m : Mem}, Ch l1 env m (fun env m => Ch l2 env m K) → Ch (l1 ++ l2) env m K
  | [], _, _, _, h => h
  | (_, _) :: _, _, _, _, h => ⟨h.1, h.2.1, Ch.append h.2.2⟩

theorem Ch.mono {K K' : Env → Mem → Prop} (hk : ∀ env m, K env m → K' env m) : ∀ {l : List (Nat × Rec)} {env : Env} {m : Mem}, Ch l env m K → Ch l env m K'
  | [], _, _, h => hk _ _ h
  | (_, _) :: _, _, _, h => ⟨h.1, h.2.1, Ch.mono hk h.2.2⟩

theorem eq_closed (env1 : Env) (m1 : Mem) : Closed fun e m => EqS e m env1 m1 :=
  fun env m env' m' h k => ⟨fun t => by rw [← h.e, k.e], fun t => by rw [← h.m, k.m]⟩

theorem awpD_ok (hT : TOK P T) {ops : Array Oper} {K : Env → Mem → Prop} : ∀ (rest : List Oper) (i : Nat) (env env' : Env) (m m' : Mem) (recs : List (Nat × Rec)) (env0 : Env) (m0 : Mem),
    (∀ j, rest[j]? = ops[i + j]?) → awpD P T G n ops rest i env m recs K → EqS env' m' env m → Ch recs.reverse env0 m0 (fun e m => EqS e m env' m') → (∀ x ∈ recs, RecOK P G n ops x.1 x.2) → recs.reverse.map (·.1) = List.range i →
    ∃ (l : List (Nat × Rec)) (env1 : Env) (m1 : Mem), K env1 m1 ∧ Ch l env0 m0 (fun e m => EqS e m env1 m1) ∧ (∀ x ∈ l, RecOK P G n ops x.1 x.2) ∧ l.map (·.1) = List.range (i + rest.length) ∧ okFast ops l.reverse = true
  | [], i, env, env', m, m', recs, env0, m0, hr, h, heq, hch, hok, hidx => by
    obtain ⟨h1, h2⟩ := h
    refine ⟨recs.reverse, env, m, h2, Ch.mono (fun e m h => ⟨fun t => by rw [h.e, heq.e], fun t => by rw [h.m, heq.m]⟩) hch, fun x hx => hok x (by simpa using hx), by simpa using hidx, by simpa using h1⟩
  | o :: rest, i, env, env', m, m', recs, env0, m0, hr, h, heq, hch, hok, hidx => by
    have ho : ops[i]? = some o := by simpa using (hr 0).symm
    simp only [awpD_cons, awpDS, getEK_eq, getMK_eq, Rec.goK_eq] at h
    obtain ⟨hd, h⟩ := bif_true h
    have hr' : ∀ j, rest[j]? = ops[i + 1 + j]? := fun j => by
      have := hr (j + 1)
      rw [show i + (j + 1) = i + 1 + j by omega] at this
      simpa using this
    have hnext : ∀ (c : Rec) (envG : Env), (∀ t, lk t envG = lk t env) → RecOK P G n ops i c → Sub c.oe env → Sub c.om m → awpD P T G n ops rest (i + 1) (c.env envG) (c.mem m) ((i, c) :: recs) K →
        ∃ (l : List (Nat × Rec)) (env1 : Env) (m1 : Mem), K env1 m1 ∧ Ch l env0 m0 (fun e m => EqS e m env1 m1) ∧ (∀ x ∈ l, RecOK P G n ops x.1 x.2) ∧ l.map (·.1) = List.range (i + (o :: rest).length) ∧ okFast ops l.reverse = true := by
      intro c envG hG hc hs1 hs2 hrun
      have h2 : EqS (c.env env') (c.mem m') (c.env envG) (c.mem m) := EqS.step ⟨fun t => by rw [heq.e, hG], heq.m⟩ c
      obtain ⟨l, env1, m1, g1, g2, g3, g4, g5⟩ := awpD_ok hT rest (i + 1) _ (c.env env') _ (c.mem m') ((i, c) :: recs) env0 m0 hr' hrun h2 (by
          rw [List.reverse_cons]
          refine Ch.append (Ch.mono (fun e m3 he => ?_) hch)
          refine ⟨fun t p e2 => by rw [he.e, heq.e]; exact hs1 t p e2, fun t p e2 => by rw [he.m, heq.m]; exact hs2 t p e2, ?_⟩
          exact he.step c)
        (fun x hx => by rcases List.mem_cons.1 hx with rfl | hx; exact hc; exact hok x hx)
        (by simp only [List.reverse_cons, List.map_append, hidx, List.map_cons, List.map_nil]; rw [List.range_succ])
      exact ⟨l, env1, m1, g1, g2, g3, by rw [g4]; congr 1; simp; omega, g5⟩
    have hrec : ∀ (c : Rec), c.dst = o.dst → StepR P G o c → (∀ (σ : Gh) (a : Act), EnvOK σ c.oe a → Region.wanted o (yielded ops a.tmps) = true) → RecOK P G n ops i c := by
      intro c hcd hs hw env m hs1 hs2
      have := stepI_of (n := n) ho (fun σ a he => hw σ a (he.sub hs1)) (hs env m hs1 hs2) hd
      rw [← hcd] at this
      exact this
    split at h
    · rename_i hg
      obtain ⟨c, c1, c2, c3, c4, hrun⟩ := aRec_ok hT h
      refine hnext c env (fun _ => rfl) (hrec c c1 c4 fun σ a _ => by simp [Region.wanted, hg]) ?_ ?_ hrun
      · rw [c2]; exact getE_sub env _
      · rw [c3]; exact getM_sub _ m _ _
    · rename_i j want hg
      split at h
      · rename_i t ht
        split at h
        · rename_i b hb
          have hwant : ∀ (b : Bool) (σ : Gh) (a : Act) (oe : Env), lk t oe = some (condR b) → EnvOK σ oe a → Region.wanted o (yielded ops a.tmps) = (b == want) := by
            intro b σ a oe hl he
            obtain ⟨v, hv, hr⟩ := he.v t _ hl
            have hvb := rel_bool hr
            subst hvb
            have hy : yielded ops a.tmps j = some b := by simp [yielded, ht, hv]
            simp [Region.wanted, hg, hy]
          rcases condG.out h with ⟨e, h2⟩ | ⟨e, h2⟩
          · subst e
            have hG : ∀ u, lk u ((t, condR b) :: env) = lk u env := fun u => by
              by_cases hu : u = t
              · subst hu; rw [lk_cons_self, hb]; rfl
              · rw [lk_cons_other hu]
            obtain ⟨c, c1, c2, c3, c4, hrun⟩ := aRec_ok hT h2
            have hlt : lk t c.oe = some (condR b) := by
              rw [c2]
              simp only [getE, lk_cons_self]
            refine hnext c _ hG (hrec c c1 c4 fun σ a he => by rw [hwant b σ a c.oe hlt he]; simp) ?_ ?_ hrun
            · rw [c2]
              intro u p hu
              rw [← hG u]; exact getE_sub _ _ u p hu
            · rw [c3]; exact getM_sub _ m _ _
          · subst e
            have hG : ∀ u, lk u ((t, condR (!want)) :: env) = lk u env := fun u => by
              by_cases hu : u = t
              · subst hu; rw [lk_cons_self, hb]; rfl
              · rw [lk_cons_other hu]
            refine hnext ⟨o.dst, [(t, condR (!want))], [], .tup [], [], []⟩ _ hG ?_ ?_ (fun u p hu => by cases hu) h2
            · intro env m hs1 hs2
              have := stepI_skip (P := P) (G := G) (n := n) (env := env) (m := m) ho (fun σ a he => by
                rw [hwant (!want) σ a env (hs1 t _ (lk_cons_self ..)) he]; cases want <;> rfl) hd
              exact this
            · intro u p hu
              by_cases hut : u = t
              · subst hut; rw [lk_cons_self] at hu; cases hu; exact hb
              · rw [lk_cons_other hut] at hu; cases hu
        · rename_i hb
          refine hnext ⟨o.dst, [(t, .tup [])], [], .tup [], [], []⟩ env (fun _ => rfl) ?_ ?_ (fun u p hu => by cases hu) h
          · intro env m hs1 hs2
            have := stepI_skip (P := P) (G := G) (n := n) (env := env) (m := m) ho (fun σ a he => by
              obtain ⟨v, hv, hr⟩ := he.v t _ (hs1 t _ (lk_cons_self ..))
              have hvb := rel_tup0 hr
              subst hvb
              have hy : yielded ops a.tmps j = none := by simp [yielded, ht, hv]
              simp [Region.wanted, hg, hy]) hd
            exact this
          · intro u p hu
            by_cases hut : u = t
            · subst hut; rw [lk_cons_self] at hu; cases hu; exact hb
            · rw [lk_cons_other hut] at hu; cases hu
        · exact h.elim
      · exact h.elim

/-- The rule for a region that draws its order. -/
theorem drawW (hT : TOK P T) {id : Nat} {ops : Array Oper} {env : Env} {m : Mem} {Q : EQ} (hchk : drawChk ops = true) (h : awpD P T G n ops ops.toList 0 env m [] (Q .normal)) : DrawW P G n id ops env m Q := by
  intro R σ a w he hj hn
  refine wp_region_draw fun t => ?_
  obtain ⟨l, env1, m1, g1, g2, g3, g4, g5⟩ := awpD_ok hT ops.toList 0 env env m m [] env m (fun j => by simp) h ⟨fun _ => rfl, fun _ => rfl⟩ ⟨fun _ => rfl, fun _ => rfl⟩ (by simp) (by simp)
  obtain ⟨hlin, hperm⟩ := schedule_lin hchk (P.follows .mixedOrders) t
  have hpair : l.Pairwise fun y x => (∃ f, reach ops f x.1 y.1 = true) ∨ indep y.2 x.2 = true := by
    have := okFast_pairwise g5
    rw [List.pairwise_reverse] at this
    exact this
  refine run_lin (n := n) (reach_ok ops) (eq_closed env1 m1) (R := R) (fun σ e m2 a w hk he hj hn => ?_) _ l [] env m (by rw [g4]; simpa using hperm) (by rw [g4]; exact List.nodup_range) (by simp) (by simp) hlin g3 hpair g2 σ a w.drew he hj.drew hn
  exact ⟨σ, env1, m1, g1, he.sub fun t p e => by rw [hk.e]; exact e, hj.sub fun t p e => by rw [hk.m]; exact e, hn⟩

end
end Go.Kn
