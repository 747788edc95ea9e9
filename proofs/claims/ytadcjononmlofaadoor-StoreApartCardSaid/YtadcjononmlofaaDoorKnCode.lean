/- Kn, part 12: code: regions, branches, blocks, loops, and a function's contract out of its body. No program here. -/
import Derived.Test.YtadcjononmlofaaDoorKnAwp2
set_option autoImplicit false
namespace Go.Kn
open Go

abbrev EQ := Exit → Env → Mem → Prop

/-- The concrete postcondition that stands for an abstract one. -/
def QQ (G : Gl) (n : Nat) (R : Ent) (Q : EQ) : Exit → Act → World → Prop :=
  fun e a w => ∃ σ env m, Q e env m ∧ EnvOK σ env a ∧ J G R σ m w ∧ a.tmps.size = n

/-- Code, begun in the state (env, m), comes to Q. -/
def CW (P : Program) (G : Gl) (n : Nat) (c : Code) (env : Env) (m : Mem) (Q : EQ) : Prop :=
  ∀ (R : Ent) (σ : Gh) (a : Act) (w : World), EnvOK σ env a → J G R σ m w → a.tmps.size = n → c.wp P (QQ G n R Q) a w

def dstOK (n : Nat) (d : Option Tmp) : Bool :=
  match d with
  | some d => Nat.blt d n && Nat.blt d 1000
  | none => true

def condG (want b : Bool) (A B : Prop) : Prop :=
  match want with
  | true => condP b A B
  | false => condP b B A

theorem condG.out {want b : Bool} {A B : Prop} (h : condG want b A B) : (b = want ∧ A) ∨ (b = !want ∧ B) := by
  cases want <;> cases b <;> simp only [condG, condP] at h <;> first | exact .inl ⟨rfl, h⟩ | exact .inr ⟨rfl, h⟩

def putK (env : Env) (dst : Option Tmp) (r : PV) (K : Env → Prop) : Prop :=
  match dst with
  | some d => K ((d, r) :: env)
  | none => K env

theorem putK_eq (env : Env) (dst : Option Tmp) (r : PV) (K : Env → Prop) : putK env dst r K = K (put env dst r) := by cases dst <;> rfl

def awpOpsN : Env → Mem → (Env → Mem → Prop) → Prop := fun env m K => K env m

def awpOpsS (P : Program) (T : Ty) (G : Gl) (n : Nat) (all : List Oper) (o : Oper) (ih : Env → Mem → (Env → Mem → Prop) → Prop) : Env → Mem → (Env → Mem → Prop) → Prop := fun env m K =>
    bif dstOK n o.dst then
      (match o.guard with
      | none => aop P T G o env m fun r env1 m1 => putK env1 o.dst r fun env2 => ih env2 m1 K
      | some (j, want) => match (all[j]?).bind (·.dst) with
        | some t => match lk t env with
          | some (.i (.bool b)) => condG want b
              (aop P T G o ((t, .i (.bool want)) :: env) m fun r env1 m1 => putK env1 o.dst r fun env2 => ih env2 m1 K)
              (putK ((t, .i (.bool (!want))) :: env) o.dst (.tup []) fun env2 => ih env2 m K)
          | some (.tup []) => putK env o.dst (.tup []) fun env2 => ih env2 m K
          | _ => False
        | none => False)
    else False

/-- By the recursor itself: what the two unfold is the same term. -/
noncomputable def awpOps (P : Program) (T : Ty) (G : Gl) (n : Nat) (all : List Oper) (l : List Oper) : Env → Mem → (Env → Mem → Prop) → Prop :=
  @List.rec Oper (fun _ => Env → Mem → (Env → Mem → Prop) → Prop) awpOpsN (fun o _ ih => awpOpsS P T G n all o ih) l

theorem awpOps_nil (P : Program) (T : Ty) (G : Gl) (n : Nat) (all : List Oper) (env : Env) (m : Mem) (K : Env → Mem → Prop) : awpOps P T G n all [] env m K = K env m := rfl
theorem awpOps_cons (P : Program) (T : Ty) (G : Gl) (n : Nat) (all : List Oper) (o : Oper) (rest : List Oper) (env : Env) (m : Mem) (K : Env → Mem → Prop) :
    awpOps P T G n all (o :: rest) env m K = awpOpsS P T G n all o (awpOps P T G n all rest) env m K := rfl

section
variable {P : Program} {T : Ty} {G : Gl} {n : Nat}

theorem EnvOK.cons {σ : Gh} {env : Env} {a : Act} {t : Nat} {p : PV} (h : EnvOK σ env a) (e : lk t env = some p) : EnvOK σ ((t, p) :: env) a := by
  refine ⟨h.d, fun u q e' => ?_⟩
  by_cases hu : u = t
  · subst hu; rw [lk_cons_self] at e'; cases e'; exact h.v u _ e
  · rw [lk_cons_other hu] at e'; exact h.v u q e'

theorem step_wpList {o : Oper} {env env1 : Env} {m m1 : Mem} {r : PV} (hs : Step P G o env m r env1 m1) (hd : dstOK n o.dst = true) {R : Ent} {σ : Gh} {a : Act} {w : World}
    (he : EnvOK σ env a) (hj : J G R σ m w) (hn : a.tmps.size = n) {next : Act → World → Prop} {Q : Exit → Act → World → Prop}
    (k : ∀ (σ' : Gh) (a' : Act) (w' : World), EnvOK σ' (put env1 o.dst r) a' → J G R σ' m1 w' → a'.tmps.size = n → next a' w') : o.wp P a w next Q := by
  have hlt : ∀ d, o.dst = some d → d < n ∧ d < 1000 := fun d e => by
    rw [e] at hd
    simp only [dstOK, Bool.and_eq_true, Nat.blt_eq] at hd
    exact hd
  refine hs R σ a w he hj (fun d e => (hlt d e).2) next Q fun σ' v w' hr he' hj' => k σ' _ w' (he'.put hr fun d e => ?_) hj' (by rw [Act.put_size]; exact hn)
  rw [hn]; exact (hlt d e).1

theorem rel_undef (σ : Gh) : RelP σ (.tup []) undef := .tup [] [] rfl (by simp)
theorem rel_tup0 {σ : Gh} {v : Value} (r : RelP σ (.tup []) v) : v = .tuple #[] := by
  cases r with | tup _ vs hl _ =>
  cases vs with
  | nil => rfl
  | cons => simp at hl

theorem awpOps_ok (hT : TOK P T) {ops : Array Oper} {Q : Exit → Act → World → Prop} {R : Ent} {K : Env → Mem → Prop} (hK : ∀ (σ : Gh) (env : Env) (m : Mem) (a : Act) (w : World), K env m → EnvOK σ env a → J G R σ m w → a.tmps.size = n → Q .normal a w) :
    ∀ (l : List Oper) (env : Env) (m : Mem), awpOps P T G n ops.toList l env m K → ∀ (σ : Gh) (a : Act) (w : World), EnvOK σ env a → J G R σ m w → a.tmps.size = n → wpList P ops Q l a w
  | [], env, m, h, σ, a, w, he, hj, hn => hK σ env m a w h he hj hn
  | o :: rest, env, m, h, σ, a, w, he, hj, hn => by
    simp only [awpOps_cons, awpOpsS, putK_eq] at h
    obtain ⟨hd, h⟩ := bif_true h
    unfold wpList
    split at h
    · rename_i hg
      rw [if_pos (by simp [Region.wanted, hg])]
      left
      obtain ⟨r, env1, m1, hs, h⟩ := aop_ok hT h
      exact step_wpList hs hd he hj hn fun σ' a' w' he' hj' hn' => awpOps_ok hT hK rest _ _ h σ' a' w' he' hj' hn'
    · rename_i j want hg
      split at h
      · rename_i t ht
        split at h
        · rename_i b hb
          obtain ⟨v, hv, hr⟩ := he.v t _ hb
          have hvb := rel_bool hr
          subst hvb
          have hy : yielded ops a.tmps j = some b := by
            have h1 : (ops[j]?).bind (·.dst) = some t := by rw [← ht]; simp
            simp [yielded, h1, hv]
          rcases condG.out h with ⟨e, h2⟩ | ⟨e, h2⟩
          · subst e
            rw [if_pos (by simp [Region.wanted, hg, hy])]
            left
            obtain ⟨r, env1, m1, hs, h⟩ := aop_ok hT h2
            exact step_wpList hs hd (he.cons hb) hj hn fun σ' a' w' he' hj' hn' => awpOps_ok hT hK rest _ _ h σ' a' w' he' hj' hn'
          · subst e
            rw [if_neg (by simp [Region.wanted, hg, hy])]
            refine awpOps_ok hT hK rest _ _ h2 σ _ w ((he.cons hb).put (rel_undef σ) fun d e => ?_) hj (by rw [Act.put_size]; exact hn)
            rw [hn]
            rw [e] at hd
            simp only [dstOK, Bool.and_eq_true, Nat.blt_eq] at hd
            exact hd.1
        · rename_i hb
          obtain ⟨v, hv, hr⟩ := he.v t _ hb
          have hvb := rel_tup0 hr
          subst hvb
          have hy : yielded ops a.tmps j = none := by
            have h1 : (ops[j]?).bind (·.dst) = some t := by rw [← ht]; simp
            simp [yielded, h1, hv]
          rw [if_neg (by simp [Region.wanted, hg, hy])]
          refine awpOps_ok hT hK rest _ _ h σ _ w (he.put (rel_undef σ) fun d e => ?_) hj (by rw [Act.put_size]; exact hn)
          rw [hn]
          rw [e] at hd
          simp only [dstOK, Bool.and_eq_true, Nat.blt_eq] at hd
          exact hd.1
        · exact h.elim
      · exact h.elim

/-! ## Code -/
/-- A loop, as a whole: opened by 'loopW'. -/
def LoopW (P : Program) (G : Gl) (n : Nat) (c : Code) (env : Env) (m : Mem) (Q : EQ) : Prop := CW P G n (.loop c) env m Q

/-- A region that draws its order: opened by 'drawW'. -/
def DrawW (P : Program) (G : Gl) (n : Nat) (id : Nat) (ops : Array Oper) (env : Env) (m : Mem) (Q : EQ) : Prop := CW P G n (.region id ops true) env m Q

abbrev CP := EQ → Env → Mem → Prop

def cNormal : CP := fun Q env m => Q .normal env m
def cRet : CP := fun Q env m => Q .ret env m
def cExit (id : Nat) : CP := fun Q env m => Q (.exit id) env m
def cFalse : CP := fun _ _ _ => False
def cSeq (a b : CP) : CP := fun Q env m => a (fun e env m => match e with
    | .normal => b Q env m
    | e => Q e env m) env m
def cCond (G : Gl) (c : Operand) (a b : CP) : CP := fun Q env m => withO (evalO G env c) fun p => match p with
    | .i (.bool t) => condP t (a Q env m) (b Q env m)
    | _ => False
def cBlock (id : Nat) (c : CP) : CP := fun Q env m => c (fun e env m => match e with
    | .exit id' => bif Nat.beq id' id then Q .normal env m else Q (.exit id') env m
    | e => Q e env m) env m
noncomputable def cRegion (P : Program) (T : Ty) (G : Gl) (n : Nat) (id : Nat) (ops : Array Oper) (d : Bool) : CP := fun Q env m => match d with
    | false => awpOps P T G n ops.toList ops.toList env m (Q .normal)
    | true => DrawW P G n id ops env m Q
def cLoop (P : Program) (G : Gl) (n : Nat) (c : Code) : CP := fun Q env m => LoopW P G n c env m Q

noncomputable def awpC (P : Program) (T : Ty) (G : Gl) (n : Nat) (c : Code) : CP :=
  @Code.rec (fun _ => CP) cNormal (fun id ops d => cRegion P T G n id ops d) (fun _ _ a b => cSeq a b) (fun c _ _ a b => cCond G c a b) (fun id _ c => cBlock id c) (fun c _ => cLoop P G n c)
    (fun _ _ _ _ _ _ => cFalse) (fun id => cExit id) (fun _ _ => cFalse) (fun _ => cNormal) (fun _ => cFalse) cRet (fun _ => cFalse) c

section
variable (P : Program) (T : Ty) (G : Gl) (n : Nat) (Q : EQ) (env : Env) (m : Mem)
theorem awpC_seq (a b : Code) : awpC P T G n (.seq a b) Q env m = awpC P T G n a (fun e env m => match e with
    | .normal => awpC P T G n b Q env m
    | e => Q e env m) env m := rfl
theorem awpC_cond (c : Operand) (a b : Code) : awpC P T G n (.cond c a b) Q env m = withO (evalO G env c) fun p => match p with
    | .i (.bool t) => condP t (awpC P T G n a Q env m) (awpC P T G n b Q env m)
    | _ => False := rfl
theorem awpC_block (id : Nat) (c : Code) : awpC P T G n (.block id c) Q env m = awpC P T G n c (fun e env m => match e with
    | .exit id' => bif Nat.beq id' id then Q .normal env m else Q (.exit id') env m
    | e => Q e env m) env m := rfl
theorem awpC_region (id : Nat) (ops : Array Oper) (d : Bool) : awpC P T G n (.region id ops d) Q env m = match d with
    | false => awpOps P T G n ops.toList ops.toList env m (Q .normal)
    | true => DrawW P G n id ops env m Q := rfl
end

theorem CW.mono {c : Code} {env : Env} {m : Mem} {Q Q' : EQ} (h : CW P G n c env m Q) (hq : ∀ e env m, Q e env m → Q' e env m) : CW P G n c env m Q' := by
  intro R σ a w he hj hn
  refine wp_mono (h R σ a w he hj hn) ?_
  rintro e a w ⟨σ, env, m, q, r⟩
  exact ⟨σ, env, m, hq _ _ _ q, r⟩

theorem awpC_ok (hT : TOK P T) : ∀ (c : Code) (Q : EQ) (env : Env) (m : Mem), awpC P T G n c Q env m → CW P G n c env m Q
  | .skip, Q, env, m, h => fun R σ a w he hj hn => wp_skip ⟨σ, env, m, h, he, hj, hn⟩
  | .label _, Q, env, m, h => fun R σ a w he hj hn => wp_label ⟨σ, env, m, h, he, hj, hn⟩
  | .ret, Q, env, m, h => fun R σ a w he hj hn => wp_ret ⟨σ, env, m, h, he, hj, hn⟩
  | .exit id, Q, env, m, h => fun R σ a w he hj hn => wp_exit ⟨σ, env, m, h, he, hj, hn⟩
  | .seq c d, Q, env, m, h => fun R σ a w he hj hn => by
    simp only [awpC_seq] at h
    refine wp_seq (wp_mono (awpC_ok hT c _ env m h R σ a w he hj hn) ?_)
    rintro e a w ⟨σ, env, m, q, he, hj, hn⟩
    cases e with
    | normal => exact awpC_ok hT d Q env m q R σ a w he hj hn
    | _ => exact ⟨σ, env, m, q, he, hj, hn⟩
  | .cond x c d, Q, env, m, h => fun R σ a w he hj hn => by
    simp only [awpC_cond] at h
    obtain ⟨p, hp, h⟩ := withO.out h
    split at h
    · rename_i t
      have hb := rel_bool (evalO_rel he hj hp)
      refine wp_cond hb ?_
      rcases condP.out h with ⟨rfl, h⟩ | ⟨rfl, h⟩
      · exact awpC_ok hT c Q env m h R σ a w he hj hn
      · exact awpC_ok hT d Q env m h R σ a w he hj hn
    · exact h.elim
  | .block id c, Q, env, m, h => fun R σ a w he hj hn => by
    simp only [awpC_block] at h
    refine wp_block (wp_mono (awpC_ok hT c _ env m h R σ a w he hj hn) ?_)
    rintro e a w ⟨σ, env, m, q, he, hj, hn⟩
    cases e with
    | exit id' =>
      simp only [Exit.inBlock]
      by_cases hid : id' = id
      · subst hid
        simp only [Nat.beq_refl, cond_true] at q
        rw [if_pos rfl]
        exact ⟨σ, env, m, q, he, hj, hn⟩
      · rw [if_neg hid]
        simp only [beq_ne hid, cond_false] at q
        exact ⟨σ, env, m, q, he, hj, hn⟩
    | _ => exact ⟨σ, env, m, q, he, hj, hn⟩
  | .region id ops d, Q, env, m, h => fun R σ a w he hj hn => by
    cases d with
    | false =>
      simp only [awpC_region] at h
      exact wp_region_list (awpOps_ok hT (K := Q .normal) (fun σ env m a w q he hj hn => ⟨σ, env, m, q, he, hj, hn⟩) _ env m h σ a w he hj hn)
    | true =>
      simp only [awpC_region] at h
      exact h R σ a w he hj hn
  | .loop c, Q, env, m, h => h
  | .scope c, Q, env, m, h => h.elim
  | .rangeFunc .., Q, env, m, h => h.elim
  | .goto _, Q, env, m, h => h.elim
  | .refuse _, Q, env, m, h => h.elim

/-! ## Loops -/
theorem least {p : Nat → Prop} {k : Nat} (h : p k) : ∃ j, p j ∧ ∀ i, p i → j ≤ i := by
  induction k using Nat.strongRecOn with
  | _ k ih =>
    by_cases hk : ∃ i, i < k ∧ p i
    · obtain ⟨i, hi, hp⟩ := hk
      exact ih i hi hp
    · exact ⟨k, h, fun i hi => Nat.le_of_not_lt fun hlt => hk ⟨i, hlt, hi⟩⟩

theorem wp_loop_count {c : Code} {Q : Exit → Act → World → Prop} (I : Nat → Act → World → Prop) {k : Nat} {a : Act} {w : World} (h0 : I k a w)
    (round : ∀ k a w, I k a w → c.wp P (Exit.then (fun a' w' => ∃ j, j < k ∧ I j a' w') Q) a w) : (Code.loop c).wp P Q a w := by
  classical
  let μ : Act → World → Nat := fun a w => if h : ∃ k, I k a w then Classical.choose (least (p := fun k => I k a w) (Classical.choose_spec h)) else 0
  have hμ : ∀ a w k, I k a w → I (μ a w) a w ∧ μ a w ≤ k := fun a w k hk => by
    have hex : ∃ k, I k a w := ⟨k, hk⟩
    have hs := Classical.choose_spec (least (p := fun k => I k a w) (Classical.choose_spec hex))
    simp only [μ, dif_pos hex]
    exact ⟨hs.1, hs.2 k hk⟩
  refine wp_loop (fun a w => ∃ k, I k a w) μ ⟨k, h0⟩ ?_
  rintro a w ⟨k, hk⟩
  refine wp_mono (round (μ a w) a w (hμ a w k hk).1) ?_
  intro e a' w' q
  cases e with
  | normal =>
    obtain ⟨j, hj, hI⟩ := q
    exact ⟨⟨j, hI⟩, Nat.lt_of_le_of_lt (hμ a' w' j hI).2 hj⟩
  | _ => exact q

/-- One value may be taken for another: it says no more. -/
inductive PLe : PV → PV → Prop where
  | refl (p : PV) : PLe p p
  | tok (k s : Nat) (l : List IV) : PLe (.tok k s l) (.i (.slice l))
  | full (l : List IV) : PLe (.full l) (.i (.slice l))
  | dead (p : PV) : PLe p .dead

theorem PLe.rel {σ : Gh} {p q : PV} {v : Value} (h : PLe p q) (r : RelP σ p v) : RelP σ q v := by
  cases h with
  | refl => exact r
  | tok k s l => cases r; exact .i _ _ ‹_›
  | full l => cases r; exact .i _ _ ‹_›
  | dead p => exact .dead v

/-- The state (env, m) may be taken for (env', m'). -/
structure SLe (env : Env) (m : Mem) (env' : Env) (m' : Mem) : Prop where
  e : ∀ x ∈ env', ∃ p, lk x.1 env = some p ∧ PLe p x.2
  m : ∀ x ∈ m', lk x.1 m = some x.2

theorem EnvOK.le {σ : Gh} {env env' : Env} {a : Act} (h : EnvOK σ env a) (hl : ∀ x ∈ env', ∃ p, lk x.1 env = some p ∧ PLe p x.2) : EnvOK σ env' a := by
  refine ⟨h.d, fun t p e => ?_⟩
  obtain ⟨q, h1, h2⟩ := hl _ (lk_mem e)
  obtain ⟨v, hv, r⟩ := h.v t q h1
  exact ⟨v, hv, h2.rel r⟩

theorem J.le {R : Ent} {σ : Gh} {m m' : Mem} {w : World} (h : J G R σ m w) (hl : ∀ x ∈ m', lk x.1 m = some x.2) : J G R σ m' w where
  inv := ⟨h.inv.hh, fun k o e => h.inv.obj k o (hl _ (lk_mem e)), fun k k' o o' b lo hi b' lo' hi' e e' => h.inv.dis k k' o o' b lo hi b' lo' hi' (hl _ (lk_mem e)) (hl _ (lk_mem e'))⟩
  glob := h.glob
  hm := h.hm
  os := h.os
  tape := h.tape
  out := h.out
  sz := h.sz
  old := h.old
  hn := h.hn
  own := fun k o b lo hi e => h.own k o b lo hi (hl _ (lk_mem e))
  kp := h.kp
  kn := fun k o L e1 e2 e3 => h.kn k o L e1 (hl _ (lk_mem e2)) e3

theorem CW.weak {c : Code} {env env' : Env} {m m' : Mem} {Q : EQ} (hl : SLe env m env' m') (h : CW P G n c env' m' Q) : CW P G n c env m Q :=
  fun R σ a w he hj hn => h R σ a w (he.le hl.e) (hj.le hl.m) hn

/-- The loop rule: I k env m: with k as a bound for the rounds. -/
theorem loopW {c : Code} {env : Env} {m : Mem} {Q : EQ} (I : Nat → Env → Mem → Prop) (k : Nat) {env0 : Env} {m0 : Mem} (hl : SLe env m env0 m0) (h0 : I k env0 m0)
    (round : ∀ k env m, I k env m → CW P G n c env m (fun e env' m' => match e with
      | .normal => ∃ j env1 m1, j < k ∧ SLe env' m' env1 m1 ∧ I j env1 m1
      | e => Q e env' m')) : LoopW P G n c env m Q := by
  refine CW.weak hl ?_
  intro R σ a w he hj hn
  refine wp_loop_count (fun k a w => ∃ σ env m, I k env m ∧ EnvOK σ env a ∧ J G R σ m w ∧ a.tmps.size = n) ⟨σ, env0, m0, h0, he, hj, hn⟩ ?_
  rintro k a w ⟨σ, env, m, hI, he, hj, hn⟩
  refine wp_mono (round k env m hI R σ a w he hj hn) ?_
  rintro e a w ⟨σ, env, m, q, he, hj, hn⟩
  cases e with
  | normal =>
    obtain ⟨j, env1, m1, hlt, hle, hI⟩ := q
    exact ⟨j, hlt, σ, env1, m1, hI, he.le hle.e, hj.le hle.m, hn⟩
  | _ => exact ⟨σ, env, m, q, he, hj, hn⟩

/-! ## A function's contract -/
def envArgs : Nat → List PV → Env
  | _, [] => []
  | k, p :: r => (k, p) :: envArgs (k + 1) r

theorem envArgs_lk : ∀ {ps : List PV} {k t : Nat} {p : PV}, lk t (envArgs k ps) = some p → k ≤ t ∧ ps[t - k]? = some p
  | [], k, t, p, h => by cases h
  | q :: r, k, t, p, h => by
    simp only [envArgs, lk] at h
    cases hb : Nat.beq k t with
    | true =>
      rw [hb] at h
      cases h
      have := Nat.eq_of_beq_eq_true hb
      subst this
      exact ⟨Nat.le_refl _, by simp⟩
    | false =>
      rw [hb] at h
      obtain ⟨h1, h2⟩ := envArgs_lk (k := k + 1) h
      refine ⟨by omega, ?_⟩
      rw [show t - k = (t - (k + 1)) + 1 by omega]
      simpa using h2

def resultOf (T : Ty) (env : Env) (m : Mem) : ResultVar → Option PV
  | .tmp t => lk t env
  | .cell a t => match lk a env with
    | some (.ptr k 0) => match lk t T.t with
      | some ti => match lk k m with
        | some (.var cells) => bif isAggD ti.d then
            (match ivs? (cells.take ti.size) with
            | some cs => bif Nat.beq cs.length ti.size then some (.i (.agg cs)) else none
            | none => none)
          else cells[0]?
        | _ => none
      | none => none
    | _ => none

def resultsOf (T : Ty) (env : Env) (m : Mem) : List ResultVar → Option (List PV)
  | [] => some []
  | x :: r => match resultOf T env m x with
    | none => none
    | some p => match resultsOf T env m r with
      | none => none
      | some l => some (p :: l)

/-- What a call's result is, as one immutable value. -/
def packI : List PV → Option IV
  | [p] => iv? p
  | ps => match ivs? ps with
    | some xs => some (.tup xs)
    | none => none

/-- The end of a function that only computes: it returns x. -/
def retI (T : Ty) (rs : List ResultVar) (x : IV) : EQ := fun e env m =>
  match e with
  | .normal => match resultsOf T env m rs with
    | some ps => packI ps = some x
    | none => False
  | .ret => match resultsOf T env m rs with
    | some ps => packI ps = some x
    | none => False
  | _ => False

def rvRun (tmps : Array Value) : ResultVar → Sem Value
  | .tmp t => pure (tmps.getD t undef)
  | .cell b t => do loadVar t (← asAddr (tmps.getD b undef))

theorem resultOf_run (hT : TOK P T) {R : Ent} {σ : Gh} {env : Env} {m : Mem} {a : Act} {w : World} (he : EnvOK σ env a) (hj : J G R σ m w) {x : ResultVar} {p : PV} (h : resultOf T env m x = some p) :
    ∃ v, RelP σ p v ∧ (rvRun a.tmps x).run P w = .ok v w := by
  cases x with
  | tmp t =>
    obtain ⟨v, hv, r⟩ := he.v t p h
    exact ⟨v, r, by simp [rvRun, Array.getD_eq_getD_getElem?, hv]⟩
  | cell b t =>
    simp only [resultOf] at h
    split at h
    · rename_i k hk
      split at h
      · rename_i ti hti
        have T1 := hT _ _ hti
        split at h
        · rename_i cells hm
          have hopt : ∃ o : Oper, o.op = .load t (.tmp b) := ⟨{ (default : Oper) with op := .load t (.tmp b) }, rfl⟩
          obtain ⟨o, ho⟩ := hopt
          have hsv : SV P G o env m p := by
            cases ha : isAggD ti.d with
            | true =>
              simp only [ha, cond_true] at h
              split at h
              · rename_i cs hcs
                cases hb : Nat.beq cs.length ti.size with
                | false => rw [hb] at h; cases h
                | true => rw [hb] at h; cases h; exact step_load_agg T1 ha ho hk hm (by simpa using hcs) (Nat.eq_of_beq_eq_true hb)
              · cases h
            | false =>
              simp only [ha, cond_false] at h
              exact step_load_one T1 ha ho hk hm h
          obtain ⟨v, hv, hr⟩ := hsv R σ a w he hj
          refine ⟨v, hv, ?_⟩
          obtain ⟨u, hu, ru⟩ := he.v b _ hk
          cases ru with | ptr _ _ L hL =>
          simp only [execOp, ho, Instr.loadAt, Act.eval, Array.getD_eq_getD_getElem?, hu, Option.getD_some, Instr.sureAddr, Sem.run_bind, Sem.run_pure, Result.andThen_ok] at hr
          simp only [rvRun, Array.getD_eq_getD_getElem?, hu, Option.getD_some, asAddr, Sem.run_bind, Sem.run_pure, Result.andThen_ok]
          revert hr
          cases (loadVar t { block := L.1, off := L.2.1 + 0, spot := none }).run P w with
          | ok u' w' => intro hr; simp at hr; simp [hr]
          | halt x w' => intro hr; simp at hr
        · cases h
      · cases h
    · cases h

theorem resultsOf_run (hT : TOK P T) {R : Ent} {σ : Gh} {env : Env} {m : Mem} {a : Act} {w : World} (he : EnvOK σ env a) (hj : J G R σ m w) : ∀ {rs : List ResultVar} {ps : List PV}, resultsOf T env m rs = some ps →
    ∃ vs : List Value, RelPs σ ps vs ∧ (rs.mapM (rvRun a.tmps)).run P w = .ok vs w
  | [], ps, h => by simp only [resultsOf] at h; cases h; exact ⟨[], ⟨rfl, fun i p v e => by simp at e⟩, by simp⟩
  | x :: r, ps, h => by
    simp only [resultsOf] at h
    cases e1 : resultOf T env m x with
    | none => rw [e1] at h; cases h
    | some p =>
      simp only [e1] at h
      cases e2 : resultsOf T env m r with
      | none => rw [e2] at h; cases h
      | some l =>
        rw [e2] at h
        cases h
        obtain ⟨v, hv, hr⟩ := resultOf_run hT he hj e1
        obtain ⟨vs, hvs, hrs⟩ := resultsOf_run hT he hj e2
        refine ⟨v :: vs, ⟨by simp [hvs.1], fun i q u h1 h2 => ?_⟩, ?_⟩
        · cases i with
          | zero => simp at h1 h2; subst h1; subst h2; exact hv
          | succ i => exact hvs.2 i q u (by simpa using h1) (by simpa using h2)
        · simp only [List.mapM_cons, Sem.run_bind]
          rw [hr]
          simp only [Result.andThen_ok]
          rw [hrs]
          simp

def packV : List Value → Value
  | [v] => v
  | vs => .tuple vs.toArray

theorem results_run (hT : TOK P T) {fn : Func} {R : Ent} {σ : Gh} {env : Env} {m : Mem} {a : Act} {w : World} (he : EnvOK σ env a) (hj : J G R σ m w) {ps : List PV} (h : resultsOf T env m fn.results.toList = some ps) :
    ∃ vs : List Value, RelPs σ ps vs ∧ (results fn a.tmps).run P w = .ok (packV vs) w := by
  obtain ⟨vs, h1, h2⟩ := resultsOf_run (P := P) hT he hj h
  refine ⟨vs, h1, ?_⟩
  have h3 : (fn.results.mapM (rvRun a.tmps)).run P w = .ok vs.toArray w := by
    rw [Array.mapM_eq_mapM_toList]
    simp only [Sem.run_map]
    rw [h2]
    rfl
  have h4 : results fn a.tmps = (do
      let vs ← fn.results.mapM (rvRun a.tmps)
      pure (if h : vs.size = 1 then vs[0] else .tuple vs)) := rfl
  rw [h4, Sem.run_bind, h3]
  simp only [Result.andThen_ok, Sem.run_pure]
  match vs with
  | [] => rfl
  | [v] => rfl
  | _ :: _ :: _ => simp [packV]

theorem packI_rel {σ : Gh} {ps : List PV} {vs : List Value} {x : IV} (h : packI ps = some x) (r : RelPs σ ps vs) : RelI σ.h x (packV vs) := by
  have hlen := r.1
  match ps, vs, r, hlen, h with
  | [p], [v], r, _, h => exact (r.2 0 p v rfl rfl).iv (by simpa [packI] using h)
  | [], [], r, _, h =>
    simp only [packI, ivs?] at h
    cases h
    exact .tup [] [] rfl (by simp)
  | p :: q :: ps, u :: v :: vs, r, _, h =>
    simp only [packI] at h
    split at h
    · rename_i xs hxs
      cases h
      have := r.iv hxs
      refine .tup xs _ (by simpa using this.1) fun i x v e1 e2 => ?_
      have h3 := this.2 i (.i x) v (by simp [e1]) e2
      cases h3; assumption
    · cases h

/-! ## Cuts -/
theorem CW.go (hT : TOK P T) {c : Code} {env : Env} {m : Mem} {Q : EQ} (h : awpC P T G n c Q env m) : CW P G n c env m Q := awpC_ok hT c Q env m h

theorem CW.next (hT : TOK P T) {c d : Code} {env : Env} {m : Mem} {Q : EQ} (h : awpC P T G n c (fun e env m => match e with | .normal => CW P G n d env m Q | e => Q e env m) env m) : CW P G n (.seq c d) env m Q := by
  intro R σ a w he hj hn
  refine wp_seq (wp_mono (awpC_ok hT c _ _ _ h R σ a w he hj hn) ?_)
  rintro e a' w' ⟨σ', env', m', q, he', hj', hn'⟩
  cases e with
  | normal => exact q R σ' a' w' he' hj' hn'
  | _ => exact ⟨σ', env', m', q, he', hj', hn'⟩

/-- A function that only computes: its contract out of its body. -/
theorem pureW_of (hT : TOK P T) {f : FuncId} {fn : Func} {c : Code} {as : List IV} {x : IV} (hf : P.funcs[f]? = some fn) (hb : fn.body = some c) (hn : (Nat.ble as.length fn.ntmps && !(fn.name == "runtime.NumGoroutine")) = true)
    (h : CW P G fn.ntmps c (envArgs 0 (as.map .i)) [] (retI T fn.results.toList x)) : PureC P G f as x := by
  simp only [Bool.and_eq_true, Bool.not_eq_true'] at hn
  refine .inl ⟨⟨fn, c, hf, hb, hn.2⟩, ?_⟩
  intro σ w vs hj hr
  refine calls_of_wp hf hb ?_
  have hl : vs.length = as.length := by rw [← hr.1]; simp
  have he : EnvOK σ (envArgs 0 (as.map .i)) { tmps := vs.toArray ++ Array.replicate (fn.ntmps - vs.toArray.size) undef, defers := [] } := by
    refine ⟨rfl, fun t p e => ?_⟩
    obtain ⟨_, e2⟩ := envArgs_lk e
    simp only [Nat.sub_zero] at e2
    have ht : t < vs.length := by
      rw [← hr.1]; exact (List.getElem?_eq_some_iff.1 e2).1
    refine ⟨vs[t], ?_, hr.2 t p _ e2 (List.getElem?_eq_getElem ht)⟩
    rw [Array.getElem?_append_left (by simpa using ht)]
    simp [ht]
  have hn' := Nat.le_of_ble_eq_true hn.1
  refine wp_mono (h (Ent.at σ [] w) σ _ w he hj (by simp; omega)) ?_
  have key : ∀ (a : Act) (w' : World) (σ' : Gh) (env : Env) (m : Mem) (ps : List PV), resultsOf T env m fn.results.toList = some ps → packI ps = some x → EnvOK σ' env a → J G (Ent.at σ [] w) σ' m w' →
      a.defers = [] ∧ ∃ v, (results fn a.tmps).run P w' = .ok v w' ∧ ∃ u σ'', Ending.returned v = .returned u ∧ RelP σ'' (.i x) u ∧ J G (Ent.at σ [] w) σ'' [] w' := by
    intro a w' σ' env m ps hps hp he' hj'
    obtain ⟨us, g1, g2⟩ := results_run (P := P) hT he' hj' hps
    exact ⟨he'.d, _, g2, _, σ', rfl, .i _ _ (packI_rel hp g1), hj'.le (by simp)⟩
  rintro e a w' ⟨σ', env, m, q, he', hj', _⟩
  cases e with
  | normal =>
    simp only [retI] at q
    split at q
    · rename_i ps hps; exact key a w' σ' env m ps hps q he' hj'
    · exact q.elim
  | ret =>
    simp only [retI] at q
    split at q
    · rename_i ps hps; exact key a w' σ' env m ps hps q he' hj'
    · exact q.elim
  | _ => exact q.elim

theorem pureC_of (hT : TOK P T) {f : FuncId} {fn : Func} {c : Code} {as : List IV} {x : IV} (hf : P.funcs[f]? = some fn) (hb : fn.body = some c) (hn : (Nat.ble as.length fn.ntmps && !(fn.name == "runtime.NumGoroutine")) = true)
    (h : awpC P T G fn.ntmps c (retI T fn.results.toList x) (envArgs 0 (as.map .i)) []) : PureC P G f as x :=
  pureW_of hT hf hb hn (CW.go hT h)

end
end Go.Kn

namespace Go.Kn
open Go

section
variable {P : Program} {T : Ty} {G : Gl}

/-! ## An object becomes immutable -/
/-- The first c cells of an object are immutable from now on; the object is no more. -/
theorem J.freezeCells {R : Ent} {σ : Gh} {m : Mem} {w : World} {k b lo hi : Nat} {o : MO} (hj : J G R σ m w) (hm : lk k m = some o) (hk : σ.loc k = some (b, lo, hi)) (c : Nat) (hc : lo + c ≤ hi) :
    ∃ σ' : Gh, σ.h.le σ'.h ∧ σ'.loc = σ.loc ∧ (∀ x, lo ≤ x → x < lo + c → σ'.h b x = w.cell? ⟨b, x, none⟩) ∧ J G R σ' (rm k m) w := by
  obtain ⟨b', lo', hi', hk', hle, hown, _⟩ := hj.inv.obj k _ hm
  rw [hk] at hk'; cases hk'
  let σ' : Gh := { h := fun b' x => if b' = b ∧ lo ≤ x ∧ x < lo + c then w.cell? ⟨b, x, none⟩ else σ.h b' x, loc := σ.loc }
  have hle' : σ.h.le σ'.h := fun b' x v e => by
    have hne : ¬ (b' = b ∧ lo ≤ x ∧ x < lo + c) := fun ⟨h1, h2, h3⟩ => by
      subst h1
      rw [(hown x h2 (by omega)).1] at e; cases e
    simp only [σ', if_neg hne]; exact e
  have hlk : ∀ k' o', lk k' (rm k m) = some o' → k' ≠ k ∧ lk k' m = some o' := by
    intro k' o' e
    by_cases hkk : k' = k
    · subst hkk; rw [lk_rm_self] at e; cases e
    · rw [lk_rm_other hkk] at e; exact ⟨hkk, e⟩
  refine ⟨σ', hle', rfl, fun x h1 h2 => if_pos ⟨rfl, h1, h2⟩, ?_⟩
  refine { inv := { hh := ?_, obj := ?_, dis := ?_ }, glob := fun g' cs e => (hj.glob g' cs e).mono hle', hm := Hp.le_trans hj.hm hle', os := hj.os, tape := hj.tape, out := hj.out,
           sz := hj.sz, old := hj.old, hn := fun b' x hb' hnb e => ?_, own := fun k' o' b1 lo1 hi1 e l hlt => hj.own k' o' b1 lo1 hi1 (hlk k' o' e).2 l hlt, kp := hj.kp, kn := fun k' o' L h1 h2 h3 => hj.kn k' o' L h1 (hlk k' o' h2).2 h3 }
  · intro b' x v e
    by_cases hc' : b' = b ∧ lo ≤ x ∧ x < lo + c
    · simp only [σ', if_pos hc'] at e
      obtain ⟨rfl, _, _⟩ := hc'
      exact e
    · simp only [σ', if_neg hc'] at e
      exact hj.inv.hh _ _ _ e
  · intro k' o' e
    obtain ⟨hne, e'⟩ := hlk k' o' e
    obtain ⟨b2, lo2, hi2, q1, q2, q3, q4⟩ := hj.inv.obj k' o' e'
    refine ⟨b2, lo2, hi2, q1, q2, fun x h1 h2 => ?_, ?_⟩
    · obtain ⟨a1, a2, a3⟩ := q3 x h1 h2
      refine ⟨?_, a2, a3⟩
      have hno : ¬ (b2 = b ∧ lo ≤ x ∧ x < lo + c) := fun ⟨h3, h4, h5⟩ => hj.inv.dis k' k _ _ b2 lo2 hi2 b lo hi e' hm hne q1 hk (by omega) (by omega) h3
      simp only [σ', if_neg hno]; exact a1
    · cases o' with
      | tip => trivial
      | vec s l c => exact q4.vecMono hle' (fun g hl => g hl) fun x v _ _ e => e
      | var cells =>
        refine ⟨q4.1, fun i p hp => ?_⟩
        obtain ⟨v, r1, r2, r3⟩ := q4.2 i p hp
        exact ⟨v, r1, r2.mono0 ⟨hle', fun _ _ _ e => e⟩, r3⟩
  · intro k1 k2 o1 o2 b1 lo1 hi1 b2 lo2 hi2 e1 e2 hne l1 l2 hl1 hl2
    exact hj.inv.dis k1 k2 o1 o2 b1 lo1 hi1 b2 lo2 hi2 (hlk k1 o1 e1).2 (hlk k2 o2 e2).2 hne l1 l2 hl1 hl2
  · by_cases hc' : b' = b ∧ lo ≤ x ∧ x < lo + c
    · exfalso
      obtain ⟨rfl, h1, h2⟩ := hc'
      rcases hj.own k _ _ lo hi hm hk (by omega) with h3 | h3
      · omega
      · exact hnb h3
    · simp only [σ', if_neg hc']
      exact hj.hn b' x hb' hnb e

/-- What is known of an object that becomes immutable. -/
inductive FO where
  | vec (s : Nat) (l : List IV)
  | var (cs : List IV)

def FOK (o : MO) : FO → Prop
  | .vec s l => ∃ c, o = .vec s (l.map .i) c
  | .var cs => o = .var (cs.map .i)

mutual
/-- The value p, its objects F made immutable, is x. -/
def ivF (F : List (Nat × FO)) : PV → IV → Prop
  | .vec k s i n, x => match lk k F with
    | some (.vec s' l) => s' = s ∧ i + n ≤ l.length ∧ x = .slice ((l.drop i).take n)
    | _ => False
  | .ptr k off, x => match lk k F with
    | some (.var cs) => x = .rptr (cs.drop off)
    | _ => False
  | .agg ps, x => match x with
    | .agg xs => ivFs F ps xs
    | _ => False
  | .tup ps, x => match x with
    | .tup xs => ivFs F ps xs
    | _ => False
  | p, x => iv? p = some x
def ivFs (F : List (Nat × FO)) : List PV → List IV → Prop
  | [], xs => xs = []
  | p :: ps, xs => match xs with
    | x :: xs => ivF F p x ∧ ivFs F ps xs
    | [] => False
end

/-- What the values under σ are worth under σ', where the objects F became immutable. -/
structure Frozen (F : List (Nat × FO)) (σ σ' : Gh) : Prop where
  h : σ.h.le σ'.h
  loc : σ'.loc = σ.loc
  vec : ∀ k s l, lk k F = some (.vec s l) → ∃ b lo hi, σ.loc k = some (b, lo, hi) ∧ 0 < s ∧ ∀ (i : Nat) (x : IV), l[i]? = some x → x.cells.length = s ∧ ∀ (j : Nat) (y : IV), x.cells[j]? = some y → ∃ v, σ'.h b (lo + i * s + j) = some v ∧ RelI σ'.h y v ∧ v.oneCell' = true
  var : ∀ k cs, lk k F = some (.var cs) → ∃ b lo hi, σ.loc k = some (b, lo, hi) ∧ ∀ (i : Nat) (x : IV), cs[i]? = some x → ∃ v, σ'.h b (lo + i) = some v ∧ RelI σ'.h x v ∧ v.oneCell' = true

theorem Frozen.refl (σ : Gh) : Frozen [] σ σ := ⟨Hp.le_refl _, rfl, fun _ _ _ e => (nomatch e), fun _ _ e => (nomatch e)⟩

def rmF : List (Nat × FO) → Mem → Mem
  | [], m => m
  | (k, _) :: F, m => rm k (rmF F m)

def FsOK (m : Mem) : List (Nat × FO) → Prop
  | [] => True
  | (k, f) :: F => (∃ o, lk k (rmF F m) = some o ∧ FOK o f) ∧ FsOK m F

theorem J.freeze {R : Ent} {σ : Gh} {m : Mem} {w : World} (hj : J G R σ m w) : ∀ {F : List (Nat × FO)}, FsOK m F → ∃ σ', Frozen F σ σ' ∧ J G R σ' (rmF F m) w
  | [], _ => ⟨σ, Frozen.refl σ, hj⟩
  | (k, f) :: F, h => by
    obtain ⟨⟨o, ho, hf⟩, h2⟩ := h
    obtain ⟨σ1, f1, j1⟩ := J.freeze hj h2
    obtain ⟨b, lo, hi, q1, q2, q3, q4⟩ := j1.inv.obj k o ho
    have key : ∀ c, lo + c ≤ hi → ∃ σ' : Gh, σ1.h.le σ'.h ∧ σ'.loc = σ1.loc ∧ (∀ x, lo ≤ x → x < lo + c → σ'.h b x = w.cell? ⟨b, x, none⟩) ∧ J G R σ' (rm k (rmF F m)) w := fun c hc => j1.freezeCells ho q1 c hc
    have hmono : ∀ {σ' : Gh}, σ1.h.le σ'.h → σ'.loc = σ1.loc → (∀ s l, f = .vec s l → ∃ b lo hi, σ.loc k = some (b, lo, hi) ∧ 0 < s ∧ ∀ (i : Nat) (x : IV), l[i]? = some x → x.cells.length = s ∧ ∀ (j : Nat) (y : IV), x.cells[j]? = some y → ∃ v, σ'.h b (lo + i * s + j) = some v ∧ RelI σ'.h y v ∧ v.oneCell' = true) →
        (∀ cs, f = .var cs → ∃ b lo hi, σ.loc k = some (b, lo, hi) ∧ ∀ (i : Nat) (x : IV), cs[i]? = some x → ∃ v, σ'.h b (lo + i) = some v ∧ RelI σ'.h x v ∧ v.oneCell' = true) → Frozen ((k, f) :: F) σ σ' := by
      intro σ' g1 g2 g3 g4
      refine ⟨Hp.le_trans f1.h g1, g2.trans f1.loc, fun k' s l e => ?_, fun k' cs e => ?_⟩
      · by_cases hkk : k' = k
        · subst hkk; rw [lk_cons_self] at e; cases e; exact g3 s l rfl
        · rw [lk_cons_other hkk] at e
          obtain ⟨b, lo, hi, r1, r0, r2⟩ := f1.vec k' s l e
          refine ⟨b, lo, hi, r1, r0, fun i x hi => ?_⟩
          obtain ⟨r3, r4⟩ := r2 i x hi
          exact ⟨r3, fun j y hj => by obtain ⟨v, r5, r6, r7⟩ := r4 j y hj; exact ⟨v, g1 _ _ _ r5, r6.mono g1, r7⟩⟩
      · by_cases hkk : k' = k
        · subst hkk; rw [lk_cons_self] at e; cases e; exact g4 cs rfl
        · rw [lk_cons_other hkk] at e
          obtain ⟨b, lo, hi, r1, r2⟩ := f1.var k' cs e
          exact ⟨b, lo, hi, r1, fun i x hi => by obtain ⟨v, r5, r6, r7⟩ := r2 i x hi; exact ⟨v, g1 _ _ _ r5, r6.mono g1, r7⟩⟩
    have hloc : σ.loc k = some (b, lo, hi) := by rw [← f1.loc]; exact q1
    cases f with
    | vec s l =>
      obtain ⟨c, rfl⟩ := hf
      obtain ⟨h0, _, _, cap, h3, h4, _, h5⟩ := q4
      have hcap : l.length * s ≤ cap * s := Nat.mul_le_mul_right s (by simpa using h4)
      obtain ⟨σ', g1, g2, g3, g4⟩ := key (l.length * s) (by omega)
      refine ⟨σ', hmono g1 g2 (fun s' l' e => ?_) (fun cs e => nomatch e), g4⟩
      cases e
      refine ⟨b, lo, hi, hloc, h0, fun i x hx => ?_⟩
      obtain ⟨h6, h7⟩ := h5 i x (by simp [hx])
      refine ⟨h6, fun j y hy => ?_⟩
      obtain ⟨v, r1, r2, r3⟩ := h7 j y hy
      have hi' := (List.getElem?_eq_some_iff.1 hx).1
      have hj' := (List.getElem?_eq_some_iff.1 hy).1
      have hle : (i + 1) * s ≤ l.length * s := Nat.mul_le_mul_right s (by omega)
      rw [Nat.add_mul] at hle
      exact ⟨v, by rw [g3 _ (by omega) (by omega)]; exact r1, r2.mono g1, r3⟩
    | var cs =>
      cases hf
      have h3 : hi = lo + (cs.map PV.i).length := q4.1
      obtain ⟨σ', g1, g2, g3, g4⟩ := key cs.length (by simp at h3; omega)
      refine ⟨σ', hmono g1 g2 (fun s' l' e => nomatch e) (fun cs' e => ?_), g4⟩
      cases e
      refine ⟨b, lo, hi, hloc, fun i x hx => ?_⟩
      obtain ⟨v, r1, r2, r3⟩ := q4.2 i (.i x) (by simp [hx])
      have hi' := (List.getElem?_eq_some_iff.1 hx).1
      exact ⟨v, by rw [g3 _ (by omega) (by omega)]; exact r1, (r2.iv rfl).mono g1, r3⟩

theorem Frozen.mono0 {F : List (Nat × FO)} {σ σ' : Gh} (h : Frozen F σ σ') : Mono [] σ σ' := ⟨h.h, fun k L _ e => by rw [h.loc]; exact e⟩

theorem ivFs_get {F : List (Nat × FO)} : ∀ {ps : List PV} {xs : List IV}, ivFs F ps xs → xs.length = ps.length ∧ ∀ (i : Nat) (p : PV) (x : IV), ps[i]? = some p → xs[i]? = some x → ivF F p x
  | [], xs, h => by simp only [ivFs] at h; subst h; exact ⟨rfl, fun i p x e => by simp at e⟩
  | p :: ps, xs, h => by
    simp only [ivFs] at h
    split at h
    · rename_i x xs
      obtain ⟨g1, g2⟩ := ivFs_get h.2
      refine ⟨by simp [g1], fun i q y e1 e2 => ?_⟩
      cases i with
      | zero => simp at e1 e2; subst e1; subst e2; exact h.1
      | succ i => exact g2 i q y (by simpa using e1) (by simpa using e2)
    · exact h.elim

/-- A slice of a row that became immutable. -/
theorem Frozen.slice {F : List (Nat × FO)} {σ σ' : Gh} (hf : Frozen F σ σ') {k s i n : Nat} {l : List IV} (hk : lk k F = some (.vec s l)) (hin : i + n ≤ l.length) {v : Value} (r : RelP σ (.vec k s i n) v) :
    RelI σ'.h (.slice ((l.drop i).take n)) v := by
  obtain ⟨b, lo, hi, q1, q0, q2⟩ := hf.vec k s l hk
  have hlen : ((l.drop i).take n).length = n := by simp; omega
  have hget : ∀ (j : Nat) (x : IV), ((l.drop i).take n)[j]? = some x → j < n ∧ l[i + j]? = some x := by
    intro j x e
    have hj : j < n := by rw [← hlen]; exact (List.getElem?_eq_some_iff.1 e).1
    have e2 := take_get e
    rw [List.getElem?_drop] at e2
    exact ⟨hj, e2⟩
  cases r with
  | vec _ _ _ _ cap L hk' hc he =>
    rw [q1] at hk'; cases hk'
    have : RelI σ'.h (.slice ((l.drop i).take n)) (.slice (some ⟨b, lo + i * s, none⟩) ((l.drop i).take n).length cap) := by
      refine .slice b (lo + i * s) cap s _ (fun j j' => (σ'.h b (lo + (i + j) * s + j')).getD undef) (by omega) (fun j x e => ?_) (fun j x j' y e e' => ?_) (fun j x j' y e e' => ?_) (fun j x j' y e e' => ?_)
      · exact (q2 _ _ (hget j x e).2).1
      · obtain ⟨v, g1, g2, g3⟩ := (q2 _ _ (hget j x e).2).2 j' y e'
        simp [g1, g3]
      · obtain ⟨v, g1, g2, g3⟩ := (q2 _ _ (hget j x e).2).2 j' y e'
        simp only [g1, Option.getD_some]
        rw [← g1, Nat.add_mul]
        congr 1
        omega
      · obtain ⟨v, g1, g2, g3⟩ := (q2 _ _ (hget j x e).2).2 j' y e'
        simp [g1, g2]
    rw [hlen] at this
    exact this
  | vec0 _ _ _ a L hk' he =>
    rw [List.take_zero]
    cases a with
    | none => exact .nilS
    | some a => exact .slice a.1 a.2 0 s [] (fun _ _ => undef) (Nat.le_refl _) (fun i x e => by simp at e) (fun i x j y e => by simp at e) (fun i x j y e => by simp at e) (fun i x j y e => by simp at e)

theorem RelP.ivF {F : List (Nat × FO)} {σ σ' : Gh} (hf : Frozen F σ σ') {p : PV} {v : Value} (r : RelP σ p v) : ∀ {x : IV}, Kn.ivF F p x → RelI σ'.h x v := by
  induction r with
  | vec k s i n cap L hk hc he =>
    intro x h
    simp only [Kn.ivF] at h
    split at h
    · rename_i s' l e
      obtain ⟨rfl, h1, rfl⟩ := h
      exact hf.slice e h1 (.vec k s' i n cap L hk hc he)
    · exact h.elim
  | vec0 k s i a L hk he =>
    intro x h
    simp only [Kn.ivF] at h
    split at h
    · rename_i s' l e
      obtain ⟨rfl, h1, rfl⟩ := h
      exact hf.slice e h1 (.vec0 k s' i a L hk he)
    · exact h.elim
  | ptr k off L hk =>
    intro x h
    simp only [Kn.ivF] at h
    split at h
    · rename_i cs e
      subst h
      obtain ⟨b, lo, hi, q1, q2⟩ := hf.var k cs e
      rw [q1] at hk; cases hk
      refine .rptr b (lo + off) _ (fun i => (σ'.h b (lo + (off + i))).getD undef) (fun i x e1 => ?_) (fun i x e1 => ?_) (fun i x e1 => ?_)
      all_goals
        rw [List.getElem?_drop] at e1
        obtain ⟨v, g1, g2, g3⟩ := q2 _ x e1
      · simp [g1, g3]
      · rw [Nat.add_assoc]; simp [g1]
      · simp [g1, g2]
    · exact h.elim
  | agg cs vs hl h1 hr ih =>
    intro x h
    simp only [Kn.ivF] at h
    split at h
    · rename_i xs
      obtain ⟨g1, g2⟩ := ivFs_get h
      refine .agg xs vs (g1.trans hl) h1 fun i y u e1 e2 => ?_
      have hi : i < cs.length := by rw [← g1]; exact (List.getElem?_eq_some_iff.1 e1).1
      exact ih i cs[i] u (List.getElem?_eq_getElem hi) e2 (g2 i cs[i] y (List.getElem?_eq_getElem hi) e1)
    · exact h.elim
  | tup cs vs hl hr ih =>
    intro x h
    simp only [Kn.ivF] at h
    split at h
    · rename_i xs
      obtain ⟨g1, g2⟩ := ivFs_get h
      refine .tup xs vs (g1.trans hl) fun i y u e1 e2 => ?_
      have hi : i < cs.length := by rw [← g1]; exact (List.getElem?_eq_some_iff.1 e1).1
      exact ih i cs[i] u (List.getElem?_eq_getElem hi) e2 (g2 i cs[i] y (List.getElem?_eq_getElem hi) e1)
    · exact h.elim
  | i x v r => intro y h; simp only [Kn.ivF, iv?] at h; cases h; exact r.mono hf.h
  | full l a r pl => intro y h; simp only [Kn.ivF, iv?] at h; cases h; exact r.mono hf.h
  | tok k s l a cap L hk r hs sp => intro y h; simp only [Kn.ivF, iv?] at h; cases h; exact r.mono hf.h
  | ifc t p v r ih =>
    intro y h
    simp only [Kn.ivF] at h
    exact (RelP.iv (.ifc t p v r) h).mono hf.h
  | _ => intro y h; simp only [Kn.ivF, iv?] at h; cases h

/-! ## The end of a function that was lent objects -/
/-- The results ps, the objects F immutable, are the contract's r. -/
def retR (f : Nat → Nat) (F : List (Nat × FO)) (r : PV) (ps : List PV) : Prop :=
  match r with
  | .i x => (match ps with
    | [p] => ivF F p x
    | ps => ∃ xs, ivFs F ps xs ∧ x = .tup xs)
  | .tup cs => ps.length ≠ 1 ∧ argOK f cs ps
  | c => match ps with
    | [p] => argOK1 f c p
    | _ => False

/-- The names ρ (the contract's, then the body's), and the objects F that become immutable, take the state to the contract's. -/
structure RetOK (m0 : Mem) (ps : List PV) (m : Mem) (r : PV) (m' : Mem) (ρ : List (Nat × Nat)) (F : List (Nat × FO)) : Prop where
  fo : FsOK m F
  r : retR (rho ρ) F r ps
  m : MemAs (rho ρ) m' (rmF F m)
  k : (ρ.all fun e => Nat.blt e.1 1000 || !(match lk e.1 m0 with
    | some o => isVar o
    | none => false)) = true

def retP (T : Ty) (rs : List ResultVar) (m0 : Mem) (r : PV) (m' : Mem) : EQ := fun e env m =>
  match e with
  | .normal => match resultsOf T env m rs with
    | some ps => ∃ ρ F, RetOK m0 ps m r m' ρ F
    | none => False
  | .ret => match resultsOf T env m rs with
    | some ps => ∃ ρ F, RetOK m0 ps m r m' ρ F
    | none => False
  | _ => False

theorem rho_id {ρ : List (Nat × Nat)} {k : Nat} (h : lk k ρ = none) : rho ρ k = k := by simp [rho, h]

theorem acW_of (hT : TOK P T) {f : FuncId} {fn : Func} {c : Code} {args : List PV} {m : Mem} {r : PV} {m' : Mem} (hf : P.funcs[f]? = some fn) (hb : fn.body = some c) (hn : (Nat.ble args.length fn.ntmps && !(fn.name == "runtime.NumGoroutine")) = true)
    (h : CW P G fn.ntmps c (envArgs 0 args) m (retP T fn.results.toList m r m')) : Body P f ∧ AC P G f args m r m' := by
  simp only [Bool.and_eq_true, Bool.not_eq_true'] at hn
  refine ⟨⟨fn, c, hf, hb, hn.2⟩, ?_⟩
  intro σ w vs hj hr
  refine calls_of_wp hf hb ?_
  have hl : vs.length = args.length := hr.1.symm
  have he : EnvOK σ (envArgs 0 args) { tmps := vs.toArray ++ Array.replicate (fn.ntmps - vs.toArray.size) undef, defers := [] } := by
    refine ⟨rfl, fun t p e => ?_⟩
    obtain ⟨_, e2⟩ := envArgs_lk e
    simp only [Nat.sub_zero] at e2
    have ht : t < vs.length := by
      rw [hl]; exact (List.getElem?_eq_some_iff.1 e2).1
    refine ⟨vs[t], ?_, hr.2 t p _ e2 (List.getElem?_eq_getElem ht)⟩
    rw [Array.getElem?_append_left (by simpa using ht)]
    simp [ht]
  have hn' := Nat.le_of_ble_eq_true hn.1
  refine wp_mono (h (Ent.at σ m w) σ _ w he hj (by simp; omega)) ?_
  have key : ∀ (a : Act) (w' : World) (σ' : Gh) (env : Env) (m1 : Mem) (ps : List PV) (ρ : List (Nat × Nat)) (F : List (Nat × FO)), resultsOf T env m1 fn.results.toList = some ps → RetOK m ps m1 r m' ρ F → EnvOK σ' env a → J G (Ent.at σ m w) σ' m1 w' →
      a.defers = [] ∧ ∃ v, (results fn a.tmps).run P w' = .ok v w' ∧ ∃ u σ'', Ending.returned v = .returned u ∧ RelP σ'' r u ∧ J G (Ent.at σ m w) σ'' m' w' := by
    intro a w' σ' env m1 ps ρ F hps hret he' hj'
    obtain ⟨us, g1, g2⟩ := results_run (P := P) hT he' hj' hps
    obtain ⟨σ2, hfz, hj2⟩ := hj'.freeze hret.fo
    have hjr : J G (Ent.at σ m w) (σ2.ren (rho ρ)) m' w' := hj2.unren hret.m fun k L hk e => by
      cases e2 : lk k ρ with
      | none => exact rho_id e2
      | some j =>
        have h3 := List.all_eq_true.1 hret.k _ (lk_mem e2)
        simp only [Bool.or_eq_true, Nat.blt_eq, Bool.not_eq_true'] at h3
        rcases h3 with h3 | h3
        · omega
        · simp only [Ent.at] at e
          split at e
          · rename_i cells ho
            rw [ho] at h3; cases h3
          · cases e
    refine ⟨he'.d, _, g2, _, σ2.ren (rho ρ), rfl, ?_, hjr⟩
    have hps2 : ∀ (i : Nat) (p : PV) (u : Value), ps[i]? = some p → us[i]? = some u → RelP σ2 p u := fun i p u e1 e2 => (g1.2 i p u e1 e2).mono0 hfz.mono0
    have hr3 := hret.r
    unfold retR at hr3
    split at hr3
    · rename_i x
      split at hr3
      · rename_i p
        match us, g1 with
        | [u], g1 => exact .i _ _ ((g1.2 0 p u rfl rfl).ivF hfz hr3)
        | [], g1 => exact absurd g1.1 (by simp)
        | _ :: _ :: _, g1 => exact absurd g1.1 (by simp)
      · rename_i hne
        obtain ⟨xs, h4, rfl⟩ := hr3
        obtain ⟨h5, h6⟩ := ivFs_get h4
        have hrel : RelI σ2.h (.tup xs) (.tuple us.toArray) := by
          refine .tup xs us (h5.trans g1.1) fun i y u e1 e2 => ?_
          have hi : i < ps.length := by rw [← h5]; exact (List.getElem?_eq_some_iff.1 e1).1
          exact (g1.2 i ps[i] u (List.getElem?_eq_getElem hi) e2).ivF hfz (h6 i ps[i] y (List.getElem?_eq_getElem hi) e1)
        match us, g1, hrel with
        | [], g1, hrel => exact .i _ _ hrel
        | [u], g1, hrel =>
          have : ps.length = 1 := by simpa using g1.1
          obtain ⟨p, hp⟩ := List.length_eq_one_iff.1 this
          exact absurd hp (hne p)
        | _ :: _ :: _, g1, hrel => exact .i _ _ hrel
    · rename_i cs
      obtain ⟨h4, h5⟩ := argOK_rel (σ := σ2) cs ps hr3.2
      have hrel : RelP (σ2.ren (rho ρ)) (.tup cs) (.tuple us.toArray) := by
        refine .tup cs us (h4.trans g1.1) fun i y u e1 e2 => ?_
        have hi : i < ps.length := by rw [← h4]; exact (List.getElem?_eq_some_iff.1 e1).1
        exact h5 i y ps[i] u e1 (List.getElem?_eq_getElem hi) (hps2 i ps[i] u (List.getElem?_eq_getElem hi) e2)
      match us, g1, hrel with
      | [], g1, hrel => exact hrel
      | [u], g1, hrel => exact absurd (by simpa using g1.1) hr3.1
      | _ :: _ :: _, g1, hrel => exact hrel
    · split at hr3
      · rename_i p
        match us, g1 with
        | [u], g1 => exact argOK1_rel _ p u hr3 (hps2 0 p u rfl rfl)
        | [], g1 => exact absurd g1.1 (by simp)
        | _ :: _ :: _, g1 => exact absurd g1.1 (by simp)
      · exact hr3.elim
  rintro e a w' ⟨σ', env, m1, q, he', hj', _⟩
  cases e with
  | normal =>
    simp only [retP] at q
    split at q
    · rename_i ps hps; obtain ⟨ρ, F, q⟩ := q; exact key a w' σ' env m1 ps ρ F hps q he' hj'
    · exact q.elim
  | ret =>
    simp only [retP] at q
    split at q
    · rename_i ps hps; obtain ⟨ρ, F, q⟩ := q; exact key a w' σ' env m1 ps ρ F hps q he' hj'
    · exact q.elim
  | _ => exact q.elim

theorem acC_of (hT : TOK P T) {f : FuncId} {fn : Func} {c : Code} {args : List PV} {m : Mem} {r : PV} {m' : Mem} (hf : P.funcs[f]? = some fn) (hb : fn.body = some c) (hn : (Nat.ble args.length fn.ntmps && !(fn.name == "runtime.NumGoroutine")) = true)
    (h : awpC P T G fn.ntmps c (retP T fn.results.toList m r m') (envArgs 0 args) m) : Body P f ∧ AC P G f args m r m' :=
  acW_of hT hf hb hn (CW.go hT h)

/-- Where the capacity of a row that is lent is not told, it is some number all the same. -/
theorem acCap {f : FuncId} {args : List PV} {k s : Nat} {l : List PV} {m : Mem} {r : PV} {m' : Mem}
    (h : ∀ c, l.length ≤ c → Body P f ∧ AC P G f args ((k, .vec s l (some c)) :: m) r m') : Body P f ∧ AC P G f args ((k, .vec s l none) :: m) r m' := by
  refine ⟨(h l.length (Nat.le_refl _)).1, fun σ w vs hj hr => ?_⟩
  obtain ⟨b, lo, hi, q1, q2, q3, q4⟩ := hj.inv.obj k _ (lk_cons_self ..)
  obtain ⟨g0, g1, g2, cap, g3, g4, _, g5⟩ := q4
  have hlk : ∀ (c c' : Option Nat) k' o, lk k' ((k, MO.vec s l c) :: m) = some o → (k' = k ∧ o = .vec s l c) ∨ (k' ≠ k ∧ lk k' ((k, MO.vec s l c') :: m) = some o) := by
    intro c c' k' o e
    by_cases hk : k' = k
    · subst hk; rw [lk_cons_self] at e; cases e; exact .inl ⟨rfl, rfl⟩
    · rw [lk_cons_other hk] at e; exact .inr ⟨hk, by rw [lk_cons_other hk]; exact e⟩
  have hex : ∀ (c c' : Option Nat) k' o, lk k' ((k, MO.vec s l c) :: m) = some o → ∃ o', lk k' ((k, MO.vec s l c') :: m) = some o' := by
    intro c c' k' o e
    rcases hlk c c' k' o e with ⟨rfl, rfl⟩ | ⟨_, e⟩
    · exact ⟨_, lk_cons_self ..⟩
    · exact ⟨_, e⟩
  have hent : Ent.at σ ((k, .vec s l none) :: m) w = Ent.at σ ((k, .vec s l (some cap)) :: m) w := by
    unfold Ent.at
    congr 1
    · funext b
      exact propext ⟨fun ⟨k', o, lo, hi, e1, e2⟩ => by obtain ⟨o', e3⟩ := hex none (some cap) k' o e1; exact ⟨k', o', lo, hi, e3, e2⟩,
        fun ⟨k', o, lo, hi, e1, e2⟩ => by obtain ⟨o', e3⟩ := hex (some cap) none k' o e1; exact ⟨k', o', lo, hi, e3, e2⟩⟩
    · funext k'
      by_cases hk : k' = k
      · subst hk; simp only [lk_cons_self]
      · simp only [lk_cons_other hk]
  have hj2 : J G (Ent.at σ ((k, .vec s l (some cap)) :: m) w) σ ((k, .vec s l (some cap)) :: m) w := by
    rw [← hent]
    refine { inv := { hh := hj.inv.hh, obj := fun k' o e => ?_, dis := fun k1 k2 o1 o2 b lo hi b' lo' hi' e1 e2 => ?_ }, glob := hj.glob, hm := hj.hm, os := hj.os, tape := hj.tape, out := hj.out,
             sz := hj.sz, old := hj.old, hn := hj.hn, own := fun k' o b lo hi e => ?_, kp := hj.kp, kn := fun k' o L h1 e h2 => ?_ }
    · rcases hlk (some cap) none k' o e with ⟨rfl, rfl⟩ | ⟨_, e⟩
      · exact ⟨b, lo, hi, q1, q2, q3, g0, g1, g2, cap, g3, g4, fun c e => by cases e; rfl, g5⟩
      · exact hj.inv.obj k' o e
    · obtain ⟨p1, h1⟩ := hex _ none _ _ e1
      obtain ⟨p2, h2⟩ := hex _ none _ _ e2
      exact hj.inv.dis k1 k2 p1 p2 b lo hi b' lo' hi' h1 h2
    · obtain ⟨p1, h1⟩ := hex _ none _ _ e
      exact hj.own k' p1 b lo hi h1
    · rcases hlk (some cap) none k' o e with ⟨rfl, rfl⟩ | ⟨_, e⟩
      · have := hj.kn k' _ L h1 (lk_cons_self ..) h2; cases this
      · exact hj.kn k' o L h1 e h2
  have := (h cap g4).2 σ w vs hj2 hr
  rw [hent]
  exact this

/-- The objects of m' one by one. -/
def MemL (f : Nat → Nat) : Mem → Mem → Prop
  | [], _ => True
  | (k, o) :: r, m => (∃ o1, lk (f k) m = some o1 ∧ MLe o1 (renO f o)) ∧ MemL f r m

def injB (f : Nat → Nat) (m : Mem) : Bool := m.all fun e => m.all fun e' => !Nat.beq (f e.1) (f e'.1) || Nat.beq e.1 e'.1

theorem MemL.as {f : Nat → Nat} {m' m : Mem} (h : MemL f m' m) (hi : injB f m' = true) : MemAs f m' m := by
  refine ⟨?_, fun k k' o o' e e' hf => ?_⟩
  · clear hi
    induction m' with
    | nil => intro k o e; cases e
    | cons x r ih =>
      obtain ⟨k1, o1⟩ := x
      intro k o e
      by_cases hk : k = k1
      · subst hk; rw [lk_cons_self] at e; cases e; exact h.1
      · rw [lk_cons_other hk] at e; exact ih h.2 k o e
  · have h1 := List.all_eq_true.1 (List.all_eq_true.1 hi _ (lk_mem e)) _ (lk_mem e')
    simp only [Bool.or_eq_true, Bool.not_eq_true'] at h1
    rcases h1 with h1 | h1
    · rw [hf, Nat.beq_refl] at h1; cases h1
    · exact Nat.eq_of_beq_eq_true h1

theorem MLe.vecEq {s : Nat} {l l' : List PV} {c : Option Nat} (h : l = l') : MLe (.vec s l c) (.vec s l' none) := by
  subst h; exact MLe.cap s l c

theorem szOK {n b : Nat} (hn : n ≤ 1000000000) (hb : Nat.ble b 65536 = true) : n * b ≤ 140737488355328 := by
  have h1 := Nat.le_of_ble_eq_true hb
  calc n * b ≤ 1000000000 * 65536 := Nat.mul_le_mul hn h1
    _ ≤ 140737488355328 := by decide

end
end Go.Kn
