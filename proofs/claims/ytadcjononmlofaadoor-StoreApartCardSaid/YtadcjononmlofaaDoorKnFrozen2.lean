/- Kn, part 21: a test whose answer the state alone tells. No program here. -/
import Derived.Test.YtadcjononmlofaaDoorKnCut
import Derived.Lib.BufferMore
import Derived.Test.YtadcjononmlofaaDoorKnFrozen
set_option autoImplicit false
namespace Go.Kn
open Go

section
variable {P : Program} {T : Ty} {G : Gl} {n : Nat}

/-- A region of two operations, the last of which is a test: its answer is some b of which B holds. -/
theorem CW.regAny (hT : TOK P T) {id : Nat} {ops : Array Oper} {o1 o2 : Oper} {d2 : Nat} {env : Env} {m : Mem} {Q : EQ} (B : Bool → Prop) (ho : ops.toList = [o1, o2]) (g1 : o1.guard = none) (g2 : o2.guard = none)
    (hd1 : dstOK n o1.dst = true) (hd2 : o2.dst = some d2) (hdd : dstOK n o2.dst = true)
    (h : aop P T G o1 env m fun r env1 m1 => (∀ (R : Ent) (σ : Gh) (a : Act) (w : World), EnvOK σ (put env1 o1.dst r) a → J G R σ m1 w → ∃ b, B b ∧ (execOp a.eval o2).run P w = .ok (.value (.bool b)) w) ∧
      ∀ b, B b → Q .normal ((d2, .i (.bool b)) :: put env1 o1.dst r) m1) : CW P G n (.region id ops false) env m Q := by
  intro R σ a w he hj hn
  refine wp_region_list ?_
  rw [ho]
  unfold wpList
  rw [if_pos (by simp [Region.wanted, g1])]
  left
  obtain ⟨r, env1, m1, hs, h1, h2⟩ := aop_ok hT h
  refine step_wpList hs hd1 he hj hn fun σ' a' w' he' hj' hn' => ?_
  unfold wpList
  rw [if_pos (by simp [Region.wanted, g2])]
  left
  obtain ⟨b, hb, hx⟩ := h1 R σ' a' w' he' hj'
  simp only [Oper.wp, hx, Oper.upon_value]
  unfold wpList
  rw [hd2] at hdd ⊢
  simp only [dstOK, Bool.and_eq_true, Nat.blt_eq] at hdd
  have he2 := he'.put (dst := some d2) (r := .i (.bool b)) (v := .bool b) (.i _ _ (.bool b)) fun d e => by
    cases e; rw [hn']; exact hdd.1
  exact ⟨σ', _, m1, h2 b hb, he2, hj', by rw [Act.put_size]; exact hn'⟩

theorem CW.cond {x : Operand} {c d : Code} {b : Bool} {env : Env} {m : Mem} {Q : EQ} (hx : evalO G env x = some (.i (.bool b))) (h1 : b = true → CW P G n c env m Q) (h2 : b = false → CW P G n d env m Q) : CW P G n (.cond x c d) env m Q := by
  intro R σ a w he hj hn
  refine wp_cond (rel_bool (evalO_rel he hj hx)) ?_
  cases b with
  | true => exact h1 rfl R σ a w he hj hn
  | false => exact h2 rfl R σ a w he hj hn

/-- A row against nil: it is not, if it has an element. -/
theorem vec_nil {σ : Gh} {k s i l : Nat} {v : Value} {t e : TypeId} (w : World) (x y : Operand) (ht : P.underlying t = some (.slice e)) (r : RelP σ (.vec k s i l) v) :
    ∃ b : Bool, (b = true → l = 0) ∧ (do eqGuard .eql t x y v (.slice none 0 0); binOp .eql t v (.slice none 0 0) : Sem Value).run P w = .ok (.bool b) w := by
  obtain ⟨L, a, cap, _, rfl, _, _, ha⟩ := rel_vec r
  cases a with
  | none =>
    refine ⟨true, fun _ => ?_, ?_⟩
    · rcases ha with ha | ⟨ha, _⟩
      · cases ha
      · exact ha
    · rw [Sem.run_bind, run_eqGuard_scalar _ _ _ _ _ _ _ (by simp) (by simp), Result.andThen_ok]
      exact Lib.run_eql_slice_nil_nil w _ _ ht
  | some a =>
    refine ⟨false, fun e => (nomatch e), ?_⟩
    rw [Sem.run_bind, run_eqGuard_scalar _ _ _ _ _ _ _ (by simp) (by simp), Result.andThen_ok]
    exact Lib.run_eql_slice_some_nil w _ _ _ ht
end
end Go.Kn

namespace Go.Kn
open Go

/-- A value of which no part is immutable memory; its names are among ks. -/
def flatP (ks : List Nat) : PV → Bool
  | .i x => flatI x
  | .ptr k _ => ks.elem k
  | .vec k _ _ _ => ks.elem k
  | .dead => true
  | _ => false

def FlatO (ks : List Nat) : MO → Prop
  | .var cells => ∀ p ∈ cells, flatP ks p = true
  | .tip => True
  | .vec _ l _ => ∀ x, PV.i x ∈ l → ∀ y ∈ x.cells, flatI y = true

theorem flatP_rel {σ σ' : Gh} {ks : List Nat} (hl : ∀ k, k ∈ ks → σ'.loc k = σ.loc k) {p : PV} {v : Value} (hp : flatP ks p = true) (r : RelP σ p v) : RelP σ' p v := by
  cases r with
  | i x v r => exact .i _ _ (flat_rel hp r)
  | ptr k off L hk => exact .ptr k off L (by rw [hl k (by simpa [flatP] using hp)]; exact hk)
  | vec k s i n cap L hk hc he => exact .vec k s i n cap L (by rw [hl k (by simpa [flatP] using hp)]; exact hk) hc he
  | vec0 k s i a L hk he => exact .vec0 k s i a L (by rw [hl k (by simpa [flatP] using hp)]; exact hk) he
  | dead v => exact .dead v
  | _ => simp [flatP] at hp

theorem lk_app {α : Type} (k : Nat) : ∀ (a b : List (Nat × α)), lk k (a ++ b) = match lk k a with
    | some x => some x
    | none => lk k b
  | [], b => rfl
  | (j, x) :: a, b => by
    simp only [List.cons_append, lk]
    cases Nat.beq j k with
    | true => rfl
    | false => exact lk_app k a b

section
variable {P : Program} {G : Gl}

theorem AC.frozenNew {f : FuncId} {as : List IV} {r : PV} {args : List PV} {m m' : Mem} {ks : List Nat} (hp : Body P f ∧ AC P G f (as.map .i) [] r m')
    (hr : flatP ks r = true) (hm : ∀ k o, lk k m' = some o → k ∈ ks ∧ FlatO ks o) (hks : ∀ k, k ∈ ks → lk k m = none)
    (hd : ∀ k cells, lk k m = some (.var cells) → ∀ p ∈ cells, dem ks p = p)
    (ha : ∀ (R : Ent) (σ : Gh) (w : World) (vs : List Value), J G R σ m w → RelPs σ args vs → RelPs ⟨frz σ m w, σ.loc⟩ (as.map .i) vs) : Body P f ∧ AC P G f args m r (m ++ m') := by
  classical
  refine ⟨hp.1, ?_⟩
  intro σ w vs hj hr0
  have hnone : ∀ b x, OwnC σ m b x → σ.h b x = none := fun b x ⟨k, o, lo, hi, e, hl, h1, h2⟩ => by
    obtain ⟨b', lo', hi', q1, q2, q3, _⟩ := hj.inv.obj k o e
    rw [hl] at q1; cases q1
    exact (q3 x h1 h2).1
  have hle : σ.h.le (frz σ m w) := fun b x v e => by
    have : ¬ OwnC σ m b x := fun h => by rw [hnone b x h] at e; cases e
    simp only [frz, if_neg this]; exact e
  have hj0 : J G (Ent.at ⟨frz σ m w, σ.loc⟩ [] w) ⟨frz σ m w, σ.loc⟩ [] w := {
    inv := InvM.nil fun b x v e => by
      simp only [frz] at e
      split at e
      · exact e
      · exact hj.inv.hh b x v e
    glob := fun g cs e => (hj.glob g cs e).mono hle
    hm := Hp.le_refl _
    os := rfl
    tape := rfl
    out := rfl
    sz := Nat.le_refl _
    old := fun _ _ _ => rfl
    hn := fun _ _ _ _ e => e
    own := fun _ _ _ _ _ e => (nomatch e)
    kp := fun _ _ _ e => by simp [Ent.at, lk] at e
    kn := fun _ _ _ _ e => (nomatch e) }
  refine (hp.2 ⟨frz σ m w, σ.loc⟩ w vs hj0 (ha _ σ w vs hj hr0)).mono ?_
  rintro e w' ⟨v, σ2, rfl, rv, hj'⟩
  let σ3 : Gh := { h := fun b x => if OwnC σ m b x then none else σ2.h b x, loc := fun k => if k ∈ ks then σ2.loc k else σ.loc k }
  have hl2 : ∀ k, k ∈ ks → σ3.loc k = σ2.loc k := fun k hk => if_pos hk
  have hl1 : ∀ k, k ∉ ks → σ3.loc k = σ.loc k := fun k hk => if_neg hk
  have hkm : ∀ k o, lk k m = some o → k ∉ ks := fun k o e hk => by rw [hks k hk] at e; cases e
  have hB : ∀ b, ¬ (Ent.at (⟨frz σ m w, σ.loc⟩ : Gh) [] w).B0 b := fun b ⟨k, o, lo, hi, e, _⟩ => (nomatch e)
  have hold : ∀ b, b < w.heap.size → w'.heap[b]? = w.heap[b]? := fun b hb => hj'.old b hb (hB b)
  have hcell : ∀ b x, b < w.heap.size → w'.cell? ⟨b, x, none⟩ = w.cell? ⟨b, x, none⟩ := fun b x hb => World.cell?_of_block (w := w) (hold b hb)
  have hfro : ∀ b x, b < w.heap.size → w'.frozen? ⟨b, x, none⟩ = w.frozen? ⟨b, x, none⟩ := fun b x hb => World.frozen?_of_block (w := w) (hold b hb)
  have hownlt : ∀ b x, OwnC σ m b x → b < w.heap.size := fun b x ⟨k, o, lo, hi, e, hl, h1, h2⟩ => by
    obtain ⟨b', lo', hi', q1, q2, q3, _⟩ := hj.inv.obj k o e
    rw [hl] at q1; cases q1
    obtain ⟨_, ⟨v, hv⟩, _⟩ := q3 x h1 h2
    exact cell_lt hv
  have hM : Mono ks σ σ3 := ⟨fun b x v e => by
      have hno : ¬ OwnC σ m b x := fun h => by rw [hnone b x h] at e; cases e
      simp only [σ3, if_neg hno]
      exact hj'.hm _ _ _ (hle _ _ _ e), fun k L hk e => by rw [hl1 k hk]; exact e⟩
  have hlk : ∀ k o, lk k (m ++ m') = some o → (lk k m = some o ∧ k ∉ ks) ∨ (lk k m' = some o ∧ k ∈ ks) := fun k o e => by
    rw [lk_app] at e
    cases h : lk k m with
    | some x => rw [h] at e; cases e; exact .inl ⟨rfl, hkm k _ h⟩
    | none => rw [h] at e; exact .inr ⟨e, (hm k o e).1⟩
  have hnew : ∀ k o b lo hi, lk k m' = some o → σ2.loc k = some (b, lo, hi) → lo < hi → w.heap.size ≤ b := fun k o b lo hi e hl hlt => by
    rcases hj'.own k o b lo hi e hl hlt with h | h
    · exact h
    · exact absurd h (hB b)
  have hmold : ∀ k o b lo hi, lk k m = some o → σ.loc k = some (b, lo, hi) → lo < hi → b < w.heap.size := fun k o b lo hi e hl hlt =>
    hownlt b lo ⟨k, o, lo, hi, e, hl, Nat.le_refl _, hlt⟩
  refine ⟨v, σ3, rfl, flatP_rel hl2 hr rv, ?_⟩
  refine { inv := { hh := fun b x v e => ?_, obj := ?_, dis := ?_ }, glob := fun g cs e => (hj.glob g cs e).mono hM.h, hm := hM.h, os := hj'.os, tape := hj'.tape, out := hj'.out,
           sz := hj'.sz, old := fun b hb _ => hold b hb, hn := fun b o hb hnb e => ?_, own := ?_, kp := fun k L hk e => ?_, kn := fun k o L hk e1 e2 => ?_ }
  · simp only [σ3] at e
    split at e
    · cases e
    · exact hj'.inv.hh _ _ _ e
  · intro k o e
    rcases hlk k o e with ⟨e, hk⟩ | ⟨e, hk⟩
    · obtain ⟨b, lo, hi, q1, q2, q3, q4⟩ := hj.inv.obj k o e
      refine ⟨b, lo, hi, by rw [hl1 k hk]; exact q1, q2, fun x h1 h2 => ?_, ?_⟩
      · obtain ⟨a1, ⟨v, a2⟩, a3⟩ := q3 x h1 h2
        have hb := cell_lt a2
        have hown : OwnC σ m b x := ⟨k, o, lo, hi, e, q1, h1, h2⟩
        exact ⟨if_pos hown, ⟨v, by rw [hcell b x hb]; exact a2⟩, by rw [hfro b x hb]; exact a3⟩
      · cases o with
        | tip => trivial
        | vec s l c =>
          refine q4.vecMono hM.h (fun g hl x => ?_) fun x v _ _ e => by rw [hcell b x (cell_lt e)]; exact e
          rw [hfro b x (own_lt (w := w) (σ := σ) q3 hl)]; exact g hl x
        | var cells =>
          refine ⟨q4.1, fun i p hp => ?_⟩
          obtain ⟨v, r1, r2, r3⟩ := q4.2 i p hp
          refine ⟨v, by rw [hcell b _ (cell_lt r1)]; exact r1, ?_, r3⟩
          have := r2.dem hM
          rwa [hd k cells e p (List.mem_of_getElem? hp)] at this
    · obtain ⟨b, lo, hi, q1, q2, q3, q4⟩ := hj'.inv.obj k o e
      refine ⟨b, lo, hi, by rw [hl2 k hk]; exact q1, q2, fun x h1 h2 => ?_, ?_⟩
      · obtain ⟨a1, a2, a3⟩ := q3 x h1 h2
        refine ⟨?_, a2, a3⟩
        show (if OwnC σ m b x then none else σ2.h b x) = none
        split
        · rfl
        · exact a1
      · have hfo := (hm k o e).2
        cases o with
        | tip => trivial
        | vec s l c =>
          obtain ⟨g1, g2, g3, cap, g4, g5, g6, g7⟩ := q4
          refine ⟨g1, g2, g3, cap, g4, g5, g6, fun i x hx => ?_⟩
          obtain ⟨k1, k2⟩ := g7 i x hx
          refine ⟨k1, fun j y hy => ?_⟩
          obtain ⟨v, v1, v2, v3⟩ := k2 j y hy
          exact ⟨v, v1, flat_rel (hfo x (List.mem_of_getElem? hx) y (List.mem_of_getElem? hy)) v2, v3⟩
        | var cells =>
          refine ⟨q4.1, fun i p hp => ?_⟩
          obtain ⟨v, r1, r2, r3⟩ := q4.2 i p hp
          exact ⟨v, r1, flatP_rel hl2 (hfo p (List.mem_of_getElem? hp)) r2, r3⟩
  · intro k k' o o' b lo hi b' lo' hi' e e' hne l1 l2 hlt hlt'
    rcases hlk k o e with ⟨e, hk⟩ | ⟨e, hk⟩ <;> rcases hlk k' o' e' with ⟨e', hk'⟩ | ⟨e', hk'⟩
    · rw [hl1 k hk] at l1; rw [hl1 k' hk'] at l2
      exact hj.inv.dis k k' o o' b lo hi b' lo' hi' e e' hne l1 l2 hlt hlt'
    · rw [hl1 k hk] at l1; rw [hl2 k' hk'] at l2
      have h1 := hmold k o b lo hi e l1 hlt
      have h2 := hnew k' o' b' lo' hi' e' l2 hlt'
      omega
    · rw [hl2 k hk] at l1; rw [hl1 k' hk'] at l2
      have h1 := hnew k o b lo hi e l1 hlt
      have h2 := hmold k' o' b' lo' hi' e' l2 hlt'
      omega
    · rw [hl2 k hk] at l1; rw [hl2 k' hk'] at l2
      exact hj'.inv.dis k k' o o' b lo hi b' lo' hi' e e' hne l1 l2 hlt hlt'
  · simp only [σ3]
    split
    · rfl
    · rename_i hno
      refine hj'.hn b o hb (hB b) ?_
      show frz σ m w b o = none
      simp only [frz, if_neg hno]; exact e
  · intro k o b lo hi e l hlt
    rcases hlk k o e with ⟨e, hk⟩ | ⟨e, hk⟩
    · rw [hl1 k hk] at l
      exact hj.own k o b lo hi e l hlt
    · rw [hl2 k hk] at l
      exact .inl (hnew k o b lo hi e l hlt)
  · have hkk : k ∉ ks := by
      intro h
      simp only [Ent.at, hks k h] at e
      cases e
    rw [hl1 k hkk]
    exact hj.kp k L hk e
  · rcases hlk k o e1 with ⟨e1, _⟩ | ⟨e1, hk'⟩
    · exact hj.kn k o L hk e1 e2
    · simp only [Ent.at, hks k hk'] at e2
      cases e2
end
end Go.Kn
