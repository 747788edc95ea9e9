/- Kn, part 19: a function that only computes, called with objects that the caller owns. No program here. -/
import Derived.Test.YtadcjononmlofaaDoorKnLib
set_option autoImplicit false
namespace Go.Kn
open Go

def flatI : IV → Bool
  | .bool _ => true
  | .int _ _ => true
  | .str _ => true
  | .nilP => true
  | .tup xs => xs.all fun
    | .bool _ => true
    | .int _ _ => true
    | .str _ => true
    | _ => false
  | _ => false

theorem flat_rel {h h' : Hp} {x : IV} {v : Value} (hx : flatI x = true) (r : RelI h x v) : RelI h' x v := by
  cases r with
  | bool b => exact .bool b
  | int k n => exact .int k n
  | str s => exact .str s
  | nilP => exact .nilP
  | tup cs vs hl hr =>
    refine .tup cs vs hl fun i x v e1 e2 => ?_
    have := List.all_eq_true.1 hx x (List.mem_of_getElem? e1)
    have r := hr i x v e1 e2
    cases r <;> first | exact .bool _ | exact .int _ _ | exact .str _ | (simp at this)
  | _ => simp [flatI] at hx

/-- The cell is one of the caller's own. -/
def OwnC (σ : Gh) (m : Mem) (b x : Nat) : Prop := ∃ k o lo hi, lk k m = some o ∧ σ.loc k = some (b, lo, hi) ∧ lo ≤ x ∧ x < hi

open Classical in
noncomputable def frz (σ : Gh) (m : Mem) (w : World) : Hp := fun b x => if OwnC σ m b x then w.cell? ⟨b, x, none⟩ else σ.h b x

section
variable {P : Program} {G : Gl}

theorem AC.frozen {f : FuncId} {as : List IV} {x : IV} {args : List PV} {m : Mem} (hp : Body P f ∧ AC P G f (as.map .i) [] (.i x) []) (hx : flatI x = true)
    (ha : ∀ (R : Ent) (σ : Gh) (w : World) (vs : List Value), J G R σ m w → RelPs σ args vs → RelPs ⟨frz σ m w, σ.loc⟩ (as.map .i) vs) : Body P f ∧ AC P G f args m (.i x) m := by
  classical
  refine ⟨hp.1, ?_⟩
  intro σ w vs hj hr
  have hnone : ∀ b x, OwnC σ m b x → σ.h b x = none := fun b x ⟨k, o, lo, hi, e, hl, h1, h2⟩ => by
    obtain ⟨b', lo', hi', q1, q2, q3, _⟩ := hj.inv.obj k o e
    rw [hl] at q1; cases q1
    exact (q3 x h1 h2).1
  have hle : σ.h.le (frz σ m w) := fun b x v e => by
    have : ¬ OwnC σ m b x := fun h => by rw [hnone b x h] at e; cases e
    simp only [frz, if_neg this]; exact e
  have hj0 : J G (Ent.at ⟨frz σ m w, σ.loc⟩ [] w) ⟨frz σ m w, σ.loc⟩ [] w := {
    inv := InvM.nil fun b x v e => by
      simp only [frz] at e
      split at e
      · exact e
      · exact hj.inv.hh b x v e
    glob := fun g cs e => (hj.glob g cs e).mono hle
    hm := Hp.le_refl _
    os := rfl
    tape := rfl
    out := rfl
    sz := Nat.le_refl _
    old := fun _ _ _ => rfl
    hn := fun _ _ _ _ e => e
    own := fun _ _ _ _ _ e => (nomatch e)
    kp := fun _ _ _ e => by simp [Ent.at, lk] at e
    kn := fun _ _ _ _ e => (nomatch e) }
  refine (hp.2 ⟨frz σ m w, σ.loc⟩ w vs hj0 (ha _ σ w vs hj hr)).mono ?_
  rintro e w' ⟨v, σ2, rfl, rv, hj'⟩
  let σ3 : Gh := { h := fun b x => if OwnC σ m b x then none else σ2.h b x, loc := σ.loc }
  have hB : ∀ b, ¬ (Ent.at (⟨frz σ m w, σ.loc⟩ : Gh) [] w).B0 b := fun b ⟨k, o, lo, hi, e, _⟩ => (nomatch e)
  have hold : ∀ b, b < w.heap.size → w'.heap[b]? = w.heap[b]? := fun b hb => hj'.old b hb (hB b)
  have hcell : ∀ b x, b < w.heap.size → w'.cell? ⟨b, x, none⟩ = w.cell? ⟨b, x, none⟩ := fun b x hb => World.cell?_of_block (w := w) (hold b hb)
  have hfro : ∀ b x, b < w.heap.size → w'.frozen? ⟨b, x, none⟩ = w.frozen? ⟨b, x, none⟩ := fun b x hb => World.frozen?_of_block (w := w) (hold b hb)
  have hM : Mono [] σ σ3 := ⟨fun b x v e => by
      have hno : ¬ OwnC σ m b x := fun h => by rw [hnone b x h] at e; cases e
      simp only [σ3, if_neg hno]
      exact hj'.hm _ _ _ (hle _ _ _ e), fun _ _ _ e => e⟩
  refine ⟨v, σ3, rfl, ?_, ?_⟩
  · cases rv with | i _ _ rv => exact .i _ _ (flat_rel hx rv)
  · refine { inv := { hh := fun b x v e => ?_, obj := ?_, dis := hj.inv.dis }, glob := fun g cs e => (hj.glob g cs e).mono hM.h, hm := hM.h, os := hj'.os, tape := hj'.tape, out := hj'.out,
             sz := hj'.sz, old := fun b hb _ => hold b hb, hn := fun b o hb hnb e => ?_, own := hj.own, kp := hj.kp, kn := hj.kn }
    · simp only [σ3] at e
      split at e
      · cases e
      · exact hj'.inv.hh _ _ _ e
    · intro k o e
      obtain ⟨b, lo, hi, q1, q2, q3, q4⟩ := hj.inv.obj k o e
      refine ⟨b, lo, hi, q1, q2, fun x h1 h2 => ?_, ?_⟩
      · obtain ⟨a1, ⟨v, a2⟩, a3⟩ := q3 x h1 h2
        have hb := cell_lt a2
        have hown : OwnC σ m b x := ⟨k, o, lo, hi, e, q1, h1, h2⟩
        exact ⟨if_pos hown, ⟨v, by rw [hcell b x hb]; exact a2⟩, by rw [hfro b x hb]; exact a3⟩
      · cases o with
        | tip => trivial
        | vec s l c =>
          refine q4.vecMono hM.h (fun g hl x => ?_) fun x v _ _ e => by rw [hcell b x (cell_lt e)]; exact e
          rw [hfro b x (own_lt (w := w) (σ := σ) q3 hl)]; exact g hl x
        | var cells =>
          refine ⟨q4.1, fun i p hp => ?_⟩
          obtain ⟨v, r1, r2, r3⟩ := q4.2 i p hp
          exact ⟨v, by rw [hcell b _ (cell_lt r1)]; exact r1, r2.mono0 hM, r3⟩
    · simp only [σ3]
      split
      · rfl
      · rename_i hno
        refine hj'.hn b o hb (hB b) ?_
        show frz σ m w b o = none
        simp only [frz, if_neg hno]; exact e

theorem frz_le {R : Ent} {σ : Gh} {m : Mem} {w : World} (hj : J G R σ m w) : σ.h.le (frz σ m w) := fun b x u e => by
  have : ¬ OwnC σ m b x := fun ⟨k, o, lo, hi, e1, hl, g1, g2⟩ => by
    obtain ⟨b', lo', hi', q1, q2, q3, _⟩ := hj.inv.obj k o e1
    rw [hl] at q1; cases q1
    rw [(q3 x g1 g2).1] at e; cases e
  simp only [frz, if_neg this]; exact e

/-- A pointer to a struct whose one field is a row. -/
theorem frozen_ptr {R : Ent} {σ : Gh} {m : Mem} {w : World} {k r s : Nat} {l : List IV} {c : Option Nat} {v : Value} (hj : J G R σ m w) (h1 : lk k m = some (.var [.vec r s 0 l.length])) (h2 : lk r m = some (.vec s (l.map .i) c)) (hv : RelP σ (.ptr k 0) v) :
    RelI (frz σ m w) (.rptr [.slice l]) v := by
  have hown : ∀ {b x : Nat}, OwnC σ m b x → frz σ m w b x = w.cell? ⟨b, x, none⟩ := fun h => by simp only [frz, if_pos h]
  have hle : σ.h.le (frz σ m w) := fun b x u e => by
    have : ¬ OwnC σ m b x := fun ⟨k, o, lo, hi, e1, hl, g1, g2⟩ => by
      obtain ⟨b', lo', hi', q1, q2, q3, _⟩ := hj.inv.obj k o e1
      rw [hl] at q1; cases q1
      rw [(q3 x g1 g2).1] at e; cases e
    simp only [frz, if_neg this]; exact e
  obtain ⟨b, lo, hi, q1, q2, q3, q4, q5⟩ := hj.inv.obj k _ h1
  obtain ⟨b2, lo2, hi2, d1, d2, d3, d4, d5, d6, cap, d7, d8, _, d9⟩ := hj.inv.obj r _ h2
  obtain ⟨u, u1, u2, u3⟩ := q5 0 _ rfl
  cases hv with
  | ptr _ _ L hk =>
    rw [q1] at hk; cases hk
    refine .rptr b (lo + 0) [.slice l] (fun _ => u) (fun i x e => u3) (fun i x e => ?_) (fun i x e => ?_)
    · cases i with
      | zero =>
        rw [hown ⟨k, _, lo, hi, h1, q1, by omega, by simp at q4; omega⟩]
        exact u1
      | succ i => cases e
    · cases i with
      | succ i => cases e
      | zero =>
        cases e
        have hz : Frozen [(r, .vec s l)] σ ⟨frz σ m w, σ.loc⟩ := ⟨hle, rfl, fun k' s' l' e => by
            simp only [lk] at e
            cases hb : Nat.beq r k' with
            | false => rw [hb] at e; cases e
            | true =>
              rw [hb] at e
              have := Nat.eq_of_beq_eq_true hb
              subst this
              cases e
              refine ⟨b2, lo2, hi2, d1, d4, fun i x hx => ?_⟩
              obtain ⟨e1, e2⟩ := d9 i x (by simp [hx])
              refine ⟨e1, fun j y hy => ?_⟩
              obtain ⟨v, v1, v2, v3⟩ := e2 j y hy
              have hi' := (List.getElem?_eq_some_iff.1 hx).1
              have hj' := (List.getElem?_eq_some_iff.1 hy).1
              have : lo2 + i * s + j < hi2 := by
                have := cell_pos (i := i) (n := cap) (j := j) (s := s) (by simp at d8; omega) (by omega)
                omega
              exact ⟨v, (hown ⟨r, _, lo2, hi2, h2, d1, by omega, this⟩).trans v1, v2.mono hle, v3⟩,
          fun k' cs e => by
            simp only [lk] at e
            cases hb : Nat.beq r k' with
            | false => rw [hb] at e; cases e
            | true => rw [hb] at e; cases e⟩
        have := hz.slice (k := r) (s := s) (i := 0) (n := l.length) (l := l) (by simp [lk]) (by simp) u2
        simpa using this
end
end Go.Kn
