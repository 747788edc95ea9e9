/- The program's store and the reference's: one holds what the other does. -/
import Derived.Test.YtadcjononmlofaaDoorKnLaw11a
set_option autoImplicit false
namespace Go.Kn
open Go Go.Proofs

/-- The two decoders agree. -/
def SameDec : Prop := ∀ s : List UInt8, s.length < 1000000 → decodeP s = decodeR s

structure RItem.ok (x : RItem) : Prop where
  len : x.text.length ≤ 5000
  id : x.id = sha x.text
  dec : decodeR x.text = some x.o

structure Corr (m : List RItem) : Prop where
  rising : Rising (m.map toItem)
  ok : ∀ x ∈ m, x.ok

theorem Corr.nil : Corr [] := ⟨List.Pairwise.nil, fun _ h => by cases h⟩

theorem Small.ents {o : Obj} (h : Small o) : o.entries.length < 1000000 ∧ o.parents.length < 1000000 := by
  have h1 := h.1; have h2 := h.2
  refine ⟨?_, ?_⟩ <;> (cases h; omega)

theorem decodeR_small {s : List UInt8} {o : Obj} (hs : s.length < 1000000) (h : decodeR s = some o) : Small o := by
  unfold decodeR at h
  split at h
  · cases h
  · split at h
    · cases h; exact guessR_small hs
    · cases h

theorem decodeP_ne {s : List UInt8} {o : Obj} (h : decodeP s = some o) : s ≠ [] := by
  intro e; rw [decodeP, if_pos (.inl e)] at h; cases h

theorem bodyR_kind (k : Int) (r : Rd) : (bodyR k r).1.kind = k := by
  unfold bodyR
  split
  · rfl
  · split
    · rfl
    · split
      · rfl
      · rfl

theorem decodeP_kind {s : List UInt8} {o : Obj} (h : decodeP s = some o) : o.kind = ((s.getD 0 0).toNat : Int) := by
  unfold decodeP at h
  split at h
  · cases h
  · split at h
    · cases h
    · split at h
      · unfold decodeB at h
        split at h
        · cases h; exact bodyR_kind _ _
        · cases h
      · cases h

theorem idLt_iff (a b : Id) : idLt a b = true ↔ a.key < b.key := by simp [idLt]

theorem low_to {m : List RItem} {y : Id} (h : ∀ x ∈ m, x.id ≠ y) : lowI (m.map toItem) y = wAt m y := by
  unfold lowI wAt
  rw [List.takeWhile_map, List.length_map]
  congr 1
  induction m with
  | nil => rfl
  | cons a l ih =>
    have ih := ih fun x hx => h x (List.mem_cons_of_mem _ hx)
    have ha := h a List.mem_cons_self
    have : (decide ((toItem a).id.key < y.key)) = !idLt y a.id := by
      have hk : a.id.key ≠ y.key := fun e => ha (Id.key_inj e)
      show decide (a.id.key < y.key) = !decide (y.key < a.id.key)
      by_cases q : a.id.key < y.key
      · rw [decide_eq_true q, decide_eq_false (by omega)]; rfl
      · rw [decide_eq_false q, decide_eq_true (by omega)]; rfl
    simp only [List.takeWhile_cons, Function.comp, this]
    cases idLt y a.id
    · simp only [Bool.not_false, if_true, List.cons.injEq, true_and]; exact ih
    · rfl

theorem has_to (m : List RItem) (y : Id) : hasI (m.map toItem) y = (atR m y).isSome := by
  rcases at_get (l := m) (y := y) with ⟨h1, h2⟩ | ⟨i, x, h1, h2, h3, h4⟩
  · rw [h1]
    rw [getR11, List.find?_eq_none] at h2
    rw [hasI, Option.isSome_none, List.any_eq_false]
    intro a ha
    obtain ⟨b, hb, rfl⟩ := List.mem_map.1 ha
    exact h2 b hb
  · rw [h1, hasI, Option.isSome_some, List.any_eq_true]
    rw [getR11] at h3
    have := List.find?_some h3
    exact ⟨toItem x, List.mem_map.2 ⟨x, List.mem_of_find?_eq_some h3, rfl⟩, this⟩

theorem find_ok {m : List RItem} {y : Id} {x : RItem} (h : Corr m) (e : getR11 m y = some x) : x.ok := by
  rw [getR11] at e
  exact h.ok x (List.mem_of_find?_eq_some e)

theorem drop_while {α : Type} (p : α → Bool) : ∀ l : List α, l.drop (l.takeWhile p).length = l.dropWhile p
  | [] => rfl
  | a :: l => by
    cases h : p a
    · simp [List.takeWhile_cons, List.dropWhile_cons, h]
    · simp [List.takeWhile_cons, List.dropWhile_cons, h, drop_while p l]

theorem rising_ins {l : List Item} {x : Item} (h : Rising l) (hn : ∀ a ∈ l, a.id ≠ x.id) : Rising (insI l x) := by
  unfold Rising insI
  have h1 : ∀ a ∈ l.take (lowI l x.id), a.id.key < x.id.key := by
    intro a ha
    have : l.take (lowI l x.id) = l.takeWhile fun a => decide (a.id.key < x.id.key) := by
      have := List.takeWhile_prefix (l := l) fun a => decide (a.id.key < x.id.key)
      exact (List.prefix_iff_eq_take.1 this).symm
    rw [this] at ha
    exact of_decide_eq_true (List.all_eq_true.1 (List.all_takeWhile (l := l) (p := fun a => decide (a.id.key < x.id.key))) a ha)
  have h2 : ∀ a ∈ l.drop (lowI l x.id), x.id.key < a.id.key := by
    have hd : l.drop (lowI l x.id) = l.dropWhile fun a => decide (a.id.key < x.id.key) := by
      exact drop_while _ l
    have hp : (l.drop (lowI l x.id)).Pairwise fun a b => a.id.key < b.id.key := List.Pairwise.sublist (List.drop_sublist _ _) h
    have hne : ∀ a ∈ l.drop (lowI l x.id), a.id ≠ x.id := fun a ha => hn a (List.mem_of_mem_drop ha)
    generalize l.drop (lowI l x.id) = d at *
    cases d with
    | nil => intro a ha; cases ha
    | cons b r =>
      have hb : x.id.key < b.id.key := by
        have := List.head_dropWhile_not (fun a : Item => decide (a.id.key < x.id.key)) (l := l) (by rw [← hd]; simp)
        simp only [← hd, List.head_cons] at this
        have := of_decide_eq_false this
        have hk : b.id.key ≠ x.id.key := fun e => hne b List.mem_cons_self (Id.key_inj e)
        omega
      intro a ha
      rcases List.mem_cons.1 ha with rfl | ha
      · exact hb
      · have := (List.pairwise_cons.1 hp).1 a ha
        omega
  rw [List.pairwise_append]
  refine ⟨List.Pairwise.sublist (List.take_sublist _ _) h, List.pairwise_cons.2 ⟨h2, List.Pairwise.sublist (List.drop_sublist _ _) h⟩, fun a ha b hb => ?_⟩
  have ha := h1 a ha
  rcases List.mem_cons.1 hb with rfl | hb
  · exact ha
  · have := h2 b hb
    omega

theorem ins_to {m : List RItem} {x : RItem} (h : ∀ a ∈ m, a.id ≠ x.id) : insI (m.map toItem) (toItem x) = (insR m x).map toItem := by
  unfold insI insR
  rw [show (toItem x).id = x.id from rfl, low_to h]
  simp [List.map_take, List.map_drop]

theorem put_corr (H : SameDec) {m : List RItem} (h : Corr m) {t : List UInt8} (ht : t.length ≤ 5000) :
    Corr (withR m t).1 ∧ putL (m.map toItem) t = (withR m t).1.map toItem ∧ (withR m t).1.length ≤ m.length + 1 := by
  unfold putL withR
  rw [H t (by omega)]
  cases hd : decodeR t with
  | none => exact ⟨h, rfl, by simp⟩
  | some o =>
    simp only [has_to]
    cases ha : (atR m (sha t)).isSome with
    | true => exact ⟨h, rfl, by simp⟩
    | false =>
      have hn : ∀ a ∈ m, a.id ≠ sha t := by
        intro a hm e
        rcases at_get (l := m) (y := sha t) with ⟨_, h2⟩ | ⟨i, x, h1, _, _, _⟩
        · rw [getR11, List.find?_eq_none] at h2
          have := h2 a hm
          simp [e] at this
        · rw [h1] at ha; simp at ha
      have e := ins_to (x := ⟨sha t, t, o⟩) hn
      simp only [Bool.false_eq_true, if_false]
      refine ⟨⟨?_, ?_⟩, e, ?_⟩
      · rw [← e]
        refine rising_ins h.rising fun a ha => ?_
        obtain ⟨b, hb, rfl⟩ := List.mem_map.1 ha
        exact hn b hb
      · intro x hx
        have : x ∈ m ∨ x = ⟨sha t, t, o⟩ := by
          simp only [insR, List.mem_append, List.mem_cons] at hx
          rcases hx with hx | hx | hx
          · exact .inl (List.mem_of_mem_take hx)
          · exact .inr hx
          · exact .inl (List.mem_of_mem_drop hx)
        rcases this with hx | rfl
        · exact h.ok x hx
        · exact ⟨ht, rfl, hd⟩
      · have := wAt_le m (sha t)
        simp [insR]; omega
end Go.Kn

namespace Go.Kn
open Go Go.Proofs

theorem get_isSome (m : List RItem) (y : Id) : (getR11 m y).isSome = (atR m y).isSome := by
  rcases at_get (l := m) (y := y) with ⟨h1, h2⟩ | ⟨i, x, h1, h2, h3, h4⟩
  · rw [h1, h2]; rfl
  · rw [h1, h3]; rfl

theorem obj_to (H : SameDec) {m : List RItem} (h : Corr m) (y : Id) : objV (findI (m.map toItem) y) = .tup [encObj (objR m y), .bool (atR m y).isSome] := by
  rw [find_to, ← get_isSome, objR]
  cases e : getR11 m y with
  | none => rfl
  | some x =>
    have hx := find_ok h e
    have : decodeP (toItem x).text = some x.o := by rw [H _ (by have := hx.len; show x.text.length < _; omega)]; exact hx.dec
    simp only [Option.map_some, objV, this, Option.isSome_some]

theorem kind_to (H : SameDec) {m : List RItem} (h : Corr m) (y : Id) : (kindV (findI (m.map toItem) y) : Int) = kindR m y := by
  rw [find_to, kindR]
  cases e : getR11 m y with
  | none => rfl
  | some x =>
    have hx := find_ok h e
    have : decodeP x.text = some x.o := by rw [H _ (by have := hx.len; omega)]; exact hx.dec
    exact (decodeP_kind this).symm

theorem get_to (m : List RItem) (y : Id) : ∃ s, getV (findI (m.map toItem) y) = .tup [.str s, .bool (atR m y).isSome] := by
  rw [find_to, ← get_isSome]
  cases e : getR11 m y with
  | none => exact ⟨[], rfl⟩
  | some x => exact ⟨x.text, rfl⟩

theorem objR_small {m : List RItem} (h : Corr m) (y : Id) : (objR m y).entries.length < 1000000 ∧ (objR m y).parents.length < 1000000 := by
  rw [objR]
  cases e : getR11 m y with
  | none => exact ⟨by decide, by decide⟩
  | some x =>
    have hx := find_ok h e
    exact (decodeR_small (by have := hx.len; omega) hx.dec).ents

theorem text_ne (H : SameDec) {m : List RItem} (h : Corr m) : ∀ x ∈ m.map toItem, x.text ≠ [] := by
  intro x hx
  obtain ⟨a, ha, rfl⟩ := List.mem_map.1 hx
  have hx := h.ok a ha
  exact decodeP_ne (s := a.text) (o := a.o) (by rw [H _ (by have := hx.len; omega)]; exact hx.dec)

theorem text_lt {m : List RItem} (h : Corr m) : ∀ x ∈ m.map toItem, x.text.length < 1000000 := by
  intro x hx
  obtain ⟨a, ha, rfl⟩ := List.mem_map.1 hx
  have := (h.ok a ha).len
  show a.text.length < _
  omega

/-- What Put and With answer, in one. -/
theorem put_with (H : SameDec) (m : List RItem) {t : List UInt8} (ht : t.length ≤ 5000) :
    ((withR m t).2.2 = false ∧ putV t = .tup [encId (withR m t).2.1, .int .i64 2]) ∨
    ((withR m t).2.2 = true ∧ putV t = .tup [encId (withR m t).2.1, .int .i64 0]) := by
  unfold putV withR
  rw [H t (by omega)]
  cases hd : decodeR t with
  | none => exact .inl ⟨rfl, rfl⟩
  | some o =>
    right
    cases ha : (atR m (sha t)).isSome <;> exact ⟨rfl, rfl⟩

/-- What With gives is there, if it is taken; else nothing without a name is there, or it is. -/
theorem with_has {m : List RItem} {t : List UInt8} (h : (withR m t).2.2 = true) : (atR (withR m t).1 (withR m t).2.1).isSome = true := by
  unfold withR at h ⊢
  cases hd : decodeR t with
  | none => rw [hd] at h; cases h
  | some o =>
    simp only
    cases ha : (atR m (sha t)).isSome with
    | true => simpa using ha
    | false =>
      simp only [Bool.false_eq_true, if_false]
      rw [← get_isSome, getR11, Option.isSome_iff_ne_none, Ne, List.find?_eq_none]
      intro q
      have := q ⟨sha t, t, o⟩ (by simp [insR])
      simp at this
end Go.Kn
