/- The law's package of layer 11: Of. -/
import Derived.Test.YtadcjononmlofaaDoorKnNil
import Derived.Test.YtadcjononmlofaaDoorKnGrow
set_option autoImplicit false
namespace Go.Kn
open Go Go.Proofs

variable {G : Gl}

theorem Corr.get {m : List RItem} (h : Corr m) {i : Nat} (hi : i < m.length) : m[i].ok := h.ok _ (List.getElem_mem hi)

theorem Corr.lt {m : List RItem} (h : Corr m) {i j : Nat} (hij : i < j) (hj : j < m.length) : m[i].id.key < m[j].id.key :=
  h.rising.get hij (a := toItem m[i]) (b := toItem m[j]) (by rw [List.getElem?_map, List.getElem?_eq_getElem (by omega)]; rfl) (by rw [List.getElem?_map, List.getElem?_eq_getElem hj]; rfl)

theorem hasI_false {l : List Item} {y : Id} (h : ∀ a ∈ l, a.id ≠ y) : hasI l y = false := by
  rw [hasI, List.any_eq_false]
  intro a ha
  simpa using h a ha

theorem dec_ok (H : SameDec) {x : RItem} (hx : x.ok) : decodeP x.text = some x.o := by
  rw [H _ (by have := hx.len; omega)]; exact hx.dec

/-- The texts put one behind the other. -/
theorem put_next (H : SameDec) {m : List RItem} (h : Corr m) {i : Nat} (hi : i < m.length) : putL ((m.take i).map toItem) m[i].text = (m.take (i + 1)).map toItem := by
  have hlt : ∀ a ∈ (m.take i).map toItem, a.id.key < m[i].id.key := by
    intro a ha
    obtain ⟨b, hb, rfl⟩ := List.mem_map.1 ha
    obtain ⟨k, hk, rfl⟩ := List.getElem_of_mem hb
    rw [List.getElem_take]
    have : k < i := by simp at hk; omega
    exact h.lt this hi
  rw [putL, dec_ok H (h.get hi)]
  simp only
  rw [← (h.get hi).id, hasI_false fun a ha e => by have := hlt a ha; rw [e] at this; omega]
  have hlow : lowI ((m.take i).map toItem) m[i].id = i := lowI_eq (by simp; omega) (fun k x _ e => hlt x (List.mem_of_getElem? e)) (fun k x hk e => by
    have := (List.getElem?_eq_some_iff.1 e).1
    simp at this; omega)
  simp only [Bool.false_eq_true, if_false, insI, hlow]
  rw [List.take_succ_eq_append_getElem hi, List.map_append, List.take_of_length_le (by simp; omega), List.drop_of_length_le (by simp; omega)]
  rfl

/-- The texts put from the last to the first. -/
theorem put_prev (H : SameDec) {m : List RItem} (h : Corr m) {i : Nat} (hi : i < m.length) : putL ((m.drop (i + 1)).map toItem) m[i].text = (m.drop i).map toItem := by
  have hlt : ∀ a ∈ (m.drop (i + 1)).map toItem, m[i].id.key < a.id.key := by
    intro a ha
    obtain ⟨b, hb, rfl⟩ := List.mem_map.1 ha
    obtain ⟨k, hk, rfl⟩ := List.getElem_of_mem hb
    rw [List.getElem_drop]
    exact h.lt (by omega) (by simp at hk; omega)
  rw [putL, dec_ok H (h.get hi)]
  simp only
  rw [← (h.get hi).id, hasI_false fun a ha e => by have := hlt a ha; rw [e] at this; omega]
  have hlow : lowI ((m.drop (i + 1)).map toItem) m[i].id = 0 := lowI_eq (by omega) (fun k x hk _ => by omega) (fun k x _ e => Nat.le_of_lt (hlt x (List.mem_of_getElem? e)))
  simp only [Bool.false_eq_true, if_false, insI, hlow]
  rw [List.drop_eq_getElem_cons hi]
  rfl

theorem put_id (H : SameDec) {x : RItem} (hx : x.ok) : putV x.text = .tup [encId x.id, .int .i64 0] := by
  rw [putV, dec_ok H hx, hx.id]

theorem rising_take {m : List RItem} (h : Corr m) (i : Nat) : Rising ((m.take i).map toItem) := by
  have := h.rising
  rw [Rising] at *
  rw [List.map_take]; exact List.Pairwise.sublist (List.take_sublist _ _) this

theorem rising_drop {m : List RItem} (h : Corr m) (i : Nat) : Rising ((m.drop i).map toItem) := by
  have := h.rising
  rw [Rising] at *
  rw [List.map_drop]; exact List.Pairwise.sublist (List.drop_sublist _ _) this

def s2M (l : List Item) : Mem := [(500, .var [.vec 501 33 0 l.length]), (501, .vec 33 (itemsP l) none)]
def ofM' (m : List RItem) (i : Nat) : Mem := (1, .var [.i (.slice (m.map encRItem))]) :: s2M ((m.take i).map toItem)

set_option maxRecDepth 100000 in
theorem law11_Of_ok (H : SameDec) (m : List RItem) (h : Corr m) (hl : m.length < 10000) : Body Pg Fn.law11_Of ∧ AC Pg G0 Fn.law11_Of [.i (encSt m)] [] (.ptr 1000 0) (stM (m.map toItem)) := by
  refine acW_of T_ok Fd.law11_Of rfl (by kernel_rfl) ?_
  refine CW.next T_ok ?_
  refine CW.next T_ok ?_
  refine ⟨_, _, _, lendCall (args := []) (ρ := [(1000, 500), (1001, 501)]) (new_ok (G := G0)).1 new_ok.2 rfl (MemL.as trivial rfl) rfl, ?_⟩
  refine CW.next T_ok ?_
  refine ⟨_, eqPtrNil 500 0, ?_⟩
  refine CW.go T_ok ?_
  refine loopX T_ok 0 (S := Nat) (S' := Unit) (fun i => [(1, .ptr 1 0), (3, .ptr 500 0), (4, .i (.int .i64 (i : Int)))]) (fun i => ofM' m i) (fun i => m.length - i) (fun i => i ≤ m.length)
    (fun _ => [(3, .ptr 500 0)]) (fun _ => s2M (m.map toItem)) (fun _ => True) 0 ⟨rfl, rfl, rfl, trivial⟩ ⟨rfl, rfl, rfl, trivial⟩ (by omega) ?_ ?_
  · intro i hi
    refine condP.split (fun g => ?_) (fun g => ?_)
    · have g' : i < m.length := by have h : (i : Int) < ((m.map encRItem).length : Int) := of_decide_eq_true g; rw [lenR] at h; omega
      refine ⟨encRItem m[i], ⟨by omega, by simp [g']⟩, ?_⟩
      have hput := put_ok ((m.take i).map toItem) m[i].text (rising_take h i) (by simp; omega) (by have := (h.get g').len; omega)
      rw [put_next H h g', put_id H (h.get g')] at hput
      refine ⟨_, _, _, lendCall (ρ := [(1000, 500), (1001, 501)]) hput.1 hput.2 ⟨rfl, rfl, rfl⟩ (stAs rfl rfl rfl) rfl, ?_⟩
      refine drawW T_ok (by decide +kernel) ?_
      refine ⟨encRItem m[i], ⟨by omega, by simp [g']⟩, ?_⟩
      refine ⟨_, eqId m[i].id m[i].id, ?_⟩
      refine ⟨by kernel_rfl, ?_⟩
      rw [decide_eq_true rfl]
      exact ⟨i + 1, ⟨by omega, by omega⟩, ⟨rfl, rfl, congrArg (fun n => some (PV.i (IV.int .i64 n))) (int_succ (by omega)), trivial⟩, ⟨rfl, rfl, rfl, trivial⟩⟩
    · have g' : i = m.length := by have h : ¬ (i : Int) < ((m.map encRItem).length : Int) := of_decide_eq_false g; rw [lenR] at h; omega
      subst g'
      rw [ofM', List.take_length]
      exact ⟨(), trivial, ⟨rfl, trivial⟩, ⟨rfl, rfl, trivial⟩⟩
  · intro _ _
    exact ⟨[(1000, 500), (1001, 501)], [], ⟨trivial, rfl, MemL.as ⟨⟨_, rfl, MLe.refl _⟩, ⟨_, rfl, MLe.vecEq rfl⟩, trivial⟩ rfl, rfl⟩⟩
end Go.Kn
