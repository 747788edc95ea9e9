/- slices.Insert, on rows. -/
import Derived.Test.YtadcjononmlofaaDoorKnF
import Derived.Test.YtadcjononmlofaaDoorKnLib
set_option autoImplicit false
namespace Go.Kn
open Go Go.Proofs

variable {G : Gl}

theorem insert_item {l : List IV} {x : IV} {i : Nat} (hi : i ≤ l.length) (hl : ∀ y ∈ l, y.cells.length = 33) (hx : x.cells.length = 33) (hn : l.length < 1000000) :
    Body Pg Fn.slices_Insert_store_item ∧ AC Pg G Fn.slices_Insert_store_item [.vec 1000 33 0 l.length, .i (.int .i64 i), .vec 1001 33 0 1] [(1000, .vec 33 (l.map .i) none), (1001, .vec 33 [.i x] none)]
      (.vec 1000 33 0 (l.length + 1)) [(1000, .vec 33 ((l.take i ++ x :: l.drop i).map .i) none), (1001, .vec 33 [.i x] none)] := by
  refine acCap fun c hc => ?_
  simp only [List.length_map] at hc
  refine acC_of T_ok Fd.slices_Insert_store_item rfl (by kernel_rfl) ?_
  refine ⟨⟨by omega, by omega⟩, ?_⟩
  refine ⟨_, _, ⟨rfl, rfl⟩, .inl ⟨trivial, ?_⟩⟩
  refine condP.split (fun g => ?_) (fun g => ?_)
  · have g' : i = l.length := by have := eq_of_beq g; omega
    subst g'
    refine ⟨Nat.le_refl _, ?_⟩
    refine ⟨l.map .i ++ [.i x], l.length + 1, ⟨by simp, szOK (by simp; omega) (by kernel_rfl), by rw [List.take_of_length_le (by simp)]; rfl, rfl⟩, ?_⟩
    refine .inl ?_
    refine ⟨[], [], ⟨trivial, rfl, MemL.as ⟨⟨_, rfl, MLe.vecEq ?_⟩, ⟨_, rfl, MLe.vecEq rfl⟩, trivial⟩ rfl, rfl⟩⟩
    simp
  · have g' : i < l.length := by
      have : (i : Int) ≠ l.length := by intro e; rw [e] at g; simp at g
      omega
    have hw : IntKind.i64.wrap ((l.length : Int) + ((1 : Nat) : Int)) = ((l.length + 1 : Nat) : Int) := by rw [wrap_i64 (by omega) (by omega)]; omega
    have hw2 : IntKind.i64.wrap ((i : Int) + ((1 : Nat) : Int)) = ((i + 1 : Nat) : Int) := by rw [wrap_i64 (by omega) (by omega)]; omega
    refine condP.split (fun g2 => ?_) (fun g2 => ?_)
    · have g2' : c < l.length + 1 := by
        have : IntKind.i64.wrap ((l.length : Int) + ((1 : Nat) : Int)) > ((c - 0 : Nat) : Int) := of_decide_eq_true g2
        rw [hw] at this
        omega
      refine ⟨by show (0 : Int) ≤ i; omega, ?_⟩
      refine ⟨0, i, ⟨rfl, rfl⟩, .inl ⟨by show (i : Int) ≤ l.length; omega, ?_⟩⟩
      refine ⟨l.length + 1 - i, l.map .i |>.take i |>.append (List.replicate (l.length + 1 - i) .dead), l.length + 1, ⟨?_, ?_, ?_, ?_, rfl, ?_⟩, ?_⟩
      · show IntKind.i64.wrap (IntKind.i64.wrap ((l.length : Int) + ((1 : Nat) : Int)) - (i : Int)) = _
        rw [hw, wrap_i64 (by omega) (by omega)]; omega
      · simp; omega
      · omega
      · exact szOK (by omega) (by kernel_rfl)
      · omega
      · refine ⟨⟨by omega, by omega⟩, ?_⟩
        refine ⟨i, l.length + 1 - i, ⟨by simp [offB, addS_eq], by simp [lenB, endB]⟩, trivial, ?_⟩
        refine ⟨by simp; omega, ?_⟩
        refine ⟨by simp, ?_⟩
        refine ⟨(l.take i ++ [x]).map .i ++ List.replicate (l.length - i) .dead, ?_, ?_⟩
        · have h1 : ((l.map PV.i).take i).length = i := by simp; omega
          have h2 : min [PV.i x].length (l.length + 1 - i) = 1 := by simp; omega
          show ((l.map PV.i).take i ++ List.replicate (l.length + 1 - i) PV.dead).take i ++ [PV.i x].take (min [PV.i x].length (l.length + 1 - i)) ++ ((l.map PV.i).take i ++ List.replicate (l.length + 1 - i) PV.dead).drop (i + min [PV.i x].length (l.length + 1 - i)) = _
          rw [h2, List.take_left' h1, List.drop_append, h1, List.drop_of_length_le (by omega), show i + 1 - i = 1 by omega, List.drop_replicate, show l.length + 1 - i - 1 = l.length - i by omega]
          simp
        refine drawW T_ok (by decide +kernel) ?_
        refine ⟨?_, ?_⟩
        · show 0 ≤ IntKind.i64.wrap ((i : Int) + ((1 : Nat) : Int)) ∧ IntKind.i64.wrap ((i : Int) + ((1 : Nat) : Int)) ≤ ((l.length + 1 : Nat) : Int)
          rw [hw2]; omega
        refine ⟨i + 1, l.length - i, ⟨?_, ?_⟩, trivial, ?_⟩
        · show offB 0 (some (IntKind.i64.wrap ((i : Int) + ((1 : Nat) : Int)))) = _
          rw [hw2]; simp [offB, addS_eq]
        · show lenB _ (some (IntKind.i64.wrap ((i : Int) + ((1 : Nat) : Int)))) none = _
          rw [hw2]; simp [lenB, endB]
        refine ⟨⟨by omega, by omega⟩, ?_⟩
        refine ⟨i, l.length - i, ⟨by simp [offB, addS_eq], by simp [lenB, endB]⟩, .inl ⟨trivial, ?_⟩⟩
        refine ⟨by simp; omega, ?_⟩
        refine ⟨by simp; omega, ?_⟩
        refine ⟨(l.take i ++ x :: l.drop i).map .i, ?_, ?_⟩
        · have h1 : ((l.take i ++ [x]).map PV.i).length = i + 1 := by simp; omega
          have h2 : min (((l.map PV.i).drop i).take (l.length - i)).length (l.length - i) = l.length - i := by simp
          show ((l.take i ++ [x]).map PV.i ++ List.replicate (l.length - i) PV.dead).take (i + 1) ++ (((l.map PV.i).drop i).take (l.length - i)).take (min (((l.map PV.i).drop i).take (l.length - i)).length (l.length - i)) ++ ((l.take i ++ [x]).map PV.i ++ List.replicate (l.length - i) PV.dead).drop (i + 1 + min (((l.map PV.i).drop i).take (l.length - i)).length (l.length - i)) = _
          have h3 : ((l.take i ++ [x]).map PV.i ++ List.replicate (l.length - i) PV.dead).drop (i + 1 + (l.length - i)) = [] := List.drop_of_length_le (by simp; omega)
          have h4 : ((l.map PV.i).drop i).take (l.length - i) = (l.map PV.i).drop i := List.take_of_length_le (by simp)
          rw [h2, List.take_left' h1, h3, List.take_take, Nat.min_self, h4]
          simp
        refine ⟨by kernel_rfl, ?_⟩
        exact ⟨[(1000, 40)], [], ⟨trivial, rfl, MemL.as ⟨⟨_, rfl, MLe.vecEq rfl⟩, ⟨_, rfl, MLe.vecEq rfl⟩, trivial⟩ rfl, rfl⟩⟩
    · have g2' : l.length + 1 ≤ c := by
        have : ¬ IntKind.i64.wrap ((l.length : Int) + ((1 : Nat) : Int)) > ((c - 0 : Nat) : Int) := of_decide_eq_false g2
        rw [hw] at this
        omega
      refine ⟨?_, ?_⟩
      · show 0 ≤ IntKind.i64.wrap ((l.length : Int) + ((1 : Nat) : Int))
        rw [hw]; omega
      refine ⟨0, l.length + 1, ⟨rfl, ?_⟩, .inr ⟨l.map .i ++ [.dead], ⟨?_, ?_⟩, ?_⟩⟩
      · show lenB _ none (some (IntKind.i64.wrap ((l.length : Int) + ((1 : Nat) : Int)))) = _
        rw [hw]; simp [lenB, endB]
      · show 0 + endB _ (some (IntKind.i64.wrap ((l.length : Int) + ((1 : Nat) : Int)))) ≤ c
        rw [hw]; simp [endB]; omega
      · show l.map PV.i ++ List.replicate (0 + endB _ (some (IntKind.i64.wrap ((l.length : Int) + ((1 : Nat) : Int)))) - (l.map PV.i).length) PV.dead = _
        rw [hw]; simp [endB]
      refine ⟨?_, ?_⟩
      · show 0 ≤ IntKind.i64.wrap ((i : Int) + ((1 : Nat) : Int)) ∧ IntKind.i64.wrap ((i : Int) + ((1 : Nat) : Int)) ≤ ((l.length + 1 : Nat) : Int)
        rw [hw2]; omega
      refine ⟨i + 1, l.length - i, ⟨?_, ?_⟩, .inl ⟨trivial, ?_⟩⟩
      · show offB 0 (some (IntKind.i64.wrap ((i : Int) + ((1 : Nat) : Int)))) = _
        rw [hw2]; simp [offB, addS_eq]
      · show lenB _ (some (IntKind.i64.wrap ((i : Int) + ((1 : Nat) : Int)))) none = _
        rw [hw2]; simp [lenB, endB]
      refine ⟨_, _, _, overlapsCall (tS := Tn.sl_store_item) (tR := Tn.bool) Fd.slices_overlaps_store_item (by kernel_rfl) (by kernel_rfl) (by kernel_rfl) (by kernel_rfl) (by kernel_rfl) (T_ok Tn.store_item _ rfl) (by decide) rfl rfl (by omega) (by omega), ?_⟩
      refine drawW T_ok (by decide +kernel) ?_
      refine ⟨?_, ?_⟩
      · show 0 ≤ IntKind.i64.wrap ((i : Int) + ((1 : Nat) : Int)) ∧ IntKind.i64.wrap ((i : Int) + ((1 : Nat) : Int)) ≤ ((l.length + 1 : Nat) : Int)
        rw [hw2]; omega
      refine ⟨i + 1, l.length - i, ⟨?_, ?_⟩, .inl ⟨trivial, ?_⟩⟩
      · show offB 0 (some (IntKind.i64.wrap ((i : Int) + ((1 : Nat) : Int)))) = _
        rw [hw2]; simp [offB, addS_eq]
      · show lenB _ (some (IntKind.i64.wrap ((i : Int) + ((1 : Nat) : Int)))) none = _
        rw [hw2]; simp [lenB, endB]
      refine ⟨⟨by omega, by omega⟩, ?_⟩
      refine ⟨i, l.length + 1 - i, ⟨by simp [offB, addS_eq], by simp [lenB, endB]⟩, .inl ⟨trivial, ?_⟩⟩
      refine ⟨by simp; omega, ?_⟩
      refine ⟨by simp; omega, ?_⟩
      refine ⟨l.map PV.i |>.take (i + 1) |>.append ((l.drop i).map PV.i), ?_, ?_⟩
      · have h2 : min (((l.map PV.i ++ [PV.dead]).drop i).take (l.length + 1 - i)).length (l.length - i) = l.length - i := by simp; omega
        have h3 : (l.map PV.i ++ [PV.dead]).drop (i + 1 + (l.length - i)) = [] := List.drop_of_length_le (by simp; omega)
        show (l.map PV.i ++ [PV.dead]).take (i + 1) ++ (((l.map PV.i ++ [PV.dead]).drop i).take (l.length + 1 - i)).take (min (((l.map PV.i ++ [PV.dead]).drop i).take (l.length + 1 - i)).length (l.length - i)) ++ (l.map PV.i ++ [PV.dead]).drop (i + 1 + min (((l.map PV.i ++ [PV.dead]).drop i).take (l.length + 1 - i)).length (l.length - i)) = (l.map PV.i).take (i + 1) ++ (l.drop i).map PV.i
        have h4 : ((l.map PV.i ++ [PV.dead]).drop i).take (l.length - i) = (l.map PV.i).drop i := by
          rw [List.drop_append_of_le_length (by simp; omega), List.take_append_of_le_length (by simp), List.take_of_length_le (by simp)]
        have h5 : (l.map PV.i ++ [PV.dead]).take (i + 1) = (l.map PV.i).take (i + 1) := List.take_append_of_le_length (by simp; omega)
        rw [h2, h3, List.take_take, Nat.min_eq_left (by omega : l.length - i ≤ l.length + 1 - i), h4, h5]
        simp
      refine ⟨by kernel_rfl, ?_⟩
      have hll : ((l.map PV.i).take (i + 1) ++ (l.drop i).map PV.i).length = l.length + 1 := by simp; omega
      refine ⟨⟨by omega, by omega⟩, ?_⟩
      refine ⟨i, l.length + 1 - i, ⟨by simp [offB, addS_eq], by simp [lenB, endB]⟩, .inl ⟨trivial, ?_⟩⟩
      refine ⟨by show i + (l.length + 1 - i) ≤ ((l.map PV.i).take (i + 1) ++ (l.drop i).map PV.i).length; rw [hll]; omega, ?_⟩
      refine ⟨by simp, ?_⟩
      refine ⟨(l.take i ++ x :: l.drop i).map PV.i, ?_, ?_⟩
      · have h2 : min [PV.i x].length (l.length + 1 - i) = 1 := by simp; omega
        show ((l.map PV.i).take (i + 1) ++ (l.drop i).map PV.i).take i ++ [PV.i x].take (min [PV.i x].length (l.length + 1 - i)) ++ ((l.map PV.i).take (i + 1) ++ (l.drop i).map PV.i).drop (i + min [PV.i x].length (l.length + 1 - i)) = _
        have h1 : ((l.map PV.i).take (i + 1)).length = i + 1 := by simp; omega
        rw [h2, List.drop_left' h1, List.take_append_of_le_length (by omega), List.take_take, Nat.min_eq_left (by omega)]
        simp
      exact ⟨[], [], ⟨trivial, rfl, MemL.as ⟨⟨_, rfl, MLe.vecEq rfl⟩, ⟨_, rfl, MLe.vecEq rfl⟩, trivial⟩ rfl, rfl⟩⟩
end Go.Kn
