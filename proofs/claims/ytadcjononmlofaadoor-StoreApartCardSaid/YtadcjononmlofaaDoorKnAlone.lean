/- The program's objects: what may be. -/
import Derived.Test.YtadcjononmlofaaDoorKnName
import Derived.Test.YtadcjononmlofaaDoorKnEq
set_option autoImplicit false
namespace Go.Kn
open Go Go.Proofs

variable {G : Gl}

theorem cellsEq_u8c (f g : Nat → UInt8) (n : Nat) : cellsEq (u8c n f) (u8c n g) = decide (∀ i, i < n → f i = g i) := by
  induction n with
  | zero => simp [u8c, cellsEq]
  | succ n ih =>
    have hs : ∀ f : Nat → UInt8, u8c (n + 1) f = u8c n f ++ [.int .u8 ((f n).toNat : Int)] := fun f => by simp [u8c, List.range_succ]
    rw [hs, hs, cellsEq_append _ _ (by simp [u8c]), ih]
    have h1 : cellsEq [IV.int .u8 ((f n).toNat : Int)] [.int .u8 ((g n).toNat : Int)] = decide (f n = g n) := by
      simp only [cellsEq, scEq, Bool.and_true]; exact eq_toNat _ _
    rw [h1, ← Bool.decide_and]
    congr 1
    apply propext
    constructor
    · rintro ⟨h1, h2⟩ i hi
      by_cases hin : i = n
      · subst hin; exact h2
      · exact h1 i (by omega)
    · intro h
      exact ⟨fun i hi => h i (by omega), h n (by omega)⟩

theorem cellsEq_id (x y : Id) : cellsEq (idC x) (idC y) = decide (x = y) := by
  rw [idC, idC, cellsEq_u8c]
  congr 1
  exact propext Id.eq_iff.symm

theorem eqId (x y : Id) : EqOK Pg Tn.api_Id (.i (encId x)) (.i (encId y)) (decide (x = y)) :=
  eqAgg T_ok (d := 3) rfl rfl (by decide) (by kernel_rfl) (by kernel_rfl) (by kernel_rfl) (by kernel_rfl) (by kernel_rfl) (by kernel_rfl) (cellsEq_id x y)

def blobE (o : Obj) : Bool := o.data == []
def treeE (o : Obj) : Bool := ((o.entries.map encEntry).length : Int) == 0
def commitE (o : Obj) : Bool := decide (o.tree = Id.none) && (((o.parents.map encId).length : Int) == 0) && ((o.time : Int) == 0) && (o.text == [])
def tagE (o : Obj) : Bool := decide (o.target = Id.none) && (o.of == 0) && (o.name == [])

def aloneB (o : Obj) : Bool :=
  if o.kind = 1 then treeE o && commitE o && tagE o else if o.kind = 2 then blobE o && commitE o && tagE o else if o.kind = 3 then blobE o && treeE o && tagE o else blobE o && treeE o && commitE o

def objM (o : Obj) : Mem := [(1, .var ((encObj o).cells.map .i))]

theorem object_alone_ok (o : Obj) : PureC Pg G Fn.object_alone [encObj o] (.bool (aloneB o)) := by
  refine pureW_of T_ok Fd.object_alone rfl (by kernel_rfl) ?_
  refine CW.next T_ok ?_
  refine CW.next T_ok ?_
  refine CW.next T_ok ?_
  refine CW.cut T_ok (S := Unit) (fun _ => [(1, .ptr 1 0), (3, .i (.bool (blobE o))), (4, .i (.bool (treeE o))), (5, .i (.bool (commitE o)))]) (fun _ => objM o) (fun _ => True) ?_ ?_
  · refine ⟨_, eqId o.tree Id.none, ?_⟩
    refine condP.split (fun g1 => ?_) (fun g1 => ?_)
    · refine condP.split (fun g2 => ?_) (fun g2 => ?_)
      · refine condP.split (fun g3 => ?_) (fun g3 => ?_)
        · refine ⟨(), trivial, ⟨rfl, rfl, rfl, ?_, trivial⟩, ⟨rfl, trivial⟩⟩
          show some (PV.i (IV.bool (o.text == []))) = some (PV.i (IV.bool (commitE o)))
          simp only [commitE, g1, g2, g3, Bool.true_and]
        · refine ⟨(), trivial, ⟨rfl, rfl, rfl, ?_, trivial⟩, ⟨rfl, trivial⟩⟩
          show some (PV.i (IV.bool false)) = some (PV.i (IV.bool (commitE o)))
          simp only [commitE, g1, g2, g3, Bool.true_and, Bool.false_and, Bool.and_false]
      · refine ⟨(), trivial, ⟨rfl, rfl, rfl, ?_, trivial⟩, ⟨rfl, trivial⟩⟩
        show some (PV.i (IV.bool false)) = some (PV.i (IV.bool (commitE o)))
        simp only [commitE, g1, g2, Bool.true_and, Bool.false_and, Bool.and_false]
    · refine ⟨(), trivial, ⟨rfl, rfl, rfl, ?_, trivial⟩, ⟨rfl, trivial⟩⟩
      show some (PV.i (IV.bool false)) = some (PV.i (IV.bool (commitE o)))
      simp only [commitE, g1, Bool.true_and, Bool.false_and, Bool.and_false]
  intro _ _
  refine CW.cut T_ok (S := Unit) (fun _ => [(1, .ptr 1 0), (3, .i (.bool (blobE o))), (4, .i (.bool (treeE o))), (5, .i (.bool (commitE o))), (6, .i (.bool (tagE o)))]) (fun _ => objM o) (fun _ => True) ?_ ?_
  · refine ⟨_, eqId o.target Id.none, ?_⟩
    refine condP.split (fun g1 => ?_) (fun g1 => ?_)
    · refine condP.split (fun g2 => ?_) (fun g2 => ?_)
      · refine ⟨(), trivial, ⟨rfl, rfl, rfl, rfl, ?_, trivial⟩, ⟨rfl, trivial⟩⟩
        show some (PV.i (IV.bool (o.name == []))) = some (PV.i (IV.bool (tagE o)))
        simp only [tagE, g1, g2, Bool.true_and]
      · refine ⟨(), trivial, ⟨rfl, rfl, rfl, rfl, ?_, trivial⟩, ⟨rfl, trivial⟩⟩
        show some (PV.i (IV.bool false)) = some (PV.i (IV.bool (tagE o)))
        simp only [tagE, g1, g2, Bool.true_and, Bool.false_and, Bool.and_false]
    · refine ⟨(), trivial, ⟨rfl, rfl, rfl, rfl, ?_, trivial⟩, ⟨rfl, trivial⟩⟩
      show some (PV.i (IV.bool false)) = some (PV.i (IV.bool (tagE o)))
      simp only [tagE, g1, Bool.true_and, Bool.false_and, Bool.and_false]
  intro _ _
  refine CW.go T_ok ?_
  generalize hb : blobE o = b1
  generalize ht : treeE o = b2
  generalize hc : commitE o = b3
  generalize hg : tagE o = b4
  have e : ∀ x, x = aloneB o → some (IV.bool x) = some (IV.bool (aloneB o)) := fun x h => by rw [h]
  refine condP.split (fun k1 => ?_) (fun k1 => ?_)
  · have k1' : o.kind = 1 := eq_of_beq k1
    cases b2 <;> cases b3 <;> exact e _ (by simp [aloneB, k1', ht, hc, hg])
  · have k1' : o.kind ≠ 1 := by have := k1; simpa using this
    refine condP.split (fun k2 => ?_) (fun k2 => ?_)
    · have k2' : o.kind = 2 := eq_of_beq k2
      cases b1 <;> cases b3 <;> exact e _ (by simp [aloneB, k2', hb, hc, hg])
    · have k2' : o.kind ≠ 2 := by have := k2; simpa using this
      refine condP.split (fun k3 => ?_) (fun k3 => ?_)
      · have k3' : o.kind = 3 := eq_of_beq k3
        cases b1 <;> cases b2 <;> exact e _ (by simp [aloneB, k3', hb, ht, hg])
      · have k3' : o.kind ≠ 3 := by have := k3; simpa using this
        cases b1 <;> cases b2 <;> exact e _ (by simp [aloneB, k1', k2', k3', hb, ht, hc])

def mayB (o : Obj) : Bool :=
  if o.kind = 2 then aloneB o && entriesB o.entries else if o.kind = 3 then aloneB o && decide (o.parents.length ≤ 8) else if o.kind = 4 then aloneB o && kindB o.of && nameB o.name else decide (o.kind = 1) && aloneB o

theorem object_may_ok (o : Obj) (hl : o.entries.length < 1000000) : PureC Pg G Fn.object_may [encObj o] (.bool (mayB o)) := by
  have ha := object_alone_ok (G := G) o
  have e : ∀ x, x = mayB o → some (IV.bool x) = some (IV.bool (mayB o)) := fun x h => by rw [h]
  refine pureC_of T_ok Fd.object_may rfl (by kernel_rfl) ?_
  refine condP.split (fun k1 => ?_) (fun k1 => ?_)
  · have k1' : o.kind = 2 := eq_of_beq k1
    refine ⟨_, _, _, pureCall ha rfl, ?_⟩
    cases h : aloneB o with
    | false => exact e _ (by simp [mayB, k1', h])
    | true =>
      refine ⟨_, _, _, pureCall (object_entries_ok o.entries hl) rfl, ?_⟩
      exact e _ (by simp [mayB, k1', h])
  · have k1' : o.kind ≠ 2 := by have := k1; simpa using this
    refine condP.split (fun k2 => ?_) (fun k2 => ?_)
    · have k2' : o.kind = 3 := eq_of_beq k2
      refine ⟨_, _, _, pureCall ha rfl, ?_⟩
      cases h : aloneB o with
      | false => exact e _ (by simp [mayB, k2', h])
      | true =>
        refine e _ ?_
        simp [mayB, k2', h]
        omega
    · have k2' : o.kind ≠ 3 := by have := k2; simpa using this
      refine condP.split (fun k3 => ?_) (fun k3 => ?_)
      · have k3' : o.kind = 4 := eq_of_beq k3
        refine ⟨_, _, _, pureCall ha rfl, ?_⟩
        cases h : aloneB o with
        | false => exact e _ (by simp [mayB, k3', h])
        | true =>
          refine ⟨_, _, _, pureCall (object_kind_ok o.of) rfl, ?_⟩
          cases h2 : kindB o.of with
          | false => exact e _ (by simp [mayB, k3', h, h2])
          | true =>
            refine ⟨_, _, _, pureCall (object_Name_ok o.name) rfl, ?_⟩
            exact e _ (by simp [mayB, k3', h, h2])
      · have k3' : o.kind ≠ 4 := by have := k3; simpa using this
        refine condP.split (fun k4 => ?_) (fun k4 => ?_)
        · have k4' : o.kind = 1 := eq_of_beq k4
          refine ⟨_, _, _, pureCall ha rfl, ?_⟩
          exact e _ (by simp [mayB, k4'])
        · have k4' : o.kind ≠ 1 := by have := k4; simpa using this
          exact e _ (by simp [mayB, k1', k2', k3', k4'])
end Go.Kn
