/- The program's store: its ids. -/
import Derived.Test.YtadcjononmlofaaDoorKnStore
set_option autoImplicit false
namespace Go.Kn
open Go Go.Proofs

variable {G : Gl}

def idsV (l : List Item) : List IV := l.map fun x => encId x.id

theorem idsV_size (l : List Item) : hasSize 32 (idsV l) := by
  intro x hx
  obtain ⟨e, _, rfl⟩ := List.mem_map.1 hx
  exact encId_len e.id

def idsM (l : List Item) : Mem := (21, .tip) :: stM l

theorem ids_ok (l : List Item) (hl : l.length < 1000000) : Body Pg Fn.store_Store_Ids ∧ AC Pg G Fn.store_Store_Ids [.ptr 1000 0] (stM l) (.i (.slice (idsV l))) (stM l) := by
  refine acW_of T_ok Fd.store_Store_Ids rfl (by kernel_rfl) ?_
  refine CW.next T_ok ?_
  refine CW.next T_ok ?_
  refine ⟨_, eqPtrNil 1000 0, ?_⟩
  refine CW.next T_ok ?_
  refine CW.go T_ok ?_
  refine LoopW.tok0 21 rfl rfl (env' := [(3, .tok 21 32 []), (11, .vec 1001 33 0 l.length), (12, .i (.int .i64 (l.length : Int))), (13, .i (.int .i64 0))]) (m' := idsM l)
    ⟨⟨_, rfl, .tok 32⟩, ⟨_, rfl, .refl _⟩, ⟨_, rfl, .refl _⟩, ⟨_, rfl, .refl _⟩, trivial⟩ ⟨.inl ⟨rfl, .tip⟩, .inr ⟨by decide, _, rfl, .refl _⟩, .inr ⟨by decide, _, rfl, .refl _⟩, trivial⟩ ?_
  refine loopX T_ok 0 (S := Nat) (S' := Unit) (fun i => [(3, .tok 21 32 (idsV (l.take i))), (11, .vec 1001 33 0 l.length), (12, .i (.int .i64 (l.length : Int))), (13, .i (.int .i64 (i : Int)))]) (fun _ => idsM l) (fun i => l.length - i) (fun i => i ≤ l.length)
    (fun _ => [(3, .tok 21 32 (idsV l))]) (fun _ => idsM l) (fun _ => True) 0 ⟨rfl, rfl, rfl, rfl, trivial⟩ ⟨rfl, rfl, rfl, trivial⟩ (by omega) ?_ ?_
  · intro i hi
    refine condP.split (fun g => ?_) (fun g => ?_)
    · have g' : i < l.length := by have : (i : Int) < l.length := of_decide_eq_true g; omega
      have hget : l[i]? = some l[i] := List.getElem?_eq_getElem g'
      refine ⟨⟨by omega, by show (i : Int) < l.length; omega⟩, ?_⟩
      refine ⟨encItem l[i], by show (itemsP l)[addS 0 (i : Int).toNat]? = _; rw [addS_eq]; simpa using itemsP_get hget, ?_⟩
      refine ⟨⟨⟨idsV_size _, fun x hx => by have := List.mem_singleton.1 hx; subst this; rfl⟩, szOK (by simp [idsV]; omega) (by kernel_rfl)⟩, ?_⟩
      refine ⟨i + 1, ⟨by omega, by omega⟩, ⟨?_, rfl, rfl, congrArg (fun n => some (PV.i (IV.int .i64 n))) (int_succ (by omega)), trivial⟩, ⟨rfl, rfl, rfl, trivial⟩⟩
      have : idsV (l.take (i + 1)) = idsV (l.take i) ++ [encId l[i].id] := by
        rw [idsV, idsV, List.take_succ_eq_append_getElem g', List.map_append]; rfl
      rw [this]; rfl
    · have g' : i = l.length := by have : ¬ (i : Int) < l.length := of_decide_eq_false g; omega
      subst g'
      exact ⟨(), trivial, ⟨by rw [← List.take_of_length_le (l := l) (Nat.le_refl _)]; simp; rfl, trivial⟩, ⟨rfl, rfl, rfl, trivial⟩⟩
  · intro _ _
    exact retSame rfl (stEnd rfl rfl)
end Go.Kn
