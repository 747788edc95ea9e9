/- StoreApart: the walk. -/
import Derived.Test.YtadcjononmlofaaDoorKnOf
import Derived.Test.YtadcjononmlofaaDoorKnOpen
set_option autoImplicit false
namespace Go.Kn
open Go Go.Proofs

theorem fewB_ok {l : List Seed} (h : fewB l = true) : l.length ≤ 20 ∧ ∀ x ∈ l, x.text.length ≤ 300 := by
  simp only [fewB, Bool.and_eq_true, decide_eq_true_eq] at h
  refine ⟨h.2, fun x hx => ?_⟩
  rw [List.take_of_length_le h.2] at h
  have := List.all_eq_true.1 h.1 x hx
  simp only [seedOK, decide_eq_true_eq] at this
  exact this.2
end Go.Kn
namespace Go.Kn
open Go Go.Proofs

def b2M (l : List Item) : Mem := [(510, .var [.vec 511 33 0 l.length]), (511, .vec 33 (itemsP l) none)]
def apE (more : List UInt8) (i : Int) : Env := [(1, .i (.str more)), (6, .ptr 6 0), (8, .ptr 500 0), (9, .ptr 510 0), (10, .i (.int .i64 i))]
def apM (m : List RItem) (j : Nat) : Mem := (6, .var [.i (.slice (m.map encRItem))]) :: (s2M (m.map toItem) ++ b2M ((m.drop j).map toItem))

def c2M (l : List Item) : Mem := [(520, .var [.vec 521 33 0 l.length]), (521, .vec 33 (itemsP l) none)]
def mM (m : List RItem) : MO := .var [.i (.slice (m.map encRItem))]

set_option maxHeartbeats 4000000 in
set_option maxRecDepth 100000 in
theorem law11_StoreApart_ok (H : SameDec) (l : List Seed) (more : List UInt8) : Body Pg Fn.law11_StoreApart ∧ AC Pg G0 Fn.law11_StoreApart ([.slice (l.map encSeed), .str more].map .i) [] (.i (.bool true)) [] := by
  refine pureB_of T_ok Fd.law11_StoreApart rfl (by kernel_rfl) ?_
  refine CW.next T_ok ?_
  refine CW.next T_ok ?_
  refine ⟨_, _, _, pureCall (ref11_Few_ok l) rfl, ?_⟩
  refine CW.next T_ok ?_
  cases hf : fewB l with
  | false =>
    refine ⟨_, _, _, pureCall law11_knows_ok rfl, ?_⟩
    rfl
  | true =>
    obtain ⟨hl, ht⟩ := fewB_ok hf
    refine condP.split (fun g => ?_) (fun g => ?_)
    · refine ⟨_, _, _, pureCall law11_knows_ok rfl, ?_⟩
      rfl
    · have hmore : more.length ≤ 500 := by have : ¬ (more.length : Int) > 500 := of_decide_eq_false g; omega
      have hgr := ref11_Grow_ok (G := G0) l hl ht
      have hcorr := growR_corr H l
      have hml : (growR l).1.length ≤ 20 := by have := (growR_len l l.length (Nat.le_refl _)).1; rw [List.take_length] at this; omega
      refine CW.next T_ok ?_
      refine ⟨_, _, _, pureCall hgr rfl, ?_⟩
      generalize (growR l).2 = ids
      generalize (growR l).1 = m at *
      refine CW.next T_ok ?_
      have hof := law11_Of_ok H m hcorr (by omega)
      refine ⟨_, _, _, lendCall (args := [.i (encSt m)]) (ρ := [(1000, 500), (1001, 501)]) hof.1 hof.2 ⟨rfl, rfl⟩ (MemL.as trivial rfl) rfl, ?_⟩
      refine CW.next T_ok ?_
      refine ⟨_, _, _, lendCall (args := []) (ρ := [(1000, 510), (1001, 511)]) (new_ok (G := G0)).1 new_ok.2 rfl (MemL.as trivial rfl) rfl, ?_⟩
      refine CW.next T_ok ?_
      refine ⟨_, eqPtrNil 500 0, ?_⟩
      refine ⟨_, eqPtrNil 510 0, ?_⟩
      refine CW.next T_ok ?_
      refine loopX T_ok 0 (S := Nat) (S' := Unit) (fun j => apE more ((j : Int) - 1)) (fun j => apM m j) (fun j => j) (fun j => j ≤ m.length)
        (fun _ => apE more (-1)) (fun _ => apM m 0) (fun _ => True) m.length ?_ ?_ (by omega) ?_ ?_
      · refine ⟨rfl, rfl, rfl, rfl, ?_, trivial⟩
        have : IntKind.i64.wrap (((m.map encRItem).length : Int) - 1) = (m.length : Int) - 1 := by rw [lenR, wrap_i64 (by omega) (by omega)]
        exact congrArg (fun n => some (PV.i (IV.int .i64 n))) this
      · refine ⟨rfl, rfl, rfl, ?_, ?_, trivial⟩
        · rw [List.drop_length]; rfl
        · rw [List.drop_length]; rfl
      · intro j hj
        refine condP.split (fun g => ?_) (fun g => ?_)
        · have g' : 0 < j := by have h : (j : Int) - 1 ≥ 0 := of_decide_eq_true g; omega
          obtain ⟨i, rfl⟩ : ∃ i, j = i + 1 := ⟨j - 1, by omega⟩
          have hi : i < m.length := by omega
          have hix : ((i + 1 : Nat) : Int) - 1 = (i : Int) := by omega
          rw [hix]
          refine ⟨encRItem m[i], ⟨by omega, by simp [hi]⟩, ?_⟩
          have hput := put_ok ((m.drop (i + 1)).map toItem) m[i].text (rising_drop hcorr (i + 1)) (by simp; omega) (by have := (hcorr.get hi).len; omega)
          rw [put_prev H hcorr hi, put_id H (hcorr.get hi)] at hput
          refine ⟨_, _, _, lendCall (ρ := [(1000, 510), (1001, 511)]) hput.1 hput.2 ⟨rfl, rfl, rfl⟩ (stAs rfl rfl rfl) rfl, ?_⟩
          refine ⟨i, ⟨by omega, by omega⟩, ⟨rfl, rfl, rfl, rfl, ?_, trivial⟩, ⟨rfl, rfl, rfl, rfl, rfl, trivial⟩⟩
          exact congrArg (fun n => some (PV.i (IV.int .i64 n))) (wrap_i64 (a := (i : Int) - 1) (by omega) (by omega))
        · have g' : j = 0 := by have h : ¬ (j : Int) - 1 ≥ 0 := of_decide_eq_false g; omega
          subst g'
          exact ⟨(), trivial, ⟨rfl, rfl, rfl, rfl, rfl, trivial⟩, ⟨rfl, rfl, rfl, rfl, rfl, trivial⟩⟩
      · intro _ _
        rw [apM, List.drop_zero]
        have has := law11_As_ok (G := G0) m hcorr.rising (by omega)
        refine CW.cut T_ok (S := Unit) (fun _ => [(1, .i (.str more)), (6, .ptr 6 0), (8, .ptr 500 0), (9, .ptr 510 0), (11, .i (.bool true))]) (fun _ => (6, mM m) :: (s2M (m.map toItem) ++ b2M (m.map toItem))) (fun _ => True) ?_ ?_
        · refine ⟨_, _, _, lendCall (ρ := [(1000, 500), (1001, 501)]) has.1 has.2 ⟨rfl, rfl, rfl⟩ (stAs rfl rfl rfl) rfl, ?_⟩
          exact ⟨(), trivial, ⟨rfl, rfl, rfl, rfl, rfl, trivial⟩, ⟨rfl, rfl, rfl, rfl, rfl, trivial⟩⟩
        intro _ _
        refine CW.cut T_ok (S := Unit) (fun _ => [(1, .i (.str more)), (6, .ptr 6 0), (8, .ptr 500 0), (11, .i (.bool true)), (12, .i (.bool true))]) (fun _ => (6, mM m) :: s2M (m.map toItem)) (fun _ => True) ?_ ?_
        · refine ⟨_, _, _, lendCall (ρ := [(1000, 510), (1001, 511)]) has.1 has.2 ⟨rfl, rfl, rfl⟩ (stAs rfl rfl rfl) rfl, ?_⟩
          exact ⟨(), trivial, ⟨rfl, rfl, rfl, rfl, rfl, trivial⟩, ⟨rfl, rfl, rfl, trivial⟩⟩
        intro _ _
        have hcp := copy_ok (G := G0) (m.map toItem) (by simp; omega)
        refine CW.cut T_ok (S := Unit) (fun _ => [(1, .i (.str more)), (6, .ptr 6 0), (8, .ptr 500 0), (11, .i (.bool true)), (12, .i (.bool true)), (13, .ptr 520 0)]) (fun _ => (6, mM m) :: (s2M (m.map toItem) ++ c2M (m.map toItem))) (fun _ => True) ?_ ?_
        · refine ⟨_, _, _, lendCall (ρ := [(1000, 500), (1001, 501), (1002, 520), (1003, 521)]) hcp.1 hcp.2 ⟨rfl, rfl⟩ (MemL.as ⟨⟨_, rfl, MLe.refl _⟩, ⟨_, rfl, MLe.vecEq rfl⟩, trivial⟩ rfl) rfl, ?_⟩
          exact ⟨(), trivial, ⟨rfl, rfl, rfl, rfl, rfl, rfl, trivial⟩, ⟨rfl, rfl, rfl, rfl, rfl, trivial⟩⟩
        intro _ _
        have hput := put_ok (m.map toItem) more hcorr.rising (by simp; omega) (by omega)
        obtain ⟨hc2, hpl, hwl⟩ := put_corr H hcorr (t := more) (by omega)
        have hw := ref11_With_ok (G := G0) m more (by omega) (by omega)
        have hpw := put_with H m (t := more) (by omega)
        rw [hpl] at hput
        generalize withR m more = r at *
        obtain ⟨n, y, ok⟩ := r
        simp only at hc2 hwl hpw hput
        have has2 := law11_As_ok (G := G0) n hc2.rising (by omega)
        obtain ⟨e, he, hpv⟩ : ∃ e : Int, ((ok = false ∧ e = 2) ∨ (ok = true ∧ e = 0)) ∧ putV more = .tup [encId y, .int .i64 e] := by
          rcases hpw with ⟨h1, h2⟩ | ⟨h1, h2⟩
          · exact ⟨2, .inl ⟨h1, rfl⟩, h2⟩
          · exact ⟨0, .inr ⟨h1, rfl⟩, h2⟩
        rw [hpv] at hput
        refine CW.cut T_ok (S := Unit) (fun _ => [(1, .i (.str more)), (6, .ptr 6 0), (8, .ptr 500 0), (11, .i (.bool true)), (12, .i (.bool true)), (13, .ptr 520 0), (15, .i (.int .i64 e))]) (fun _ => (6, mM m) :: (s2M (n.map toItem) ++ c2M (m.map toItem))) (fun _ => True) ?_ ?_
        · refine ⟨_, _, _, lendCall (ρ := [(1000, 500), (1001, 501)]) hput.1 hput.2 ⟨rfl, rfl, rfl⟩ (stAs rfl rfl rfl) rfl, ?_⟩
          exact ⟨(), trivial, ⟨rfl, rfl, rfl, rfl, rfl, rfl, rfl, trivial⟩, ⟨rfl, rfl, rfl, rfl, rfl, trivial⟩⟩
        intro _ _
        refine CW.cut T_ok (S := Unit) (fun _ => [(1, .i (.str more)), (6, .ptr 6 0), (8, .ptr 500 0), (11, .i (.bool true)), (12, .i (.bool true)), (13, .ptr 520 0), (15, .i (.int .i64 e)), (16, .ptr 16 0), (18, .i (.bool ok))]) (fun _ => (6, mM m) :: (16, mM n) :: (s2M (n.map toItem) ++ c2M (m.map toItem))) (fun _ => True) ?_ ?_
        · refine ⟨_, _, _, pureCall hw rfl, ?_⟩
          exact ⟨(), trivial, ⟨rfl, rfl, rfl, rfl, rfl, rfl, rfl, rfl, rfl, trivial⟩, ⟨rfl, rfl, rfl, rfl, rfl, rfl, trivial⟩⟩
        intro _ _
        refine CW.cut T_ok (S := Unit) (fun _ => [(1, .i (.str more)), (6, .ptr 6 0), (11, .i (.bool true)), (12, .i (.bool true)), (13, .ptr 520 0), (15, .i (.int .i64 e)), (18, .i (.bool ok)), (19, .i (.bool true))]) (fun _ => (6, mM m) :: c2M (m.map toItem)) (fun _ => True) ?_ ?_
        · refine ⟨_, _, _, lendCall (ρ := [(1000, 500), (1001, 501)]) has2.1 has2.2 ⟨rfl, rfl, rfl⟩ (stAs rfl rfl rfl) rfl, ?_⟩
          exact ⟨(), trivial, ⟨rfl, rfl, rfl, rfl, rfl, rfl, rfl, rfl, trivial⟩, ⟨rfl, rfl, rfl, trivial⟩⟩
        intro _ _
        refine CW.cut T_ok (S := Unit) (fun _ => [(1, .i (.str more)), (11, .i (.bool true)), (12, .i (.bool true)), (15, .i (.int .i64 e)), (18, .i (.bool ok)), (19, .i (.bool true)), (20, .i (.bool true))]) (fun _ => []) (fun _ => True) ?_ ?_
        · refine ⟨_, _, _, lendCall (ρ := [(1000, 520), (1001, 521)]) has.1 has.2 ⟨rfl, rfl, rfl⟩ (stAs rfl rfl rfl) rfl, ?_⟩
          exact ⟨(), trivial, ⟨rfl, rfl, rfl, rfl, rfl, rfl, rfl, trivial⟩, trivial⟩
        intro _ _
        refine CW.cut T_ok (S := Unit) (fun _ => [(1, .i (.str more)), (11, .i (.bool true)), (12, .i (.bool true)), (15, .i (.int .i64 e)), (18, .i (.bool ok)), (19, .i (.bool true)), (20, .i (.bool true)), (21, .i .nilP)]) (fun _ => []) (fun _ => True) ?_ ?_
        · exact ⟨(), trivial, ⟨rfl, rfl, rfl, rfl, rfl, rfl, rfl, rfl, trivial⟩, trivial⟩
        intro _ _
        refine CW.cut T_ok (S := Unit) (fun _ => [(11, .i (.bool true)), (12, .i (.bool true)), (15, .i (.int .i64 e)), (18, .i (.bool ok)), (19, .i (.bool true)), (20, .i (.bool true)), (21, .i .nilP), (23, .i (.int .i64 1))]) (fun _ => []) (fun _ => True) ?_ ?_
        · refine ⟨_, _, _, pureCall (nil_put more) rfl, ?_⟩
          exact ⟨(), trivial, ⟨rfl, rfl, rfl, rfl, rfl, rfl, rfl, rfl, trivial⟩, trivial⟩
        intro _ _
        refine CW.cut T_ok (S := Unit) (fun _ => [(11, .i (.bool true)), (12, .i (.bool true)), (15, .i (.int .i64 e)), (18, .i (.bool ok)), (19, .i (.bool true)), (20, .i (.bool true)), (21, .i .nilP), (23, .i (.int .i64 1)), (25, .i (.bool false))]) (fun _ => []) (fun _ => True) ?_ ?_
        · refine ⟨_, _, _, pureCall (nil_get Id.none) rfl, ?_⟩
          exact ⟨(), trivial, ⟨rfl, rfl, rfl, rfl, rfl, rfl, rfl, rfl, rfl, trivial⟩, trivial⟩
        intro _ _
        refine CW.cut T_ok (S := Unit) (fun _ => [(11, .i (.bool true)), (12, .i (.bool true)), (15, .i (.int .i64 e)), (18, .i (.bool ok)), (19, .i (.bool true)), (20, .i (.bool true)), (21, .i .nilP), (23, .i (.int .i64 1)), (25, .i (.bool false)), (27, .i (.bool false))]) (fun _ => []) (fun _ => True) ?_ ?_
        · refine ⟨_, _, _, pureCall (nil_object Id.none) rfl, ?_⟩
          exact ⟨(), trivial, ⟨rfl, rfl, rfl, rfl, rfl, rfl, rfl, rfl, rfl, rfl, trivial⟩, trivial⟩
        intro _ _
        refine CW.go T_ok ?_
        rcases he with ⟨rfl, rfl⟩ | ⟨rfl, rfl⟩
        all_goals
          refine ⟨_, _, _, pureCall law11_knows_ok rfl, ?_⟩
          refine ⟨_, eqBool _ _, ?_⟩
          refine ⟨_, _, _, pureCall (nil_kind Id.none) rfl, ?_⟩
          refine ⟨_, _, _, pureCall nil_len rfl, ?_⟩
          refine ⟨_, _, _, pureCall nil_ids rfl, ?_⟩
          refine ⟨_, _, _, pureCall nil_copy rfl, ?_⟩
          refine ⟨_, eqNilNil, ?_⟩
          rfl
end Go.Kn
