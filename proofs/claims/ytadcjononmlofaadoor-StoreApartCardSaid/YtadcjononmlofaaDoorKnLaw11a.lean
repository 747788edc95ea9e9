/- The law's package of layer 11: As. -/
import Derived.Test.YtadcjononmlofaaDoorKnR11
import Derived.Test.YtadcjononmlofaaDoorKnStore2
set_option autoImplicit false
namespace Go.Kn
open Go Go.Proofs

variable {G : Gl}

def toItem (x : RItem) : Item := ⟨x.id, x.text⟩

theorem find_to (m : List RItem) (y : Id) : findI (m.map toItem) y = (getR11 m y).map toItem := by
  induction m with
  | nil => rfl
  | cons a l ih =>
    simp only [findI, getR11, List.map_cons, List.find?_cons] at *
    show (match decide (a.id = y) with | true => _ | false => _) = _
    cases decide (a.id = y) <;> simp [ih]

theorem get_self {m : List RItem} (hr : Rising (m.map toItem)) {i : Nat} (h : i < m.length) : getR11 m m[i].id = some m[i] := by
  rcases at_get (l := m) (y := m[i].id) with ⟨_, h2⟩ | ⟨j, x, h1, h2, h3, h4⟩
  · rw [getR11, List.find?_eq_none] at h2
    have := h2 m[i] (List.getElem_mem h)
    simp at this
  · rw [h3]
    have hx : x = m[j] := by rw [List.getElem?_eq_getElem h4] at h2; exact (Option.some.inj h2).symm
    have he : x.id = m[i].id := by
      rw [getR11] at h3
      have := List.find?_some h3
      exact of_decide_eq_true this
    have : j = i := by
      have hp := List.pairwise_iff_getElem.1 hr
      have hji : m[j].id = m[i].id := by rw [← hx]; exact he
      rcases Nat.lt_trichotomy i j with q | q | q
      · have := hp i j (by simpa using h) (by simpa using h4) q
        simp [toItem, hji] at this
      · exact q.symm
      · have := hp j i (by simpa using h4) (by simpa using h) q
        simp [toItem, hji] at this
    subst this; rw [hx]

def asM (m : List RItem) : Mem := (3, .var [.i (.slice (m.map encRItem))]) :: stM (m.map toItem)

theorem law11_As_ok (m : List RItem) (hr : Rising (m.map toItem)) (hl : m.length < 1000000) :
    Body Pg Fn.law11_As ∧ AC Pg G Fn.law11_As [.ptr 1000 0, .i (encSt m)] (stM (m.map toItem)) (.i (.int .i64 1)) (stM (m.map toItem)) := by
  have hids := ids_ok (G := G) (m.map toItem) (by simpa using hl)
  have hsame := ref02_Same_ok (G := G) (m.map RItem.id) (m.map RItem.id) (by simpa using hl)
  have hlen := len_ok (G := G) (m.map toItem)
  have e1 : idsV (m.map toItem) = (m.map RItem.id).map encId := by simp [idsV, toItem]
  have e2 : idsR m = (m.map RItem.id).map encId := by simp [idsR]
  rw [e1] at hids
  have hR := ref11_Ids_ok (G := G) m hl
  rw [e2] at hR
  rw [decide_eq_true rfl] at hsame
  refine acW_of T_ok Fd.law11_As rfl (by kernel_rfl) ?_
  refine CW.next T_ok ?_
  refine CW.next T_ok ?_
  refine drawW T_ok (by decide +kernel) ?_
  refine ⟨[(1000, 1000), (1001, 1001)], _, _, _, _, ⟨hids.1, hids.2, ⟨rfl, rfl⟩, stAs rfl rfl rfl, rfl⟩, ?_⟩
  refine ⟨_, _, ⟨rfl, hR⟩, ?_⟩
  refine ⟨_, _, ⟨rfl, hsame⟩, ?_⟩
  refine ⟨by kernel_rfl, ?_⟩
  refine CW.next T_ok ?_
  refine drawW T_ok (by decide +kernel) ?_
  refine ⟨[(1000, 1000), (1001, 1001)], _, _, _, _, ⟨hlen.1, hlen.2, ⟨rfl, rfl⟩, stAs rfl rfl rfl, rfl⟩, ?_⟩
  refine ⟨by kernel_rfl, ?_⟩
  rw [List.length_map]
  refine condP.split (fun g => ?_) (fun g => ?_)
  · exfalso
    simp at g
  · refine CW.go T_ok ?_
    refine loopX T_ok 0 (S := Nat) (S' := Unit) (fun i => [(0, .ptr 1000 0), (3, .ptr 3 0), (6, .i (.int .i64 (i : Int)))]) (fun _ => asM m) (fun i => m.length - i) (fun i => i ≤ m.length)
      (fun _ => []) (fun _ => stM (m.map toItem)) (fun _ => True) 0 ⟨rfl, rfl, rfl, trivial⟩ ⟨rfl, rfl, rfl, trivial⟩ (by omega) ?_ ?_
    · intro i hi
      refine condP.split (fun g => ?_) (fun g => ?_)
      · have g' : i < m.length := by have h : (i : Int) < ((m.map encRItem).length : Int) := of_decide_eq_true g; rw [lenR] at h; omega
        refine ⟨encRItem m[i], ⟨by omega, by simp [g']⟩, ?_⟩
        have hget := get_ok (G := G) (m.map toItem) m[i].id hr (by simpa using hl)
        rw [find_to, get_self hr g'] at hget
        refine ⟨_, _, _, stCall hget ⟨rfl, rfl, rfl⟩ (stAs rfl rfl rfl), ?_⟩
        refine ⟨encRItem m[i], ⟨by omega, by simp [g']⟩, ?_⟩
        refine condP.split (fun g2 => ?_) (fun g2 => ?_)
        · exfalso
          have : (m[i].text != m[i].text) = true := g2
          simp at this
        · exact ⟨i + 1, ⟨by omega, by omega⟩, ⟨rfl, rfl, congrArg (fun n => some (PV.i (IV.int .i64 n))) (int_succ (by omega)), trivial⟩, ⟨rfl, rfl, rfl, trivial⟩⟩
      · exact ⟨(), trivial, trivial, ⟨rfl, rfl, trivial⟩⟩
    · intro _ _
      exact retSame rfl (stEnd rfl rfl)
end Go.Kn

namespace Go.Kn
open Go Go.Proofs

theorem dec_hi : ∃ o, decodeP [1, 2, 104, 105] = some o := by
  refine ⟨_, rfl⟩

theorem dec_x : decodeP [120] = none := rfl

theorem law11_knows_ok : PureC Pg G0 Fn.law11_knows [] (.bool true) := by
  obtain ⟨o, hhi⟩ := dec_hi
  have hput1 := put_ok [] [1, 2, 104, 105] .nil (by decide) (by decide)
  have e1 : putV [1, 2, 104, 105] = .tup [encId (sha [1, 2, 104, 105]), .int .i64 0] := by rw [putV, hhi]
  have e2 : putL [] [1, 2, 104, 105] = [⟨sha [1, 2, 104, 105], [1, 2, 104, 105]⟩] := by rw [putL, hhi]; rfl
  rw [e1, e2] at hput1
  have hsum := ref02_Sum_ok (G := G0) [1, 2, 104, 105] (by decide)
  generalize sha [1, 2, 104, 105] = y at *
  have hr : Rising [⟨y, [1, 2, 104, 105]⟩] := List.pairwise_singleton _ _
  have hput2 := put_ok [⟨y, [1, 2, 104, 105]⟩] [120] hr (by simp) (by decide)
  have e3 : putV [120] = .tup [encId Id.none, .int .i64 2] := by rw [putV, dec_x]
  have e4 : putL [⟨y, [1, 2, 104, 105]⟩] [120] = [⟨y, [1, 2, 104, 105]⟩] := by rw [putL, dec_x]
  rw [e3, e4] at hput2
  have hkind := kind_ok (G := G0) [⟨y, [1, 2, 104, 105]⟩] y hr (by simp) (by simp)
  rw [show findI [⟨y, [1, 2, 104, 105]⟩] y = some ⟨y, [1, 2, 104, 105]⟩ by simp [findI]] at hkind
  have hlen := len_ok (G := G0) [⟨y, [1, 2, 104, 105]⟩]
  refine pureW_of T_ok Fd.law11_knows rfl (by kernel_rfl) ?_
  refine CW.next T_ok ?_
  refine CW.next T_ok ?_
  refine ⟨_, _, _, lendCall (args := []) (ρ := [(1000, 500), (1001, 501)]) (new_ok (G := G0)).1 new_ok.2 rfl (MemL.as trivial rfl) rfl, ?_⟩
  refine CW.next T_ok ?_
  refine ⟨_, eqPtrNil 500 0, ?_⟩
  refine CW.next T_ok ?_
  refine ⟨_, _, _, lendCall (ρ := [(1000, 500), (1001, 501)]) hput1.1 hput1.2 ⟨rfl, rfl, rfl⟩ (stAs rfl rfl rfl) rfl, ?_⟩
  refine CW.next T_ok ?_
  refine ⟨_, _, _, lendCall (ρ := [(1000, 500), (1001, 501)]) hput2.1 hput2.2 ⟨rfl, rfl, rfl⟩ (stAs rfl rfl rfl) rfl, ?_⟩
  refine CW.next T_ok ?_
  refine drawW T_ok (by decide +kernel) ?_
  refine ⟨_, _, ⟨rfl, hsum⟩, ?_⟩
  refine ⟨_, eqId y y, ?_⟩
  rw [decide_eq_true rfl]
  refine ⟨[(1000, 500), (1001, 501)], _, _, _, _, ⟨hkind.1, hkind.2, ⟨rfl, rfl, rfl⟩, stAs rfl rfl rfl, rfl⟩, ?_⟩
  refine ⟨[(1000, 500), (1001, 501)], _, _, _, _, ⟨hlen.1, hlen.2, ⟨rfl, rfl⟩, stAs rfl rfl rfl, rfl⟩, ?_⟩
  refine ⟨by kernel_rfl, ?_⟩
  refine CW.go T_ok ?_
  rfl
end Go.Kn
