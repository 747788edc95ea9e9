/- Names of the program's objects. -/
import Derived.Test.YtadcjononmlofaaDoorKnObj
set_option autoImplicit false
namespace Go.Kn
open Go Go.Proofs

variable {G : Gl}

/-- Where a byte stands first; below 0: nowhere. -/
def idxS (s : List UInt8) (c : UInt8) : Int :=
  match (List.range s.length).find? fun i => s.getD i 0 == c with
  | some i => (i : Int)
  | none => -1

theorem idxS_neg (s : List UInt8) (c : UInt8) : decide (idxS s c < 0) = decide (c ∉ s) := by
  congr 1
  apply propext
  unfold idxS
  split
  · rename_i i h
    have h1 := List.find?_some h
    have h2 := List.mem_of_find?_eq_some h
    simp only [List.mem_range] at h2
    have h3 : s.getD i 0 = c := by simpa using h1
    constructor
    · intro h; omega
    · intro h
      exact absurd (by rw [← h3, List.getD_eq_getElem?_getD, List.getElem?_eq_getElem h2]; simp) h
  · rename_i h
    simp only [List.find?_eq_none, List.mem_range] at h
    constructor
    · intro _ hc
      obtain ⟨i, hi, he⟩ := List.getElem_of_mem hc
      have := h i hi
      simp [List.getD_eq_getElem?_getD, hi, he] at this
    · intro _; omega

theorem indexByteString_ok (s : List UInt8) (c : UInt8) : PureC Pg G Fn.internal_bytealg_IndexByteString [.str s, .int .u8 (c.toNat : Int)] (.int .i64 (idxS s c)) := by
  refine .inr ?_
  intro σ w vs hr _
  obtain ⟨hl, hr⟩ := hr
  match vs, hl with
  | [v1, v2], _ =>
    have r1 := rel_str (hr 0 _ v1 rfl rfl)
    have r2 := rel_int (hr 1 _ v2 rfl rfl)
    subst r1; subst r2
    refine ⟨_, .int _ _, ?_⟩
    rw [run_callFunc_extern Fd.internal_bytealg_IndexByteString (by kernel_rfl) (by kernel_rfl) (by kernel_rfl) (show Extern.find _ = some Extern.BytealgIndexByte.indexByte by kernel_rfl)]
    have hc : UInt8.ofNat (c.toNat : Int).toNat = c := by simp
    have hget : ∀ i : Nat, (⟨s.toArray⟩ : ByteArray)[i]! = s.getD i 0 := fun i => by
      by_cases hi : i < s.length
      · rw [getElem!_pos (⟨s.toArray⟩ : ByteArray) i (by simpa [ByteArray.size] using hi)]
        simp [List.getD_eq_getElem?_getD, hi, ByteArray.getElem_eq_getElem_data]
      · rw [getElem!_neg (⟨s.toArray⟩ : ByteArray) i (by simpa [ByteArray.size] using hi)]
        simp [List.getD_eq_getElem?_getD, List.getElem?_eq_none (Nat.le_of_not_lt hi)]
        rfl
    have hs : (⟨s.toArray⟩ : ByteArray).size = s.length := by simp [ByteArray.size]
    have hc2 : (c.toNat : Int).toNat.toUInt8 = c := by simp
    rw [run_indexByte_string, hc2]
    simp only [firstIdx, hget, hs, idxS]
    rfl

theorem strings_IndexByte_ok (s : List UInt8) (c : UInt8) : PureC Pg G Fn.strings_IndexByte [.str s, .int .u8 (c.toNat : Int)] (.int .i64 (idxS s c)) := by
  have h1 : PureC Pg G Fn.internal_stringslite_IndexByte [.str s, .int .u8 (c.toNat : Int)] (.int .i64 (idxS s c)) := by
    refine pureC_of T_ok Fd.internal_stringslite_IndexByte rfl (by kernel_rfl) ?_
    exact ⟨_, _, _, pureCall (indexByteString_ok s c) rfl, rfl⟩
  refine pureC_of T_ok Fd.strings_IndexByte rfl (by kernel_rfl) ?_
  exact ⟨_, _, _, pureCall h1 rfl, rfl⟩

/-- May a name be? -/
def nameB (s : List UInt8) : Bool := decide (s ≠ []) && decide (s.length ≤ 40) && decide ((0 : UInt8) ∉ s) && decide ((47 : UInt8) ∉ s)

theorem object_Name_ok (s : List UInt8) : PureC Pg G Fn.object_Name [.str s] (.bool (nameB s)) := by
  have h1 := strings_IndexByte_ok (G := G) s 0
  have h2 := strings_IndexByte_ok (G := G) s 47
  refine pureC_of T_ok Fd.object_Name rfl (by kernel_rfl) ?_
  refine condP.split (fun g1 => ?_) (fun g1 => ?_)
  · have g1' : s ≠ [] := by simpa using g1
    refine condP.split (fun g2 => ?_) (fun g2 => ?_)
    · have g2' : s.length ≤ 40 := by have : (s.length : Int) ≤ 40 := of_decide_eq_true g2; omega
      refine ⟨_, _, _, pureCall h1 rfl, ?_⟩
      refine condP.split (fun g3 => ?_) (fun g3 => ?_)
      · refine ⟨_, _, _, pureCall h2 rfl, ?_⟩
        show some (IV.bool (decide (idxS s 47 < 0))) = some (.bool (nameB s))
        have g3' : (0 : UInt8) ∉ s := by
          have : decide (idxS s 0 < 0) = true := g3
          rw [idxS_neg] at this; simpa using this
        rw [idxS_neg]
        simp [nameB, g1', g2', g3']
      · show some (IV.bool false) = some (.bool (nameB s))
        have g3' : ¬ (0 : UInt8) ∉ s := by
          have : decide (idxS s 0 < 0) = false := g3
          rw [idxS_neg] at this; simpa using this
        simp [nameB, g3']
    · show some (IV.bool false) = some (.bool (nameB s))
      have g2' : ¬ s.length ≤ 40 := by have : ¬ (s.length : Int) ≤ 40 := of_decide_eq_false g2; omega
      simp [nameB, g2']
  · show some (IV.bool false) = some (.bool (nameB s))
    have g1' : s = [] := by simpa using g1
    simp [nameB, g1']

def kindB (n : Int) : Bool := decide (1 ≤ n) && decide (n ≤ 4)

theorem object_kind_ok (n : Int) : PureC Pg G Fn.object_kind [.int .i64 n] (.bool (kindB n)) := by
  refine pureC_of T_ok Fd.object_kind rfl (by kernel_rfl) ?_
  refine condP.split (fun g1 => ?_) (fun g1 => ?_)
  · show some (IV.bool (decide (n ≤ 4))) = some (.bool (kindB n))
    have : 1 ≤ n := of_decide_eq_true g1
    simp [kindB, this]
  · show some (IV.bool false) = some (.bool (kindB n))
    have : ¬ 1 ≤ n := of_decide_eq_false g1
    simp [kindB, this]

/-- May an entry stand behind another one? -/
def entOK (p : Option (List UInt8)) (e : Entry) : Bool :=
  nameB e.name && (decide (e.kind = 1) || decide (e.kind = 2)) && (match p with | some q => Op.bytesLess q e.name | none => true)

def entB : Option (List UInt8) → List Entry → Bool
  | _, [] => true
  | p, e :: r => entOK p e && entB (some e.name) r

def prevN (l : List Entry) : Nat → Option (List UInt8)
  | 0 => none
  | j + 1 => (l[j]?).map (·.name)

def entriesB (l : List Entry) : Bool := entB none l && decide (l.length ≤ 64)

theorem object_entries_ok (l : List Entry) (hl : l.length < 1000000) : PureC Pg G Fn.object_entries [.slice (l.map encEntry)] (.bool (entriesB l)) := by
  refine pureC_of T_ok Fd.object_entries rfl (by kernel_rfl) ?_
  refine loopX T_ok 0 (S := Nat) (S' := Unit) (fun i => [(0, .i (.slice (l.map encEntry))), (5, .i (.slice (l.map encEntry))), (6, .i (.int .i64 (l.length : Int))), (7, .i (.int .i64 (i : Int)))]) (fun _ => []) (fun i => l.length - i)
    (fun i => i ≤ l.length ∧ entB (prevN l i) (l.drop i) = entB none l) (fun _ => [(0, .i (.slice (l.map encEntry)))]) (fun _ => []) (fun _ => entB none l = true) 0
    ⟨rfl, rfl, ?_, rfl, trivial⟩ trivial ⟨by omega, rfl⟩ ?_ ?_
  · show some (PV.i (.int .i64 ((l.map encEntry).length : Int))) = _
    simp
  · rintro i ⟨h1, h2⟩
    refine condP.split (fun g1 => ?_) (fun g1 => ?_)
    · have g1' : i < l.length := by have : (i : Int) < l.length := of_decide_eq_true g1; omega
      have hget : l[i]? = some l[i] := List.getElem?_eq_getElem g1'
      have hdr : l.drop i = l[i] :: l.drop (i + 1) := List.drop_eq_getElem_cons g1'
      rw [hdr] at h2
      have hbad : entOK (prevN l i) l[i] = false → some (IV.bool false) = some (.bool (entriesB l)) := fun h => by
        rw [entriesB, ← h2, entB, h]; rfl
      have hgo : entOK (prevN l i) l[i] = true → entB (prevN l (i + 1)) (l.drop (i + 1)) = entB none l := fun h => by
        rw [← h2, entB, h, prevN, hget]; rfl
      refine ⟨encEntry l[i], ⟨by omega, by simp [hget]⟩, ?_⟩
      refine drawW T_ok (by decide +kernel) ?_
      refine ⟨_, _, ⟨rfl, object_Name_ok l[i].name⟩, ?_⟩
      refine condP.split (fun g2 => ?_) (fun g2 => ?_)
      · refine ⟨by kernel_rfl, ?_⟩
        have g2' : nameB l[i].name = false := by simpa using g2
        exact hbad (by simp [entOK, g2'])
      · have g2' : nameB l[i].name = true := by simpa using g2
        refine condP.split (fun g3 => ?_) (fun g3 => ?_)
        · have g3' : l[i].kind ≠ 1 := by have : (l[i].kind != 1) = true := g3; simpa using this
          refine condP.split (fun g4 => ?_) (fun g4 => ?_)
          · have g4' : l[i].kind ≠ 2 := by have : (l[i].kind != 2) = true := g4; simpa using this
            refine ⟨by kernel_rfl, ?_⟩
            exact hbad (by simp [entOK, g3', g4'])
          · have g4' : l[i].kind = 2 := by have : (l[i].kind != 2) = false := g4; simpa using this
            refine condP.split (fun g5 => ?_) (fun g5 => ?_)
            · have g5' : 0 < i := by have : (i : Int) > 0 := of_decide_eq_true g5; omega
              obtain ⟨j, rfl⟩ : ∃ j, i = j + 1 := ⟨i - 1, by omega⟩
              have hw : IntKind.i64.wrap (((j + 1 : Nat) : Int) - 1) = (j : Int) := by rw [wrap_i64 (by omega) (by omega)]; omega
              have hj : l[j]? = some l[j] := List.getElem?_eq_getElem (by omega)
              refine ⟨encEntry l[j], ⟨?_, ?_⟩, ?_⟩
              · show 0 ≤ IntKind.i64.wrap (((j + 1 : Nat) : Int) - 1)
                rw [hw]; omega
              · show (l.map encEntry)[(IntKind.i64.wrap (((j + 1 : Nat) : Int) - 1)).toNat]? = _
                rw [hw]; simp [hj]
              refine ⟨by kernel_rfl, ?_⟩
              refine condP.split (fun g6 => ?_) (fun g6 => ?_)
              · have g6' : Op.bytesLess l[j].name l[j + 1].name = false := by simpa using g6
                exact hbad (by simp [entOK, prevN, hj, g6'])
              · have g6' : Op.bytesLess l[j].name l[j + 1].name = true := by simpa using g6
                exact ⟨j + 1 + 1, ⟨by omega, by omega, hgo (by simp [entOK, prevN, hj, g6', g2', g4'])⟩, ⟨rfl, rfl, rfl, congrArg (fun n => some (PV.i (IV.int .i64 n))) (int_succ (by omega)), trivial⟩, trivial⟩
            · have g5' : i = 0 := by have : ¬ (i : Int) > 0 := of_decide_eq_false g5; omega
              subst g5'
              refine ⟨by kernel_rfl, ?_⟩
              exact ⟨0 + 1, ⟨by omega, by omega, hgo (by simp [entOK, prevN, g2', g4'])⟩, ⟨rfl, rfl, rfl, rfl, trivial⟩, trivial⟩
        · have g3' : l[i].kind = 1 := by have : (l[i].kind != 1) = false := g3; simpa using this
          refine condP.split (fun g5 => ?_) (fun g5 => ?_)
          · have g5' : 0 < i := by have : (i : Int) > 0 := of_decide_eq_true g5; omega
            obtain ⟨j, rfl⟩ : ∃ j, i = j + 1 := ⟨i - 1, by omega⟩
            have hw : IntKind.i64.wrap (((j + 1 : Nat) : Int) - 1) = (j : Int) := by rw [wrap_i64 (by omega) (by omega)]; omega
            have hj : l[j]? = some l[j] := List.getElem?_eq_getElem (by omega)
            refine ⟨encEntry l[j], ⟨?_, ?_⟩, ?_⟩
            · show 0 ≤ IntKind.i64.wrap (((j + 1 : Nat) : Int) - 1)
              rw [hw]; omega
            · show (l.map encEntry)[(IntKind.i64.wrap (((j + 1 : Nat) : Int) - 1)).toNat]? = _
              rw [hw]; simp [hj]
            refine ⟨by kernel_rfl, ?_⟩
            refine condP.split (fun g6 => ?_) (fun g6 => ?_)
            · have g6' : Op.bytesLess l[j].name l[j + 1].name = false := by simpa using g6
              exact hbad (by simp [entOK, prevN, hj, g6'])
            · have g6' : Op.bytesLess l[j].name l[j + 1].name = true := by simpa using g6
              exact ⟨j + 1 + 1, ⟨by omega, by omega, hgo (by simp [entOK, prevN, hj, g6', g2', g3'])⟩, ⟨rfl, rfl, rfl, congrArg (fun n => some (PV.i (IV.int .i64 n))) (int_succ (by omega)), trivial⟩, trivial⟩
          · have g5' : i = 0 := by have : ¬ (i : Int) > 0 := of_decide_eq_false g5; omega
            subst g5'
            refine ⟨by kernel_rfl, ?_⟩
            exact ⟨0 + 1, ⟨by omega, by omega, hgo (by simp [entOK, prevN, g2', g3'])⟩, ⟨rfl, rfl, rfl, rfl, trivial⟩, trivial⟩
    · have g1' : i = l.length := by have : ¬ (i : Int) < l.length := of_decide_eq_false g1; omega
      subst g1'
      refine ⟨(), ?_, ⟨rfl, trivial⟩, trivial⟩
      rw [← h2, List.drop_of_length_le (Nat.le_refl _)]; rfl
  · intro _ h
    show some (IV.bool (decide (((l.map encEntry).length : Int) ≤ 64))) = some (.bool (entriesB l))
    rw [entriesB, h, List.length_map]
    congr 2
    simp only [Bool.true_and]
    congr 1
    exact propext (by omega)
end Go.Kn
