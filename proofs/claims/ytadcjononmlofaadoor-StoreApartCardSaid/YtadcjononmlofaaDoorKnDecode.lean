/- The program's Decode. -/
import Derived.Test.YtadcjononmlofaaDoorKnAlone
set_option autoImplicit false
namespace Go.Kn
open Go Go.Proofs

variable {G : Gl}

/-- What a reader makes of a body. -/
def bodyR (k : Int) (r : Rd) : Obj × Rd :=
  if k = 2 then ({ Obj.ofKind k with entries := r.tree.1 }, r.tree.2) else if k = 3 then r.commit k else if k = 4 then r.tag k
  else ({ Obj.ofKind k with data := (r.bytes r.s.length).1 }, (r.bytes r.s.length).2)

def decodeB (k : Int) (b : List UInt8) : Option Obj :=
  if (bodyR k ⟨b, false⟩).2.bad = false ∧ (bodyR k ⟨b, false⟩).2.s = [] ∧ mayB (bodyR k ⟨b, false⟩).1 = true then some (bodyR k ⟨b, false⟩).1 else none

/-- The object of an encoding, by the program. -/
def decodeP (s : List UInt8) : Option Obj :=
  if s = [] ∨ 4096 < s.length then none else match takeO (s.drop 1) with
    | none => none
    | some (b, rest) => if rest = [] then decodeB ((s.getD 0 0).toNat : Int) b else none

def decV : Option Obj → IV
  | some o => .tup [encObj o, .int .i64 0]
  | none => .tup [encObj (Obj.ofKind 0), .int .i64 2]

theorem tree_len (r : Rd) : r.tree.1.length + r.tree.2.s.length ≤ r.s.length := by
  rw [Rd.tree]
  split
  · rename_i h
    have := entry_len h.1 h.2
    have := tree_len r.entry.2
    simp; omega
  · simp
  termination_by r.s.length
  decreasing_by exact entry_len (by assumption : _ ∧ _).1 (by assumption : _ ∧ _).2

theorem takeO_len {s b rest : List UInt8} (h : takeO s = some (b, rest)) : b.length ≤ s.length := by
  unfold takeO at h
  split at h
  · cases h; simp; omega
  · cases h

theorem bodyR_ents (k : Int) (r : Rd) : (bodyR k r).1.entries.length ≤ r.s.length := by
  unfold bodyR
  split
  · have := tree_len r; simp only; omega
  · split
    · simp [Rd.commit, Obj.ofKind]
    · split
      · simp [Rd.tag, Obj.ofKind]
      · simp [Obj.ofKind]

def decM (o : Obj) (r : Rd) : Mem :=
  [(2, .var (objCells (Obj.ofKind 0) (.full []) (.full []))), (7, .var (objCells o (.i (.slice (o.entries.map encEntry))) (.i (.slice (o.parents.map encId))))), (38, .var [.i (.str r.s), .i (.bool r.bad)])]

set_option maxRecDepth 100000 in
theorem object_Decode_ok (s : List UInt8) (hs : s.length < 1000000) : PureC Pg G Fn.object_Decode [.str s] (decV (decodeP s)) := by
  refine pureW_of T_ok Fd.object_Decode rfl (by kernel_rfl) ?_
  refine CW.next T_ok ?_
  have hno : ∀ (x : Option Obj), x = decodeP s → some (decV x) = some (decV (decodeP s)) := fun x h => by rw [h]
  refine CW.cut T_ok (S := Unit) (fun _ => [(0, .i (.str s)), (2, .ptr 2 0), (3, .i (.int .i64 0))]) (fun _ => [(2, .var (objCells (Obj.ofKind 0) (.full []) (.full [])))]) (fun _ => s ≠ [] ∧ s.length ≤ 4096) ?_ ?_
  · refine condP.split (fun g1 => ?_) (fun g1 => ?_)
    · exact hno none (by have : s = [] := by simpa using g1
                         simp [decodeP, this])
    · have g1' : s ≠ [] := by simpa using g1
      refine condP.split (fun g2 => ?_) (fun g2 => ?_)
      · exact hno none (by have : (s.length : Int) > 4096 := of_decide_eq_true g2
                           have h : 4096 < s.length := by omega
                           simp [decodeP, h])
      · have : ¬ (s.length : Int) > 4096 := of_decide_eq_false g2
        exact ⟨(), ⟨g1', by omega⟩, ⟨rfl, rfl, rfl, trivial⟩, ⟨rfl, trivial⟩⟩
  rintro _ ⟨g1, g2⟩
  have hpos : 0 < s.length := List.length_pos_iff.2 g1
  have hd : decodeP s = match takeO (s.drop 1) with
    | none => none
    | some (b, rest) => if rest = [] then decodeB ((s.getD 0 0).toNat : Int) b else none := by
    have h : ¬ (s = [] ∨ 4096 < s.length) := by simp [g1]; omega
    rw [decodeP, if_neg h]
  refine CW.next T_ok ?_
  refine ⟨⟨by decide, by simp; omega, by simp⟩, ?_⟩
  have hdr : (s.take (s.length : Int).toNat).drop (1 : Int).toNat = s.drop 1 := by simp
  have ht := varint_Take_ok (G := G) (s.drop 1) (by simp; omega)
  rw [← hdr] at ht
  refine ⟨_, _, _, pureCall ht rfl, ?_⟩
  rw [hdr]
  unfold takeP
  cases hto : takeO (s.drop 1) with
  | none =>
    rw [hto] at hd
    refine CW.go T_ok ?_
    exact hno none hd.symm
  | some p =>
    obtain ⟨b, rest⟩ := p
    rw [hto] at hd
    have hb := takeO_len hto
    simp only at hd
    refine CW.next T_ok ?_
    refine condP.split (fun g3 => ?_) (fun g3 => ?_)
    · have g3' : rest ≠ [] := by simpa using g3
      rw [if_neg g3'] at hd
      exact hno none hd.symm
    · have g3' : rest = [] := by simpa using g3
      rw [if_pos g3'] at hd
      have hlt := (s.getD 0 0).toNat_lt
      have hk : IntKind.i64.wrap (((s.getD (0 : Int).toNat 0).toNat : Nat) : Int) = ((s.getD 0 0).toNat : Int) := wrap_i64 (by omega) (by show ((s.getD 0 0).toNat : Int) < _; omega)
      refine CW.cut T_ok (S := Unit) (fun _ => [(0, .i (.str s)), (2, .ptr 2 0), (3, .i (.int .i64 0)), (4, .i (.str b)), (7, .ptr 7 0)])
        (fun _ => [(2, .var (objCells (Obj.ofKind 0) (.full []) (.full []))), (7, .var (objCells (Obj.ofKind ((s.getD 0 0).toNat : Int)) (.full []) (.full [])))]) (fun _ => True) ?_ ?_
      · refine ⟨⟨by decide, by omega⟩, ?_⟩
        refine ⟨(), trivial, ⟨rfl, rfl, rfl, rfl, rfl, trivial⟩, ⟨rfl, ?_, trivial⟩⟩
        rw [← hk]; rfl
      intro _ _
      generalize ((s.getD 0 0).toNat : Int) = k at *
      have hbl : b.length < 1000000 := by simp at hb; omega
      have hbl' : b.length < 4611686018427387904 := by omega
      refine CW.next T_ok ?_
      refine CW.next T_ok ?_
      refine CW.cut T_ok (S := Nat) (fun f => [(2, .ptr 2 0), (3, .i (.int .i64 0)), (7, .ptr 7 0), (8, .ptr 38 0), (9, .i (.func (.func f) []))])
        (fun _ => [(2, .var (objCells (Obj.ofKind 0) (.full []) (.full []))), (7, .var (objCells (Obj.ofKind k) (.full []) (.full []))), (38, .var [.i (.str b), .i (.bool false)])])
        (fun f => Body Pg f ∧ AC Pg G f [.ptr 1000 0, .ptr 1001 0] (rdo ⟨b, false⟩ k) (.tup []) (rdo' (bodyR k ⟨b, false⟩).2 (bodyR k ⟨b, false⟩).1)) ?_ ?_
      · refine condP.split (fun k1 => ?_) (fun k1 => ?_)
        · have k1' : k = 2 := eq_of_beq k1
          have hbr : bodyR k ⟨b, false⟩ = ({ Obj.ofKind k with entries := (Rd.tree ⟨b, false⟩).1 }, (Rd.tree ⟨b, false⟩).2) := by rw [bodyR, if_pos k1']
          rw [hbr]
          exact ⟨_, reader_tree_ok (G := G) ⟨b, false⟩ k hbl, ⟨rfl, rfl, rfl, rfl, rfl, trivial⟩, ⟨rfl, rfl, rfl, trivial⟩⟩
        · have k1' : k ≠ 2 := by have h : (k == 2) = false := k1; simpa using h
          refine condP.split (fun k2 => ?_) (fun k2 => ?_)
          · have k2' : k = 3 := eq_of_beq k2
            have hbr : bodyR k ⟨b, false⟩ = (Rd.commit ⟨b, false⟩ k) := by rw [bodyR, if_neg k1', if_pos k2']
            rw [hbr]
            exact ⟨_, reader_commit_ok (G := G) ⟨b, false⟩ k hbl, ⟨rfl, rfl, rfl, rfl, rfl, trivial⟩, ⟨rfl, rfl, rfl, trivial⟩⟩
          · have k2' : k ≠ 3 := by have h : (k == 3) = false := k2; simpa using h
            refine condP.split (fun k3 => ?_) (fun k3 => ?_)
            · have k3' : k = 4 := eq_of_beq k3
              have hbr : bodyR k ⟨b, false⟩ = (Rd.tag ⟨b, false⟩ k) := by rw [bodyR, if_neg k1', if_neg k2', if_pos k3']
              rw [hbr]
              exact ⟨_, reader_tag_ok (G := G) ⟨b, false⟩ k hbl', ⟨rfl, rfl, rfl, rfl, rfl, trivial⟩, ⟨rfl, rfl, rfl, trivial⟩⟩
            · have k3' : k ≠ 4 := by have h : (k == 4) = false := k3; simpa using h
              have hbr : bodyR k ⟨b, false⟩ = ({ Obj.ofKind k with data := (Rd.bytes ⟨b, false⟩ b.length).1 }, (Rd.bytes ⟨b, false⟩ b.length).2) := by rw [bodyR, if_neg k1', if_neg k2', if_neg k3']
              rw [hbr]
              exact ⟨_, reader_blob_ok (G := G) ⟨b, false⟩ k hbl', ⟨rfl, rfl, rfl, rfl, rfl, trivial⟩, ⟨rfl, rfl, rfl, trivial⟩⟩
      intro f hf
      have hents := bodyR_ents k ⟨b, false⟩
      rw [decodeB] at hd
      generalize bodyR k ⟨b, false⟩ = x at *
      obtain ⟨o, r⟩ := x
      simp only at hd hf hents
      refine CW.cut T_ok (S := Unit) (fun _ => [(2, .ptr 2 0), (3, .i (.int .i64 0)), (7, .ptr 7 0), (8, .ptr 38 0)]) (fun _ => decM o r) (fun _ => True) ?_ ?_
      · refine ⟨_, _, _, lendCall (ρ := [(1000, 38), (1001, 7)]) hf.1 hf.2 ⟨rfl, rfl, rfl⟩ (MemL.as ⟨⟨_, rfl, MLe.refl _⟩, ⟨_, rfl, MLe.refl _⟩, trivial⟩ rfl) rfl, ?_⟩
        exact ⟨(), trivial, ⟨rfl, rfl, rfl, rfl, trivial⟩, ⟨rfl, rfl, rfl, trivial⟩⟩
      intro _ _
      have hm := object_may_ok (G := G) o (by omega)
      refine CW.cut T_ok (S := Unit) (fun _ => [(2, .ptr 2 0), (3, .i (.int .i64 0)), (7, .ptr 7 0), (8, .ptr 38 0)]) (fun _ => decM o r) (fun _ => decodeP s = some o) ?_ ?_
      · obtain ⟨rs, bad⟩ := r
        cases bad with
        | true => exact hno none (by rw [hd]; simp)
        | false =>
          refine condP.split (fun g4 => ?_) (fun g4 => ?_)
          · have g4' : rs ≠ [] := by simpa using g4
            exact hno none (by rw [hd]; simp [g4'])
          · have g4' : rs = [] := by simpa using g4
            refine ⟨_, _, _, pureCall hm rfl, ?_⟩
            cases h : mayB o with
            | false => exact hno none (by rw [hd]; simp [h])
            | true => exact ⟨(), by rw [hd]; simp [g4', h], ⟨rfl, rfl, rfl, rfl, trivial⟩, ⟨rfl, rfl, rfl, trivial⟩⟩
      intro _ h
      refine CW.go T_ok ?_
      exact hno (some o) h.symm
end Go.Kn
