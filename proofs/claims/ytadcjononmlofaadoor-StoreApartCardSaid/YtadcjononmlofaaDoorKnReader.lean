/- The program's reader of objects: what its methods return, and what it is then. -/
import Derived.Test.YtadcjononmlofaaDoorKnVarint
set_option autoImplicit false
namespace Go.Kn
open Go Go.Proofs

variable {G : Gl}

structure Rd where
  s : List UInt8
  bad : Bool

def rd (r : Rd) : Mem := [(1000, .var [.i (.str r.s), .i (.bool r.bad)])]

def Rd.bytes (r : Rd) (n : Nat) : List UInt8 × Rd :=
  if r.bad = true ∨ r.s.length < n then ([], ⟨r.s, true⟩) else (r.s.take n, ⟨r.s.drop n, false⟩)

/-- The end: the same objects, the same names. -/
theorem retSame {m0 : Mem} {ps : List PV} {m : Mem} {r : PV} {m' : Mem} (hr : retR (rho []) [] r ps) (hm : MemAs (rho []) m' m) : ∃ ρ F, RetOK m0 ps m r m' ρ F := ⟨[], [], ⟨trivial, hr, hm, rfl⟩⟩

theorem reader_bytes_ok (r : Rd) (n : Nat) (hs : r.s.length < 4611686018427387904) :
    Body Pg Fn.object_reader_bytes ∧ AC Pg G Fn.object_reader_bytes [.ptr 1000 0, .i (.int .i64 n)] (rd r) (.i (.str (r.bytes n).1)) (rd (r.bytes n).2) := by
  obtain ⟨s, bad⟩ := r
  simp only at hs
  refine acC_of T_ok Fd.object_reader_bytes rfl (by kernel_rfl) ?_
  cases bad with
  | true =>
    simp only [Rd.bytes, true_or, if_true]
    exact retSame rfl (MemL.as ⟨⟨_, rfl, MLe.refl _⟩, trivial⟩ rfl)
  | false =>
    refine condP.split (fun g => ?_) (fun g => ?_)
    · have g' : s.length < n := by have : (n : Int) > (s.length : Int) := of_decide_eq_true g; omega
      simp only [Rd.bytes, if_pos (Or.inr g')]
      exact retSame rfl (MemL.as ⟨⟨_, rfl, MLe.refl _⟩, trivial⟩ rfl)
    · have g' : ¬ s.length < n := by have : ¬ (n : Int) > (s.length : Int) := of_decide_eq_false g; omega
      have hno : ¬ ((false = true) ∨ s.length < n) := by simp [g']
      simp only [Rd.bytes, if_neg hno]
      refine ⟨⟨by simp, by simp, by simp; omega⟩, ?_⟩
      refine ⟨⟨by simp, by simp; omega, by simp⟩, ?_⟩
      refine retSame ?_ (MemL.as ⟨⟨_, rfl, ?_⟩, trivial⟩ rfl)
      · show some (IV.str ((s.take ((n : Int)).toNat).drop (0 : Int).toNat)) = some (.str (s.take n))
        simp
      · have : (s.take ((s.length : Int)).toNat).drop ((n : Int)).toNat = s.drop n := by simp
        show MLe (.var [.i (.str ((s.take ((s.length : Int)).toNat).drop ((n : Int)).toNat)), .i (.bool false)]) (.var [.i (.str (s.drop n)), .i (.bool false)])
        rw [this]
        exact MLe.refl _
/-- A call of a reader's method, with the same name for the reader. -/
theorem rdCall {f : FuncId} {r r' : Rd} {cs : List PV} {x : IV} {args : List PV} {env : Env} {m : Mem} (h : Body Pg f ∧ AC Pg G f cs (rd r) (.i x) (rd r'))
    (ha : argOK (rho [(1000, 1000)]) cs args) (hm : MemAs (rho [(1000, 1000)]) (rd r) m) : CallS Pg G f args env m (.i x) env (setM (rd r') m) :=
  lendCall (ρ := [(1000, 1000)]) h.1 h.2 ha hm rfl

def Rd.text (r : Rd) : List UInt8 × Rd :=
  match r.bad, takeO r.s with
  | false, some (t, rest) => (t, ⟨rest, false⟩)
  | _, _ => ([], ⟨r.s, true⟩)

theorem reader_text_ok (r : Rd) (hs : r.s.length < 4611686018427387904) :
    Body Pg Fn.object_reader_text ∧ AC Pg G Fn.object_reader_text [.ptr 1000 0] (rd r) (.i (.str r.text.1)) (rd r.text.2) := by
  obtain ⟨s, bad⟩ := r
  simp only at hs
  have ht := varint_Take_ok (G := G) s hs
  refine acC_of T_ok Fd.object_reader_text rfl (by kernel_rfl) ?_
  refine ⟨_, _, _, pureCall ht rfl, ?_⟩
  unfold takeP
  cases bad with
  | true =>
    cases takeO s with
    | none => exact retSame rfl (MemL.as ⟨⟨_, rfl, MLe.refl _⟩, trivial⟩ rfl)
    | some p => exact retSame rfl (MemL.as ⟨⟨_, rfl, MLe.refl _⟩, trivial⟩ rfl)
  | false =>
    have hx : Rd.text ⟨s, false⟩ = match takeO s with
      | some (t, rest) => (t, ⟨rest, false⟩)
      | none => ([], ⟨s, true⟩) := by
      unfold Rd.text
      cases takeO s with
      | none => rfl
      | some p => rfl
    rw [hx]
    cases takeO s with
    | none => exact retSame rfl (MemL.as ⟨⟨_, rfl, MLe.refl _⟩, trivial⟩ rfl)
    | some p => exact retSame rfl (MemL.as ⟨⟨_, rfl, MLe.refl _⟩, trivial⟩ rfl)

/-- The number that bytes begin with, and what stands behind it. -/
def getO (s : List UInt8) : Option (Nat × List UInt8) :=
  if numOK s (endOf 10 s) then some (valS (s.take (endOf 10 s + 1)), s.drop (endOf 10 s + 1)) else none

theorem getP_getO (s : List UInt8) : getP s = match getO s with
    | some (n, r) => .tup [.int .u64 (n : Int), .str r, .int .i64 0]
    | none => .tup [.int .u64 0, .str [], .int .i64 2] := by
  unfold getP getO
  split <;> rfl

def Rd.number (r : Rd) : Nat × Rd :=
  match r.bad, getO r.s with
  | false, some (t, rest) => (t, ⟨rest, false⟩)
  | _, _ => (0, ⟨r.s, true⟩)

theorem reader_number_ok (r : Rd) (hs : r.s.length < 4611686018427387904) :
    Body Pg Fn.object_reader_number ∧ AC Pg G Fn.object_reader_number [.ptr 1000 0] (rd r) (.i (.int .u64 (r.number.1 : Int))) (rd r.number.2) := by
  obtain ⟨s, bad⟩ := r
  simp only at hs
  have ht := varint_Get_ok (G := G) s hs
  rw [getP_getO] at ht
  refine acC_of T_ok Fd.object_reader_number rfl (by kernel_rfl) ?_
  refine ⟨_, _, _, pureCall ht rfl, ?_⟩
  cases bad with
  | true =>
    cases getO s with
    | none => exact retSame rfl (MemL.as ⟨⟨_, rfl, MLe.refl _⟩, trivial⟩ rfl)
    | some p => exact retSame rfl (MemL.as ⟨⟨_, rfl, MLe.refl _⟩, trivial⟩ rfl)
  | false =>
    have hx : Rd.number ⟨s, false⟩ = match getO s with
      | some (t, rest) => (t, ⟨rest, false⟩)
      | none => (0, ⟨s, true⟩) := by
      unfold Rd.number
      cases getO s with
      | none => rfl
      | some p => rfl
    rw [hx]
    cases getO s with
    | none => exact retSame rfl (MemL.as ⟨⟨_, rfl, MLe.refl _⟩, trivial⟩ rfl)
    | some p => exact retSame rfl (MemL.as ⟨⟨_, rfl, MLe.refl _⟩, trivial⟩ rfl)

def Rd.kind (r : Rd) : Nat × Rd :=
  if (r.bytes 1).2.bad then (0, (r.bytes 1).2) else ((r.s.getD 0 0).toNat, (r.bytes 1).2)

theorem reader_kind_ok (r : Rd) (hs : r.s.length < 4611686018427387904) :
    Body Pg Fn.object_reader_kind ∧ AC Pg G Fn.object_reader_kind [.ptr 1000 0] (rd r) (.i (.int .i64 (r.kind.1 : Int))) (rd r.kind.2) := by
  have hb := reader_bytes_ok (G := G) r 1 hs
  refine acC_of T_ok Fd.object_reader_kind rfl (by kernel_rfl) ?_
  refine ⟨_, _, _, rdCall hb ⟨rfl, rfl, rfl⟩ (MemL.as ⟨⟨_, rfl, MLe.refl _⟩, trivial⟩ rfl), ?_⟩
  by_cases hbad : r.bad = true ∨ r.s.length < 1
  · have h1 : r.bytes 1 = ([], ⟨r.s, true⟩) := by simp only [Rd.bytes, if_pos hbad]
    have h2 : r.kind = (0, ⟨r.s, true⟩) := by simp [Rd.kind, h1]
    rw [h2, h1]
    exact retSame rfl (MemL.as ⟨⟨_, rfl, MLe.refl _⟩, trivial⟩ rfl)
  · have h1 : r.bytes 1 = (r.s.take 1, ⟨r.s.drop 1, false⟩) := by simp only [Rd.bytes, if_neg hbad]
    have h2 : r.kind = ((r.s.getD 0 0).toNat, ⟨r.s.drop 1, false⟩) := by simp [Rd.kind, h1]
    rw [h2, h1]
    have hlt := (r.s.getD 0 0).toNat_lt
    have hpos : 0 < r.s.length := by omega
    refine ⟨⟨by decide, by simp; omega⟩, ?_⟩
    refine retSame ?_ (MemL.as ⟨⟨_, rfl, MLe.refl _⟩, trivial⟩ rfl)
    show some (IV.int .i64 (IntKind.i64.wrap ((((r.s.take 1).getD (0 : Int).toNat 0).toNat : Nat) : Int))) = some (.int .i64 ((r.s.getD 0 0).toNat : Int))
    have : (r.s.take 1).getD (0 : Int).toNat 0 = r.s.getD 0 0 := by
      simp [List.getD_eq_getElem?_getD, List.getElem?_take]
    rw [this, wrap_i64 (by omega) (by omega)]
/-- The id that bytes begin with; what lacks is 0. -/
def idOf (s : List UInt8) : Id := ⟨(s ++ List.replicate 32 0).take 32, by simp⟩

theorem idC_idOf {s : List UInt8} (h : s.length = 32) : idC (idOf s) = u8s s := by
  rw [idC_u8s]
  simp [idOf, List.take_append_of_le_length, h, List.take_of_length_le]

theorem copy32 {Z : List PV} (hz : Z.length = 32) {l : List UInt8} (hl : l.length = 32) :
    Z.take 0 ++ (u8s (l.take (min l.length 32))).map PV.i ++ Z.drop (0 + ((u8s (l.take (min l.length 32))).map PV.i).length) = (u8s l).map PV.i := by
  have h1 : l.take (min l.length 32) = l := List.take_of_length_le (by omega)
  rw [h1, List.take_zero, List.nil_append, List.drop_of_length_le (by simp [u8s, hl, hz]), List.append_nil]

def Rd.id (r : Rd) : Id × Rd := (idOf (r.bytes 32).1, (r.bytes 32).2)

theorem reader_id_ok (r : Rd) (hs : r.s.length < 4611686018427387904) :
    Body Pg Fn.object_reader_id ∧ AC Pg G Fn.object_reader_id [.ptr 1000 0] (rd r) (.i (encId r.id.1)) (rd r.id.2) := by
  have hb := reader_bytes_ok (G := G) r 32 hs
  refine acC_of T_ok Fd.object_reader_id rfl (by kernel_rfl) ?_
  refine drawW T_ok (by decide +kernel) ?_
  refine ⟨⟨by decide, by decide, by decide, by decide⟩, ?_⟩
  refine ⟨[(1000, 1000)], _, _, _, _, ⟨hb.1, hb.2, ⟨rfl, rfl, rfl⟩, MemL.as ⟨⟨_, rfl, MLe.refl _⟩, trivial⟩ rfl, rfl⟩, ?_⟩
  refine ⟨(idC r.id.1).map .i, ⟨by decide, ?_⟩, ?_⟩
  · have hl : (r.bytes 32).1 = [] ∨ (r.bytes 32).1.length = 32 := by
      unfold Rd.bytes
      split
      · exact .inl rfl
      · rename_i h
        right
        simp; omega
    rcases hl with hl | hl
    · simp only [Rd.id, hl]
      rfl
    · rw [Rd.id, idC_idOf hl]
      exact copy32 rfl hl
  refine ⟨by kernel_rfl, ?_⟩
  exact retSame rfl (MemL.as ⟨⟨_, rfl, MLe.refl _⟩, trivial⟩ rfl)
end Go.Kn
