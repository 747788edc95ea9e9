/- The reference's package of layer 11: its store. -/
import Derived.Test.YtadcjononmlofaaDoorKnR04d
import Derived.Test.YtadcjononmlofaaDoorKnRSum
set_option autoImplicit false
namespace Go.Kn
open Go Go.Proofs

variable {G : Gl}

structure RItem where
  id : Id
  text : List UInt8
  o : Obj

def encRItem (x : RItem) : IV := .agg (idC x.id ++ .str x.text :: (encObj x.o).cells)
def encSt (l : List RItem) : IV := .agg [.slice (l.map encRItem)]

theorem encRItem_len (x : RItem) : (encRItem x).cells.length = 105 := by simp [encRItem, encObj, IV.cells, idC, u8c]

theorem hasSize_rit (l : List RItem) : hasSize 105 (l.map encRItem) := by
  intro x hx
  obtain ⟨e, _, rfl⟩ := List.mem_map.1 hx
  exact encRItem_len e

def atR (l : List RItem) (y : Id) : Option Nat := l.findIdx? fun a => decide (a.id = y)

def atV : Option Nat → Int
  | some i => (i : Int)
  | none => -1

theorem lenR (l : List RItem) : ((l.map encRItem).length : Int) = (l.length : Int) := by simp

def atM (l : List RItem) (y : Id) : Mem := [(2, .var [.i (.slice (l.map encRItem))]), (3, .var ((idC y).map .i))]

theorem ref11_At_ok (l : List RItem) (y : Id) (hl : l.length < 1000000) : PureC Pg G Fn.ref11_Store_At [encSt l, encId y] (.int .i64 (atV (atR l y))) := by
  refine pureC_of T_ok Fd.ref11_Store_At rfl (by kernel_rfl) ?_
  refine loopX T_ok 0 (S := Nat) (S' := Unit) (fun i => [(2, .ptr 2 0), (3, .ptr 3 0), (5, .i (.int .i64 (i : Int)))]) (fun _ => atM l y) (fun i => l.length - i)
    (fun i => i ≤ l.length ∧ ∀ j (h : j < l.length), j < i → l[j].id ≠ y) (fun _ => []) (fun _ => []) (fun _ => atR l y = none) 0 ⟨rfl, rfl, rfl, trivial⟩ ⟨rfl, rfl, trivial⟩ ⟨by omega, by intro j _ h; omega⟩ ?_ ?_
  · rintro i ⟨h1, h2⟩
    refine condP.split (fun g => ?_) (fun g => ?_)
    · have g' : i < l.length := by have h : (i : Int) < ((l.map encRItem).length : Int) := of_decide_eq_true g; rw [lenR] at h; omega
      refine drawW T_ok (by decide +kernel) ?_
      refine ⟨encRItem l[i], ⟨by omega, by simp [g']⟩, ?_⟩
      refine ⟨_, eqId l[i].id y, ?_⟩
      refine ⟨by kernel_rfl, ?_⟩
      refine condP.split (fun g2 => ?_) (fun g2 => ?_)
      · have g2' : l[i].id = y := of_decide_eq_true g2
        have : atR l y = some i := by
          rw [atR, List.findIdx?_eq_some_iff_getElem]
          exact ⟨g', decide_eq_true g2', fun j hj => by simpa using h2 j (by omega) hj⟩
        rw [this]; rfl
      · have g2' : l[i].id ≠ y := of_decide_eq_false g2
        refine ⟨i + 1, ⟨by omega, by omega, fun j q hj => ?_⟩, ⟨rfl, rfl, congrArg (fun n => some (PV.i (IV.int .i64 n))) (int_succ (by omega)), trivial⟩, ⟨rfl, rfl, trivial⟩⟩
        by_cases hji : j = i
        · subst hji; exact g2'
        · exact h2 j q (by omega)
    · have g' : i = l.length := by have h : ¬ (i : Int) < ((l.map encRItem).length : Int) := of_decide_eq_false g; rw [lenR] at h; omega
      subst g'
      refine ⟨(), ?_, trivial, trivial⟩
      rw [atR, List.findIdx?_eq_none_iff]
      intro x hx
      obtain ⟨j, hj, rfl⟩ := List.getElem_of_mem hx
      simpa using h2 j hj hj
  · intro _ h
    rw [h]; rfl

theorem ref11_Has_ok (l : List RItem) (y : Id) (hl : l.length < 1000000) : PureC Pg G Fn.ref11_Store_Has [encSt l, encId y] (.bool (atR l y).isSome) := by
  refine pureC_of T_ok Fd.ref11_Store_Has rfl (by kernel_rfl) ?_
  refine ⟨_, _, _, pureCall (ref11_At_ok l y hl) rfl, ?_⟩
  show some (IV.bool (decide (atV (atR l y) ≥ 0))) = _
  cases atR l y <;> simp [atV]

def getR11 (l : List RItem) (y : Id) : Option RItem := l.find? fun a => decide (a.id = y)

theorem at_get {l : List RItem} {y : Id} : (atR l y = none ∧ getR11 l y = none) ∨ ∃ i x, atR l y = some i ∧ l[i]? = some x ∧ getR11 l y = some x ∧ i < l.length := by
  cases h : atR l y with
  | none =>
    left
    refine ⟨rfl, ?_⟩
    rw [atR, List.findIdx?_eq_none_iff] at h
    rw [getR11, List.find?_eq_none]
    intro x hx; simpa using h x hx
  | some i =>
    right
    rw [atR, List.findIdx?_eq_some_iff_getElem] at h
    obtain ⟨hi, h1, h2⟩ := h
    refine ⟨i, l[i], rfl, List.getElem?_eq_getElem hi, ?_, hi⟩
    rw [getR11, List.find?_eq_some_iff_getElem]
    exact ⟨h1, i, hi, rfl, fun j hj => by simpa using h2 j hj⟩

def kindR (l : List RItem) (y : Id) : Int := match getR11 l y with | some x => x.o.kind | none => 0
def objR (l : List RItem) (y : Id) : Obj := match getR11 l y with | some x => x.o | none => Obj.ofKind 0

theorem ref11_Kind_ok (l : List RItem) (y : Id) (hl : l.length < 1000000) : PureC Pg G Fn.ref11_Store_Kind [encSt l, encId y] (.int .i64 (kindR l y)) := by
  refine pureC_of T_ok Fd.ref11_Store_Kind rfl (by kernel_rfl) ?_
  refine ⟨_, _, _, pureCall (ref11_At_ok l y hl) rfl, ?_⟩
  rcases at_get (l := l) (y := y) with ⟨h1, h2⟩ | ⟨i, x, h1, h2, h3, h4⟩
  · rw [h1, kindR, h2]; rfl
  · rw [h1, kindR, h3]
    refine ⟨encRItem x, ⟨by show (0 : Int) ≤ ((i : Nat) : Int); omega, by show (l.map encRItem)[((i : Nat) : Int).toNat]? = _; simp [h2]⟩, ?_⟩
    rfl

set_option maxRecDepth 100000 in
theorem ref11_Object_ok (l : List RItem) (y : Id) (hl : l.length < 1000000) : PureC Pg G Fn.ref11_Store_Object [encSt l, encId y] (encObj (objR l y)) := by
  refine pureC_of T_ok Fd.ref11_Store_Object rfl (by kernel_rfl) ?_
  refine ⟨_, _, _, pureCall (ref11_At_ok l y hl) rfl, ?_⟩
  rcases at_get (l := l) (y := y) with ⟨h1, h2⟩ | ⟨i, x, h1, h2, h3, h4⟩
  · rw [h1, objR, h2]; rfl
  · rw [h1, objR, h3]
    refine ⟨encRItem x, ⟨by show (0 : Int) ≤ ((i : Nat) : Int); omega, by show (l.map encRItem)[((i : Nat) : Int).toNat]? = _; simp [h2]⟩, ?_⟩
    rfl

def idsR (l : List RItem) : List IV := l.map fun x => encId x.id
theorem idsR_size (l : List RItem) : hasSize 32 (idsR l) := by
  intro x hx
  obtain ⟨e, _, rfl⟩ := List.mem_map.1 hx
  exact encId_len e.id

theorem ref11_Ids_ok (l : List RItem) (hl : l.length < 1000000) : PureC Pg G Fn.ref11_Store_Ids [encSt l] (.slice (idsR l)) := by
  refine pureC_of T_ok Fd.ref11_Store_Ids rfl (by kernel_rfl) ?_
  refine LoopW.tok0 20 rfl rfl (env' := [(1, .ptr 1 0), (3, .tok 20 32 []), (4, .i (.int .i64 0))]) (m' := [(1, .var [.i (.slice (l.map encRItem))]), (20, .tip)])
    ⟨⟨_, rfl, .refl _⟩, ⟨_, rfl, .tok 32⟩, ⟨_, rfl, .refl _⟩, trivial⟩ ⟨.inr ⟨by decide, _, rfl, .refl _⟩, .inl ⟨rfl, .tip⟩, trivial⟩ ?_
  refine loopX T_ok 0 (S := Nat) (S' := Unit) (fun i => [(1, .ptr 1 0), (3, .tok 20 32 (idsR (l.take i))), (4, .i (.int .i64 (i : Int)))]) (fun _ => [(1, .var [.i (.slice (l.map encRItem))]), (20, .tip)]) (fun i => l.length - i) (fun i => i ≤ l.length)
    (fun _ => [(3, .tok 20 32 (idsR l))]) (fun _ => [(20, .tip)]) (fun _ => True) 0 ⟨rfl, rfl, rfl, trivial⟩ ⟨rfl, rfl, trivial⟩ (by omega) ?_ ?_
  · intro i hi
    refine condP.split (fun g => ?_) (fun g => ?_)
    · have g' : i < l.length := by have h : (i : Int) < ((l.map encRItem).length : Int) := of_decide_eq_true g; rw [lenR] at h; omega
      refine ⟨encRItem l[i], ⟨by omega, by simp [g']⟩, ?_⟩
      refine ⟨⟨⟨idsR_size _, fun x hx => by have := List.mem_singleton.1 hx; subst this; rfl⟩, szOK (by simp [idsR]; omega) (by kernel_rfl)⟩, ?_⟩
      refine ⟨i + 1, ⟨by omega, by omega⟩, ⟨rfl, ?_, congrArg (fun n => some (PV.i (IV.int .i64 n))) (int_succ (by omega)), trivial⟩, ⟨rfl, rfl, trivial⟩⟩
      have : idsR (l.take (i + 1)) = idsR (l.take i) ++ [encId l[i].id] := by
        rw [idsR, idsR, List.take_succ_eq_append_getElem g', List.map_append]; rfl
      rw [this]; rfl
    · have g' : i = l.length := by have h : ¬ (i : Int) < ((l.map encRItem).length : Int) := of_decide_eq_false g; rw [lenR] at h; omega
      refine ⟨(), trivial, ⟨?_, trivial⟩, ⟨rfl, trivial⟩⟩
      rw [g', List.take_length]; rfl
  · intro _ _
    rfl
end Go.Kn

namespace Go.Kn
open Go Go.Proofs

variable {G : Gl}

def wAt (l : List RItem) (y : Id) : Nat := (l.takeWhile fun a => !idLt y a.id).length

def insR (l : List RItem) (x : RItem) : List RItem := l.take (wAt l x.id) ++ x :: l.drop (wAt l x.id)

def outR (l : List RItem) (x : RItem) (i : Nat) : List RItem := if i ≤ wAt l x.id then l.take i else l.take (wAt l x.id) ++ x :: (l.take i).drop (wAt l x.id)

theorem wAt_le (l : List RItem) (y : Id) : wAt l y ≤ l.length := (List.takeWhile_sublist _).length_le

theorem wAt_lt : ∀ {l : List RItem} {y : Id} {i : Nat} (h : i < l.length), i < wAt l y → idLt y l[i].id = false
  | [], _, _, h, _ => by simp at h
  | a :: l, y, i, h, hw => by
    by_cases ha : idLt y a.id = true
    · simp [wAt, List.takeWhile_cons, ha] at hw
    · cases i with
      | zero => simpa using ha
      | succ i =>
        simp only [List.getElem_cons_succ]
        refine wAt_lt (by simpa using h) ?_
        simp only [Bool.not_eq_true] at ha
        simpa [wAt, List.takeWhile_cons, ha] using hw

theorem wAt_eq : ∀ {l : List RItem} {y : Id} {i : Nat} (h : i < l.length), i = wAt l y → idLt y l[i].id = true
  | [], _, _, h, _ => by simp at h
  | a :: l, y, i, h, hw => by
    by_cases ha : idLt y a.id = true
    · have : i = 0 := by simpa [wAt, List.takeWhile_cons, ha] using hw
      subst this; simpa using ha
    · simp only [Bool.not_eq_true] at ha
      cases i with
      | zero => simp [wAt, List.takeWhile_cons, ha] at hw
      | succ i =>
        simp only [List.getElem_cons_succ]
        refine wAt_eq (by simpa using h) ?_
        simpa [wAt, List.takeWhile_cons, ha] using hw

theorem outR_len (l : List RItem) (x : RItem) (i : Nat) : (outR l x i).length ≤ l.length + 1 := by
  unfold outR
  have := wAt_le l x.id
  split <;> simp <;> omega

theorem outR_lt {l : List RItem} {x : RItem} {i : Nat} (h : i < l.length) (hw : i < wAt l x.id) : outR l x (i + 1) = outR l x i ++ [l[i]] := by
  rw [outR, outR, if_pos (by omega), if_pos (by omega), List.take_succ_eq_append_getElem h]

theorem outR_eq {l : List RItem} {x : RItem} {i : Nat} (h : i < l.length) (hw : i = wAt l x.id) : outR l x (i + 1) = outR l x i ++ [x] ++ [l[i]] := by
  rw [outR, outR, if_neg (by omega), if_pos (by omega), List.take_succ_eq_append_getElem h, ← hw, List.drop_append_of_le_length (by simp; omega)]
  simp

theorem outR_gt {l : List RItem} {x : RItem} {i : Nat} (h : i < l.length) (hw : wAt l x.id < i) : outR l x (i + 1) = outR l x i ++ [l[i]] := by
  rw [outR, outR, if_neg (by omega), if_neg (by omega), List.take_succ_eq_append_getElem h, List.drop_append_of_le_length (by simp; omega)]
  simp

theorem outR_end1 {l : List RItem} {x : RItem} (h : l.length = wAt l x.id) : insR l x = outR l x l.length ++ [x] := by
  rw [outR, if_pos (by omega), insR, ← h]; simp

theorem outR_end2 {l : List RItem} {x : RItem} (h : wAt l x.id < l.length) : insR l x = outR l x l.length := by
  rw [outR, if_neg (by omega), insR]; simp

/-- What With answers. -/
def withR (l : List RItem) (t : List UInt8) : List RItem × Id × Bool :=
  match decodeR t with
  | none => (l, Id.none, false)
  | some o => if (atR l (sha t)).isSome then (l, sha t, true) else (insR l ⟨sha t, t, o⟩, sha t, true)

def withV (r : List RItem × Id × Bool) : IV := .tup [encSt r.1, encId r.2.1, .bool r.2.2]

theorem hasSize_snoc {k : Nat} {l : List IV} {x : IV} (h : hasSize k l) (hx : x.cells.length = k) : hasSize k (l ++ [x]) := by
  intro y hy
  rcases List.mem_append.1 hy with hy | hy
  · exact h y hy
  · have := List.mem_singleton.1 hy; subst this; exact hx

def wM (l : List RItem) (x : RItem) : Mem := [(2, .var [.i (.slice (l.map encRItem))]), (4, .var [.full []]), (5, .var ((idC Id.none).map .i)), (7, .var ((encObj x.o).cells.map .i)), (9, .var ((idC x.id).map .i)), (65, .tip)]
def wE (x : RItem) (out : List RItem) (d : Bool) (i : Nat) : Env := [(1, .i (.str x.text)), (2, .ptr 2 0), (4, .ptr 4 0), (5, .ptr 5 0), (7, .ptr 7 0), (9, .ptr 9 0), (10, .tok 65 105 (out.map encRItem)), (11, .i (.bool d)), (12, .i (.int .i64 (i : Int)))]

set_option maxHeartbeats 1000000 in
set_option maxRecDepth 100000 in
theorem ref11_With_ok (l : List RItem) (t : List UInt8) (hl : l.length < 1000000) (ht : t.length < 1000000) : PureC Pg G Fn.ref11_Store_With [encSt l, .str t] (withV (withR l t)) := by
  have fin : ∀ r, withR l t = r → some (withV r) = some (withV (withR l t)) := fun r h => by rw [h]
  refine pureC_of T_ok Fd.ref11_Store_With rfl (by kernel_rfl) ?_
  refine ⟨_, _, _, pureCall (ref04_Decode_ok t ht) rfl, ?_⟩
  cases hd : decodeR t with
  | none => exact fin (l, Id.none, false) (by rw [withR, hd])
  | some o =>
    refine ⟨_, _, _, pureCall (ref02_Sum_ok t ht) rfl, ?_⟩
    refine ⟨_, _, _, pureCall (ref11_At_ok l (sha t) hl) rfl, ?_⟩
    cases ha : atR l (sha t) with
    | some i =>
      refine drawW T_ok (by decide +kernel) ?_
      refine ⟨by kernel_rfl, ?_⟩
      exact fin (l, sha t, true) (by rw [withR, hd]; simp [ha])
    | none =>
      have hr : withR l t = (insR l ⟨sha t, t, o⟩, sha t, true) := by rw [withR, hd]; simp [ha]
      rw [hr]
      obtain ⟨x, hx1, hx2, hx3, hx⟩ : ∃ x : RItem, x.id = sha t ∧ x.text = t ∧ x.o = o ∧ (⟨sha t, t, o⟩ : RItem) = x := ⟨_, rfl, rfl, rfl, rfl⟩
      rw [hx]
      rw [← hx1, ← hx2, ← hx3]
      refine LoopW.tok0 65 rfl rfl (env' := wE x [] false 0) (m' := wM l x)
        ⟨⟨_, rfl, .refl _⟩, ⟨_, rfl, .refl _⟩, ⟨_, rfl, .refl _⟩, ⟨_, rfl, .refl _⟩, ⟨_, rfl, .refl _⟩, ⟨_, rfl, .refl _⟩, ⟨_, rfl, .tok 105⟩, ⟨_, rfl, .refl _⟩, ⟨_, rfl, .refl _⟩, trivial⟩
        ⟨.inr ⟨by decide, _, rfl, .refl _⟩, .inr ⟨by decide, _, rfl, .refl _⟩, .inr ⟨by decide, _, rfl, .refl _⟩, .inr ⟨by decide, _, rfl, .refl _⟩, .inr ⟨by decide, _, rfl, .refl _⟩, .inl ⟨rfl, .tip⟩, trivial⟩ ?_
      refine loopX T_ok 0 (S := Nat) (S' := Unit) (fun i => wE x (outR l x i) (Nat.blt (wAt l x.id) i) i) (fun _ => wM l x) (fun i => l.length - i) (fun i => i ≤ l.length)
        (fun _ => wE x (outR l x l.length) (Nat.blt (wAt l x.id) l.length) l.length) (fun _ => wM l x) (fun _ => True) 0 ?_ ⟨rfl, rfl, rfl, rfl, rfl, rfl, trivial⟩ (by omega) ?_ ?_
      · refine ⟨rfl, rfl, rfl, rfl, rfl, rfl, ?_, ?_, rfl, trivial⟩
        · show some (PV.tok 65 105 []) = some (PV.tok 65 105 ((outR l x 0).map encRItem))
          simp [outR]
        · show some (PV.i (IV.bool false)) = some (PV.i (IV.bool (Nat.blt (wAt l x.id) 0)))
          rw [show Nat.blt (wAt l x.id) 0 = false by rw [← Bool.not_eq_true, Nat.blt_eq]; omega]
      · intro i hi
        refine condP.split (fun g => ?_) (fun g => ?_)
        · have g' : i < l.length := by have h : (i : Int) < ((l.map encRItem).length : Int) := of_decide_eq_true g; rw [lenR] at h; omega
          refine drawW T_ok (by decide +kernel) ?_
          refine ⟨encRItem l[i], ⟨by omega, by simp [g']⟩, ?_⟩
          refine ⟨_, _, ⟨rfl, ref02_Less_ok x.id l[i].id⟩, ?_⟩
          refine ⟨by kernel_rfl, ?_⟩
          rcases Nat.lt_trichotomy i (wAt l x.id) with hw | hw | hw
          · rw [wAt_lt g' hw]
            rw [show Nat.blt (wAt l x.id) i = false by rw [← Bool.not_eq_true, Nat.blt_eq]; omega]
            refine ⟨encRItem l[i], ⟨by omega, by simp [g']⟩, ?_⟩
            refine ⟨⟨⟨hasSize_rit _, fun x hx => by have := List.mem_singleton.1 hx; subst this; exact encRItem_len _⟩, szOK (by have := outR_len l x i; simp; omega) (by kernel_rfl)⟩, ?_⟩
            refine ⟨i + 1, ⟨by omega, by omega⟩, ⟨rfl, rfl, rfl, rfl, rfl, rfl, ?_, ?_, congrArg (fun n => some (PV.i (IV.int .i64 n))) (int_succ (by omega)), trivial⟩, ⟨rfl, rfl, rfl, rfl, rfl, rfl, trivial⟩⟩
            · rw [outR_lt g' hw, List.map_append]; rfl
            · rw [show Nat.blt (wAt l x.id) (i + 1) = false by rw [← Bool.not_eq_true, Nat.blt_eq]; omega]; rfl
          · rw [wAt_eq g' hw]
            rw [show Nat.blt (wAt l x.id) i = false by rw [← Bool.not_eq_true, Nat.blt_eq]; omega]
            refine ⟨⟨⟨hasSize_rit _, fun y hx => by have := List.mem_singleton.1 hx; subst this; exact encRItem_len _⟩, szOK (by have := outR_len l x i; simp; omega) (by kernel_rfl)⟩, ?_⟩
            refine ⟨encRItem l[i], ⟨by omega, by simp [g']⟩, ?_⟩
            refine ⟨⟨⟨hasSize_snoc (hasSize_rit _) rfl, fun y hx => by have := List.mem_singleton.1 hx; subst this; exact encRItem_len _⟩, szOK (by have := outR_len l x i; simp; omega) (by kernel_rfl)⟩, ?_⟩
            refine ⟨i + 1, ⟨by omega, by omega⟩, ⟨rfl, rfl, rfl, rfl, rfl, rfl, ?_, ?_, congrArg (fun n => some (PV.i (IV.int .i64 n))) (int_succ (by omega)), trivial⟩, ⟨rfl, rfl, rfl, rfl, rfl, rfl, trivial⟩⟩
            · rw [outR_eq g' hw, List.map_append, List.map_append]; rfl
            · rw [show Nat.blt (wAt l x.id) (i + 1) = true by rw [Nat.blt_eq]; omega]; rfl
          · rw [show Nat.blt (wAt l x.id) i = true by rw [Nat.blt_eq]; omega]
            refine ⟨encRItem l[i], ⟨by omega, by simp [g']⟩, ?_⟩
            refine ⟨⟨⟨hasSize_rit _, fun x hx => by have := List.mem_singleton.1 hx; subst this; exact encRItem_len _⟩, szOK (by have := outR_len l x i; simp; omega) (by kernel_rfl)⟩, ?_⟩
            refine ⟨i + 1, ⟨by omega, by omega⟩, ⟨rfl, rfl, rfl, rfl, rfl, rfl, ?_, ?_, congrArg (fun n => some (PV.i (IV.int .i64 n))) (int_succ (by omega)), trivial⟩, ⟨rfl, rfl, rfl, rfl, rfl, rfl, trivial⟩⟩
            · rw [outR_gt g' hw, List.map_append]; rfl
            · rw [show Nat.blt (wAt l x.id) (i + 1) = true by rw [Nat.blt_eq]; omega]; rfl
        · have g' : i = l.length := by have h : ¬ (i : Int) < ((l.map encRItem).length : Int) := of_decide_eq_false g; rw [lenR] at h; omega
          subst g'
          exact ⟨(), trivial, ⟨rfl, rfl, rfl, rfl, rfl, rfl, rfl, rfl, rfl, trivial⟩, ⟨rfl, rfl, rfl, rfl, rfl, rfl, trivial⟩⟩
      · intro _ _
        have hle := wAt_le l x.id
        by_cases hw : l.length = wAt l x.id
        · rw [show Nat.blt (wAt l x.id) l.length = false by rw [← Bool.not_eq_true, Nat.blt_eq]; omega, outR_end1 hw]
          have hol := outR_len l x l.length
          generalize outR l x l.length = out at *
          refine ⟨⟨⟨hasSize_rit _, fun y hx => by have := List.mem_singleton.1 hx; subst this; exact encRItem_len _⟩, szOK (by simp; omega) (by kernel_rfl)⟩, ?_⟩
          refine drawW T_ok (by decide +kernel) ?_
          refine ⟨by kernel_rfl, ?_⟩
          show _ = some (withV (out ++ [x], x.id, true))
          rw [show withV (out ++ [x], x.id, true) = IV.tup [.agg [.slice (out.map encRItem ++ [encRItem x])], encId x.id, .bool true] by simp [withV, encSt]]
          rfl
        · rw [show Nat.blt (wAt l x.id) l.length = true by rw [Nat.blt_eq]; omega, outR_end2 (by omega)]
          generalize outR l x l.length = out
          refine drawW T_ok (by decide +kernel) ?_
          refine ⟨by kernel_rfl, ?_⟩
          rfl
end Go.Kn
