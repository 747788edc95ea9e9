/- The program's store. -/
import Derived.Test.YtadcjononmlofaaDoorKnPlace
import Derived.Test.YtadcjononmlofaaDoorKnDecode
import Derived.Test.YtadcjononmlofaaDoorKnSha4
import Derived.Test.YtadcjononmlofaaDoorKnFrozen
set_option autoImplicit false
namespace Go.Kn
open Go Go.Proofs

variable {G : Gl}

theorem eqPtrNil' (σ : Gh) (w : World) (a : Option Addr) (x y : Operand) :
    (do eqGuard .eql Tn.p_store_Store x y (.pointer a) (.pointer none); binOp .eql Tn.p_store_Store (.pointer a) (.pointer none) : Sem Value).run Pg w = .ok (.bool a.isNone) w ∧
    (do eqGuard .neq Tn.p_store_Store x y (.pointer a) (.pointer none); binOp .neq Tn.p_store_Store (.pointer a) (.pointer none) : Sem Value).run Pg w = .ok (.bool (!a.isNone)) w := by
  constructor
  · rw [Sem.run_bind, run_eqGuard_scalar _ _ _ _ _ _ _ (by simp) (by simp), Result.andThen_ok, run_eql_pointer_nil w _ _ (by kernel_rfl)]
  · rw [Sem.run_bind, run_eqGuard_scalar _ _ _ _ _ _ _ (by simp) (by simp), Result.andThen_ok, run_neq_pointer_nil w _ _ (by kernel_rfl)]

theorem eqPtrNil (k off : Nat) : EqOK Pg Tn.p_store_Store (.ptr k off) (.i .nilP) false := by
  intro σ w u v x y hu hv
  cases hu with
  | ptr _ _ L hk =>
    cases hv with
    | i _ _ r => cases r; exact eqPtrNil' σ w _ x y

theorem eqNilNil : EqOK Pg Tn.p_store_Store (.i .nilP) (.i .nilP) true := by
  intro σ w u v x y hu hv
  cases hu with
  | i _ _ r =>
    cases r
    cases hv with
    | i _ _ r => cases r; exact eqPtrNil' σ w _ x y

def stM (l : List Item) : Mem := [(1000, .var [.vec 1001 33 0 l.length]), (1001, .vec 33 (itemsP l) none)]

/-- A store, as it is lent. -/
theorem stAs {l : List Item} {a b : Nat} {m : Mem} (h : lk a m = some (.var [.vec b 33 0 l.length])) (h2 : lk b m = some (.vec 33 (itemsP l) none)) (h3 : injB (rho [(1000, a), (1001, b)]) (stM l) = true) : MemAs (rho [(1000, a), (1001, b)]) (stM l) m :=
  MemL.as ⟨⟨_, h, MLe.refl _⟩, ⟨_, h2, MLe.vecEq rfl⟩, trivial⟩ h3

theorem stEnd {l : List Item} {m : Mem} (h : lk 1000 m = some (.var [.vec 1001 33 0 l.length])) (h2 : lk 1001 m = some (.vec 33 (itemsP l) none)) : MemAs (rho []) (stM l) m :=
  MemL.as ⟨⟨_, h, MLe.refl _⟩, ⟨_, h2, MLe.vecEq rfl⟩, trivial⟩ rfl

/-- A store that is not written while a function computes. -/
def stI (l : List Item) : IV := .rptr [.slice (l.map encItem)]

theorem eqRptrNil (cs : List IV) : EqOK Pg Tn.p_store_Store (.i (.rptr cs)) (.i .nilP) false := by
  intro σ w u v x y hu hv
  cases hu with
  | i _ _ r =>
    cases r
    cases hv with
    | i _ _ r => cases r; exact eqPtrNil' σ w _ x y

theorem st_lend {f : FuncId} {xs : List IV} {x : IV} {l : List Item} (h : Body Pg f ∧ AC Pg G f ((stI l :: xs).map .i) [] (.i x) []) (hx : flatI x = true) :
    Body Pg f ∧ AC Pg G f (.ptr 1000 0 :: xs.map .i) (stM l) (.i x) (stM l) := by
  refine AC.frozen h hx fun R σ w vs hj hr => ?_
  refine ⟨by simpa using hr.1, fun i p v e1 e2 => ?_⟩
  cases i with
  | zero =>
    cases e1
    have := frozen_ptr (k := 1000) (r := 1001) (s := 33) (c := none) (l := l.map encItem) hj (by simp [stM, lk]) rfl (hr.2 0 _ v rfl e2)
    exact .i _ _ this
  | succ i =>
    have e1' : (xs.map PV.i)[i]? = some p := e1
    have r := hr.2 (i + 1) p v (by simpa using e1') e2
    obtain ⟨y, _, rfl⟩ : ∃ y, xs[i]? = some y ∧ PV.i y = p := by
      rw [List.getElem?_map] at e1'
      cases h : xs[i]? with
      | none => rw [h] at e1'; cases e1'
      | some y => rw [h] at e1'; cases e1'; exact ⟨y, rfl, rfl⟩
    cases r with
    | i _ _ r => exact .i _ _ (r.mono (frz_le hj))

theorem place_pure (l : List Item) (y : Id) (hr : Rising l) (hl : l.length < 1000000) : Body Pg Fn.store_Store_place ∧ AC Pg G Fn.store_Store_place ([stI l, encId y].map .i) [] (.i (.tup [.int .i64 (lowI l y : Int), .bool (hasI l y)])) [] := by
  have hb := binarySearch_ok (G := G) l y hr hl
  refine acC_of T_ok Fd.store_Store_place rfl (by kernel_rfl) ?_
  refine ⟨_, eqRptrNil _, ?_⟩
  refine drawW T_ok (by decide +kernel) ?_
  refine ⟨_, _, ⟨rfl, hb⟩, ?_⟩
  refine ⟨by kernel_rfl, ?_⟩
  exact retSame ⟨[_, _], ⟨rfl, rfl, rfl⟩, rfl⟩ (MemL.as trivial rfl)

theorem place_ok (l : List Item) (y : Id) (hr : Rising l) (hl : l.length < 1000000) : Body Pg Fn.store_Store_place ∧
    AC Pg G Fn.store_Store_place [.ptr 1000 0, .i (encId y)] (stM l) (.i (.tup [.int .i64 (lowI l y : Int), .bool (hasI l y)])) (stM l) :=
  st_lend (place_pure l y hr hl) rfl
/-- The item of an id. -/
def findI (l : List Item) (y : Id) : Option Item := l.find? fun a => decide (a.id = y)

theorem find_low {l : List Item} (hr : Rising l) {y : Id} {x : Item} (h : findI l y = some x) : l[lowI l y]? = some x ∧ hasI l y = true ∧ x.id = y := by
  have h1 := List.find?_some h
  have h2 := List.mem_of_find?_eq_some h
  have h1 := of_decide_eq_true h1
  obtain ⟨k, hk, rfl⟩ := List.getElem_of_mem h2
  have hg : l[k]? = some l[k] := List.getElem?_eq_getElem hk
  have : lowI l y = k := lowI_eq (by omega) (fun j a hj e => by have := hr.get hj e hg; rw [h1] at this; exact this) (fun j a hj e => by
    by_cases hjk : j = k
    · subst hjk; rw [hg] at e; cases e; rw [h1]; exact Nat.le_refl _
    · have := hr.get (show k < j by omega) hg e; rw [h1] at this; omega)
  exact ⟨by rw [this]; exact hg, List.any_eq_true.2 ⟨l[k], h2, decide_eq_true h1⟩, h1⟩

theorem find_none {l : List Item} {y : Id} (h : findI l y = none) : hasI l y = false := by
  simp only [findI, List.find?_eq_none] at h
  simp only [hasI, List.any_eq_false]
  exact h

def getV : Option Item → IV
  | some x => .tup [.str x.text, .bool true]
  | none => .tup [.str [], .bool false]

theorem flat_getV (o : Option Item) : flatI (getV o) = true := by cases o <;> rfl

theorem get_pure (l : List Item) (y : Id) (hr : Rising l) (hl : l.length < 1000000) : Body Pg Fn.store_Store_Get ∧ AC Pg G Fn.store_Store_Get ([stI l, encId y].map .i) [] (.i (getV (findI l y))) [] := by
  have hb := place_pure (G := G) l y hr hl
  refine acC_of T_ok Fd.store_Store_Get rfl (by kernel_rfl) ?_
  refine ⟨_, _, _, pureCall (.inl hb) rfl, ?_⟩
  cases hf : findI l y with
  | none =>
    rw [find_none hf]
    exact retSame ⟨[_, _], ⟨rfl, rfl, rfl⟩, rfl⟩ (MemL.as trivial rfl)
  | some x =>
    obtain ⟨h1, h2, h3⟩ := find_low hr hf
    rw [h2]
    refine ⟨encItem x, ⟨by omega, by show (l.map encItem)[((lowI l y : Nat) : Int).toNat]? = _; simp [h1]⟩, ?_⟩
    exact retSame ⟨[_, _], ⟨rfl, rfl, rfl⟩, rfl⟩ (MemL.as trivial rfl)

theorem get_ok (l : List Item) (y : Id) (hr : Rising l) (hl : l.length < 1000000) : Body Pg Fn.store_Store_Get ∧ AC Pg G Fn.store_Store_Get [.ptr 1000 0, .i (encId y)] (stM l) (.i (getV (findI l y))) (stM l) :=
  st_lend (get_pure l y hr hl) (flat_getV _)

def kindV : Option Item → Nat
  | some x => (x.text.getD 0 0).toNat
  | none => 0

theorem kind_pure (l : List Item) (y : Id) (hr : Rising l) (hl : l.length < 1000000) (ht : ∀ x ∈ l, x.text ≠ []) : Body Pg Fn.store_Store_Kind ∧ AC Pg G Fn.store_Store_Kind ([stI l, encId y].map .i) [] (.i (.int .i64 (kindV (findI l y) : Int))) [] := by
  have hb := get_pure (G := G) l y hr hl
  refine acC_of T_ok Fd.store_Store_Kind rfl (by kernel_rfl) ?_
  refine ⟨_, _, _, pureCall (.inl hb) rfl, ?_⟩
  cases hf : findI l y with
  | none => exact retSame rfl (MemL.as trivial rfl)
  | some x =>
    have hx : x.text ≠ [] := ht x (List.mem_of_find?_eq_some hf)
    have hpos : 0 < x.text.length := List.length_pos_iff.2 hx
    have hlt := (x.text.getD 0 0).toNat_lt
    refine ⟨⟨by decide, by show (0 : Int) < x.text.length; omega⟩, ?_⟩
    refine retSame ?_ (MemL.as trivial rfl)
    show some (IV.int .i64 (IntKind.i64.wrap ((x.text.getD 0 0).toNat : Int))) = some (.int .i64 ((x.text.getD 0 0).toNat : Int))
    rw [wrap_i64 (by omega) (by omega)]

theorem kind_ok (l : List Item) (y : Id) (hr : Rising l) (hl : l.length < 1000000) (ht : ∀ x ∈ l, x.text ≠ []) : Body Pg Fn.store_Store_Kind ∧ AC Pg G Fn.store_Store_Kind [.ptr 1000 0, .i (encId y)] (stM l) (.i (.int .i64 (kindV (findI l y) : Int))) (stM l) :=
  st_lend (kind_pure l y hr hl ht) rfl

theorem len_pure (l : List Item) : Body Pg Fn.store_Store_Len ∧ AC Pg G Fn.store_Store_Len ([stI l].map .i) [] (.i (.int .i64 (l.length : Int))) [] := by
  refine acC_of T_ok Fd.store_Store_Len rfl (by kernel_rfl) ?_
  refine ⟨_, eqRptrNil _, ?_⟩
  refine retSame ?_ (MemL.as trivial rfl)
  show some (IV.int .i64 ((l.map encItem).length : Int)) = _
  rw [List.length_map]

theorem len_ok (l : List Item) : Body Pg Fn.store_Store_Len ∧ AC Pg G Fn.store_Store_Len [.ptr 1000 0] (stM l) (.i (.int .i64 (l.length : Int))) (stM l) :=
  st_lend (xs := []) (len_pure l) rfl

def objV : Option Item → IV
  | some x => match decodeP x.text with
    | some o => .tup [encObj o, .bool true]
    | none => .tup [encObj (Obj.ofKind 0), .bool false]
  | none => .tup [encObj (Obj.ofKind 0), .bool false]
/-- A call of a store's method, with the same names for the store. -/
theorem stCall {f : FuncId} {l l' : List Item} {cs : List PV} {x : IV} {args : List PV} {env : Env} {m : Mem} (h : Body Pg f ∧ AC Pg G f cs (stM l) (.i x) (stM l'))
    (ha : argOK (rho [(1000, 1000), (1001, 1001)]) cs args) (hm : MemAs (rho [(1000, 1000), (1001, 1001)]) (stM l) m) :
    CallS Pg G f args env m (.i x) (killE [1001] env) (setM (stM l') (killM [1001] m)) :=
  lendCall (ρ := [(1000, 1000), (1001, 1001)]) h.1 h.2 ha hm rfl

set_option maxRecDepth 100000 in
theorem object_ok (l : List Item) (y : Id) (hr : Rising l) (hl : l.length < 1000000) (ht : ∀ x ∈ l, x.text.length < 1000000) :
    Body Pg Fn.store_Store_Object ∧ AC Pg G Fn.store_Store_Object [.ptr 1000 0, .i (encId y)] (stM l) (.i (objV (findI l y))) (stM l) := by
  have hb := get_ok (G := G) l y hr hl
  refine acC_of T_ok Fd.store_Store_Object rfl (by kernel_rfl) ?_
  refine ⟨_, _, _, stCall hb ⟨rfl, rfl, rfl⟩ (stAs rfl rfl rfl), ?_⟩
  cases hf : findI l y with
  | none => exact retSame ⟨[_, _], ⟨rfl, rfl, rfl⟩, rfl⟩ (stEnd rfl rfl)
  | some x =>
    have hd := object_Decode_ok (G := G) x.text (ht x (List.mem_of_find?_eq_some hf))
    simp only [objV]
    refine ⟨_, _, _, pureCall hd rfl, ?_⟩
    cases decodeP x.text with
    | none => exact retSame ⟨[_, _], ⟨rfl, rfl, rfl⟩, rfl⟩ (stEnd rfl rfl)
    | some o => exact retSame ⟨[_, _], ⟨rfl, rfl, rfl⟩, rfl⟩ (stEnd rfl rfl)

/-- A new store: the pointer, and what it leads to. -/
theorem new_ok : Body Pg Fn.store_New ∧ AC Pg G Fn.store_New [] [] (.ptr 1000 0) (stM []) := by
  refine acW_of T_ok Fd.store_New rfl (by kernel_rfl) ?_
  refine CW.next T_ok ?_
  refine CW.next T_ok ?_
  refine CW.tok0 900 rfl rfl (env' := [(0, .ptr 2 0)]) (m' := [(2, .var [.vec 900 33 0 0]), (900, .vec 33 [] none)]) ⟨⟨_, rfl, .refl _⟩, trivial⟩
    ⟨.inr ⟨by decide, _, rfl, .var _ _ ⟨.vec 33, rfl⟩⟩, .inl ⟨rfl, .vec' rfl⟩, trivial⟩ ?_
  refine CW.go T_ok ?_
  exact ⟨[(1000, 2), (1001, 900)], [], ⟨trivial, rfl, MemL.as ⟨⟨_, rfl, MLe.refl _⟩, ⟨_, rfl, MLe.refl _⟩, trivial⟩ rfl, rfl⟩⟩

theorem encItem_len (x : Item) : (encItem x).cells.length = 33 := by simp [encItem, IV.cells, idC, u8c]

def insI (l : List Item) (x : Item) : List Item := l.take (lowI l x.id) ++ x :: l.drop (lowI l x.id)

/-- The store behind a text that is put; the id, or the error. -/
def putL (l : List Item) (t : List UInt8) : List Item :=
  match decodeP t with
  | none => l
  | some _ => if hasI l (sha t) then l else insI l ⟨sha t, t⟩

def putV (t : List UInt8) : IV :=
  match decodeP t with
  | none => .tup [encId Id.none, .int .i64 2]
  | some _ => .tup [encId (sha t), .int .i64 0]

theorem lowI_le (l : List Item) (y : Id) : lowI l y ≤ l.length := by
  unfold lowI
  exact (List.takeWhile_sublist _).length_le

theorem insI_enc (l : List Item) (x : Item) : ((l.map encItem).take (lowI l x.id) ++ encItem x :: (l.map encItem).drop (lowI l x.id)).map PV.i = itemsP (insI l x) := by
  simp [itemsP, insI, List.map_take, List.map_drop]

theorem insI_len (l : List Item) (x : Item) : (insI l x).length = l.length + 1 := by
  have := lowI_le l x.id
  simp [insI]; omega

set_option maxHeartbeats 4000000 in
set_option maxRecDepth 100000 in
theorem put_ok (l : List Item) (t : List UInt8) (hr : Rising l) (hl : l.length < 100000) (ht : t.length < 1000000) :
    Body Pg Fn.store_Store_Put ∧ AC Pg G0 Fn.store_Store_Put [.ptr 1000 0, .i (.str t)] (stM l) (.i (putV t)) (stM (putL l t)) := by
  have hd := object_Decode_ok (G := G0) t ht
  have hi := object_Id_ok t ht
  have hpl := place_ok (G := G0) l (sha t) hr (by omega)
  refine acW_of (T_ok.vec [41]) Fd.store_Store_Put rfl (by kernel_rfl) ?_
  refine CW.next (T_ok.vec [41]) ?_
  refine CW.next (T_ok.vec [41]) ?_
  refine ⟨_, eqPtrNil 1000 0, ?_⟩
  refine CW.next (T_ok.vec [41]) ?_
  refine ⟨_, _, _, pureCall hd rfl, ?_⟩
  cases hdt : decodeP t with
  | none =>
    have h1 : putL l t = l := by simp [putL, hdt]
    have h2 : putV t = .tup [encId Id.none, .int .i64 2] := by simp [putV, hdt]
    rw [h1, h2]
    exact retSame ⟨[_, _], ⟨rfl, rfl, rfl⟩, rfl⟩ (stEnd rfl rfl)
  | some o =>
    have h2 : putV t = .tup [encId (sha t), .int .i64 0] := by simp [putV, hdt]
    rw [h2]
    refine CW.next (T_ok.vec [41]) ?_
    refine ⟨_, _, _, pureCall hi rfl, ?_⟩
    refine CW.next (T_ok.vec [41]) ?_
    refine ⟨_, _, _, stCall hpl ⟨rfl, rfl, rfl⟩ (stAs rfl rfl rfl), ?_⟩
    cases hh : hasI l (sha t) with
    | true =>
      have h1 : putL l t = l := by simp [putL, hdt, hh]
      rw [h1]
      refine CW.go (T_ok.vec [41]) ?_
      exact retSame ⟨[_, _], ⟨rfl, rfl, rfl⟩, rfl⟩ (stEnd rfl rfl)
    | false =>
      have h1 : putL l t = insI l ⟨sha t, t⟩ := by simp [putL, hdt, hh]
      rw [h1]
      have hins := insert_item (G := G0) (l := l.map encItem) (x := encItem ⟨sha t, t⟩) (i := lowI l (sha t)) (by simpa using lowI_le l (sha t)) (fun y hy => by
        obtain ⟨a, _, rfl⟩ := List.mem_map.1 hy; exact encItem_len a) (encItem_len _) (by simp; omega)
      rw [insI_enc l ⟨sha t, t⟩, List.length_map] at hins
      refine drawW (T_ok.vec [41]) (by decide +kernel) ?_
      refine ⟨[(1000, 1001), (1001, 41)], _, _, _, _, ⟨hins.1, hins.2, ⟨rfl, rfl, rfl, rfl⟩, MemL.as ⟨⟨_, rfl, MLe.vecEq rfl⟩, ⟨_, rfl, MLe.vecEq rfl⟩, trivial⟩ rfl, rfl⟩, ?_⟩
      refine ⟨by kernel_rfl, ?_⟩
      refine CW.go (T_ok.vec [41]) ?_
      refine retSame ⟨[_, _], ⟨rfl, rfl, rfl⟩, rfl⟩ (stEnd ?_ rfl)
      rw [insI_len]
      rfl
end Go.Kn
