/- The program's store. -/
import Derived.Test.YtiibdlpfgmeifaaGreatDoorKn07
import Derived.Test.YtiibdlpfgmeifaaGreatDoorKn10
import Derived.Test.YtiibdlpfgmeifaaGreatDoorKn08
import Derived.Lib.BufferMore
set_option autoImplicit false
set_option maxRecDepth 100000
namespace Go.Kn
open Go Go.Proofs
variable {G : Gl}
theorem eqPtrNil' (σ : Gh) (w : World) (a : Option Addr) (x y : Operand) :
    (do eqGuard .eql Tn.p_store_Store x y (.pointer a) (.pointer none); binOp .eql Tn.p_store_Store (.pointer a) (.pointer none) : Sem Value).run Pg w = .ok (.bool a.isNone) w ∧
    (do eqGuard .neq Tn.p_store_Store x y (.pointer a) (.pointer none); binOp .neq Tn.p_store_Store (.pointer a) (.pointer none) : Sem Value).run Pg w = .ok (.bool (!a.isNone)) w := by
  constructor
  · rw [Sem.run_bind, run_eqGuard_scalar _ _ _ _ _ _ _ (by simp) (by simp), Result.andThen_ok, run_eql_pointer_nil w _ _ (by kernel_rfl)]
  · rw [Sem.run_bind, run_eqGuard_scalar _ _ _ _ _ _ _ (by simp) (by simp), Result.andThen_ok, run_neq_pointer_nil w _ _ (by kernel_rfl)]
theorem eqPtrNil (k off : Nat) : EqOK Pg Tn.p_store_Store (.ptr k off) (.i .nilP) false := by
  intro σ w u v x y hu hv
  cases hu with
  | ptr _ _ L hk =>
    cases hv with
    | i _ _ r => cases r; exact eqPtrNil' σ w _ x y
theorem eqNilNil : EqOK Pg Tn.p_store_Store (.i .nilP) (.i .nilP) true := by
  intro σ w u v x y hu hv
  cases hu with
  | i _ _ r =>
    cases r
    cases hv with
    | i _ _ r => cases r; exact eqPtrNil' σ w _ x y
def stM (l : List Item) : Mem := [(1000, .var [.vec 1001 33 0 l.length]), (1001, .vec 33 (itemsP l) none)]
theorem stAs {l : List Item} {a b : Nat} {m : Mem} (h : lk a m = some (.var [.vec b 33 0 l.length])) (h2 : lk b m = some (.vec 33 (itemsP l) none)) (h3 : injB (rho [(1000, a), (1001, b)]) (stM l) = true) : MemAs (rho [(1000, a), (1001, b)]) (stM l) m :=
  MemL.as ⟨⟨_, h, MLe.refl _⟩, ⟨_, h2, MLe.vecEq rfl⟩, trivial⟩ h3
theorem stEnd {l : List Item} {m : Mem} (h : lk 1000 m = some (.var [.vec 1001 33 0 l.length])) (h2 : lk 1001 m = some (.vec 33 (itemsP l) none)) : MemAs (rho []) (stM l) m :=
  MemL.as ⟨⟨_, h, MLe.refl _⟩, ⟨_, h2, MLe.vecEq rfl⟩, trivial⟩ rfl
def stI (l : List Item) : IV := .rptr [.slice (l.map encItem)]
theorem eqRptrNil (cs : List IV) : EqOK Pg Tn.p_store_Store (.i (.rptr cs)) (.i .nilP) false := by
  intro σ w u v x y hu hv
  cases hu with
  | i _ _ r =>
    cases r
    cases hv with
    | i _ _ r => cases r; exact eqPtrNil' σ w _ x y
theorem st_lend {f : FuncId} {xs : List IV} {x : IV} {l : List Item} (h : Body Pg f ∧ AC Pg G f ((stI l :: xs).map .i) [] (.i x) []) (hx : flatI x = true) :
    Body Pg f ∧ AC Pg G f (.ptr 1000 0 :: xs.map .i) (stM l) (.i x) (stM l) := by
  refine AC.frozen h hx fun R σ w vs hj hr => ?_
  refine ⟨by simpa using hr.1, fun i p v e1 e2 => ?_⟩
  cases i with
  | zero =>
    cases e1
    have := frozen_ptr (k := 1000) (r := 1001) (s := 33) (c := none) (l := l.map encItem) hj (by simp [stM, lk]) rfl (hr.2 0 _ v rfl e2)
    exact .i _ _ this
  | succ i =>
    have e1' : (xs.map PV.i)[i]? = some p := e1
    have r := hr.2 (i + 1) p v (by simpa using e1') e2
    obtain ⟨y, _, rfl⟩ : ∃ y, xs[i]? = some y ∧ PV.i y = p := by
      rw [List.getElem?_map] at e1'
      cases h : xs[i]? with
      | none => rw [h] at e1'; cases e1'
      | some y => rw [h] at e1'; cases e1'; exact ⟨y, rfl, rfl⟩
    cases r with
    | i _ _ r => exact .i _ _ (r.mono (frz_le hj))
theorem place_pure (l : List Item) (y : Id) (hr : Rising l) (hl : l.length < 1000000) : Body Pg Fn.store_Store_place ∧ AC Pg G Fn.store_Store_place ([stI l, encId y].map .i) [] (.i (.tup [.int .i64 (lowI l y : Int), .bool (hasI l y)])) [] := by
  have hb := binarySearch_ok (G := G) l y hr hl
  refine acC_of T_ok Fd.store_Store_place rfl (by kernel_rfl) ?_
  refine ⟨_, eqRptrNil _, ?_⟩
  refine drawW T_ok (by decide +kernel) ?_
  refine ⟨_, _, ⟨rfl, hb⟩, ?_⟩
  refine ⟨by kernel_rfl, ?_⟩
  exact retSame ⟨[_, _], ⟨rfl, rfl, rfl⟩, rfl⟩ (MemL.as trivial rfl)
theorem place_ok (l : List Item) (y : Id) (hr : Rising l) (hl : l.length < 1000000) : Body Pg Fn.store_Store_place ∧
    AC Pg G Fn.store_Store_place [.ptr 1000 0, .i (encId y)] (stM l) (.i (.tup [.int .i64 (lowI l y : Int), .bool (hasI l y)])) (stM l) :=
  st_lend (place_pure l y hr hl) rfl
def findI (l : List Item) (y : Id) : Option Item := l.find? fun a => decide (a.id = y)
theorem find_low {l : List Item} (hr : Rising l) {y : Id} {x : Item} (h : findI l y = some x) : l[lowI l y]? = some x ∧ hasI l y = true ∧ x.id = y := by
  have h1 := List.find?_some h
  have h2 := List.mem_of_find?_eq_some h
  have h1 := of_decide_eq_true h1
  obtain ⟨k, hk, rfl⟩ := List.getElem_of_mem h2
  have hg : l[k]? = some l[k] := List.getElem?_eq_getElem hk
  have : lowI l y = k := lowI_eq (by omega) (fun j a hj e => by have := hr.get hj e hg; rw [h1] at this; exact this) (fun j a hj e => by
    by_cases hjk : j = k
    · subst hjk; rw [hg] at e; cases e; rw [h1]; exact Nat.le_refl _
    · have := hr.get (show k < j by omega) hg e; rw [h1] at this; omega)
  exact ⟨by rw [this]; exact hg, List.any_eq_true.2 ⟨l[k], h2, decide_eq_true h1⟩, h1⟩
theorem find_none {l : List Item} {y : Id} (h : findI l y = none) : hasI l y = false := by
  simp only [findI, List.find?_eq_none] at h
  simp only [hasI, List.any_eq_false]
  exact h
def getV : Option Item → IV
  | some x => .tup [.str x.text, .bool true]
  | none => .tup [.str [], .bool false]
theorem flat_getV (o : Option Item) : flatI (getV o) = true := by cases o <;> rfl
theorem get_pure (l : List Item) (y : Id) (hr : Rising l) (hl : l.length < 1000000) : Body Pg Fn.store_Store_Get ∧ AC Pg G Fn.store_Store_Get ([stI l, encId y].map .i) [] (.i (getV (findI l y))) [] := by
  have hb := place_pure (G := G) l y hr hl
  refine acC_of T_ok Fd.store_Store_Get rfl (by kernel_rfl) ?_
  refine ⟨_, _, _, pureCall (.inl hb) rfl, ?_⟩
  cases hf : findI l y with
  | none =>
    rw [find_none hf]
    exact retSame ⟨[_, _], ⟨rfl, rfl, rfl⟩, rfl⟩ (MemL.as trivial rfl)
  | some x =>
    obtain ⟨h1, h2, h3⟩ := find_low hr hf
    rw [h2]
    refine ⟨encItem x, ⟨by omega, by show (l.map encItem)[((lowI l y : Nat) : Int).toNat]? = _; simp [h1]⟩, ?_⟩
    exact retSame ⟨[_, _], ⟨rfl, rfl, rfl⟩, rfl⟩ (MemL.as trivial rfl)
theorem get_ok (l : List Item) (y : Id) (hr : Rising l) (hl : l.length < 1000000) : Body Pg Fn.store_Store_Get ∧ AC Pg G Fn.store_Store_Get [.ptr 1000 0, .i (encId y)] (stM l) (.i (getV (findI l y))) (stM l) :=
  st_lend (get_pure l y hr hl) (flat_getV _)
def kindV : Option Item → Nat
  | some x => (x.text.getD 0 0).toNat
  | none => 0
theorem kind_pure (l : List Item) (y : Id) (hr : Rising l) (hl : l.length < 1000000) (ht : ∀ x ∈ l, x.text ≠ []) : Body Pg Fn.store_Store_Kind ∧ AC Pg G Fn.store_Store_Kind ([stI l, encId y].map .i) [] (.i (.int .i64 (kindV (findI l y) : Int))) [] := by
  have hb := get_pure (G := G) l y hr hl
  refine acC_of T_ok Fd.store_Store_Kind rfl (by kernel_rfl) ?_
  refine ⟨_, _, _, pureCall (.inl hb) rfl, ?_⟩
  cases hf : findI l y with
  | none => exact retSame rfl (MemL.as trivial rfl)
  | some x =>
    have hx : x.text ≠ [] := ht x (List.mem_of_find?_eq_some hf)
    have hpos : 0 < x.text.length := List.length_pos_iff.2 hx
    have hlt := (x.text.getD 0 0).toNat_lt
    refine ⟨⟨by decide, by show (0 : Int) < x.text.length; omega⟩, ?_⟩
    refine retSame ?_ (MemL.as trivial rfl)
    show some (IV.int .i64 (IntKind.i64.wrap ((x.text.getD 0 0).toNat : Int))) = some (.int .i64 ((x.text.getD 0 0).toNat : Int))
    rw [wrap_i64 (by omega) (by omega)]
theorem kind_ok (l : List Item) (y : Id) (hr : Rising l) (hl : l.length < 1000000) (ht : ∀ x ∈ l, x.text ≠ []) : Body Pg Fn.store_Store_Kind ∧ AC Pg G Fn.store_Store_Kind [.ptr 1000 0, .i (encId y)] (stM l) (.i (.int .i64 (kindV (findI l y) : Int))) (stM l) :=
  st_lend (kind_pure l y hr hl ht) rfl
theorem len_pure (l : List Item) : Body Pg Fn.store_Store_Len ∧ AC Pg G Fn.store_Store_Len ([stI l].map .i) [] (.i (.int .i64 (l.length : Int))) [] := by
  refine acC_of T_ok Fd.store_Store_Len rfl (by kernel_rfl) ?_
  refine ⟨_, eqRptrNil _, ?_⟩
  refine retSame ?_ (MemL.as trivial rfl)
  show some (IV.int .i64 ((l.map encItem).length : Int)) = _
  rw [List.length_map]
theorem len_ok (l : List Item) : Body Pg Fn.store_Store_Len ∧ AC Pg G Fn.store_Store_Len [.ptr 1000 0] (stM l) (.i (.int .i64 (l.length : Int))) (stM l) :=
  st_lend (xs := []) (len_pure l) rfl
def objV : Option Item → IV
  | some x => match decodeP x.text with
    | some o => .tup [encObj o, .bool true]
    | none => .tup [encObj (Obj.ofKind 0), .bool false]
  | none => .tup [encObj (Obj.ofKind 0), .bool false]
theorem stCall {f : FuncId} {l l' : List Item} {cs : List PV} {x : IV} {args : List PV} {env : Env} {m : Mem} (h : Body Pg f ∧ AC Pg G f cs (stM l) (.i x) (stM l'))
    (ha : argOK (rho [(1000, 1000), (1001, 1001)]) cs args) (hm : MemAs (rho [(1000, 1000), (1001, 1001)]) (stM l) m) :
    CallS Pg G f args env m (.i x) (killE [1001] env) (setM (stM l') (killM [1001] m)) :=
  lendCall (ρ := [(1000, 1000), (1001, 1001)]) h.1 h.2 ha hm rfl
set_option maxRecDepth 100000 in
theorem object_ok (l : List Item) (y : Id) (hr : Rising l) (hl : l.length < 1000000) (ht : ∀ x ∈ l, x.text.length < 1000000) :
    Body Pg Fn.store_Store_Object ∧ AC Pg G Fn.store_Store_Object [.ptr 1000 0, .i (encId y)] (stM l) (.i (objV (findI l y))) (stM l) := by
  have hb := get_ok (G := G) l y hr hl
  refine acC_of T_ok Fd.store_Store_Object rfl (by kernel_rfl) ?_
  refine ⟨_, _, _, stCall hb ⟨rfl, rfl, rfl⟩ (stAs rfl rfl rfl), ?_⟩
  cases hf : findI l y with
  | none => exact retSame ⟨[_, _], ⟨rfl, rfl, rfl⟩, rfl⟩ (stEnd rfl rfl)
  | some x =>
    have hd := object_Decode_ok (G := G) x.text (ht x (List.mem_of_find?_eq_some hf))
    simp only [objV]
    refine ⟨_, _, _, pureCall hd rfl, ?_⟩
    cases decodeP x.text with
    | none => exact retSame ⟨[_, _], ⟨rfl, rfl, rfl⟩, rfl⟩ (stEnd rfl rfl)
    | some o => exact retSame ⟨[_, _], ⟨rfl, rfl, rfl⟩, rfl⟩ (stEnd rfl rfl)
theorem new_ok : Body Pg Fn.store_New ∧ AC Pg G Fn.store_New [] [] (.ptr 1000 0) (stM []) := by
  refine acW_of T_ok Fd.store_New rfl (by kernel_rfl) ?_
  refine CW.next T_ok ?_
  refine CW.next T_ok ?_
  refine CW.tok0 900 rfl rfl (env' := [(0, .ptr 2 0)]) (m' := [(2, .var [.vec 900 33 0 0]), (900, .vec 33 [] none)]) ⟨⟨_, rfl, .refl _⟩, trivial⟩
    ⟨.inr ⟨by decide, _, rfl, .var _ _ ⟨.vec 33, rfl⟩⟩, .inl ⟨rfl, .vec' rfl⟩, trivial⟩ ?_
  refine CW.go T_ok ?_
  exact ⟨[(1000, 2), (1001, 900)], [], ⟨trivial, rfl, MemL.as ⟨⟨_, rfl, MLe.refl _⟩, ⟨_, rfl, MLe.refl _⟩, trivial⟩ rfl, rfl⟩⟩
theorem encItem_len (x : Item) : (encItem x).cells.length = 33 := by simp [encItem, IV.cells, idC, u8c]
def insI (l : List Item) (x : Item) : List Item := l.take (lowI l x.id) ++ x :: l.drop (lowI l x.id)
def putL (l : List Item) (t : List UInt8) : List Item :=
  match decodeP t with
  | none => l
  | some _ => if hasI l (sha t) then l else insI l ⟨sha t, t⟩
def putV (t : List UInt8) : IV :=
  match decodeP t with
  | none => .tup [encId Id.none, .int .i64 2]
  | some _ => .tup [encId (sha t), .int .i64 0]
theorem lowI_le (l : List Item) (y : Id) : lowI l y ≤ l.length := by
  unfold lowI
  exact (List.takeWhile_sublist _).length_le
theorem insI_enc (l : List Item) (x : Item) : ((l.map encItem).take (lowI l x.id) ++ encItem x :: (l.map encItem).drop (lowI l x.id)).map PV.i = itemsP (insI l x) := by
  simp [itemsP, insI, List.map_take, List.map_drop]
theorem insI_len (l : List Item) (x : Item) : (insI l x).length = l.length + 1 := by
  have := lowI_le l x.id
  simp [insI]; omega
set_option maxHeartbeats 4000000 in
set_option maxRecDepth 100000 in
theorem put_ok (l : List Item) (t : List UInt8) (hr : Rising l) (hl : l.length < 100000) (ht : t.length < 1000000) :
    Body Pg Fn.store_Store_Put ∧ AC Pg G0 Fn.store_Store_Put [.ptr 1000 0, .i (.str t)] (stM l) (.i (putV t)) (stM (putL l t)) := by
  have hd := object_Decode_ok (G := G0) t ht
  have hi := object_Id_ok t ht
  have hpl := place_ok (G := G0) l (sha t) hr (by omega)
  refine acW_of (T_ok.vec [41]) Fd.store_Store_Put rfl (by kernel_rfl) ?_
  refine CW.next (T_ok.vec [41]) ?_
  refine CW.next (T_ok.vec [41]) ?_
  refine ⟨_, eqPtrNil 1000 0, ?_⟩
  refine CW.next (T_ok.vec [41]) ?_
  refine ⟨_, _, _, pureCall hd rfl, ?_⟩
  cases hdt : decodeP t with
  | none =>
    have h1 : putL l t = l := by simp [putL, hdt]
    have h2 : putV t = .tup [encId Id.none, .int .i64 2] := by simp [putV, hdt]
    rw [h1, h2]
    exact retSame ⟨[_, _], ⟨rfl, rfl, rfl⟩, rfl⟩ (stEnd rfl rfl)
  | some o =>
    have h2 : putV t = .tup [encId (sha t), .int .i64 0] := by simp [putV, hdt]
    rw [h2]
    refine CW.next (T_ok.vec [41]) ?_
    refine ⟨_, _, _, pureCall hi rfl, ?_⟩
    refine CW.next (T_ok.vec [41]) ?_
    refine ⟨_, _, _, stCall hpl ⟨rfl, rfl, rfl⟩ (stAs rfl rfl rfl), ?_⟩
    cases hh : hasI l (sha t) with
    | true =>
      have h1 : putL l t = l := by simp [putL, hdt, hh]
      rw [h1]
      refine CW.go (T_ok.vec [41]) ?_
      exact retSame ⟨[_, _], ⟨rfl, rfl, rfl⟩, rfl⟩ (stEnd rfl rfl)
    | false =>
      have h1 : putL l t = insI l ⟨sha t, t⟩ := by simp [putL, hdt, hh]
      rw [h1]
      have hins := insert_item (G := G0) (l := l.map encItem) (x := encItem ⟨sha t, t⟩) (i := lowI l (sha t)) (by simpa using lowI_le l (sha t)) (fun y hy => by
        obtain ⟨a, _, rfl⟩ := List.mem_map.1 hy; exact encItem_len a) (encItem_len _) (by simp; omega)
      rw [insI_enc l ⟨sha t, t⟩, List.length_map] at hins
      refine drawW (T_ok.vec [41]) (by decide +kernel) ?_
      refine .inl ⟨[(1000, 1001), (1001, 41)], _, _, _, _, ⟨hins.1, hins.2, ⟨rfl, rfl, rfl, rfl⟩, MemL.as ⟨⟨_, rfl, MLe.vecEq rfl⟩, ⟨_, rfl, MLe.vecEq rfl⟩, trivial⟩ rfl, rfl⟩, ?_⟩
      refine ⟨by kernel_rfl, ?_⟩
      refine CW.go (T_ok.vec [41]) ?_
      refine retSame ⟨[_, _], ⟨rfl, rfl, rfl⟩, rfl⟩ (stEnd ?_ rfl)
      rw [insI_len]
      rfl
end Go.Kn
set_option maxRecDepth 100000
namespace Go.Kn
open Go Go.Proofs
variable {G : Gl}
def idsV (l : List Item) : List IV := l.map fun x => encId x.id
theorem idsV_size (l : List Item) : hasSize 32 (idsV l) := by
  intro x hx
  obtain ⟨e, _, rfl⟩ := List.mem_map.1 hx
  exact encId_len e.id
def idsM (l : List Item) : Mem := (21, .tip) :: stM l
theorem ids_ok (l : List Item) (hl : l.length < 1000000) : Body Pg Fn.store_Store_Ids ∧ AC Pg G Fn.store_Store_Ids [.ptr 1000 0] (stM l) (.i (.slice (idsV l))) (stM l) := by
  refine acW_of T_ok Fd.store_Store_Ids rfl (by kernel_rfl) ?_
  refine CW.next T_ok ?_
  refine CW.next T_ok ?_
  refine ⟨_, eqPtrNil 1000 0, ?_⟩
  refine CW.next T_ok ?_
  refine CW.go T_ok ?_
  refine LoopW.tok0 21 rfl rfl (env' := [(3, .tok 21 32 []), (11, .vec 1001 33 0 l.length), (12, .i (.int .i64 (l.length : Int))), (13, .i (.int .i64 0))]) (m' := idsM l)
    ⟨⟨_, rfl, .tok 32⟩, ⟨_, rfl, .refl _⟩, ⟨_, rfl, .refl _⟩, ⟨_, rfl, .refl _⟩, trivial⟩ ⟨.inl ⟨rfl, .tip⟩, .inr ⟨by decide, _, rfl, .refl _⟩, .inr ⟨by decide, _, rfl, .refl _⟩, trivial⟩ ?_
  refine loopX T_ok 0 (S := Nat) (S' := Unit) (fun i => [(3, .tok 21 32 (idsV (l.take i))), (11, .vec 1001 33 0 l.length), (12, .i (.int .i64 (l.length : Int))), (13, .i (.int .i64 (i : Int)))]) (fun _ => idsM l) (fun i => l.length - i) (fun i => i ≤ l.length)
    (fun _ => [(3, .tok 21 32 (idsV l))]) (fun _ => idsM l) (fun _ => True) 0 ⟨rfl, rfl, rfl, rfl, trivial⟩ ⟨rfl, rfl, rfl, trivial⟩ (by omega) ?_ ?_
  · intro i hi
    refine condP.split (fun g => ?_) (fun g => ?_)
    · have g' : i < l.length := by have : (i : Int) < l.length := of_decide_eq_true g; omega
      have hget : l[i]? = some l[i] := List.getElem?_eq_getElem g'
      refine ⟨⟨by omega, by show (i : Int) < l.length; omega⟩, ?_⟩
      refine ⟨encItem l[i], by show (itemsP l)[addS 0 (i : Int).toNat]? = _; rw [addS_eq]; simpa using itemsP_get hget, ?_⟩
      refine ⟨⟨⟨idsV_size _, fun x hx => by have := List.mem_singleton.1 hx; subst this; rfl⟩, szOK (by simp [idsV]; omega) (by kernel_rfl)⟩, ?_⟩
      refine ⟨i + 1, ⟨by omega, by omega⟩, ⟨?_, rfl, rfl, congrArg (fun n => some (PV.i (IV.int .i64 n))) (int_succ (by omega)), trivial⟩, ⟨rfl, rfl, rfl, trivial⟩⟩
      have : idsV (l.take (i + 1)) = idsV (l.take i) ++ [encId l[i].id] := by
        rw [idsV, idsV, List.take_succ_eq_append_getElem g', List.map_append]; rfl
      rw [this]; rfl
    · have g' : i = l.length := by have : ¬ (i : Int) < l.length := of_decide_eq_false g; omega
      subst g'
      exact ⟨(), trivial, ⟨by rw [← List.take_of_length_le (l := l) (Nat.le_refl _)]; simp; rfl, trivial⟩, ⟨rfl, rfl, rfl, trivial⟩⟩
  · intro _ _
    exact retSame rfl (stEnd rfl rfl)
end Go.Kn
set_option maxRecDepth 100000
namespace Go.Kn
open Go Go.Proofs
variable {G : Gl}
def wAt (l : List RItem) (y : Id) : Nat := (l.takeWhile fun a => !idLt y a.id).length
def insR (l : List RItem) (x : RItem) : List RItem := l.take (wAt l x.id) ++ x :: l.drop (wAt l x.id)
def outR (l : List RItem) (x : RItem) (i : Nat) : List RItem := if i ≤ wAt l x.id then l.take i else l.take (wAt l x.id) ++ x :: (l.take i).drop (wAt l x.id)
theorem wAt_le (l : List RItem) (y : Id) : wAt l y ≤ l.length := (List.takeWhile_sublist _).length_le
theorem wAt_lt : ∀ {l : List RItem} {y : Id} {i : Nat} (h : i < l.length), i < wAt l y → idLt y l[i].id = false
  | [], _, _, h, _ => by simp at h
  | a :: l, y, i, h, hw => by
    by_cases ha : idLt y a.id = true
    · simp [wAt, List.takeWhile_cons, ha] at hw
    · cases i with
      | zero => simpa using ha
      | succ i =>
        simp only [List.getElem_cons_succ]
        refine wAt_lt (by simpa using h) ?_
        simp only [Bool.not_eq_true] at ha
        simpa [wAt, List.takeWhile_cons, ha] using hw
theorem wAt_eq : ∀ {l : List RItem} {y : Id} {i : Nat} (h : i < l.length), i = wAt l y → idLt y l[i].id = true
  | [], _, _, h, _ => by simp at h
  | a :: l, y, i, h, hw => by
    by_cases ha : idLt y a.id = true
    · have : i = 0 := by simpa [wAt, List.takeWhile_cons, ha] using hw
      subst this; simpa using ha
    · simp only [Bool.not_eq_true] at ha
      cases i with
      | zero => simp [wAt, List.takeWhile_cons, ha] at hw
      | succ i =>
        simp only [List.getElem_cons_succ]
        refine wAt_eq (by simpa using h) ?_
        simpa [wAt, List.takeWhile_cons, ha] using hw
theorem outR_len (l : List RItem) (x : RItem) (i : Nat) : (outR l x i).length ≤ l.length + 1 := by
  unfold outR
  have := wAt_le l x.id
  split <;> simp <;> omega
theorem outR_lt {l : List RItem} {x : RItem} {i : Nat} (h : i < l.length) (hw : i < wAt l x.id) : outR l x (i + 1) = outR l x i ++ [l[i]] := by
  rw [outR, outR, if_pos (by omega), if_pos (by omega), List.take_succ_eq_append_getElem h]
theorem outR_eq {l : List RItem} {x : RItem} {i : Nat} (h : i < l.length) (hw : i = wAt l x.id) : outR l x (i + 1) = outR l x i ++ [x] ++ [l[i]] := by
  rw [outR, outR, if_neg (by omega), if_pos (by omega), List.take_succ_eq_append_getElem h, ← hw, List.drop_append_of_le_length (by simp; omega)]
  simp
theorem outR_gt {l : List RItem} {x : RItem} {i : Nat} (h : i < l.length) (hw : wAt l x.id < i) : outR l x (i + 1) = outR l x i ++ [l[i]] := by
  rw [outR, outR, if_neg (by omega), if_neg (by omega), List.take_succ_eq_append_getElem h, List.drop_append_of_le_length (by simp; omega)]
  simp
theorem outR_end1 {l : List RItem} {x : RItem} (h : l.length = wAt l x.id) : insR l x = outR l x l.length ++ [x] := by
  rw [outR, if_pos (by omega), insR, ← h]; simp
theorem outR_end2 {l : List RItem} {x : RItem} (h : wAt l x.id < l.length) : insR l x = outR l x l.length := by
  rw [outR, if_neg (by omega), insR]; simp
def withR (l : List RItem) (t : List UInt8) : List RItem × Id × Bool :=
  match decodeR t with
  | none => (l, Id.none, false)
  | some o => if (atR l (sha t)).isSome then (l, sha t, true) else (insR l ⟨sha t, t, o⟩, sha t, true)
def withV (r : List RItem × Id × Bool) : IV := .tup [encSt r.1, encId r.2.1, .bool r.2.2]
theorem hasSize_snoc {k : Nat} {l : List IV} {x : IV} (h : hasSize k l) (hx : x.cells.length = k) : hasSize k (l ++ [x]) := by
  intro y hy
  rcases List.mem_append.1 hy with hy | hy
  · exact h y hy
  · have := List.mem_singleton.1 hy; subst this; exact hx
def wM (l : List RItem) (x : RItem) : Mem := [(2, .var [.i (.slice (l.map encRItem))]), (4, .var [.full []]), (5, .var ((idC Id.none).map .i)), (7, .var ((encObj x.o).cells.map .i)), (9, .var ((idC x.id).map .i)), (65, .tip)]
def wE (x : RItem) (out : List RItem) (d : Bool) (i : Nat) : Env := [(1, .i (.str x.text)), (2, .ptr 2 0), (4, .ptr 4 0), (5, .ptr 5 0), (7, .ptr 7 0), (9, .ptr 9 0), (10, .tok 65 105 (out.map encRItem)), (11, .i (.bool d)), (12, .i (.int .i64 (i : Int)))]
set_option maxHeartbeats 1000000 in
set_option maxRecDepth 100000 in
theorem ref11_With_ok (l : List RItem) (t : List UInt8) (hl : l.length < 1000000) (ht : t.length < 1000000) : PureC Pg G Fn.ref11_Store_With [encSt l, .str t] (withV (withR l t)) := by
  have fin : ∀ r, withR l t = r → some (withV r) = some (withV (withR l t)) := fun r h => by rw [h]
  refine pureC_of T_ok Fd.ref11_Store_With rfl (by kernel_rfl) ?_
  refine ⟨_, _, _, pureCall (ref04_Decode_ok t ht) rfl, ?_⟩
  cases hd : decodeR t with
  | none => exact fin (l, Id.none, false) (by rw [withR, hd])
  | some o =>
    refine ⟨_, _, _, pureCall (ref02_Sum_ok t ht) rfl, ?_⟩
    refine ⟨_, _, _, pureCall (ref11_At_ok l (sha t) hl) rfl, ?_⟩
    cases ha : atR l (sha t) with
    | some i =>
      refine drawW T_ok (by decide +kernel) ?_
      refine ⟨by kernel_rfl, ?_⟩
      exact fin (l, sha t, true) (by rw [withR, hd]; simp [ha])
    | none =>
      have hr : withR l t = (insR l ⟨sha t, t, o⟩, sha t, true) := by rw [withR, hd]; simp [ha]
      rw [hr]
      obtain ⟨x, hx1, hx2, hx3, hx⟩ : ∃ x : RItem, x.id = sha t ∧ x.text = t ∧ x.o = o ∧ (⟨sha t, t, o⟩ : RItem) = x := ⟨_, rfl, rfl, rfl, rfl⟩
      rw [hx]
      rw [← hx1, ← hx2, ← hx3]
      refine LoopW.tok0 65 rfl rfl (env' := wE x [] false 0) (m' := wM l x)
        ⟨⟨_, rfl, .refl _⟩, ⟨_, rfl, .refl _⟩, ⟨_, rfl, .refl _⟩, ⟨_, rfl, .refl _⟩, ⟨_, rfl, .refl _⟩, ⟨_, rfl, .refl _⟩, ⟨_, rfl, .tok 105⟩, ⟨_, rfl, .refl _⟩, ⟨_, rfl, .refl _⟩, trivial⟩
        ⟨.inr ⟨by decide, _, rfl, .refl _⟩, .inr ⟨by decide, _, rfl, .refl _⟩, .inr ⟨by decide, _, rfl, .refl _⟩, .inr ⟨by decide, _, rfl, .refl _⟩, .inr ⟨by decide, _, rfl, .refl _⟩, .inl ⟨rfl, .tip⟩, trivial⟩ ?_
      refine loopX T_ok 0 (S := Nat) (S' := Unit) (fun i => wE x (outR l x i) (Nat.blt (wAt l x.id) i) i) (fun _ => wM l x) (fun i => l.length - i) (fun i => i ≤ l.length)
        (fun _ => wE x (outR l x l.length) (Nat.blt (wAt l x.id) l.length) l.length) (fun _ => wM l x) (fun _ => True) 0 ?_ ⟨rfl, rfl, rfl, rfl, rfl, rfl, trivial⟩ (by omega) ?_ ?_
      · refine ⟨rfl, rfl, rfl, rfl, rfl, rfl, ?_, ?_, rfl, trivial⟩
        · show some (PV.tok 65 105 []) = some (PV.tok 65 105 ((outR l x 0).map encRItem))
          simp [outR]
        · show some (PV.i (IV.bool false)) = some (PV.i (IV.bool (Nat.blt (wAt l x.id) 0)))
          rw [show Nat.blt (wAt l x.id) 0 = false by rw [← Bool.not_eq_true, Nat.blt_eq]; omega]
      · intro i hi
        refine condP.split (fun g => ?_) (fun g => ?_)
        · have g' : i < l.length := by have h : (i : Int) < ((l.map encRItem).length : Int) := of_decide_eq_true g; rw [lenR] at h; omega
          refine drawW T_ok (by decide +kernel) ?_
          refine ⟨encRItem l[i], ⟨by omega, by simp [g']⟩, ?_⟩
          refine ⟨_, _, ⟨rfl, ref02_Less_ok x.id l[i].id⟩, ?_⟩
          refine ⟨by kernel_rfl, ?_⟩
          rcases Nat.lt_trichotomy i (wAt l x.id) with hw | hw | hw
          · rw [wAt_lt g' hw]
            rw [show Nat.blt (wAt l x.id) i = false by rw [← Bool.not_eq_true, Nat.blt_eq]; omega]
            refine ⟨encRItem l[i], ⟨by omega, by simp [g']⟩, ?_⟩
            refine ⟨⟨⟨hasSize_rit _, fun x hx => by have := List.mem_singleton.1 hx; subst this; exact encRItem_len _⟩, szOK (by have := outR_len l x i; simp; omega) (by kernel_rfl)⟩, ?_⟩
            refine ⟨i + 1, ⟨by omega, by omega⟩, ⟨rfl, rfl, rfl, rfl, rfl, rfl, ?_, ?_, congrArg (fun n => some (PV.i (IV.int .i64 n))) (int_succ (by omega)), trivial⟩, ⟨rfl, rfl, rfl, rfl, rfl, rfl, trivial⟩⟩
            · rw [outR_lt g' hw, List.map_append]; rfl
            · rw [show Nat.blt (wAt l x.id) (i + 1) = false by rw [← Bool.not_eq_true, Nat.blt_eq]; omega]; rfl
          · rw [wAt_eq g' hw]
            rw [show Nat.blt (wAt l x.id) i = false by rw [← Bool.not_eq_true, Nat.blt_eq]; omega]
            refine ⟨⟨⟨hasSize_rit _, fun y hx => by have := List.mem_singleton.1 hx; subst this; exact encRItem_len _⟩, szOK (by have := outR_len l x i; simp; omega) (by kernel_rfl)⟩, ?_⟩
            refine ⟨encRItem l[i], ⟨by omega, by simp [g']⟩, ?_⟩
            refine ⟨⟨⟨hasSize_snoc (hasSize_rit _) rfl, fun y hx => by have := List.mem_singleton.1 hx; subst this; exact encRItem_len _⟩, szOK (by have := outR_len l x i; simp; omega) (by kernel_rfl)⟩, ?_⟩
            refine ⟨i + 1, ⟨by omega, by omega⟩, ⟨rfl, rfl, rfl, rfl, rfl, rfl, ?_, ?_, congrArg (fun n => some (PV.i (IV.int .i64 n))) (int_succ (by omega)), trivial⟩, ⟨rfl, rfl, rfl, rfl, rfl, rfl, trivial⟩⟩
            · rw [outR_eq g' hw, List.map_append, List.map_append]; rfl
            · rw [show Nat.blt (wAt l x.id) (i + 1) = true by rw [Nat.blt_eq]; omega]; rfl
          · rw [show Nat.blt (wAt l x.id) i = true by rw [Nat.blt_eq]; omega]
            refine ⟨encRItem l[i], ⟨by omega, by simp [g']⟩, ?_⟩
            refine ⟨⟨⟨hasSize_rit _, fun x hx => by have := List.mem_singleton.1 hx; subst this; exact encRItem_len _⟩, szOK (by have := outR_len l x i; simp; omega) (by kernel_rfl)⟩, ?_⟩
            refine ⟨i + 1, ⟨by omega, by omega⟩, ⟨rfl, rfl, rfl, rfl, rfl, rfl, ?_, ?_, congrArg (fun n => some (PV.i (IV.int .i64 n))) (int_succ (by omega)), trivial⟩, ⟨rfl, rfl, rfl, rfl, rfl, rfl, trivial⟩⟩
            · rw [outR_gt g' hw, List.map_append]; rfl
            · rw [show Nat.blt (wAt l x.id) (i + 1) = true by rw [Nat.blt_eq]; omega]; rfl
        · have g' : i = l.length := by have h : ¬ (i : Int) < ((l.map encRItem).length : Int) := of_decide_eq_false g; rw [lenR] at h; omega
          subst g'
          exact ⟨(), trivial, ⟨rfl, rfl, rfl, rfl, rfl, rfl, rfl, rfl, rfl, trivial⟩, ⟨rfl, rfl, rfl, rfl, rfl, rfl, trivial⟩⟩
      · intro _ _
        have hle := wAt_le l x.id
        by_cases hw : l.length = wAt l x.id
        · rw [show Nat.blt (wAt l x.id) l.length = false by rw [← Bool.not_eq_true, Nat.blt_eq]; omega, outR_end1 hw]
          have hol := outR_len l x l.length
          generalize outR l x l.length = out at *
          refine ⟨⟨⟨hasSize_rit _, fun y hx => by have := List.mem_singleton.1 hx; subst this; exact encRItem_len _⟩, szOK (by simp; omega) (by kernel_rfl)⟩, ?_⟩
          refine drawW T_ok (by decide +kernel) ?_
          refine ⟨by kernel_rfl, ?_⟩
          show _ = some (withV (out ++ [x], x.id, true))
          rw [show withV (out ++ [x], x.id, true) = IV.tup [.agg [.slice (out.map encRItem ++ [encRItem x])], encId x.id, .bool true] by simp [withV, encSt]]
          rfl
        · rw [show Nat.blt (wAt l x.id) l.length = true by rw [Nat.blt_eq]; omega, outR_end2 (by omega)]
          generalize outR l x l.length = out
          refine drawW T_ok (by decide +kernel) ?_
          refine ⟨by kernel_rfl, ?_⟩
          rfl
end Go.Kn
set_option maxRecDepth 100000
namespace Go.Kn
open Go Go.Proofs
variable {G : Gl}
def toItem (x : RItem) : Item := ⟨x.id, x.text⟩
theorem find_to (m : List RItem) (y : Id) : findI (m.map toItem) y = (getR11 m y).map toItem := by
  induction m with
  | nil => rfl
  | cons a l ih =>
    simp only [findI, getR11, List.map_cons, List.find?_cons] at *
    show (match decide (a.id = y) with | true => _ | false => _) = _
    cases decide (a.id = y) <;> simp [ih]
theorem get_self {m : List RItem} (hr : Rising (m.map toItem)) {i : Nat} (h : i < m.length) : getR11 m m[i].id = some m[i] := by
  rcases at_get (l := m) (y := m[i].id) with ⟨_, h2⟩ | ⟨j, x, h1, h2, h3, h4⟩
  · rw [getR11, List.find?_eq_none] at h2
    have := h2 m[i] (List.getElem_mem h)
    simp at this
  · rw [h3]
    have hx : x = m[j] := by rw [List.getElem?_eq_getElem h4] at h2; exact (Option.some.inj h2).symm
    have he : x.id = m[i].id := by
      rw [getR11] at h3
      have := List.find?_some h3
      exact of_decide_eq_true this
    have : j = i := by
      have hp := List.pairwise_iff_getElem.1 hr
      have hji : m[j].id = m[i].id := by rw [← hx]; exact he
      rcases Nat.lt_trichotomy i j with q | q | q
      · have := hp i j (by simpa using h) (by simpa using h4) q
        simp [toItem, hji] at this
      · exact q.symm
      · have := hp j i (by simpa using h4) (by simpa using h) q
        simp [toItem, hji] at this
    subst this; rw [hx]
end Go.Kn
set_option maxRecDepth 100000
namespace Go.Kn
open Go Go.Proofs
def SameDec : Prop := ∀ s : List UInt8, s.length < 1000000 → decodeP s = decodeR s
structure RItem.ok (x : RItem) : Prop where
  len : x.text.length ≤ 5000
  id : x.id = sha x.text
  dec : decodeR x.text = some x.o
structure Corr (m : List RItem) : Prop where
  rising : Rising (m.map toItem)
  ok : ∀ x ∈ m, x.ok
theorem Corr.nil : Corr [] := ⟨List.Pairwise.nil, fun _ h => by cases h⟩
theorem Small.ents {o : Obj} (h : Small o) : o.entries.length < 1000000 ∧ o.parents.length < 1000000 := by
  have h1 := h.1; have h2 := h.2
  refine ⟨?_, ?_⟩ <;> (cases h; omega)
theorem decodeR_small {s : List UInt8} {o : Obj} (hs : s.length < 1000000) (h : decodeR s = some o) : Small o := by
  unfold decodeR at h
  split at h
  · cases h
  · split at h
    · cases h; exact guessR_small hs
    · cases h
theorem decodeP_ne {s : List UInt8} {o : Obj} (h : decodeP s = some o) : s ≠ [] := by
  intro e; rw [decodeP, if_pos (.inl e)] at h; cases h
theorem bodyR_kind (k : Int) (r : Rd) : (bodyR k r).1.kind = k := by
  unfold bodyR
  split
  · rfl
  · split
    · rfl
    · split
      · rfl
      · rfl
theorem decodeP_kind {s : List UInt8} {o : Obj} (h : decodeP s = some o) : o.kind = ((s.getD 0 0).toNat : Int) := by
  unfold decodeP at h
  split at h
  · cases h
  · split at h
    · cases h
    · split at h
      · unfold decodeB at h
        split at h
        · cases h; exact bodyR_kind _ _
        · cases h
      · cases h
theorem idLt_iff (a b : Id) : idLt a b = true ↔ a.key < b.key := by simp [idLt]
theorem low_to {m : List RItem} {y : Id} (h : ∀ x ∈ m, x.id ≠ y) : lowI (m.map toItem) y = wAt m y := by
  unfold lowI wAt
  rw [List.takeWhile_map, List.length_map]
  congr 1
  induction m with
  | nil => rfl
  | cons a l ih =>
    have ih := ih fun x hx => h x (List.mem_cons_of_mem _ hx)
    have ha := h a List.mem_cons_self
    have : (decide ((toItem a).id.key < y.key)) = !idLt y a.id := by
      have hk : a.id.key ≠ y.key := fun e => ha (Id.key_inj e)
      show decide (a.id.key < y.key) = !decide (y.key < a.id.key)
      by_cases q : a.id.key < y.key
      · rw [decide_eq_true q, decide_eq_false (by omega)]; rfl
      · rw [decide_eq_false q, decide_eq_true (by omega)]; rfl
    simp only [List.takeWhile_cons, Function.comp, this]
    cases idLt y a.id
    · simp only [Bool.not_false, if_true, List.cons.injEq, true_and]; exact ih
    · rfl
theorem has_to (m : List RItem) (y : Id) : hasI (m.map toItem) y = (atR m y).isSome := by
  rcases at_get (l := m) (y := y) with ⟨h1, h2⟩ | ⟨i, x, h1, h2, h3, h4⟩
  · rw [h1]
    rw [getR11, List.find?_eq_none] at h2
    rw [hasI, Option.isSome_none, List.any_eq_false]
    intro a ha
    obtain ⟨b, hb, rfl⟩ := List.mem_map.1 ha
    exact h2 b hb
  · rw [h1, hasI, Option.isSome_some, List.any_eq_true]
    rw [getR11] at h3
    have := List.find?_some h3
    exact ⟨toItem x, List.mem_map.2 ⟨x, List.mem_of_find?_eq_some h3, rfl⟩, this⟩
theorem find_ok {m : List RItem} {y : Id} {x : RItem} (h : Corr m) (e : getR11 m y = some x) : x.ok := by
  rw [getR11] at e
  exact h.ok x (List.mem_of_find?_eq_some e)
theorem drop_while {α : Type} (p : α → Bool) : ∀ l : List α, l.drop (l.takeWhile p).length = l.dropWhile p
  | [] => rfl
  | a :: l => by
    cases h : p a
    · simp [List.takeWhile_cons, List.dropWhile_cons, h]
    · simp [List.takeWhile_cons, List.dropWhile_cons, h, drop_while p l]
theorem rising_ins {l : List Item} {x : Item} (h : Rising l) (hn : ∀ a ∈ l, a.id ≠ x.id) : Rising (insI l x) := by
  unfold Rising insI
  have h1 : ∀ a ∈ l.take (lowI l x.id), a.id.key < x.id.key := by
    intro a ha
    have : l.take (lowI l x.id) = l.takeWhile fun a => decide (a.id.key < x.id.key) := by
      have := List.takeWhile_prefix (l := l) fun a => decide (a.id.key < x.id.key)
      exact (List.prefix_iff_eq_take.1 this).symm
    rw [this] at ha
    exact of_decide_eq_true (List.all_eq_true.1 (List.all_takeWhile (l := l) (p := fun a => decide (a.id.key < x.id.key))) a ha)
  have h2 : ∀ a ∈ l.drop (lowI l x.id), x.id.key < a.id.key := by
    have hd : l.drop (lowI l x.id) = l.dropWhile fun a => decide (a.id.key < x.id.key) := by
      exact drop_while _ l
    have hp : (l.drop (lowI l x.id)).Pairwise fun a b => a.id.key < b.id.key := List.Pairwise.sublist (List.drop_sublist _ _) h
    have hne : ∀ a ∈ l.drop (lowI l x.id), a.id ≠ x.id := fun a ha => hn a (List.mem_of_mem_drop ha)
    generalize l.drop (lowI l x.id) = d at *
    cases d with
    | nil => intro a ha; cases ha
    | cons b r =>
      have hb : x.id.key < b.id.key := by
        have := List.head_dropWhile_not (fun a : Item => decide (a.id.key < x.id.key)) (l := l) (by rw [← hd]; simp)
        simp only [← hd, List.head_cons] at this
        have := of_decide_eq_false this
        have hk : b.id.key ≠ x.id.key := fun e => hne b List.mem_cons_self (Id.key_inj e)
        omega
      intro a ha
      rcases List.mem_cons.1 ha with rfl | ha
      · exact hb
      · have := (List.pairwise_cons.1 hp).1 a ha
        omega
  rw [List.pairwise_append]
  refine ⟨List.Pairwise.sublist (List.take_sublist _ _) h, List.pairwise_cons.2 ⟨h2, List.Pairwise.sublist (List.drop_sublist _ _) h⟩, fun a ha b hb => ?_⟩
  have ha := h1 a ha
  rcases List.mem_cons.1 hb with rfl | hb
  · exact ha
  · have := h2 b hb
    omega
theorem ins_to {m : List RItem} {x : RItem} (h : ∀ a ∈ m, a.id ≠ x.id) : insI (m.map toItem) (toItem x) = (insR m x).map toItem := by
  unfold insI insR
  rw [show (toItem x).id = x.id from rfl, low_to h]
  simp [List.map_take, List.map_drop]
theorem put_corr (H : SameDec) {m : List RItem} (h : Corr m) {t : List UInt8} (ht : t.length ≤ 5000) :
    Corr (withR m t).1 ∧ putL (m.map toItem) t = (withR m t).1.map toItem ∧ (withR m t).1.length ≤ m.length + 1 := by
  unfold putL withR
  rw [H t (by omega)]
  cases hd : decodeR t with
  | none => exact ⟨h, rfl, by simp⟩
  | some o =>
    simp only [has_to]
    cases ha : (atR m (sha t)).isSome with
    | true => exact ⟨h, rfl, by simp⟩
    | false =>
      have hn : ∀ a ∈ m, a.id ≠ sha t := by
        intro a hm e
        rcases at_get (l := m) (y := sha t) with ⟨_, h2⟩ | ⟨i, x, h1, _, _, _⟩
        · rw [getR11, List.find?_eq_none] at h2
          have := h2 a hm
          simp [e] at this
        · rw [h1] at ha; simp at ha
      have e := ins_to (x := ⟨sha t, t, o⟩) hn
      simp only [Bool.false_eq_true, if_false]
      refine ⟨⟨?_, ?_⟩, e, ?_⟩
      · rw [← e]
        refine rising_ins h.rising fun a ha => ?_
        obtain ⟨b, hb, rfl⟩ := List.mem_map.1 ha
        exact hn b hb
      · intro x hx
        have : x ∈ m ∨ x = ⟨sha t, t, o⟩ := by
          simp only [insR, List.mem_append, List.mem_cons] at hx
          rcases hx with hx | hx | hx
          · exact .inl (List.mem_of_mem_take hx)
          · exact .inr hx
          · exact .inl (List.mem_of_mem_drop hx)
        rcases this with hx | rfl
        · exact h.ok x hx
        · exact ⟨ht, rfl, hd⟩
      · have := wAt_le m (sha t)
        simp [insR]; omega
end Go.Kn
set_option maxRecDepth 100000
namespace Go.Kn
open Go Go.Proofs
theorem get_isSome (m : List RItem) (y : Id) : (getR11 m y).isSome = (atR m y).isSome := by
  rcases at_get (l := m) (y := y) with ⟨h1, h2⟩ | ⟨i, x, h1, h2, h3, h4⟩
  · rw [h1, h2]; rfl
  · rw [h1, h3]; rfl
theorem obj_to (H : SameDec) {m : List RItem} (h : Corr m) (y : Id) : objV (findI (m.map toItem) y) = .tup [encObj (objR m y), .bool (atR m y).isSome] := by
  rw [find_to, ← get_isSome, objR]
  cases e : getR11 m y with
  | none => rfl
  | some x =>
    have hx := find_ok h e
    have : decodeP (toItem x).text = some x.o := by rw [H _ (by have := hx.len; show x.text.length < _; omega)]; exact hx.dec
    simp only [Option.map_some, objV, this, Option.isSome_some]
theorem kind_to (H : SameDec) {m : List RItem} (h : Corr m) (y : Id) : (kindV (findI (m.map toItem) y) : Int) = kindR m y := by
  rw [find_to, kindR]
  cases e : getR11 m y with
  | none => rfl
  | some x =>
    have hx := find_ok h e
    have : decodeP x.text = some x.o := by rw [H _ (by have := hx.len; omega)]; exact hx.dec
    exact (decodeP_kind this).symm
theorem get_to (m : List RItem) (y : Id) : ∃ s, getV (findI (m.map toItem) y) = .tup [.str s, .bool (atR m y).isSome] := by
  rw [find_to, ← get_isSome]
  cases e : getR11 m y with
  | none => exact ⟨[], rfl⟩
  | some x => exact ⟨x.text, rfl⟩
theorem objR_small {m : List RItem} (h : Corr m) (y : Id) : (objR m y).entries.length < 1000000 ∧ (objR m y).parents.length < 1000000 := by
  rw [objR]
  cases e : getR11 m y with
  | none => exact ⟨by decide, by decide⟩
  | some x =>
    have hx := find_ok h e
    exact (decodeR_small (by have := hx.len; omega) hx.dec).ents
theorem text_ne (H : SameDec) {m : List RItem} (h : Corr m) : ∀ x ∈ m.map toItem, x.text ≠ [] := by
  intro x hx
  obtain ⟨a, ha, rfl⟩ := List.mem_map.1 hx
  have hx := h.ok a ha
  exact decodeP_ne (s := a.text) (o := a.o) (by rw [H _ (by have := hx.len; omega)]; exact hx.dec)
theorem text_lt {m : List RItem} (h : Corr m) : ∀ x ∈ m.map toItem, x.text.length < 1000000 := by
  intro x hx
  obtain ⟨a, ha, rfl⟩ := List.mem_map.1 hx
  have := (h.ok a ha).len
  show a.text.length < _
  omega
theorem put_with (H : SameDec) (m : List RItem) {t : List UInt8} (ht : t.length ≤ 5000) :
    ((withR m t).2.2 = false ∧ putV t = .tup [encId (withR m t).2.1, .int .i64 2]) ∨
    ((withR m t).2.2 = true ∧ putV t = .tup [encId (withR m t).2.1, .int .i64 0]) := by
  unfold putV withR
  rw [H t (by omega)]
  cases hd : decodeR t with
  | none => exact .inl ⟨rfl, rfl⟩
  | some o =>
    right
    cases ha : (atR m (sha t)).isSome <;> exact ⟨rfl, rfl⟩
theorem with_has {m : List RItem} {t : List UInt8} (h : (withR m t).2.2 = true) : (atR (withR m t).1 (withR m t).2.1).isSome = true := by
  unfold withR at h ⊢
  cases hd : decodeR t with
  | none => rw [hd] at h; cases h
  | some o =>
    simp only
    cases ha : (atR m (sha t)).isSome with
    | true => simpa using ha
    | false =>
      simp only [Bool.false_eq_true, if_false]
      rw [← get_isSome, getR11, Option.isSome_iff_ne_none, Ne, List.find?_eq_none]
      intro q
      have := q ⟨sha t, t, o⟩ (by simp [insR])
      simp at this
end Go.Kn
set_option maxRecDepth 100000
namespace Go.Kn
open Go Go.Proofs
variable {G : Gl}
theorem graph_has_ok (l : List Id) (y : Id) (hr : RiseK l) (hl : l.length < 1000000) : PureC Pg G Fn.graph_set_has [.slice (l.map encId), encId y] (.bool (hasK l y)) := by
  refine pureC_of T_ok Fd.graph_set_has rfl (by kernel_rfl) ?_
  refine ⟨_, _, _, pureCall (.inl (binarySearchK_ok (G := G) l y hr hl)) rfl, ?_⟩
  rfl
def cutO (c : Bool) (o : Obj) : Obj := if o.kind = 3 ∧ c = true then { o with parents := [] } else o
def linksC (cut : List Id) (y : Id) (o : Obj) : List Lnk := linksO (cutO (hasK cut y) o)
theorem cutO_small {c : Bool} {o : Obj} {n : Nat} (he : o.entries.length < n) (hp : o.parents.length < n) : (cutO c o).entries.length < n ∧ (cutO c o).parents.length < n := by
  unfold cutO; split
  · exact ⟨he, by simp; omega⟩
  · exact ⟨he, hp⟩
theorem graph_links_ok (y : Id) (o : Obj) (cut : List Id) (hr : RiseK cut) (hl : cut.length < 1000000) (he : o.entries.length < 1000000) (hp : o.parents.length < 1000000) :
    PureC Pg G Fn.graph_links [encId y, encObj o, .slice (cut.map encId)] (.slice ((linksC cut y o).map encLnk)) := by
  obtain ⟨h1, h2⟩ := cutO_small (c := hasK cut y) he hp
  have hL := object_Links_ok (G := G) (cutO (hasK cut y) o) h1 h2
  refine pureC_of T_ok Fd.graph_links rfl (by kernel_rfl) ?_
  refine condP.split (fun g => ?_) (fun g => ?_)
  · have g' := kind_eq g
    refine ⟨_, _, _, pureCall (graph_has_ok cut y hr hl) rfl, ?_⟩
    cases hh : hasK cut y with
    | true =>
      rw [hh, cutO, if_pos ⟨g', rfl⟩] at hL
      refine ⟨_, _, _, pureCall hL rfl, ?_⟩
      rw [linksC, hh, cutO, if_pos ⟨g', rfl⟩]; rfl
    | false =>
      rw [hh, cutO, if_neg (by simp)] at hL
      refine ⟨_, _, _, pureCall hL rfl, ?_⟩
      rw [linksC, hh, cutO, if_neg (by simp)]; rfl
  · have g' := kind_ne g
    rw [cutO, if_neg (fun h => g' h.1)] at hL
    refine ⟨_, _, _, pureCall hL rfl, ?_⟩
    rw [linksC, cutO, if_neg (fun h => g' h.1)]; rfl
def gofE (l : List Id) (i : Nat) : Env := [(3, .ptr 3 0), (6, .i (.slice (l.map encId))), (7, .i (.int .i64 (l.length : Int))), (8, .i (.int .i64 (i : Int)))]
def gofM (s : List Id) : Mem := [(3, .var [.vec 901 32 0 s.length]), (901, .vec 32 (idsP s) none)]
theorem graph_of_ok (l : List Id) (hl : l.length < 100000) : Body Pg Fn.graph_of ∧ AC Pg G Fn.graph_of ([.slice (l.map encId)].map .i) [] (.i (.slice ((sortK l).map encId))) [] := by
  refine acW_of T_ok Fd.graph_of rfl (by kernel_rfl) ?_
  refine CW.next T_ok ?_
  refine CW.next T_ok ?_
  refine CW.tok0 901 rfl rfl (env' := [(0, .i (.slice (l.map encId))), (3, .ptr 3 0)]) (m' := [(3, .var [.vec 901 32 0 0]), (901, .vec 32 [] none)]) ⟨⟨_, rfl, .refl _⟩, ⟨_, rfl, .refl _⟩, trivial⟩
    ⟨.inr ⟨by decide, _, rfl, .var _ _ ⟨.vec 32, rfl⟩⟩, .inl ⟨rfl, .vec' rfl⟩, trivial⟩ ?_
  refine CW.go T_ok ?_
  refine loopX T_ok 0 (S := Nat) (S' := Unit) (fun i => gofE l i) (fun i => gofM (sortK (l.take i))) (fun i => l.length - i) (fun i => i ≤ l.length) (fun _ => [(3, .ptr 3 0)]) (fun _ => gofM (sortK l)) (fun _ => True) 0
    ⟨rfl, rfl, lenM _ _, rfl, trivial⟩ ⟨rfl, rfl, trivial⟩ (by omega) ?_ ?_
  · intro i hi
    refine condP.split (fun g => ?_) (fun g => ?_)
    · have g' : i < l.length := by have h : (i : Int) < (l.length : Int) := of_decide_eq_true g; omega
      have hso := sortK_succ g'
      have hrise := rise_sortK (l.take i)
      have hlen : (sortK (l.take i)).length ≤ i := by have := sortK_len (l.take i); simp at this; omega
      generalize sortK (l.take i) = o at *
      have hadd := add_ok (G := G) o l[i] hrise (by omega)
      refine ⟨encId l[i], idx_get encId g', ?_⟩
      refine ⟨_, _, _, lendCall (ρ := [(1000, 3), (1001, 901)]) hadd.1 hadd.2 ⟨rfl, rfl, rfl⟩ (MemL.as ⟨⟨_, rfl, MLe.refl _⟩, ⟨_, rfl, MLe.vecEq rfl⟩, trivial⟩ rfl) rfl, ?_⟩
      refine ⟨i + 1, ⟨by omega, by omega⟩, ⟨rfl, rfl, rfl, i_succ (by omega), trivial⟩, ?_⟩
      rw [hso]
      exact ⟨rfl, rfl, trivial⟩
    · have g' : i = l.length := by have h : ¬ (i : Int) < (l.length : Int) := of_decide_eq_false g; omega
      subst g'
      rw [List.take_length]
      exact ⟨(), trivial, ⟨rfl, trivial⟩, ⟨rfl, rfl, trivial⟩⟩
  · intro _ _
    exact retRow (k := 901) (l := (sortK l).map encId) rfl (by simp)
end Go.Kn
set_option maxRecDepth 100000
namespace Go.Kn
open Go Go.Proofs
def hasM (m : List RItem) (y : Id) : Bool := (atR m y).isSome
def nextR (m : List RItem) (cut : List Id) (y : Id) : List Id := (linksO (cutO (inB cut y) (objR m y))).map Lnk.id
inductive Rch (m : List RItem) (cut frm : List Id) : Id → Prop where
  | base (x : Id) (h : x ∈ frm) : Rch m cut frm x
  | step (x y : Id) (hx : Rch m cut frm x) (h : y ∈ nextR m cut x) : Rch m cut frm y
theorem hasK_sort (cut : List Id) (y : Id) : hasK (sortK cut) y = inB cut y := by
  rw [Bool.eq_iff_iff, inB_iff, ← mem_sortK]
  exact inB_iff (l := sortK cut)
theorem linksC_sort (cut : List Id) (y : Id) (o : Obj) : linksC (sortK cut) y o = linksO (cutO (inB cut y) o) := by rw [linksC, hasK_sort]
theorem get_mem {m : List RItem} {y : Id} {x : RItem} (h : getR11 m y = some x) : x ∈ m ∧ x.id = y := by
  rw [getR11] at h
  have h2 := List.find?_some h
  exact ⟨List.mem_of_find?_eq_some h, of_decide_eq_true h2⟩
theorem has_get {m : List RItem} {y : Id} : hasM m y = (getR11 m y).isSome := (get_isSome m y).symm
theorem links_cut {c : Bool} {o : Obj} {x : Lnk} (h : x ∈ linksO (cutO c o)) : x ∈ linksO o := by
  unfold cutO at h
  split at h
  · rename_i hc
    have hk : o.kind = 3 := hc.1
    rw [linksO, if_neg (by simp; omega), if_pos (by simpa using hk)] at h
    rw [linksO, if_neg (by omega), if_pos hk]
    simp at h
    subst h; simp
  · exact h
theorem links_len {o : Obj} {n : Nat} (he : o.entries.length ≤ n) (hp : o.parents.length ≤ n) : (linksO o).length ≤ n + 1 := by
  unfold linksO
  split
  · simp; omega
  · split
    · simp; omega
    · split
      · simp
      · simp
theorem objR_none {m : List RItem} {y : Id} (h : hasM m y = false) : objR m y = Obj.ofKind 0 := by
  rw [has_get] at h
  rw [objR]
  cases e : getR11 m y with
  | none => rfl
  | some x => rw [e] at h; cases h
theorem nextR_none {m : List RItem} {cut : List Id} {y : Id} (h : hasM m y = false) : nextR m cut y = [] := by
  rw [nextR, objR_none h]
  have : cutO (inB cut y) (Obj.ofKind 0) = Obj.ofKind 0 := by rw [cutO, if_neg (fun e => by cases e.1)]
  rw [this]; rfl
def uniR (m : List RItem) (frm : List Id) : List Id := frm ++ m.flatMap fun x => (linksO x.o).map Lnk.id
theorem nextR_uni {m : List RItem} {cut : List Id} {x y : Id} (h : y ∈ nextR m cut x) (frm : List Id) : y ∈ uniR m frm := by
  cases hh : hasM m x with
  | false => rw [nextR_none hh] at h; cases h
  | true =>
    rw [has_get] at hh
    obtain ⟨r, hr⟩ := Option.isSome_iff_exists.1 hh
    obtain ⟨h1, h2⟩ := get_mem hr
    obtain ⟨k, hk, rfl⟩ := List.mem_map.1 h
    have := links_cut hk
    rw [objR, hr] at this
    exact List.mem_append_right _ (List.mem_flatMap.2 ⟨r, h1, List.mem_map.2 ⟨k, this, rfl⟩⟩)
theorem Rch.uni {m : List RItem} {cut frm : List Id} {x : Id} (h : Rch m cut frm x) : x ∈ uniR m frm := by
  cases h with
  | base _ h => exact List.mem_append_left _ h
  | step y _ _ h => exact nextR_uni h frm
open Classical in
noncomputable def reachR (m : List RItem) (cut frm : List Id) (b : Bool) : List Id := sortK ((uniR m frm).filter fun x => decide (Rch m cut frm x ∧ hasM m x = b))
theorem reachR_rise (m : List RItem) (cut frm : List Id) (b : Bool) : RiseK (reachR m cut frm b) := rise_sortK _
open Classical in
theorem mem_reachR {m : List RItem} {cut frm : List Id} {b : Bool} {x : Id} : x ∈ reachR m cut frm b ↔ Rch m cut frm x ∧ hasM m x = b := by
  rw [reachR, mem_sortK, List.mem_filter]
  constructor
  · rintro ⟨_, h⟩; exact of_decide_eq_true h
  · intro h; exact ⟨h.1.uni, decide_eq_true h⟩
theorem nodup_len_le {α : Type} [DecidableEq α] : ∀ {a b : List α}, a.Nodup → (∀ x ∈ a, x ∈ b) → a.length ≤ b.length
  | [], _, _, _ => Nat.zero_le _
  | x :: a, b, hn, h => by
    have hx := h x List.mem_cons_self
    have hn' := List.nodup_cons.1 hn
    have ih := nodup_len_le (a := a) (b := b.erase x) hn'.2 fun y hy => (List.mem_erase_of_ne (fun e : y = x => hn'.1 (by rw [← e]; exact hy))).2 (h y (List.mem_cons_of_mem _ hy))
    rw [List.length_erase_of_mem hx] at ih
    have : 0 < b.length := List.length_pos_of_mem hx
    simp only [List.length_cons]; omega
theorem RiseK.nodup {l : List Id} (h : RiseK l) : l.Nodup := by
  refine List.Pairwise.imp (fun {a b} hab e => ?_) h
  subst e; omega
theorem has_mem {m : List RItem} {y : Id} (h : hasM m y = true) : y ∈ m.map RItem.id := by
  rw [has_get] at h
  obtain ⟨r, hr⟩ := Option.isSome_iff_exists.1 h
  obtain ⟨h1, h2⟩ := get_mem hr
  exact List.mem_map.2 ⟨r, h1, h2⟩
structure RSt where
  inn : List Id
  out : List Id
  row : List Id
  n : Nat
def RSt.todo (s : RSt) : List Id := s.row.take s.n
structure RInv (m : List RItem) (cut frm : List Id) (s : RSt) : Prop where
  ri : RiseK s.inn
  ro : RiseK s.out
  hn : s.n ≤ s.row.length
  hin : ∀ x ∈ s.inn, Rch m cut frm x ∧ hasM m x = true
  hout : ∀ x ∈ s.out, Rch m cut frm x ∧ hasM m x = false
  htodo : ∀ x ∈ s.todo, Rch m cut frm x
  hfrom : ∀ x ∈ frm, x ∈ s.inn ∨ x ∈ s.out ∨ x ∈ s.todo
  hcl : ∀ x ∈ s.inn, ∀ y ∈ nextR m cut x, y ∈ s.inn ∨ y ∈ s.out ∨ y ∈ s.todo
  cnt : s.n + s.out.length ≤ frm.length + s.inn.length * 1001
theorem RInv.done {m : List RItem} {cut frm : List Id} {s : RSt} (h : RInv m cut frm s) (h0 : s.n = 0) : s.inn = reachR m cut frm true ∧ s.out = reachR m cut frm false := by
  have ht : s.todo = [] := by rw [RSt.todo, h0, List.take_zero]
  have hall : ∀ x, Rch m cut frm x → x ∈ s.inn ∨ x ∈ s.out := by
    intro x hx
    induction hx with
    | base x hx =>
      rcases h.hfrom x hx with q | q | q
      · exact .inl q
      · exact .inr q
      · rw [ht] at q; cases q
    | step x y _ hy ih =>
      rcases ih with q | q
      · rcases h.hcl x q y hy with q | q | q
        · exact .inl q
        · exact .inr q
        · rw [ht] at q; cases q
      · rw [nextR_none (h.hout x q).2] at hy; cases hy
  refine ⟨rise_ext h.ri (reachR_rise ..) fun x => ?_, rise_ext h.ro (reachR_rise ..) fun x => ?_⟩
  · rw [mem_reachR]
    refine ⟨h.hin x, fun q => ?_⟩
    rcases hall x q.1 with e | e
    · exact e
    · have := (h.hout x e).2; rw [q.2] at this; cases this
  · rw [mem_reachR]
    refine ⟨h.hout x, fun q => ?_⟩
    rcases hall x q.1 with e | e
    · have := (h.hin x e).2; rw [q.2] at this; cases this
    · exact e
theorem RInv.inn_len {m : List RItem} {cut frm : List Id} {s : RSt} (h : RInv m cut frm s) : s.inn.length ≤ m.length := by
  have := nodup_len_le (b := m.map RItem.id) h.ri.nodup fun x hx => has_mem (h.hin x hx).2
  simpa using this
theorem todo_split {s : RSt} (hn : s.n ≤ s.row.length) (h : 0 < s.n) : s.todo = s.row.take (s.n - 1) ++ [s.row[s.n - 1]] := by
  have : s.row.take ((s.n - 1) + 1) = s.row.take (s.n - 1) ++ [s.row[s.n - 1]] := List.take_succ_eq_append_getElem (by omega)
  rw [← this, RSt.todo, show (s.n - 1) + 1 = s.n by omega]
theorem RInv.top {m : List RItem} {cut frm : List Id} {s : RSt} (h : RInv m cut frm s) (hp : 0 < s.n) : Rch m cut frm (s.row[s.n - 1]'(by have := h.hn; omega)) :=
  h.htodo _ (by rw [todo_split h.hn hp]; exact List.mem_append_right _ (List.mem_singleton.2 rfl))
theorem RInv.miss {m : List RItem} {cut frm : List Id} {s : RSt} (h : RInv m cut frm s) (hp : 0 < s.n) (hh : hasM m (s.row[s.n - 1]'(by have := h.hn; omega)) = false) :
    RInv m cut frm ⟨s.inn, addK s.out (s.row[s.n - 1]'(by have := h.hn; omega)), s.row, s.n - 1⟩ := by
  have hs := todo_split h.hn hp
  have hsplit : ∀ x, x ∈ s.todo → x = s.row[s.n - 1]'(by have := h.hn; omega) ∨ x ∈ s.row.take (s.n - 1) := fun x hx => by
    rw [hs] at hx
    rcases List.mem_append.1 hx with q | q
    · exact .inr q
    · exact .inl (List.mem_singleton.1 q)
  refine ⟨h.ri, rise_addK h.ro _, by have := h.hn; simp only; omega, h.hin, fun x hx => ?_, fun x hx => h.htodo x (by rw [hs]; exact List.mem_append_left _ hx), fun x hx => ?_, fun x hx y hy => ?_, ?_⟩
  · rcases mem_addK.1 hx with q | q
    · exact h.hout x q
    · subst q; exact ⟨h.top hp, hh⟩
  · rcases h.hfrom x hx with q | q | q
    · exact .inl q
    · exact .inr (.inl (mem_addK.2 (.inl q)))
    · rcases hsplit x q with q | q
      · exact .inr (.inl (mem_addK.2 (.inr q)))
      · exact .inr (.inr q)
  · rcases h.hcl x hx y hy with q | q | q
    · exact .inl q
    · exact .inr (.inl (mem_addK.2 (.inl q)))
    · rcases hsplit y q with q | q
      · exact .inr (.inl (mem_addK.2 (.inr q)))
      · exact .inr (.inr q)
  · have := h.cnt; have := addK_len s.out (s.row[s.n - 1]'(by have := h.hn; omega)); simp only; omega
theorem RInv.met {m : List RItem} {cut frm : List Id} {s : RSt} (h : RInv m cut frm s) (hp : 0 < s.n) (hh : (s.row[s.n - 1]'(by have := h.hn; omega)) ∈ s.inn) : RInv m cut frm ⟨s.inn, s.out, s.row, s.n - 1⟩ := by
  have hs := todo_split h.hn hp
  have hsplit : ∀ x, x ∈ s.todo → x ∈ s.inn ∨ x ∈ s.row.take (s.n - 1) := fun x hx => by
    rw [hs] at hx
    rcases List.mem_append.1 hx with q | q
    · exact .inr q
    · exact .inl (by rw [List.mem_singleton.1 q]; exact hh)
  refine ⟨h.ri, h.ro, by have := h.hn; simp only; omega, h.hin, h.hout, fun x hx => h.htodo x (by rw [hs]; exact List.mem_append_left _ hx), fun x hx => ?_, fun x hx y hy => ?_, by have := h.cnt; simp only; omega⟩
  · rcases h.hfrom x hx with q | q | q
    · exact .inl q
    · exact .inr (.inl q)
    · rcases hsplit x q with q | q
      · exact .inl q
      · exact .inr (.inr q)
  · rcases h.hcl x hx y hy with q | q | q
    · exact .inl q
    · exact .inr (.inl q)
    · rcases hsplit y q with q | q
      · exact .inl q
      · exact .inr (.inr q)
theorem RInv.go {m : List RItem} {cut frm : List Id} {s : RSt} (h : RInv m cut frm s) (hp : 0 < s.n) (hh : hasM m (s.row[s.n - 1]'(by have := h.hn; omega)) = true)
    (hno : (s.row[s.n - 1]'(by have := h.hn; omega)) ∉ s.inn) (hl : (nextR m cut (s.row[s.n - 1]'(by have := h.hn; omega))).length ≤ 1001) {r : List Id} {n' : Nat}
    (hr : r.take n' = s.row.take (s.n - 1) ++ nextR m cut (s.row[s.n - 1]'(by have := h.hn; omega))) (hn' : n' = (s.n - 1) + (nextR m cut (s.row[s.n - 1]'(by have := h.hn; omega))).length) (hrl : n' ≤ r.length) :
    RInv m cut frm ⟨addK s.inn (s.row[s.n - 1]'(by have := h.hn; omega)), s.out, r, n'⟩ := by
  have hs := todo_split h.hn hp
  have hn := h.hn
  have htop := h.top hp
  generalize s.row[s.n - 1]'(by have := h.hn; omega) = t at *
  have htd : (RSt.mk (addK s.inn t) s.out r n').todo = s.row.take (s.n - 1) ++ nextR m cut t := hr
  have hsplit : ∀ x, x ∈ s.todo → x = t ∨ x ∈ s.row.take (s.n - 1) := fun x hx => by
    rw [hs] at hx
    rcases List.mem_append.1 hx with q | q
    · exact .inr q
    · exact .inl (List.mem_singleton.1 q)
  refine ⟨rise_addK h.ri _, h.ro, hrl, fun x hx => ?_, h.hout, fun x hx => ?_, fun x hx => ?_, fun x hx y hy => ?_, ?_⟩
  · rcases mem_addK.1 hx with q | q
    · exact h.hin x q
    · subst q; exact ⟨htop, hh⟩
  · rw [htd] at hx
    rcases List.mem_append.1 hx with q | q
    · exact h.htodo x (by rw [hs]; exact List.mem_append_left _ q)
    · exact .step t x htop q
  · rw [htd]
    rcases h.hfrom x hx with q | q | q
    · exact .inl (mem_addK.2 (.inl q))
    · exact .inr (.inl q)
    · rcases hsplit x q with q | q
      · exact .inl (mem_addK.2 (.inr q))
      · exact .inr (.inr (List.mem_append_left _ q))
  · rw [htd]
    rcases mem_addK.1 hx with q | q
    · rcases h.hcl x q y hy with q | q | q
      · exact .inl (mem_addK.2 (.inl q))
      · exact .inr (.inl q)
      · rcases hsplit y q with q | q
        · exact .inl (mem_addK.2 (.inr q))
        · exact .inr (.inr (List.mem_append_left _ q))
    · subst q
      exact .inr (.inr (List.mem_append_right _ hy))
  · have hc := h.cnt
    have hadd : (addK s.inn t).length = s.inn.length + 1 := by
      have : hasK s.inn t = false := by
        cases e : hasK s.inn t with
        | false => rfl
        | true => exact absurd (inB_iff.1 e) hno
      rw [addK, this]
      simp only [Bool.false_eq_true, if_false]
      exact insK_len s.inn t
    simp only
    rw [hadd, Nat.add_mul, Nat.one_mul]
    omega
end Go.Kn
set_option maxRecDepth 100000
namespace Go.Kn
open Go Go.Proofs
section
variable {α : Type} [Inhabited α] {lt : α → α → Bool}
def gt0 (L : List α) (k : Nat) : α := L.getD k default
theorem gt0_eq {L : List α} {k : Nat} (h : k < L.length) : gt0 L k = L[k] := by simp [gt0, h]
def swapL (L : List α) (i j : Nat) : List α := (L.set i (gt0 L j)).set j (gt0 L i)
theorem swapL_len (L : List α) (i j : Nat) : (swapL L i j).length = L.length := by simp [swapL]
theorem swapL_get {L : List α} {i j : Nat} (hi : i < L.length) (hj : j < L.length) (k : Nat) : gt0 (swapL L i j) k = if k = j then gt0 L i else if k = i then gt0 L j else gt0 L k := by
  simp only [gt0, swapL, List.getD_eq_getElem?_getD, List.getElem?_set, List.length_set]
  by_cases h1 : k = j
  · subst h1; simp [hj]
  · rw [if_neg (Ne.symm h1), if_neg h1]
    by_cases h2 : k = i
    · subst h2; simp [hi]
    · rw [if_neg (Ne.symm h2), if_neg h2]
theorem mem_gt0 {L : List α} {x : α} : x ∈ L ↔ ∃ k, k < L.length ∧ gt0 L k = x := by
  constructor
  · intro h
    obtain ⟨k, hk, rfl⟩ := List.getElem_of_mem h
    exact ⟨k, hk, gt0_eq hk⟩
  · rintro ⟨k, hk, rfl⟩
    rw [gt0_eq hk]; exact List.getElem_mem _
theorem nodup_gt0 {L : List α} : L.Nodup ↔ ∀ i j, i < L.length → j < L.length → gt0 L i = gt0 L j → i = j := by
  rw [List.Nodup, List.pairwise_iff_getElem]
  constructor
  · intro h i j hi hj e
    rw [gt0_eq hi, gt0_eq hj] at e
    rcases Nat.lt_trichotomy i j with q | q | q
    · exact absurd e (h i j hi hj q)
    · exact q
    · exact absurd e.symm (h j i hj hi q)
  · intro h i j hi hj hij e
    have := h i j hi hj (by rw [gt0_eq hi, gt0_eq hj]; exact e)
    omega
theorem swapL_mem {L : List α} {i j : Nat} (hi : i < L.length) (hj : j < L.length) {x : α} : x ∈ swapL L i j ↔ x ∈ L := by
  rw [mem_gt0, mem_gt0, swapL_len]
  constructor
  · rintro ⟨k, hk, rfl⟩
    rw [swapL_get hi hj]
    split
    · exact ⟨i, hi, rfl⟩
    · split
      · exact ⟨j, hj, rfl⟩
      · exact ⟨k, hk, rfl⟩
  · rintro ⟨k, hk, rfl⟩
    by_cases h1 : k = i
    · subst h1; exact ⟨j, hj, by rw [swapL_get hi hj, if_pos rfl]⟩
    · by_cases h2 : k = j
      · subst h2; exact ⟨i, hi, by rw [swapL_get hi hj]; split <;> simp_all⟩
      · exact ⟨k, hk, by rw [swapL_get hi hj, if_neg h2, if_neg h1]⟩
theorem swapL_nodup {L : List α} {i j : Nat} (hi : i < L.length) (hj : j < L.length) (h : L.Nodup) : (swapL L i j).Nodup := by
  rw [nodup_gt0] at h ⊢
  rw [swapL_len]
  intro a b ha hb e
  rw [swapL_get hi hj, swapL_get hi hj] at e
  by_cases a1 : a = j
  · by_cases b1 : b = j
    · omega
    · rw [if_pos a1, if_neg b1] at e
      by_cases b2 : b = i
      · rw [if_pos b2] at e
        have := h _ _ hi hj e; omega
      · rw [if_neg b2] at e
        have := h _ _ hi hb e; omega
  · rw [if_neg a1] at e
    by_cases a2 : a = i
    · rw [if_pos a2] at e
      by_cases b1 : b = j
      · rw [if_pos b1] at e
        have := h _ _ hj hi e; omega
      · rw [if_neg b1] at e
        by_cases b2 : b = i
        · omega
        · rw [if_neg b2] at e
          have := h _ _ hj hb e; omega
    · rw [if_neg a2] at e
      by_cases b1 : b = j
      · rw [if_pos b1] at e
        have := h _ _ ha hi e; omega
      · rw [if_neg b1] at e
        by_cases b2 : b = i
        · rw [if_pos b2] at e
          have := h _ _ ha hj e; omega
        · rw [if_neg b2] at e
          exact h _ _ ha hb e
structure LtOK (lt : α → α → Bool) : Prop where
  irr : ∀ a, lt a a = false
  asym : ∀ a b, lt a b = true → lt b a = false
  trans : ∀ a b c, lt b a = false → lt c b = false → lt c a = false
def upL (lt : α → α → Bool) : Nat → List α → Nat → List α
  | 0, L, _ => L
  | f + 1, L, j => if (j - 1) / 2 = j ∨ lt (gt0 L j) (gt0 L ((j - 1) / 2)) = false then L else upL lt f (swapL L ((j - 1) / 2) j) ((j - 1) / 2)
theorem upL_stop {f : Nat} {L : List α} {j : Nat} (h : (j - 1) / 2 = j ∨ lt (gt0 L j) (gt0 L ((j - 1) / 2)) = false) : upL lt f L j = L := by
  cases f with
  | zero => rfl
  | succ f => rw [upL, if_pos h]
theorem upL_go {f : Nat} {L : List α} {j : Nat} (h : ¬ ((j - 1) / 2 = j ∨ lt (gt0 L j) (gt0 L ((j - 1) / 2)) = false)) : upL lt (f + 1) L j = upL lt f (swapL L ((j - 1) / 2) j) ((j - 1) / 2) := by
  rw [upL, if_neg h]
structure UpI (lt : α → α → Bool) (L : List α) (j : Nat) : Prop where
  a : ∀ k, 0 < k → k < L.length → k ≠ j → lt (gt0 L k) (gt0 L ((k - 1) / 2)) = false
  b : ∀ k, 0 < k → k < L.length → (k - 1) / 2 = j → 0 < j → lt (gt0 L k) (gt0 L ((j - 1) / 2)) = false
def HeapI (lt : α → α → Bool) (L : List α) (n : Nat) : Prop := ∀ k, 0 < k → k < n → lt (gt0 L k) (gt0 L ((k - 1) / 2)) = false
theorem UpI.stop {L : List α} {j : Nat} (h : UpI lt L j) (hs : (j - 1) / 2 = j ∨ lt (gt0 L j) (gt0 L ((j - 1) / 2)) = false) : HeapI lt L L.length := by
  intro k h0 hk
  by_cases e : k = j
  · subst e
    rcases hs with hs | hs
    · omega
    · exact hs
  · exact h.a k h0 hk e
theorem UpI.step (ho : LtOK lt) {L : List α} {j : Nat} (h : UpI lt L j) (hj : j < L.length) (hs : ¬ ((j - 1) / 2 = j ∨ lt (gt0 L j) (gt0 L ((j - 1) / 2)) = false)) : UpI lt (swapL L ((j - 1) / 2) j) ((j - 1) / 2) := by
  have h1 : (j - 1) / 2 ≠ j := fun e => hs (.inl e)
  have h2 : lt (gt0 L j) (gt0 L ((j - 1) / 2)) = true := by
    cases e : lt (gt0 L j) (gt0 L ((j - 1) / 2)) with
    | true => rfl
    | false => exact absurd (.inr e) hs
  have hj0 : 0 < j := by omega
  have hlt : (j - 1) / 2 < L.length := by omega
  have g := fun k => swapL_get (L := L) hlt hj k
  refine ⟨fun k h0 hk hne => ?_, fun k h0 hk hp hp0 => ?_⟩
  · rw [swapL_len] at hk
    rw [g, g]
    by_cases e1 : k = j
    · subst e1
      rw [if_pos rfl, if_neg h1, if_pos rfl]
      exact ho.asym _ _ h2
    · rw [if_neg e1, if_neg hne]
      by_cases e2 : (k - 1) / 2 = j
      · rw [if_pos e2]
        exact h.b k h0 hk e2 hj0
      · rw [if_neg e2]
        by_cases e3 : (k - 1) / 2 = (j - 1) / 2
        · rw [if_pos e3]
          have h5 := h.a k h0 hk e1
          rw [e3] at h5
          exact ho.trans _ _ _ (ho.asym _ _ h2) h5
        · rw [if_neg e3]
          exact h.a k h0 hk e1
  · rw [swapL_len] at hk
    rw [g, g]
    have e1 : ((j - 1) / 2 - 1) / 2 ≠ j := by omega
    have e2 : ((j - 1) / 2 - 1) / 2 ≠ (j - 1) / 2 := by omega
    rw [if_neg e1, if_neg e2]
    have hpar := h.a ((j - 1) / 2) hp0 (by omega) (by omega)
    by_cases e3 : k = j
    · rw [if_pos e3]; exact hpar
    · rw [if_neg e3]
      by_cases e4 : k = (j - 1) / 2
      · omega
      · rw [if_neg e4]
        have h5 := h.a k h0 hk e3
        rw [hp] at h5
        exact ho.trans _ _ _ hpar h5
theorem upL_ok (ho : LtOK lt) : ∀ (f : Nat) (L : List α) (j : Nat), j < L.length → j ≤ f → UpI lt L j →
    (upL lt f L j).length = L.length ∧ HeapI lt (upL lt f L j) L.length ∧ (∀ x, x ∈ upL lt f L j ↔ x ∈ L) ∧ (L.Nodup → (upL lt f L j).Nodup)
  | 0, L, j, hj, hf, h => by
    have hj0 : j = 0 := by omega
    subst hj0
    exact ⟨rfl, h.stop (.inl rfl), fun _ => Iff.rfl, id⟩
  | f + 1, L, j, hj, hf, h => by
    unfold upL
    split
    · rename_i hs
      exact ⟨rfl, h.stop hs, fun _ => Iff.rfl, id⟩
    · rename_i hs
      have hlt : (j - 1) / 2 < L.length := by omega
      have h1 : (j - 1) / 2 ≠ j := fun e => hs (.inl e)
      obtain ⟨a, b, c, d⟩ := upL_ok ho f (swapL L ((j - 1) / 2) j) ((j - 1) / 2) (by rw [swapL_len]; exact hlt) (by omega) (h.step ho hj hs)
      rw [swapL_len] at a b
      exact ⟨a, b, fun x => (c x).trans (swapL_mem hlt hj), fun hn => d (swapL_nodup hlt hj hn)⟩
def childL (lt : α → α → Bool) (L : List α) (n i : Nat) : Nat := if 2 * i + 2 < n ∧ lt (gt0 L (2 * i + 2)) (gt0 L (2 * i + 1)) = true then 2 * i + 2 else 2 * i + 1
def downL (lt : α → α → Bool) (n : Nat) : Nat → List α → Nat → List α
  | 0, L, _ => L
  | f + 1, L, i => if n ≤ 2 * i + 1 then L else if lt (gt0 L (childL lt L n i)) (gt0 L i) = false then L else downL lt n f (swapL L i (childL lt L n i)) (childL lt L n i)
theorem downL_stop1 {n f : Nat} {L : List α} {i : Nat} (h : n ≤ 2 * i + 1) : downL lt n f L i = L := by
  cases f with
  | zero => rfl
  | succ f => rw [downL, if_pos h]
theorem downL_stop2 {n f : Nat} {L : List α} {i : Nat} (h : lt (gt0 L (childL lt L n i)) (gt0 L i) = false) : downL lt n f L i = L := by
  cases f with
  | zero => rfl
  | succ f =>
    rw [downL]
    by_cases hn : n ≤ 2 * i + 1
    · rw [if_pos hn]
    · rw [if_neg hn, if_pos h]
theorem downL_go {n f : Nat} {L : List α} {i : Nat} (h1 : ¬ n ≤ 2 * i + 1) (h2 : lt (gt0 L (childL lt L n i)) (gt0 L i) = true) : downL lt n (f + 1) L i = downL lt n f (swapL L i (childL lt L n i)) (childL lt L n i) := by
  rw [downL, if_neg h1, if_neg (by rw [h2]; decide)]
def downX (lt : α → α → Bool) (n : Nat) : Nat → List α → Nat → Nat
  | 0, _, i => i
  | f + 1, L, i => if n ≤ 2 * i + 1 then i else if lt (gt0 L (childL lt L n i)) (gt0 L i) = false then i else downX lt n f (swapL L i (childL lt L n i)) (childL lt L n i)
theorem downX_stop1 {n f : Nat} {L : List α} {i : Nat} (h : n ≤ 2 * i + 1) : downX lt n f L i = i := by
  cases f with
  | zero => rfl
  | succ f => rw [downX, if_pos h]
theorem downX_stop2 {n f : Nat} {L : List α} {i : Nat} (h : lt (gt0 L (childL lt L n i)) (gt0 L i) = false) : downX lt n f L i = i := by
  cases f with
  | zero => rfl
  | succ f =>
    rw [downX]
    by_cases hn : n ≤ 2 * i + 1
    · rw [if_pos hn]
    · rw [if_neg hn, if_pos h]
theorem downX_go {n f : Nat} {L : List α} {i : Nat} (h1 : ¬ n ≤ 2 * i + 1) (h2 : lt (gt0 L (childL lt L n i)) (gt0 L i) = true) : downX lt n (f + 1) L i = downX lt n f (swapL L i (childL lt L n i)) (childL lt L n i) := by
  rw [downX, if_neg h1, if_neg (by rw [h2]; decide)]
structure DnI (lt : α → α → Bool) (L : List α) (n i : Nat) : Prop where
  a : ∀ k, 0 < k → k < n → (k - 1) / 2 ≠ i → lt (gt0 L k) (gt0 L ((k - 1) / 2)) = false
  b : ∀ k, 0 < k → k < n → (k - 1) / 2 = i → 0 < i → lt (gt0 L k) (gt0 L ((i - 1) / 2)) = false
theorem child_eq (L : List α) (n i : Nat) : childL lt L n i = 2 * i + 1 ∨ childL lt L n i = 2 * i + 2 := by unfold childL; split <;> simp
theorem child_lt {L : List α} {n i : Nat} (h : 2 * i + 1 < n) : childL lt L n i < n := by
  unfold childL; split
  · rename_i h; exact h.1
  · exact h
theorem child_min (ho : LtOK lt) {L : List α} {n i k : Nat} (h0 : 0 < k) (hk : k < n) (hp : (k - 1) / 2 = i) : lt (gt0 L k) (gt0 L (childL lt L n i)) = false := by
  unfold childL
  have hk2 : k = 2 * i + 1 ∨ k = 2 * i + 2 := by omega
  split
  · rename_i h
    rcases hk2 with e | e
    · subst e; exact ho.asym _ _ h.2
    · subst e; exact ho.irr _
  · rename_i h
    rcases hk2 with e | e
    · subst e; exact ho.irr _
    · subst e
      cases q : lt (gt0 L (2 * i + 2)) (gt0 L (2 * i + 1)) with
      | false => rfl
      | true => exact absurd ⟨hk, q⟩ h
theorem DnI.stop1 {L : List α} {n i : Nat} (h : DnI lt L n i) (hs : n ≤ 2 * i + 1) : HeapI lt L n := by
  intro k h0 hk
  exact h.a k h0 hk (by omega)
theorem DnI.stop2 (ho : LtOK lt) {L : List α} {n i : Nat} (h : DnI lt L n i) (hs : lt (gt0 L (childL lt L n i)) (gt0 L i) = false) : HeapI lt L n := by
  intro k h0 hk
  by_cases e : (k - 1) / 2 = i
  · rw [e]
    exact ho.trans _ _ _ hs (child_min ho h0 hk e)
  · exact h.a k h0 hk e
theorem DnI.step (ho : LtOK lt) {L : List α} {n i : Nat} (h : DnI lt L n i) (hn : n ≤ L.length) (hi : 2 * i + 1 < n) (hs : lt (gt0 L (childL lt L n i)) (gt0 L i) = true) :
    DnI lt (swapL L i (childL lt L n i)) n (childL lt L n i) := by
  have hc := child_eq (lt := lt) L n i
  have hcl := child_lt (lt := lt) (L := L) hi
  have hmin := fun (k : Nat) (h0 : 0 < k) (hk : k < n) (hp : (k - 1) / 2 = i) => child_min ho (L := L) h0 hk hp
  generalize childL lt L n i = c at *
  have g := fun k => swapL_get (L := L) (i := i) (j := c) (by omega) (by omega) k
  have hpc : (c - 1) / 2 = i := by omega
  refine ⟨fun k h0 hk hne => ?_, fun k h0 hk hp hp0 => ?_⟩
  · rw [g, g]
    rw [if_neg hne]
    by_cases e1 : k = c
    · rw [if_pos e1, if_pos (by omega)]
      exact ho.asym _ _ hs
    · rw [if_neg e1]
      by_cases e2 : k = i
      · rw [if_pos e2, if_neg (by omega)]
        subst e2
        exact h.b c (by omega) hcl hpc (by omega)
      · rw [if_neg e2]
        by_cases e3 : (k - 1) / 2 = i
        · rw [if_pos e3]
          exact hmin k h0 hk e3
        · rw [if_neg e3]
          exact h.a k h0 hk e3
  · rw [g, g]
    rw [hpc, if_neg (by omega), if_pos rfl, if_neg (by omega), if_neg (by omega)]
    have := h.a k h0 hk (by omega)
    rw [hp] at this
    exact this
theorem downL_ok (ho : LtOK lt) {n : Nat} : ∀ (f : Nat) (L : List α) (i : Nat), n ≤ L.length → n ≤ f + i → DnI lt L n i →
    (downL lt n f L i).length = L.length ∧ HeapI lt (downL lt n f L i) n ∧ (∀ x, x ∈ (downL lt n f L i).take n ↔ x ∈ L.take n) ∧ (L.Nodup → (downL lt n f L i).Nodup) ∧ (∀ k, n ≤ k → gt0 (downL lt n f L i) k = gt0 L k)
  | 0, L, i, hn, hf, h => by
    unfold downL
    exact ⟨rfl, h.stop1 (by omega), fun _ => Iff.rfl, id, fun _ _ => rfl⟩
  | f + 1, L, i, hn, hf, h => by
    unfold downL
    split
    · rename_i hs
      exact ⟨rfl, h.stop1 hs, fun _ => Iff.rfl, id, fun _ _ => rfl⟩
    · rename_i hs
      split
      · rename_i hs2
        exact ⟨rfl, h.stop2 ho hs2, fun _ => Iff.rfl, id, fun _ _ => rfl⟩
      · rename_i hs2
        have hs2 : lt (gt0 L (childL lt L n i)) (gt0 L i) = true := by simpa using hs2
        have hcl := child_lt (lt := lt) (L := L) (n := n) (i := i) (by omega)
        have hc := child_eq (lt := lt) L n i
        obtain ⟨a, b, c, d, e⟩ := downL_ok ho f (swapL L i (childL lt L n i)) (childL lt L n i) (by rw [swapL_len]; exact hn) (by omega) (h.step ho hn (by omega) hs2)
        rw [swapL_len] at a
        refine ⟨a, b, fun x => (c x).trans ?_, fun hnd => d (swapL_nodup (by omega) (by omega) hnd), fun k hk => ?_⟩
        · have ht : (swapL L i (childL lt L n i)).take n = swapL (L.take n) i (childL lt L n i) := by
            have hg : ∀ k, k < n → gt0 (L.take n) k = gt0 L k := fun k hk => by
              rw [gt0, gt0, List.getD_eq_getElem?_getD, List.getD_eq_getElem?_getD, List.getElem?_take, if_pos hk]
            rw [swapL, swapL, List.take_set, List.take_set, hg _ hcl, hg _ (by omega)]
          rw [ht]
          exact swapL_mem (by simp; omega) (by simp; omega)
        · rw [e k hk, swapL_get (by omega) (by omega), if_neg (by omega), if_neg (by omega)]
theorem HeapI.min (ho : LtOK lt) {L : List α} {n : Nat} (h : HeapI lt L n) : ∀ k, k < n → lt (gt0 L k) (gt0 L 0) = false := by
  intro k
  induction k using Nat.strongRecOn with
  | _ k ih =>
    intro hk
    by_cases h0 : k = 0
    · subst h0; exact ho.irr _
    · exact ho.trans _ _ _ (ih ((k - 1) / 2) (by omega) (by omega)) (h k (by omega) hk)
end
end Go.Kn
namespace Go.Kn
open Go
section
variable {P : Program} {T : Ty} {G : Gl} {n : Nat}
theorem CW.regAny (hT : TOK P T) {id : Nat} {ops : Array Oper} {o1 o2 : Oper} {d2 : Nat} {env : Env} {m : Mem} {Q : EQ} (B : Bool → Prop) (ho : ops.toList = [o1, o2]) (g1 : o1.guard = none) (g2 : o2.guard = none)
    (hd1 : dstOK n o1.dst = true) (hd2 : o2.dst = some d2) (hdd : dstOK n o2.dst = true)
    (h : aop P T G o1 env m fun r env1 m1 => (∀ (R : Ent) (σ : Gh) (a : Act) (w : World), EnvOK σ (put env1 o1.dst r) a → J G R σ m1 w → ∃ b, B b ∧ (execOp a.eval o2).run P w = .ok (.value (.bool b)) w) ∧
      ∀ b, B b → Q .normal ((d2, .i (.bool b)) :: put env1 o1.dst r) m1) : CW P G n (.region id ops false) env m Q := by
  intro R σ a w he hj hn
  refine wp_region_list ?_
  rw [ho]
  unfold wpList
  rw [if_pos (by simp [Region.wanted, g1])]
  left
  obtain ⟨r, env1, m1, hs, h1, h2⟩ := aop_ok hT h
  refine step_wpList hs hd1 he hj hn fun σ' a' w' he' hj' hn' => ?_
  unfold wpList
  rw [if_pos (by simp [Region.wanted, g2])]
  left
  obtain ⟨b, hb, hx⟩ := h1 R σ' a' w' he' hj'
  simp only [Oper.wp, hx, Oper.upon_value]
  unfold wpList
  rw [hd2] at hdd ⊢
  simp only [dstOK, Bool.and_eq_true, Nat.blt_eq] at hdd
  have he2 := he'.put (dst := some d2) (r := .i (.bool b)) (v := .bool b) (.i _ _ (.bool b)) fun d e => by
    cases e; rw [hn']; exact hdd.1
  exact ⟨σ', _, m1, h2 b hb, he2, hj', by rw [Act.put_size]; exact hn'⟩
theorem CW.cond {x : Operand} {c d : Code} {b : Bool} {env : Env} {m : Mem} {Q : EQ} (hx : evalO G env x = some (.i (.bool b))) (h1 : b = true → CW P G n c env m Q) (h2 : b = false → CW P G n d env m Q) : CW P G n (.cond x c d) env m Q := by
  intro R σ a w he hj hn
  refine wp_cond (rel_bool (evalO_rel he hj hx)) ?_
  cases b with
  | true => exact h1 rfl R σ a w he hj hn
  | false => exact h2 rfl R σ a w he hj hn
theorem vec_nil {σ : Gh} {k s i l : Nat} {v : Value} {t e : TypeId} (w : World) (x y : Operand) (ht : P.underlying t = some (.slice e)) (r : RelP σ (.vec k s i l) v) :
    ∃ b : Bool, (b = true → l = 0) ∧ (do eqGuard .eql t x y v (.slice none 0 0); binOp .eql t v (.slice none 0 0) : Sem Value).run P w = .ok (.bool b) w := by
  obtain ⟨L, a, cap, _, rfl, _, _, ha⟩ := rel_vec r
  cases a with
  | none =>
    refine ⟨true, fun _ => ?_, ?_⟩
    · rcases ha with ha | ⟨ha, _⟩
      · cases ha
      · exact ha
    · rw [Sem.run_bind, run_eqGuard_scalar _ _ _ _ _ _ _ (by simp) (by simp), Result.andThen_ok]
      exact Lib.run_eql_slice_nil_nil w _ _ ht
  | some a =>
    refine ⟨false, fun e => (nomatch e), ?_⟩
    rw [Sem.run_bind, run_eqGuard_scalar _ _ _ _ _ _ _ (by simp) (by simp), Result.andThen_ok]
    exact Lib.run_eql_slice_some_nil w _ _ _ ht
end
theorem exec_bin {P : Program} {o : Oper} {a : Act} {w : World} {op : BinOp} {xT yT : TypeId} {x y : Operand} {s : Value} (ho : o.op = .binOp op xT x y yT)
    (hr : (do eqGuard op xT x y (a.eval x) (a.eval y); binOp op xT (a.eval x) (a.eval y) : Sem Value).run P w = .ok s w) : (execOp a.eval o).run P w = .ok (.value s) w := by
  simp only [execOp, ho]
  simp only [Sem.run_bind] at hr ⊢
  cases hg : (eqGuard op xT x y (a.eval x) (a.eval y)).run P w with
  | halt e w' => rw [hg] at hr; simp at hr
  | ok u w' =>
    rw [hg] at hr
    simp only [Result.andThen_ok] at hr ⊢
    rw [hr]
    rfl
section
variable {P : Program}
theorem slice_nil {h : Hp} {l : List IV} {v : Value} {t e : TypeId} (w : World) (x y : Operand) (ht : P.underlying t = some (.slice e)) (r : RelI h (.slice l) v) :
    ∃ b : Bool, (b = true → l = []) ∧ (do eqGuard .eql t x y v (.slice none 0 0); binOp .eql t v (.slice none 0 0) : Sem Value).run P w = .ok (.bool b) w := by
  cases r with
  | nilS =>
    refine ⟨true, fun _ => rfl, ?_⟩
    rw [Sem.run_bind, run_eqGuard_scalar _ _ _ _ _ _ _ (by simp) (by simp), Result.andThen_ok]
    exact Lib.run_eql_slice_nil_nil w _ _ ht
  | slice b off =>
    refine ⟨false, fun e => (nomatch e), ?_⟩
    rw [Sem.run_bind, run_eqGuard_scalar _ _ _ _ _ _ _ (by simp) (by simp), Result.andThen_ok]
    exact Lib.run_eql_slice_some_nil w _ _ _ ht
  | oddS b o k =>
    refine ⟨false, fun e => (nomatch e), ?_⟩
    rw [Sem.run_bind, run_eqGuard_scalar _ _ _ _ _ _ _ (by simp) (by simp), Result.andThen_ok]
    exact Lib.run_eql_slice_some_nil w _ _ _ ht
end
end Go.Kn
set_option maxRecDepth 100000
namespace Go.Kn
open Go Go.Proofs
variable {G : Gl}
theorem und_ids : Pg.underlying Tn.sl_api_Id = some (.slice Tn.api_Id) := by kernel_rfl
theorem clone_id (l : List Id) (hl : l.length < 1000000) : Body Pg Fn.slices_Clone_api_Id ∧ AC Pg G Fn.slices_Clone_api_Id [.i (.slice (l.map encId))] []
    (.vec 1001 32 0 l.length) [(1001, .vec 32 (idsP l) none)] := by
  have hil : (l.map encId).length = l.length := by simp
  refine acW_of (T_ok.vec [7]) Fd.slices_Clone_api_Id rfl (by kernel_rfl) ?_
  refine CW.next (T_ok.vec [7]) ?_
  refine CW.seq ?_
  refine CW.seq ?_
  refine CW.regAny (T_ok.vec [7]) (d2 := 4) (fun b => b = true → l.map encId = []) rfl rfl rfl (by kernel_rfl) rfl (by kernel_rfl) ?_
  refine ⟨fun R σ a w he hj => ?_, fun b hb => ?_⟩
  · have hr := evalO_rel he hj (x := .tmp 3) (p := .i (.slice (l.map encId))) rfl
    generalize hv : a.eval (.tmp 3) = v at hr
    cases hr with
    | i _ _ hr =>
      obtain ⟨b, hb, hx⟩ := slice_nil w (.tmp 3) (.const (.slice none 0 0)) und_ids hr
      rw [← hv] at hx
      exact ⟨b, hb, exec_bin rfl hx⟩
  · refine CW.cond (b := b) rfl (fun e => ?_) (fun e => ?_)
    · subst e
      have hl0 : l = [] := by simpa using hb rfl
      subst hl0
      refine CW.next (T_ok.vec [7]) ?_
      refine CW.tok0 900 rfl rfl (env' := [(2, .vec 900 32 0 0)]) (m' := [(900, .vec 32 [] none)]) ⟨⟨_, rfl, .vec 32⟩, trivial⟩
        ⟨.inl ⟨rfl, .vec' rfl⟩, trivial⟩ ?_
      refine CW.go (T_ok.vec [7]) ?_
      exact ⟨[(1001, 900)], [], ⟨trivial, rfl, MemL.as ⟨⟨_, rfl, MLe.vecEq rfl⟩, trivial⟩ rfl, rfl⟩⟩
    · subst e
      refine CW.go (T_ok.vec [7]) ?_
      refine CW.next (T_ok.vec [7]) ?_
      refine ⟨fun x hx => (by obtain ⟨a, _, rfl⟩ := List.mem_map.1 hx; exact encId_len a), ?_⟩
      refine ⟨idsP l, l.length, ⟨fun x hx => (by cases hx), fun _ => rfl, szOK (by simp only [List.length_nil, List.length_map]; omega) (by kernel_rfl), rfl, by simp only [List.length_nil, List.length_map]; omega⟩, ?_⟩
      refine CW.go (T_ok.vec [7]) ?_
      exact ⟨[(1001, 7)], [], ⟨trivial, rfl, MemL.as ⟨⟨_, rfl, MLe.vecEq rfl⟩, trivial⟩ rfl, rfl⟩⟩
end Go.Kn
set_option maxRecDepth 100000
namespace Go.Kn
open Go Go.Proofs
variable {G : Gl}
def stR (m : List RItem) : IV := stI (m.map toItem)
theorem object_pure (l : List Item) (y : Id) (hr : Rising l) (hl : l.length < 1000000) (ht : ∀ x ∈ l, x.text.length < 1000000) :
    PureC Pg G Fn.store_Store_Object [stI l, encId y] (objV (findI l y)) := by
  have hb := get_pure (G := G) l y hr hl
  refine pureC_of T_ok Fd.store_Store_Object rfl (by kernel_rfl) ?_
  refine ⟨_, _, _, pureCall (.inl hb) rfl, ?_⟩
  cases hf : findI l y with
  | none => rfl
  | some x =>
    have hd := object_Decode_ok (G := G) x.text (ht x (List.mem_of_find?_eq_some hf))
    simp only [objV]
    refine ⟨_, _, _, pureCall hd rfl, ?_⟩
    cases decodeP x.text with
    | none => rfl
    | some o => rfl
theorem objectR (H : SameDec) {m : List RItem} (h : Corr m) (hl : m.length < 1000000) (y : Id) : PureC Pg G Fn.store_Store_Object [stR m, encId y] (.tup [encObj (objR m y), .bool (hasM m y)]) := by
  have := object_pure (G := G) (m.map toItem) y h.rising (by simpa using hl) (text_lt h)
  rwa [obj_to H h] at this
theorem objR_small1 {m : List RItem} (h : Corr m) (y : Id) : (objR m y).entries.length < 1000 ∧ (objR m y).parents.length < 1000 := by
  rw [objR]
  cases e : getR11 m y with
  | none => exact ⟨by decide, by decide⟩
  | some x =>
    have hx := find_ok h e
    have := decodeR_small (by have := hx.len; omega) hx.dec
    exact ⟨this.1, this.3⟩
theorem nextR_len {m : List RItem} (h : Corr m) (cut : List Id) (y : Id) : (nextR m cut y).length ≤ 1001 := by
  obtain ⟨h1, h2⟩ := objR_small1 h y
  obtain ⟨h3, h4⟩ := cutO_small (c := inB cut y) h1 h2
  rw [nextR, List.length_map]
  exact links_len (n := 1000) (by omega) (by omega)
def rcE (m : List RItem) (cut : List Id) (n : Nat) : Env := [(0, .i (stR m)), (8, .ptr 8 0), (9, .ptr 9 0), (10, .i (.slice ((sortK cut).map encId))), (11, .vec 902 32 0 n)]
def rcE2 (m : List RItem) (cut : List Id) (lk : List Lnk) (n i : Nat) : Env := [(0, .i (stR m)), (8, .ptr 8 0), (9, .ptr 9 0), (10, .i (.slice ((sortK cut).map encId))), (11, .vec 902 32 0 n), (51, .i (.slice (lk.map encLnk))), (52, .i (.int .i64 (lk.length : Int))), (53, .i (.int .i64 (i : Int)))]
def rcM (s : RSt) : Mem := [(8, .var [.vec 903 32 0 s.inn.length]), (9, .var [.vec 904 32 0 s.out.length]), (902, .vec 32 (idsP s.row) none), (903, .vec 32 (idsP s.inn) none), (904, .vec 32 (idsP s.out) none)]
set_option maxHeartbeats 4000000 in
theorem graph_Reach_ok (H : SameDec) (m : List RItem) (h : Corr m) (hm : m.length ≤ 100) (frm cut : List Id) (hf : frm.length ≤ 100000) (hc : cut.length ≤ 10000) :
    PureC Pg G Fn.graph_Reach [stR m, .slice (frm.map encId), .slice (cut.map encId)] (.tup [.slice ((reachR m cut frm true).map encId), .slice ((reachR m cut frm false).map encId)]) := by
  refine .inl (acW_of T_ok Fd.graph_Reach rfl (by kernel_rfl) ?_)
  refine CW.next T_ok ?_
  refine CW.next T_ok ?_
  refine CW.tok0 903 rfl rfl (env' := [(0, .i (stR m)), (1, .i (.slice (frm.map encId))), (2, .i (.slice (cut.map encId))), (8, .ptr 8 0), (9, .ptr 9 0)]) (m' := [(8, .var [.vec 903 32 0 0]), (9, .var [.full []]), (903, .vec 32 [] none)])
    ⟨⟨_, rfl, .refl _⟩, ⟨_, rfl, .refl _⟩, ⟨_, rfl, .refl _⟩, ⟨_, rfl, .refl _⟩, ⟨_, rfl, .refl _⟩, trivial⟩
    ⟨.inr ⟨by decide, _, rfl, .var _ _ ⟨.vec 32, rfl⟩⟩, .inr ⟨by decide, _, rfl, .refl _⟩, .inl ⟨rfl, .vec' rfl⟩, trivial⟩ ?_
  refine CW.tok0 904 rfl rfl (env' := [(0, .i (stR m)), (1, .i (.slice (frm.map encId))), (2, .i (.slice (cut.map encId))), (8, .ptr 8 0), (9, .ptr 9 0)]) (m' := [(8, .var [.vec 903 32 0 0]), (9, .var [.vec 904 32 0 0]), (903, .vec 32 [] none), (904, .vec 32 [] none)])
    ⟨⟨_, rfl, .refl _⟩, ⟨_, rfl, .refl _⟩, ⟨_, rfl, .refl _⟩, ⟨_, rfl, .refl _⟩, ⟨_, rfl, .refl _⟩, trivial⟩
    ⟨.inr ⟨by decide, _, rfl, .refl _⟩, .inr ⟨by decide, _, rfl, .var _ _ ⟨.vec 32, rfl⟩⟩, .inr ⟨by decide, _, rfl, .refl _⟩, .inl ⟨rfl, .vec' rfl⟩, trivial⟩ ?_
  have hof := graph_of_ok (G := G) cut (by omega)
  have hcl := clone_id (G := G) frm (by omega)
  refine CW.next T_ok ?_
  refine ⟨_, _, _, pureCall (.inl hof) rfl, ?_⟩
  refine CW.next T_ok ?_
  refine ⟨_, _, _, lendCall (ρ := [(1001, 902)]) hcl.1 hcl.2 ⟨rfl, rfl⟩ (MemL.as trivial rfl) rfl, ?_⟩
  refine CW.cut T_ok (S := RSt) (fun s => rcE m cut s.n) (fun s => rcM s) (fun s => RInv m cut frm s ∧ s.n = 0) ?_ ?_
  · refine loopX T_ok 0 (S := RSt) (S' := RSt) (fun s => rcE m cut s.n) (fun s => rcM s) (fun s => (m.length - s.inn.length) * 1002 + s.n) (fun s => RInv m cut frm s)
      (fun s => rcE m cut s.n) (fun s => rcM s) (fun s => RInv m cut frm s ∧ s.n = 0) ⟨[], [], frm, frm.length⟩ ⟨rfl, rfl, rfl, rfl, rfl, trivial⟩ ⟨rfl, rfl, rfl, rfl, rfl, trivial⟩ ?_ ?_ ?_
    · refine ⟨List.Pairwise.nil, List.Pairwise.nil, Nat.le_refl _, by simp, by simp, fun x hx => ?_, fun x hx => .inr (.inr ?_), by simp, by simp⟩
      · rw [RSt.todo, List.take_length] at hx; exact .base x hx
      · rw [RSt.todo, List.take_length]; exact hx
    · intro s hI
      have hn := hI.hn
      have hil := hI.inn_len
      have hcnt := hI.cnt
      have hin : s.inn.length * 1001 ≤ 100 * 1001 := Nat.mul_le_mul_right _ (by omega)
      refine condP.split (fun g => ?_) (fun g => ?_)
      · have hp : 0 < s.n := by have h : (s.n : Int) > 0 := of_decide_eq_true g; omega
        have hw : IntKind.i64.wrap ((s.n : Int) - 1) = ((s.n - 1 : Nat) : Int) := by rw [wrap_i64 (by omega) (by omega)]; omega
        have hlt : s.n - 1 < s.row.length := by omega
        refine ⟨?_, ?_⟩
        · show 0 ≤ IntKind.i64.wrap ((s.n : Int) - 1) ∧ IntKind.i64.wrap ((s.n : Int) - 1) < (s.n : Int)
          rw [hw]; omega
        refine ⟨encId s.row[s.n - 1], ?_, ?_⟩
        · show (idsP s.row)[(IntKind.i64.wrap ((s.n : Int) - 1)).toNat]? = _
          rw [hw]; simp [idsP, hlt]
        refine ⟨?_, 0, s.n - 1, ⟨rfl, ?_⟩, ?_, ?_⟩
        · show 0 ≤ IntKind.i64.wrap ((s.n : Int) - 1)
          rw [hw]; omega
        · show lenB _ none (some (IntKind.i64.wrap ((s.n : Int) - 1))) = _
          rw [hw]; simp [lenB, endB]
        · show IntKind.i64.wrap ((s.n : Int) - 1) ≤ (s.n : Int)
          rw [hw]; omega
        refine ⟨_, _, _, pureCall (objectR H h (by omega) s.row[s.n - 1]) rfl, ?_⟩
        cases hh : hasM m s.row[s.n - 1] with
        | false =>
          have hadd := add_ok (G := G) s.out s.row[s.n - 1] hI.ro (by omega)
          refine ⟨_, _, _, lendCall (ρ := [(1000, 9), (1001, 904)]) hadd.1 hadd.2 ⟨rfl, rfl, rfl⟩ (MemL.as ⟨⟨_, rfl, MLe.refl _⟩, ⟨_, rfl, MLe.vecEq rfl⟩, trivial⟩ rfl) rfl, ?_⟩
          exact ⟨_, ⟨by simp only; omega, hI.miss hp hh⟩, ⟨rfl, rfl, rfl, rfl, rfl, trivial⟩, ⟨rfl, rfl, rfl, rfl, rfl, trivial⟩⟩
        | true =>
          have hadd := add_ok (G := G) s.inn s.row[s.n - 1] hI.ri (by omega)
          refine ⟨_, _, _, lendCall (ρ := [(1000, 8), (1001, 903)]) hadd.1 hadd.2 ⟨rfl, rfl, rfl⟩ (MemL.as ⟨⟨_, rfl, MLe.refl _⟩, ⟨_, rfl, MLe.vecEq rfl⟩, trivial⟩ rfl) rfl, ?_⟩
          cases hk : hasK s.inn s.row[s.n - 1] with
          | true =>
            have he : addK s.inn s.row[s.n - 1] = s.inn := by rw [addK, hk]; rfl
            rw [he]
            exact ⟨_, ⟨by simp only; omega, hI.met hp (inB_iff.1 hk)⟩, ⟨rfl, rfl, rfl, rfl, rfl, trivial⟩, ⟨rfl, rfl, rfl, rfl, rfl, trivial⟩⟩
          | false =>
            have hno : s.row[s.n - 1] ∉ s.inn := fun e => by have := inB_iff.2 e; rw [show inB s.inn s.row[s.n - 1] = hasK s.inn s.row[s.n - 1] from rfl, hk] at this; cases this
            have hnl := nextR_len h cut s.row[s.n - 1]
            have hil2 : (addK s.inn s.row[s.n - 1]).length ≤ m.length := by
              have := nodup_len_le (b := m.map RItem.id) (rise_addK hI.ri s.row[s.n - 1]).nodup fun x hx => (mem_addK.1 hx).elim (fun q => has_mem (hI.hin x q).2) fun q => by subst q; exact has_mem hh
              simpa using this
            have hal : (addK s.inn s.row[s.n - 1]).length = s.inn.length + 1 := by
              rw [addK, hk]
              simp only [Bool.false_eq_true, if_false]
              exact insK_len s.inn _
            have hgo := @RInv.go m cut frm s hI hp hh hno hnl
            obtain ⟨o1, o2⟩ := objR_small1 h s.row[s.n - 1]
            have hsl := sortK_len cut
            have hlk := graph_links_ok (G := G) s.row[s.n - 1] (objR m s.row[s.n - 1]) (sortK cut) (rise_sortK cut) (by omega) (by omega) (by omega)
            rw [linksC_sort] at hlk
            have hnx : nextR m cut s.row[s.n - 1] = (linksO (cutO (inB cut s.row[s.n - 1]) (objR m s.row[s.n - 1]))).map Lnk.id := rfl
            refine ⟨_, _, _, pureCall hlk rfl, ?_⟩
            rw [hnx] at hgo hnl
            generalize linksO (cutO (inB cut s.row[s.n - 1]) (objR m s.row[s.n - 1])) = lk at *
            rw [List.length_map] at hnl
            refine loopX T_ok 2 (S := Nat × List Id) (S' := List Id) (fun q => rcE2 m cut lk (s.n - 1 + q.1) q.1)
              (fun q => rcM ⟨addK s.inn s.row[s.n - 1], s.out, q.2, s.n - 1 + q.1⟩) (fun q => lk.length - q.1) (fun q => q.1 ≤ lk.length ∧ s.n - 1 + q.1 ≤ q.2.length ∧ q.2.take (s.n - 1 + q.1) = s.row.take (s.n - 1) ++ (lk.take q.1).map Lnk.id)
              (fun r => rcE m cut (s.n - 1 + lk.length)) (fun r => rcM ⟨addK s.inn s.row[s.n - 1], s.out, r, s.n - 1 + lk.length⟩) (fun r => s.n - 1 + lk.length ≤ r.length ∧ r.take (s.n - 1 + lk.length) = s.row.take (s.n - 1) ++ lk.map Lnk.id)
              (0, s.row) ⟨rfl, rfl, rfl, rfl, rfl, rfl, lenM _ _, rfl, trivial⟩ ⟨rfl, rfl, rfl, rfl, rfl, trivial⟩ ⟨by simp, by simp only; omega, by simp⟩ ?_ ?_
            · rintro ⟨i, r⟩ ⟨h1, h2, h3⟩
              simp only at h1 h2 h3
              refine condP.split (fun g => ?_) (fun g => ?_)
              · have g' : i < lk.length := by have h : (i : Int) < (lk.length : Int) := of_decide_eq_true g; omega
                refine ⟨encLnk lk[i], idx_get encLnk g', ?_⟩
                refine ⟨hasSize_one (encId_len lk[i].id), idsP (r.take (s.n - 1 + i) ++ [lk[i].id]), s.n - 1 + i + 1, ⟨by simp [idsP]; omega, szOK (by simp; omega) (by kernel_rfl), ?_, rfl⟩, ?_⟩
                · simp [idsP, List.map_take]; rfl
                · refine ⟨(i + 1, r.take (s.n - 1 + i) ++ [lk[i].id]), ⟨by simp only; omega, by simp only; omega, by simp only [List.length_append, List.length_take, List.length_singleton]; omega, ?_⟩, ⟨rfl, rfl, rfl, rfl, rfl, rfl, rfl, i_succ (by omega), trivial⟩, ⟨rfl, rfl, rfl, rfl, rfl, trivial⟩⟩
                  simp only
                  have hl1 : (r.take (s.n - 1 + i) ++ [lk[i].id]).length = s.n - 1 + (i + 1) := by simp only [List.length_append, List.length_take, List.length_singleton]; omega
                  rw [List.take_of_length_le (by omega), h3, List.take_succ_eq_append_getElem g', List.map_append, List.append_assoc]; rfl
              · have g' : i = lk.length := by have h : ¬ (i : Int) < (lk.length : Int) := of_decide_eq_false g; omega
                subst g'
                rw [List.take_length] at h3
                exact ⟨r, ⟨h2, h3⟩, ⟨rfl, rfl, rfl, rfl, rfl, trivial⟩, ⟨rfl, rfl, rfl, rfl, rfl, trivial⟩⟩
            · rintro r ⟨h2, h3⟩
              refine ⟨⟨addK s.inn s.row[s.n - 1], s.out, r, s.n - 1 + lk.length⟩, ⟨?_, hgo h3 (by rw [List.length_map]) h2⟩, ⟨rfl, rfl, rfl, rfl, rfl, trivial⟩, ⟨rfl, rfl, rfl, rfl, rfl, trivial⟩⟩
              simp only [hal]
              omega
      · have h0 : s.n = 0 := by have h : ¬ (s.n : Int) > 0 := of_decide_eq_false g; omega
        exact ⟨s, ⟨hI, h0⟩, ⟨rfl, rfl, rfl, rfl, rfl, trivial⟩, ⟨rfl, rfl, rfl, rfl, rfl, trivial⟩⟩
    · intro s hs
      exact ⟨s, hs, ⟨rfl, rfl, rfl, rfl, rfl, trivial⟩, ⟨rfl, rfl, rfl, rfl, rfl, trivial⟩⟩
  · rintro s ⟨hI, h0⟩
    obtain ⟨h1, h2⟩ := hI.done h0
    refine CW.go T_ok ?_
    refine drawW T_ok (by decide +kernel) ?_
    refine ⟨by kernel_rfl, ?_⟩
    rw [← h1, ← h2]
    exact retRow2 (k := 903) (k2 := 904) (l := s.inn.map encId) (l2 := s.out.map encId) rfl (by simp) rfl (by simp) (by decide)
end Go.Kn
set_option maxRecDepth 100000
namespace Go.Kn
open Go Go.Proofs
variable {G : Gl}
theorem next_eq (m : List RItem) (cut : List Id) (y : Id) {i : Nat} (hi : i < (linksO (objR m y)).length) :
    (i < (nextR m cut y).length ↔ ¬ ((objR m y).kind = 3 ∧ inB cut y = true ∧ 0 < i)) ∧ ((nextR m cut y)[i]? = some (linksO (objR m y))[i].id ∨ ((objR m y).kind = 3 ∧ inB cut y = true ∧ 0 < i)) := by
  unfold nextR cutO
  by_cases hc : (objR m y).kind = 3 ∧ inB cut y = true
  · rw [if_pos hc]
    have hk := hc.1
    have e1 : linksO { objR m y with parents := [] } = [⟨(objR m y).tree, 2⟩] := by
      rw [linksO, if_neg (by simp; omega), if_pos (by simpa using hk)]; rfl
    have e2 : linksO (objR m y) = ⟨(objR m y).tree, 2⟩ :: (objR m y).parents.map fun p => ⟨p, 3⟩ := by rw [linksO, if_neg (by omega), if_pos hk]
    rw [e1]
    cases i with
    | zero => simp [e2]
    | succ i => simp [hc]
  · rw [if_neg hc]
    refine ⟨⟨fun _ h => hc ⟨h.1, h.2.1⟩, fun _ => by simpa using hi⟩, .inl ?_⟩
    simp [hi]
def keepN (m : List RItem) (cut : List Id) (y : Id) (i : Nat) : List Id :=
  if i = 0 ∨ ¬ ((objR m y).kind = 3 ∧ inB cut y = true) then ((linksO (objR m y)).take i).map Lnk.id else ((linksO (objR m y)).take 1).map Lnk.id
theorem keepN_end (m : List RItem) (cut : List Id) (y : Id) : keepN m cut y (linksO (objR m y)).length = nextR m cut y := by
  unfold keepN nextR cutO
  by_cases hc : (objR m y).kind = 3 ∧ inB cut y = true
  · have hk := hc.1
    have e1 : linksO { objR m y with parents := [] } = [⟨(objR m y).tree, 2⟩] := by
      rw [linksO, if_neg (by simp; omega), if_pos (by simpa using hk)]; rfl
    have e2 : linksO (objR m y) = ⟨(objR m y).tree, 2⟩ :: (objR m y).parents.map fun p => ⟨p, 3⟩ := by rw [linksO, if_neg (by omega), if_pos hk]
    rw [if_pos hc, e1, if_neg (by rintro (h | h); rw [e2] at h; simp at h; exact h hc), e2]; rfl
  · rw [if_neg hc, if_pos (.inr hc), List.take_length]
def nxE (m : List RItem) (cut : List Id) (y : Id) (i : Nat) : Env := [(7, .i (.slice ((linksO (objR m y)).map encLnk))), (8, .i (.bool (inB cut y))), (9, .i (.int .i64 (objR m y).kind)), (10, .tok 900 32 ((keepN m cut y i).map encId)), (11, .i (.int .i64 (i : Int)))]
theorem kindR_eq (m : List RItem) (y : Id) : kindR m y = (objR m y).kind := by
  rw [kindR, objR]; cases getR11 m y <;> rfl
theorem ref12_Next_ok (m : List RItem) (h : Corr m) (hm : m.length < 1000000) (y : Id) (cut : List Id) (hc : cut.length < 1000000) :
    PureC Pg G Fn.ref12_Next [encSt m, encId y, .slice (cut.map encId)] (.slice ((nextR m cut y).map encId)) := by
  obtain ⟨o1, o2⟩ := objR_small1 h y
  have hll : (linksO (objR m y)).length ≤ 1001 := links_len (n := 1000) (by omega) (by omega)
  refine pureC_of T_ok Fd.ref12_Next rfl (by kernel_rfl) ?_
  refine ⟨_, _, _, pureCall (ref11_Links_ok m y hm (by omega) (by omega)) rfl, ?_⟩
  refine ⟨_, _, _, pureCall (ref02_In_ok cut y hc) rfl, ?_⟩
  refine ⟨_, _, _, pureCall (ref11_Kind_ok m y hm) rfl, ?_⟩
  rw [kindR_eq]
  refine LoopW.tok0 900 rfl rfl (env' := nxE m cut y 0) (m' := [(900, .tip)]) ⟨⟨_, rfl, .refl _⟩, ⟨_, rfl, .refl _⟩, ⟨_, rfl, .refl _⟩, ⟨_, rfl, ?_⟩, ⟨_, rfl, .refl _⟩, trivial⟩ ⟨.inl ⟨rfl, .tip⟩, trivial⟩ ?_
  · rw [keepN, if_pos (.inl rfl)]; exact .tok 32
  refine loopX T_ok 0 (S := Nat) (S' := Unit) (fun i => nxE m cut y i) (fun _ => [(900, .tip)]) (fun i => (linksO (objR m y)).length - i) (fun i => i ≤ (linksO (objR m y)).length) (fun _ => [(10, .tok 900 32 ((nextR m cut y).map encId))]) (fun _ => [(900, .tip)]) (fun _ => True) 0
    ⟨rfl, rfl, rfl, rfl, rfl, trivial⟩ ⟨rfl, trivial⟩ (by omega) ?_ ?_
  · intro i hi
    refine condP.split (fun g => ?_) (fun g => ?_)
    · have g' := idx_lt g
      have app : ¬ ((objR m y).kind = 3 ∧ inB cut y = true ∧ 0 < i) → keepN m cut y (i + 1) = keepN m cut y i ++ [(linksO (objR m y))[i].id] := by
        intro hn
        have hs : ((linksO (objR m y)).take (i + 1)).map Lnk.id = ((linksO (objR m y)).take i).map Lnk.id ++ [(linksO (objR m y))[i].id] := by rw [List.take_succ_eq_append_getElem g', List.map_append]; rfl
        by_cases h0 : i = 0
        · subst h0
          rw [show keepN m cut y 0 = [] from by rw [keepN, if_pos (.inl rfl)]; rfl]
          unfold keepN
          split <;> simpa using hs
        · have hc : ¬ ((objR m y).kind = 3 ∧ inB cut y = true) := fun e => hn ⟨e.1, e.2, by omega⟩
          unfold keepN
          rw [if_pos (.inr hc), if_pos (.inr hc), hs]
      have kl : (keepN m cut y i).length ≤ 1001 := by
        unfold keepN; split <;> simp <;> omega
      have step : ¬ ((objR m y).kind = 3 ∧ inB cut y = true ∧ 0 < i) → (PV.tok 900 32 ((keepN m cut y i).map encId ++ [encId (linksO (objR m y))[i].id]) = .tok 900 32 ((keepN m cut y (i + 1)).map encId)) := fun hn => by
        rw [app hn, List.map_append]; rfl
      refine condP.split (fun g2 => ?_) (fun g2 => ?_)
      · have g2' := kind_eq (o := objR m y) g2
        refine condP.split (fun hin => ?_) (fun hin => ?_)
        · refine condP.split (fun g3 => ?_) (fun g3 => ?_)
          · have g3' : 0 < i := by have h : (i : Int) > 0 := of_decide_eq_true g3; omega
            refine ⟨i + 1, ⟨by omega, by omega⟩, ⟨rfl, rfl, rfl, ?_, i_succ (by omega), trivial⟩, ⟨rfl, trivial⟩⟩
            · have : keepN m cut y (i + 1) = keepN m cut y i := by
                unfold keepN
                rw [if_neg (by rintro (h | h); omega; exact h ⟨g2', hin⟩), if_neg (by rintro (h | h); omega; exact h ⟨g2', hin⟩)]
              rw [this]; rfl
          · have g3' : ¬ 0 < i := by have h : ¬ (i : Int) > 0 := of_decide_eq_false g3; omega
            refine ⟨encLnk (linksO (objR m y))[i], idx_get encLnk g', ?_⟩
            refine ⟨⟨⟨hasSize_id _, hasSize_one (encId_len (linksO (objR m y))[i].id)⟩, szOK (by simp; omega) (by kernel_rfl)⟩, ?_⟩
            exact ⟨i + 1, ⟨by omega, by omega⟩, ⟨rfl, rfl, rfl, congrArg some (step fun e => g3' e.2.2), i_succ (by omega), trivial⟩, ⟨rfl, trivial⟩⟩
        · have hin : inB cut y = false := hin
          refine ⟨encLnk (linksO (objR m y))[i], idx_get encLnk g', ?_⟩
          refine ⟨⟨⟨hasSize_id _, hasSize_one (encId_len (linksO (objR m y))[i].id)⟩, szOK (by simp; omega) (by kernel_rfl)⟩, ?_⟩
          exact ⟨i + 1, ⟨by omega, by omega⟩, ⟨rfl, rfl, rfl, congrArg some (step fun e => by rw [hin] at e; cases e.2.1), i_succ (by omega), trivial⟩, ⟨rfl, trivial⟩⟩
      · have g2' := kind_ne (o := objR m y) g2
        refine ⟨encLnk (linksO (objR m y))[i], idx_get encLnk g', ?_⟩
        refine ⟨⟨⟨hasSize_id _, hasSize_one (encId_len (linksO (objR m y))[i].id)⟩, szOK (by simp; omega) (by kernel_rfl)⟩, ?_⟩
        exact ⟨i + 1, ⟨by omega, by omega⟩, ⟨rfl, rfl, rfl, congrArg some (step fun e => g2' e.1), i_succ (by omega), trivial⟩, ⟨rfl, trivial⟩⟩
    · have g' := idx_ge g hi
      subst g'
      refine ⟨(), trivial, ⟨?_, trivial⟩, ⟨rfl, trivial⟩⟩
      rw [← keepN_end m cut y]; rfl
  · intro _ _
    rfl
def addD (l : List Id) (y : Id) : List Id := if inB l y then l else l ++ [y]
theorem mem_addD {l : List Id} {y x : Id} : x ∈ addD l y ↔ x ∈ l ∨ x = y := by
  unfold addD
  split
  · rename_i h
    exact ⟨.inl, fun e => e.elim id fun e => by subst e; exact inB_iff.1 h⟩
  · simp
theorem addD_len (l : List Id) (y : Id) : (addD l y).length ≤ l.length + 1 := by
  unfold addD; split <;> simp
theorem addD_nodup {l : List Id} (h : l.Nodup) (y : Id) : (addD l y).Nodup := by
  unfold addD
  split
  · exact h
  · rename_i hn
    refine List.nodup_append.2 ⟨h, by simp, fun a ha b hb => ?_⟩
    rw [List.mem_singleton] at hb
    subst hb
    intro e; subst e
    exact hn (inB_iff.2 ha)
theorem addD_ge (l : List Id) (y : Id) : l.length ≤ (addD l y).length := by
  unfold addD; split <;> simp
theorem addD_pre (l : List Id) (y : Id) : l <+: addD l y := by
  unfold addD; split
  · exact List.prefix_refl _
  · exact List.prefix_append _ _
structure DInv (m : List RItem) (cut frm : List Id) (all : List Id) (i : Nat) : Prop where
  nd : all.Nodup
  hi : i ≤ all.length
  hr : ∀ x ∈ all, Rch m cut frm x
  hf : ∀ x ∈ frm, x ∈ all
  hc : ∀ j (h : j < all.length), j < i → ∀ y ∈ nextR m cut all[j], y ∈ all
theorem DInv.len {m : List RItem} {cut frm all : List Id} {i : Nat} (h : DInv m cut frm all i) : all.length ≤ (uniR m frm).length :=
  nodup_len_le h.nd fun x hx => (h.hr x hx).uni
theorem uni_len {m : List RItem} (h : Corr m) (frm : List Id) : (uniR m frm).length ≤ frm.length + m.length * 1001 := by
  unfold uniR
  rw [List.length_append]
  have : ∀ l : List RItem, (∀ x ∈ l, (linksO x.o).length ≤ 1001) → (l.flatMap fun x => (linksO x.o).map Lnk.id).length ≤ l.length * 1001 := by
    intro l
    induction l with
    | nil => simp
    | cons x l ih =>
      intro hl
      have h1 := hl x List.mem_cons_self
      have h2 := ih fun y hy => hl y (List.mem_cons_of_mem _ hy)
      rw [List.flatMap_cons, List.length_append, List.length_map, List.length_cons, Nat.add_mul]
      omega
  have := this m fun x hx => by
    have hs := decodeR_small (by have := (h.ok x hx).len; omega) (h.ok x hx).dec
    exact links_len (n := 1000) (by have := hs.1; omega) (by have := hs.3; omega)
  omega
theorem DInv.done {m : List RItem} {cut frm all : List Id} (h : DInv m cut frm all all.length) (b : Bool) : sortK (all.filter fun x => hasM m x == b) = reachR m cut frm b := by
  have hall : ∀ x, Rch m cut frm x → x ∈ all := by
    intro x hx
    induction hx with
    | base x hx => exact h.hf x hx
    | step x y _ hy ih =>
      obtain ⟨j, hj, rfl⟩ := List.getElem_of_mem ih
      exact h.hc j hj hj y hy
  refine rise_ext (rise_sortK _) (reachR_rise ..) fun x => ?_
  rw [mem_sortK, List.mem_filter, mem_reachR]
  constructor
  · rintro ⟨h1, h2⟩; exact ⟨h.hr x h1, by simpa using h2⟩
  · rintro ⟨h1, h2⟩; exact ⟨hall x h1, by simpa using h2⟩
theorem foldD_len {l : List Id} : ∀ {s : List Id}, (l.foldl addD s).length ≤ s.length + l.length := by
  induction l with
  | nil => exact fun {s} => Nat.le_refl _
  | cons a l ih => exact fun {s} => by have := ih (s := addD s a); have := addD_len s a; simp only [List.foldl_cons, List.length_cons]; omega
theorem mem_foldD {l : List Id} {x : Id} : ∀ {s : List Id}, x ∈ l.foldl addD s ↔ x ∈ s ∨ x ∈ l := by
  induction l with
  | nil => simp
  | cons a l ih => intro s; rw [List.foldl_cons, ih, mem_addD, List.mem_cons, or_assoc]
theorem foldD_nodup {l : List Id} : ∀ {s : List Id}, s.Nodup → (l.foldl addD s).Nodup := by
  induction l with
  | nil => exact fun h => h
  | cons a l ih => exact fun h => ih (addD_nodup h a)
theorem foldD_pre {l : List Id} : ∀ {s : List Id}, s <+: l.foldl addD s := by
  induction l with
  | nil => exact fun {s} => List.prefix_refl _
  | cons a l ih => exact fun {s} => (addD_pre s a).trans ih
theorem foldD_succ {l s : List Id} {i : Nat} (h : i < l.length) : (l.take (i + 1)).foldl addD s = addD ((l.take i).foldl addD s) l[i] := by
  rw [List.take_succ_eq_append_getElem h, List.foldl_append]; rfl
theorem DInv.step {m : List RItem} {cut frm all : List Id} {i : Nat} (h : DInv m cut frm all i) (hi : i < all.length) : DInv m cut frm ((nextR m cut all[i]).foldl addD all) (i + 1) := by
  have hp : all <+: (nextR m cut all[i]).foldl addD all := foldD_pre
  have hg : ∀ j (hj : j < all.length) (hj' : j < ((nextR m cut all[i]).foldl addD all).length), ((nextR m cut all[i]).foldl addD all)[j] = all[j] := fun j hj hj' => (hp.getElem hj).symm
  refine ⟨foldD_nodup h.nd, ?_, fun x hx => ?_, fun x hx => mem_foldD.2 (.inl (h.hf x hx)), fun j hj hji y hy => mem_foldD.2 ?_⟩
  · have := hp.length_le; omega
  · rcases mem_foldD.1 hx with q | q
    · exact h.hr x q
    · exact .step _ _ (h.hr _ (List.getElem_mem hi)) q
  · rw [hg j (by omega) hj] at hy
    by_cases e : j = i
    · subst e; exact .inr hy
    · exact .inl (h.hc j (by omega) (by omega) y hy)
end Go.Kn
set_option maxRecDepth 100000
namespace Go.Kn
open Go Go.Proofs
variable {G : Gl}
def mS (m : List RItem) : MO := .var [.i (.slice (m.map encRItem))]
def rrE (frm cut all : List Id) : Env := [(1, .i (.slice (frm.map encId))), (2, .i (.slice (cut.map encId))), (3, .ptr 3 0), (8, .tok 900 32 (all.map encId))]
def rrE1 (frm cut all : List Id) (k i : Nat) : Env := [(1, .i (.slice (frm.map encId))), (2, .i (.slice (cut.map encId))), (3, .ptr 3 0), (8, .tok 900 32 (all.map encId)), (k, .i (.int .i64 (i : Int)))]
def rrE3 (frm cut all nx : List Id) (i k : Nat) : Env := [(1, .i (.slice (frm.map encId))), (2, .i (.slice (cut.map encId))), (3, .ptr 3 0), (8, .tok 900 32 (all.map encId)), (11, .i (.int .i64 (i : Int))), (12, .i (.slice (nx.map encId))), (13, .i (.int .i64 (k : Int)))]
def rrE4 (all th mi : List Id) (i : Nat) : Env := [(3, .ptr 3 0), (8, .tok 900 32 (all.map encId)), (15, .tok 901 32 (th.map encId)), (16, .tok 902 32 (mi.map encId)), (17, .i (.int .i64 (i : Int)))]
def rrM (m : List RItem) : Mem := [(3, mS m), (900, .tip)]
def rrM4 (m : List RItem) : Mem := [(3, mS m), (900, .tip), (901, .tip), (902, .tip)]
theorem tok_snoc {k : Nat} {l : List Id} {y : Id} : some (PV.tok k 32 (l.map encId ++ [encId y])) = some (.tok k 32 ((l ++ [y]).map encId)) := by rw [List.map_append]; rfl
theorem filter_succ {l : List Id} {i : Nat} (h : i < l.length) (p : Id → Bool) : (l.take (i + 1)).filter p = if p l[i] then (l.take i).filter p ++ [l[i]] else (l.take i).filter p := by
  rw [List.take_succ_eq_append_getElem h, List.filter_append]
  cases hp : p l[i] <;> simp [hp]
set_option maxHeartbeats 4000000 in
theorem ref12_Reach_ok (m : List RItem) (h : Corr m) (hm : m.length ≤ 100) (frm cut : List Id) (hf : frm.length ≤ 100000) (hc : cut.length ≤ 10000) :
    PureC Pg G Fn.ref12_Reach [encSt m, .slice (frm.map encId), .slice (cut.map encId)] (.tup [.slice ((reachR m cut frm true).map encId), .slice ((reachR m cut frm false).map encId)]) := by
  refine .inl (acW_of T_ok Fd.ref12_Reach rfl (by kernel_rfl) ?_)
  refine CW.next T_ok ?_
  refine CW.next T_ok ?_
  refine CW.tok0 900 rfl rfl (env' := rrE frm cut []) (m' := rrM m) ⟨⟨_, rfl, .refl _⟩, ⟨_, rfl, .refl _⟩, ⟨_, rfl, .refl _⟩, ⟨_, rfl, .tok 32⟩, trivial⟩ ⟨.inr ⟨by decide, _, rfl, .refl _⟩, .inl ⟨rfl, .tip⟩, trivial⟩ ?_
  have hu := uni_len h frm
  have hu2 : m.length * 1001 ≤ 100 * 1001 := Nat.mul_le_mul_right _ hm
  refine CW.cut T_ok (S := List Id) (fun all => rrE frm cut all) (fun _ => rrM m) (fun all => DInv m cut frm all 0) ?_ ?_
  · refine loopX T_ok 0 (S := Nat) (S' := Unit) (fun i => rrE1 frm cut ((frm.take i).foldl addD []) 9 i) (fun _ => rrM m) (fun i => frm.length - i) (fun i => i ≤ frm.length) (fun _ => rrE frm cut (frm.foldl addD [])) (fun _ => rrM m) (fun _ => True) 0
      ⟨rfl, rfl, rfl, rfl, rfl, trivial⟩ ⟨rfl, rfl, trivial⟩ (by omega) ?_ ?_
    · intro i hi
      refine condP.split (fun g => ?_) (fun g => ?_)
      · have g' := idx_lt g
        have hs := foldD_succ (s := []) g'
        have hlen : ((frm.take i).foldl addD []).length ≤ i := by have := foldD_len (l := frm.take i) (s := []); simp at this; omega
        generalize (frm.take i).foldl addD [] = all at *
        refine ⟨encId frm[i], idx_get encId g', ?_⟩
        refine ⟨_, _, _, pureCall (ref02_In_ok all frm[i] (by omega)) rfl, ?_⟩
        cases hin : inB all frm[i] with
        | true =>
          have he : addD all frm[i] = all := by rw [addD, hin]; rfl
          refine ⟨i + 1, ⟨by omega, by omega⟩, ⟨rfl, rfl, rfl, ?_, i_succ (by omega), trivial⟩, ⟨rfl, rfl, trivial⟩⟩
          rw [hs, he]; rfl
        | false =>
          have he : addD all frm[i] = all ++ [frm[i]] := by rw [addD, hin]; rfl
          refine ⟨encId frm[i], idx_get encId g', ?_⟩
          refine ⟨⟨⟨hasSize_id _, hasSize_one (encId_len frm[i])⟩, szOK (by simp; omega) (by kernel_rfl)⟩, ?_⟩
          refine ⟨i + 1, ⟨by omega, by omega⟩, ⟨rfl, rfl, rfl, ?_, i_succ (by omega), trivial⟩, ⟨rfl, rfl, trivial⟩⟩
          rw [hs, he]; exact tok_snoc
      · have g' := idx_ge g hi
        subst g'
        rw [List.take_length]
        exact ⟨(), trivial, ⟨rfl, rfl, rfl, rfl, trivial⟩, ⟨rfl, rfl, trivial⟩⟩
    · intro _ _
      refine ⟨frm.foldl addD [], ⟨foldD_nodup List.nodup_nil, by omega, fun x hx => ?_, fun x hx => mem_foldD.2 (.inr hx), by intro j _ h; omega⟩, ⟨rfl, rfl, rfl, rfl, trivial⟩, ⟨rfl, rfl, trivial⟩⟩
      rcases mem_foldD.1 hx with q | q
      · cases q
      · exact .base x q
  intro all0 hI0
  refine CW.cut T_ok (S := List Id) (fun all => rrE frm cut all) (fun _ => rrM m) (fun all => DInv m cut frm all all.length) ?_ ?_
  · refine loopX T_ok 2 (S := List Id × Nat) (S' := List Id) (fun s => rrE1 frm cut s.1 11 s.2) (fun _ => rrM m) (fun s => (uniR m frm).length - s.2) (fun s => DInv m cut frm s.1 s.2) (fun all => rrE frm cut all) (fun _ => rrM m) (fun all => DInv m cut frm all all.length) (all0, 0)
      ⟨rfl, rfl, rfl, rfl, rfl, trivial⟩ ⟨rfl, rfl, trivial⟩ hI0 ?_ ?_
    · rintro ⟨all, i⟩ hI
      have hI : DInv m cut frm all i := hI
      have hlen := hI.len
      refine condP.split (fun g => ?_) (fun g => ?_)
      · have g' : i < all.length := idx_lt g
        have hI2 := hI.step g'
        have hlen2 := hI2.len
        have hnl := nextR_len h cut all[i]
        have hN := ref12_Next_ok (G := G) m h (by omega) all[i] cut (by omega)
        refine drawW T_ok (by decide +kernel) ?_
        refine ⟨encId all[i], idx_get encId g', ?_⟩
        refine ⟨_, _, ⟨rfl, hN⟩, ?_⟩
        refine ⟨by kernel_rfl, ?_⟩
        generalize nextR m cut all[i] = nx at *
        refine loopX T_ok 4 (S := Nat) (S' := Unit) (fun k => rrE3 frm cut ((nx.take k).foldl addD all) nx i k) (fun _ => rrM m) (fun k => nx.length - k) (fun k => k ≤ nx.length) (fun _ => rrE1 frm cut (nx.foldl addD all) 11 i) (fun _ => rrM m) (fun _ => True) 0
          ⟨rfl, rfl, rfl, rfl, rfl, rfl, rfl, trivial⟩ ⟨rfl, rfl, trivial⟩ (by omega) ?_ ?_
        · intro k hk
          refine condP.split (fun g => ?_) (fun g => ?_)
          · have g' := idx_lt g
            have hs := foldD_succ (s := all) g'
            have hal : ((nx.take k).foldl addD all).length ≤ all.length + 1001 := by have := foldD_len (l := nx.take k) (s := all); simp at this; omega
            generalize (nx.take k).foldl addD all = al at *
            refine ⟨encId nx[k], idx_get encId g', ?_⟩
            refine ⟨_, _, _, pureCall (ref02_In_ok al nx[k] (by omega)) rfl, ?_⟩
            cases hin : inB al nx[k] with
            | true =>
              have he : addD al nx[k] = al := by rw [addD, hin]; rfl
              refine ⟨k + 1, ⟨by omega, by omega⟩, ⟨rfl, rfl, rfl, ?_, rfl, rfl, i_succ (by omega), trivial⟩, ⟨rfl, rfl, trivial⟩⟩
              rw [hs, he]; rfl
            | false =>
              have he : addD al nx[k] = al ++ [nx[k]] := by rw [addD, hin]; rfl
              refine ⟨encId nx[k], idx_get encId g', ?_⟩
              refine ⟨⟨⟨hasSize_id _, hasSize_one (encId_len nx[k])⟩, szOK (by simp; omega) (by kernel_rfl)⟩, ?_⟩
              refine ⟨k + 1, ⟨by omega, by omega⟩, ⟨rfl, rfl, rfl, ?_, rfl, rfl, i_succ (by omega), trivial⟩, ⟨rfl, rfl, trivial⟩⟩
              rw [hs, he]; exact tok_snoc
          · have g' := idx_ge g hk
            subst g'
            rw [List.take_length]
            exact ⟨(), trivial, ⟨rfl, rfl, rfl, rfl, rfl, trivial⟩, ⟨rfl, rfl, trivial⟩⟩
        · intro _ _
          exact ⟨(nx.foldl addD all, i + 1), ⟨by simp only; have := hI2.hi; omega, hI2⟩, ⟨rfl, rfl, rfl, rfl, i_succ (by omega), trivial⟩, ⟨rfl, rfl, trivial⟩⟩
      · have g' : i = all.length := idx_ge g hI.hi
        refine ⟨all, ?_, ⟨rfl, rfl, rfl, rfl, trivial⟩, ⟨rfl, rfl, trivial⟩⟩
        have h2 := hI
        rw [g'] at h2; exact h2
    · intro all hI
      exact ⟨all, hI, ⟨rfl, rfl, rfl, rfl, trivial⟩, ⟨rfl, rfl, trivial⟩⟩
  intro all hI
  have hlen := hI.len
  refine CW.next T_ok ?_
  refine CW.next T_ok ?_
  refine CW.tok0 901 rfl rfl (env' := [(3, .ptr 3 0), (8, .tok 900 32 (all.map encId)), (15, .tok 901 32 []), (16, .full [])]) (m' := [(3, mS m), (900, .tip), (901, .tip)])
    ⟨⟨_, rfl, .refl _⟩, ⟨_, rfl, .refl _⟩, ⟨_, rfl, .tok 32⟩, ⟨_, rfl, .refl _⟩, trivial⟩ ⟨.inr ⟨by decide, _, rfl, .refl _⟩, .inr ⟨by decide, _, rfl, .refl _⟩, .inl ⟨rfl, .tip⟩, trivial⟩ ?_
  refine CW.tok0 902 rfl rfl (env' := [(3, .ptr 3 0), (8, .tok 900 32 (all.map encId)), (15, .tok 901 32 []), (16, .tok 902 32 [])]) (m' := rrM4 m)
    ⟨⟨_, rfl, .refl _⟩, ⟨_, rfl, .refl _⟩, ⟨_, rfl, .refl _⟩, ⟨_, rfl, .tok 32⟩, trivial⟩ ⟨.inr ⟨by decide, _, rfl, .refl _⟩, .inr ⟨by decide, _, rfl, .refl _⟩, .inr ⟨by decide, _, rfl, .refl _⟩, .inl ⟨rfl, .tip⟩, trivial⟩ ?_
  refine CW.cut T_ok (S := Unit) (fun _ => [(15, .tok 901 32 ((all.filter fun x => hasM m x == true).map encId)), (16, .tok 902 32 ((all.filter fun x => hasM m x == false).map encId))]) (fun _ => [(901, .tip), (902, .tip)]) (fun _ => True) ?_ ?_
  · refine loopX T_ok 6 (S := Nat) (S' := Unit) (fun i => rrE4 all ((all.take i).filter fun x => hasM m x == true) ((all.take i).filter fun x => hasM m x == false) i) (fun _ => rrM4 m) (fun i => all.length - i) (fun i => i ≤ all.length)
      (fun _ => [(15, .tok 901 32 ((all.filter fun x => hasM m x == true).map encId)), (16, .tok 902 32 ((all.filter fun x => hasM m x == false).map encId))]) (fun _ => [(901, .tip), (902, .tip)]) (fun _ => True) 0 ⟨rfl, rfl, rfl, rfl, rfl, trivial⟩ ⟨rfl, rfl, rfl, rfl, trivial⟩ (by omega) ?_ ?_
    · intro i hi
      refine condP.split (fun g => ?_) (fun g => ?_)
      · have g' := idx_lt g
        have s1 := filter_succ g' (fun x => hasM m x == true)
        have s2 := filter_succ g' (fun x => hasM m x == false)
        have l1 : ((all.take i).filter fun x => hasM m x == true).length ≤ i := by have := List.length_filter_le (fun x => hasM m x == true) (all.take i); simp at this ⊢; omega
        have l2 : ((all.take i).filter fun x => hasM m x == false).length ≤ i := by have := List.length_filter_le (fun x => hasM m x == false) (all.take i); simp at this ⊢; omega
        generalize ((all.take i).filter fun x => hasM m x == true) = th at *
        generalize ((all.take i).filter fun x => hasM m x == false) = mi at *
        refine drawW T_ok (by decide +kernel) ?_
        refine ⟨encId all[i], idx_get encId g', ?_⟩
        refine ⟨_, _, ⟨rfl, ref11_Has_ok m all[i] (by omega)⟩, ?_⟩
        refine ⟨by kernel_rfl, ?_⟩
        cases hh : hasM m all[i] with
        | true =>
          have hh' : (atR m all[i]).isSome = true := hh
          rw [hh']
          refine ⟨encId all[i], idx_get encId g', ?_⟩
          refine ⟨⟨⟨hasSize_id _, hasSize_one (encId_len all[i])⟩, szOK (by simp; omega) (by kernel_rfl)⟩, ?_⟩
          refine ⟨i + 1, ⟨by omega, by omega⟩, ⟨rfl, rfl, ?_, ?_, i_succ (by omega), trivial⟩, ⟨rfl, rfl, rfl, rfl, trivial⟩⟩
          · rw [s1, hh]; exact tok_snoc
          · rw [s2, hh]; rfl
        | false =>
          have hh' : (atR m all[i]).isSome = false := hh
          rw [hh']
          refine ⟨encId all[i], idx_get encId g', ?_⟩
          refine ⟨⟨⟨hasSize_id _, hasSize_one (encId_len all[i])⟩, szOK (by simp; omega) (by kernel_rfl)⟩, ?_⟩
          refine ⟨i + 1, ⟨by omega, by omega⟩, ⟨rfl, rfl, ?_, ?_, i_succ (by omega), trivial⟩, ⟨rfl, rfl, rfl, rfl, trivial⟩⟩
          · rw [s1, hh]; rfl
          · rw [s2, hh]; exact tok_snoc
      · have g' := idx_ge g hi
        subst g'
        rw [List.take_length]
        exact ⟨(), trivial, ⟨rfl, rfl, trivial⟩, ⟨rfl, rfl, trivial⟩⟩
    · intro _ _
      exact ⟨(), trivial, ⟨rfl, rfl, trivial⟩, ⟨rfl, rfl, trivial⟩⟩
  intro _ _
  have f1 : (all.filter fun x => hasM m x == true).length ≤ all.length := List.length_filter_le _ _
  have f2 : (all.filter fun x => hasM m x == false).length ≤ all.length := List.length_filter_le _ _
  have e1 := hI.done true
  have e2 := hI.done false
  refine CW.go T_ok ?_
  refine ⟨_, _, _, pureCall (ref02_Sorted_ok _ (by omega)) rfl, ?_⟩
  refine ⟨_, _, _, pureCall (ref02_Sorted_ok _ (by omega)) rfl, ?_⟩
  rw [← e1, ← e2]
  exact ⟨[], [], ⟨trivial, ⟨[_, _], ⟨rfl, rfl, rfl⟩, rfl⟩, MemL.as trivial rfl, rfl⟩⟩
end Go.Kn
set_option maxRecDepth 100000
namespace Go.Kn
open Go Go.Proofs
variable {G : Gl}
def endF (m : List RItem) : Nat → Id → Option Id
  | 0, _ => none
  | n + 1, y => if hasM m y then (if (objR m y).kind = 4 then endF m n (objR m y).target else some y) else none
def endR (m : List RItem) (y : Id) : Option Id := endF m (m.length + 1) y
def endV : Option Id → IV
  | some y => .tup [encId y, .bool true]
  | none => .tup [encId Id.none, .bool false]
theorem may_kind {o : Obj} (h : mayB o = true) : 1 ≤ o.kind ∧ o.kind ≤ 4 := by
  rw [← mayR_eq, mayR] at h
  split at h
  · cases h
  · omega
theorem ok_kind {x : RItem} (h : x.ok) : 1 ≤ x.o.kind ∧ x.o.kind ≤ 4 := by
  have hd := h.dec
  unfold decodeR at hd
  split at hd
  · cases hd
  · split at hd
    · rename_i he
      have hd := Option.some.inj hd
      rw [hd] at he
      unfold encodeR at he
      split at he
      · cases he
      · rename_i hm
        exact may_kind (by simpa using hm)
    · cases hd
theorem kind_zero {m : List RItem} (h : Corr m) (y : Id) : (objR m y).kind = 0 ↔ hasM m y = false := by
  constructor
  · intro e
    cases hh : hasM m y with
    | false => rfl
    | true =>
      rw [has_get] at hh
      obtain ⟨r, hr⟩ := Option.isSome_iff_exists.1 hh
      have := ok_kind (find_ok h hr)
      rw [objR, hr] at e
      simp only at e
      omega
  · intro e; rw [objR_none e]; rfl
def enE (m : List RItem) (i : Nat) : Env := [(0, .i (stR m)), (3, .ptr 3 0), (4, .ptr 4 0), (10, .i (.int .i64 ((m.length + 1 : Nat) : Int))), (11, .i (.int .i64 (i : Int)))]
def enM (z : Id) : Mem := [(3, .var ((idC z).map .i)), (4, .var ((idC Id.none).map .i))]
theorem graph_End_ok (H : SameDec) (m : List RItem) (h : Corr m) (hm : m.length < 1000000) (y : Id) : PureC Pg G Fn.graph_End [stR m, encId y] (endV (endR m y)) := by
  have hlen := len_pure (G := G) (m.map toItem)
  rw [List.length_map] at hlen
  refine pureC_of T_ok Fd.graph_End rfl (by kernel_rfl) ?_
  refine ⟨_, _, _, pureCall (.inl hlen) rfl, ?_⟩
  refine loopX T_ok 0 (S := Nat × Id) (S' := Unit) (fun s => enE m s.1) (fun s => enM s.2) (fun s => m.length + 1 - s.1) (fun s => s.1 ≤ m.length + 1 ∧ endF m (m.length + 1 - s.1) s.2 = endR m y) (fun _ => [(4, .ptr 4 0)]) (fun _ => [(4, .var ((idC Id.none).map .i))]) (fun _ => endR m y = none) (0, y)
    ⟨rfl, rfl, rfl, i_succ (by omega), rfl, trivial⟩ ⟨rfl, rfl, trivial⟩ ⟨by simp, rfl⟩ ?_ ?_
  · rintro ⟨i, z⟩ ⟨h1, h2⟩
    simp only at h1 h2
    refine condP.split (fun g => ?_) (fun g => ?_)
    · have g' : i < m.length + 1 := by have h : (i : Int) < ((m.length + 1 : Nat) : Int) := of_decide_eq_true g; omega
      rw [show m.length + 1 - i = (m.length - i) + 1 by omega, endF] at h2
      refine ⟨_, _, _, pureCall (objectR H h hm z) rfl, ?_⟩
      cases hh : hasM m z with
      | false =>
        rw [hh] at h2
        rw [← h2]; rfl
      | true =>
        rw [hh] at h2
        simp only [if_true] at h2
        refine condP.split (fun g2 => ?_) (fun g2 => ?_)
        · have g2' : (objR m z).kind ≠ 4 := by
            have h : ((objR m z).kind != 4) = true := g2
            simpa using h
          rw [if_neg g2'] at h2
          rw [← h2]; rfl
        · have g2' : (objR m z).kind = 4 := by
            have h : ((objR m z).kind != 4) = false := g2
            simpa using h
          rw [if_pos g2'] at h2
          exact ⟨(i + 1, (objR m z).target), ⟨by simp only; omega, by simp only; omega, by rw [show m.length + 1 - (i + 1) = m.length - i by omega]; exact h2⟩, ⟨rfl, rfl, rfl, rfl, i_succ (by omega), trivial⟩, ⟨rfl, rfl, trivial⟩⟩
    · have g' : i = m.length + 1 := by have h : ¬ (i : Int) < ((m.length + 1 : Nat) : Int) := of_decide_eq_false g; omega
      subst g'
      refine ⟨(), ?_, ⟨rfl, trivial⟩, ⟨rfl, trivial⟩⟩
      rw [← h2, Nat.sub_self]; rfl
  · intro _ h0
    rw [h0]; rfl
def reE (i : Nat) : Env := [(2, .ptr 2 0), (3, .ptr 3 0), (4, .ptr 4 0), (6, .i (.int .i64 (i : Int)))]
def reM (m : List RItem) (z : Id) : Mem := [(2, mS m), (3, .var ((idC z).map .i)), (4, .var ((idC Id.none).map .i))]
theorem ref12_End_ok (m : List RItem) (h : Corr m) (hm : m.length < 1000000) (y : Id) : PureC Pg G Fn.ref12_End [encSt m, encId y] (endV (endR m y)) := by
  refine pureC_of T_ok Fd.ref12_End rfl (by kernel_rfl) ?_
  refine loopX T_ok 0 (S := Nat × Id) (S' := Unit) (fun s => reE s.1) (fun s => reM m s.2) (fun s => m.length + 1 - s.1) (fun s => s.1 ≤ m.length + 1 ∧ endF m (m.length + 1 - s.1) s.2 = endR m y) (fun _ => [(4, .ptr 4 0)]) (fun _ => [(4, .var ((idC Id.none).map .i))]) (fun _ => endR m y = none) (0, y)
    ⟨rfl, rfl, rfl, rfl, trivial⟩ ⟨rfl, rfl, rfl, trivial⟩ ⟨by simp, rfl⟩ ?_ ?_
  · rintro ⟨i, z⟩ ⟨h1, h2⟩
    simp only at h1 h2
    refine condP.split (fun g => ?_) (fun g => ?_)
    · have g' : i < m.length + 1 := by have h : (i : Int) ≤ ((m.map encRItem).length : Int) := of_decide_eq_true g; rw [lenR] at h; omega
      rw [show m.length + 1 - i = (m.length - i) + 1 by omega, endF] at h2
      refine ⟨_, _, _, pureCall (ref11_Object_ok m z hm) rfl, ?_⟩
      refine condP.split (fun g1 => ?_) (fun g1 => ?_)
      · have hh := (kind_zero h z).1 (kind_eq g1)
        rw [hh] at h2
        rw [← h2]; rfl
      · have hh : hasM m z = true := by
          cases e : hasM m z with
          | true => rfl
          | false => exact absurd ((kind_zero h z).2 e) (kind_ne g1)
        rw [hh] at h2
        simp only [if_true] at h2
        refine condP.split (fun g2 => ?_) (fun g2 => ?_)
        · have g2' : (objR m z).kind ≠ 4 := by
            have h : ((objR m z).kind != 4) = true := g2
            simpa using h
          rw [if_neg g2'] at h2
          rw [← h2]; rfl
        · have g2' : (objR m z).kind = 4 := by
            have h : ((objR m z).kind != 4) = false := g2
            simpa using h
          rw [if_pos g2'] at h2
          exact ⟨(i + 1, (objR m z).target), ⟨by simp only; omega, by simp only; omega, by rw [show m.length + 1 - (i + 1) = m.length - i by omega]; exact h2⟩, ⟨rfl, rfl, rfl, i_succ (by omega), trivial⟩, ⟨rfl, rfl, rfl, trivial⟩⟩
    · have g' : i = m.length + 1 := by have h : ¬ (i : Int) ≤ ((m.map encRItem).length : Int) := of_decide_eq_false g; rw [lenR] at h; omega
      subst g'
      refine ⟨(), ?_, ⟨rfl, trivial⟩, ⟨rfl, trivial⟩⟩
      rw [← h2, Nat.sub_self]; rfl
  · intro _ h0
    rw [h0]; rfl
def endsS (m : List RItem) (s : List Id) (y : Id) : List Id :=
  match endR m y with
  | some e => if (objR m e).kind = 3 then addD s e else s
  | none => s
def endsR (m : List RItem) (frm : List Id) : List Id := frm.foldl (endsS m) []
theorem endsS_len (m : List RItem) (s : List Id) (y : Id) : (endsS m s y).length ≤ s.length + 1 := by
  unfold endsS
  cases endR m y with
  | none => simp
  | some e =>
    simp only
    split
    · exact addD_len s e
    · omega
theorem endsR_len (m : List RItem) (frm : List Id) : ∀ s : List Id, (frm.foldl (endsS m) s).length ≤ s.length + frm.length := by
  induction frm with
  | nil => simp
  | cons a l ih => intro s; have := ih (endsS m s a); have := endsS_len m s a; simp only [List.foldl_cons, List.length_cons]; omega
def edE (frm out : List Id) (i : Nat) : Env := [(1, .i (.slice (frm.map encId))), (2, .ptr 2 0), (5, .tok 900 32 (out.map encId)), (6, .i (.int .i64 (i : Int)))]
def edM (m : List RItem) : Mem := [(2, mS m), (900, .tip)]
set_option maxHeartbeats 1000000 in
theorem ref12_Ends_tok (m : List RItem) (h : Corr m) (hm : m.length < 1000000) (frm : List Id) (hf : frm.length < 1000000) : Body Pg Fn.ref12_Ends ∧ AC Pg G Fn.ref12_Ends ([encSt m, .slice (frm.map encId)].map .i) [] (.tok 1000 32 ((endsR m frm).map encId)) [(1000, .tip)] := by
  refine acC_of T_ok Fd.ref12_Ends rfl (by kernel_rfl) ?_
  refine LoopW.tok0 900 rfl rfl (env' := edE frm [] 0) (m' := edM m) ⟨⟨_, rfl, .refl _⟩, ⟨_, rfl, .refl _⟩, ⟨_, rfl, .tok 32⟩, ⟨_, rfl, .refl _⟩, trivial⟩ ⟨.inr ⟨by decide, _, rfl, .refl _⟩, .inl ⟨rfl, .tip⟩, trivial⟩ ?_
  refine loopX T_ok 0 (S := Nat) (S' := Unit) (fun i => edE frm ((frm.take i).foldl (endsS m) []) i) (fun _ => edM m) (fun i => frm.length - i) (fun i => i ≤ frm.length) (fun _ => [(5, .tok 900 32 ((endsR m frm).map encId))]) (fun _ => [(900, .tip)]) (fun _ => True) 0
    ⟨rfl, rfl, rfl, rfl, trivial⟩ ⟨rfl, rfl, trivial⟩ (by omega) ?_ ?_
  · intro i hi
    refine condP.split (fun g => ?_) (fun g => ?_)
    · have g' := idx_lt g
      have hs : (frm.take (i + 1)).foldl (endsS m) [] = endsS m ((frm.take i).foldl (endsS m) []) frm[i] := by rw [List.take_succ_eq_append_getElem g', List.foldl_append]; rfl
      have hl : ((frm.take i).foldl (endsS m) []).length ≤ i := by have := endsR_len m (frm.take i) []; simp at this; omega
      generalize (frm.take i).foldl (endsS m) [] = out at *
      have hE := ref12_End_ok (G := G) m h hm frm[i]
      have hd : endsS m out frm[i] = match endR m frm[i] with
        | some e => if (objR m e).kind = 3 then addD out e else out
        | none => out := rfl
      rw [hd] at hs
      refine drawW T_ok (by decide +kernel) ?_
      refine ⟨encId frm[i], idx_get encId g', ?_⟩
      cases he : endR m frm[i] with
      | none =>
        rw [he] at hE hs
        refine ⟨_, _, ⟨rfl, hE⟩, ?_⟩
        refine ⟨by kernel_rfl, ?_⟩
        refine ⟨_, _, _, pureCall (ref02_In_ok out Id.none (by omega)) rfl, ?_⟩
        refine ⟨i + 1, ⟨by omega, by omega⟩, ⟨rfl, rfl, ?_, i_succ (by omega), trivial⟩, ⟨rfl, rfl, trivial⟩⟩
        rw [hs]; rfl
      | some e =>
        rw [he] at hE hs
        refine ⟨_, _, ⟨rfl, hE⟩, ?_⟩
        refine ⟨by kernel_rfl, ?_⟩
        refine ⟨_, _, _, pureCall (ref02_In_ok out e (by omega)) rfl, ?_⟩
        simp only [addD] at hs
        cases hin : inB out e with
        | true =>
          rw [hin] at hs
          simp only [if_true, ite_self] at hs
          refine ⟨i + 1, ⟨by omega, by omega⟩, ⟨rfl, rfl, ?_, i_succ (by omega), trivial⟩, ⟨rfl, rfl, trivial⟩⟩
          rw [hs]; rfl
        | false =>
          rw [hin] at hs
          simp only [Bool.false_eq_true, if_false] at hs
          refine ⟨_, _, _, pureCall (ref11_Kind_ok m e hm) rfl, ?_⟩
          refine condP.split (fun g3 => ?_) (fun g3 => ?_)
          · have g3' : (objR m e).kind = 3 := by
              have h : (kindR m e == 3) = true := g3
              rw [kindR_eq] at h; exact eq_of_beq h
            rw [if_pos g3'] at hs
            refine ⟨⟨⟨hasSize_id _, hasSize_one (encId_len e)⟩, szOK (by simp; omega) (by kernel_rfl)⟩, ?_⟩
            refine ⟨i + 1, ⟨by omega, by omega⟩, ⟨rfl, rfl, ?_, i_succ (by omega), trivial⟩, ⟨rfl, rfl, trivial⟩⟩
            rw [hs]; exact tok_snoc
          · have g3' : (objR m e).kind ≠ 3 := by
              have h : (kindR m e == 3) = false := g3
              rw [kindR_eq] at h; simpa using h
            rw [if_neg g3'] at hs
            refine ⟨i + 1, ⟨by omega, by omega⟩, ⟨rfl, rfl, ?_, i_succ (by omega), trivial⟩, ⟨rfl, rfl, trivial⟩⟩
            rw [hs]; rfl
    · have g' := idx_ge g hi
      subst g'
      rw [List.take_length]
      exact ⟨(), trivial, ⟨rfl, trivial⟩, ⟨rfl, trivial⟩⟩
  · intro _ _
    exact ⟨[(1000, 900)], [], ⟨trivial, rfl, MemL.as ⟨⟨_, rfl, MLe.refl _⟩, trivial⟩ rfl, rfl⟩⟩
theorem ref12_Ends_ok (m : List RItem) (h : Corr m) (hm : m.length < 1000000) (frm : List Id) (hf : frm.length < 1000000) : PureC Pg G Fn.ref12_Ends [encSt m, .slice (frm.map encId)] (.slice ((endsR m frm).map encId)) :=
  .inl (AC.forget (ref12_Ends_tok m h hm frm hf))
end Go.Kn
set_option maxRecDepth 100000
namespace Go.Kn
open Go Go.Proofs
variable {G : Gl}
instance : Inhabited Id := ⟨Id.none⟩
def nodeC (y : Id) (o : Obj) : List IV := idC y ++ (encObj o).cells
def encNode (m : List RItem) (y : Id) : IV := .agg (nodeC y (objR m y))
theorem encNode_len (m : List RItem) (y : Id) : (encNode m y).cells.length = 104 := by simp [encNode, nodeC, encObj, IV.cells, idC, u8c]
def nodesP (m : List RItem) (R : List Id) : List PV := (R.map (encNode m)).map .i
theorem nodesP_get {m : List RItem} {R : List Id} {i : Nat} (h : i < R.length) : (nodesP m R)[i]? = some (.i (encNode m (gt0 R i))) := by simp [nodesP, h, gt0]
theorem nodesP_len (m : List RItem) (R : List Id) : (nodesP m R).length = R.length := by simp [nodesP]
theorem nodesP_swap (m : List RItem) (R : List Id) (i j : Nat) : ((nodesP m R).set i (.i (encNode m (gt0 R j)))).set j (.i (encNode m (gt0 R i))) = nodesP m (swapL R i j) := by
  simp only [nodesP, swapL, List.map_map, List.map_set, Function.comp]
def aheadB (m : List RItem) (a b : Id) : Bool := if (objR m a).time ≠ (objR m b).time then decide ((objR m a).time > (objR m b).time) else idLt a b
theorem ahead_ok (m : List RItem) : LtOK (aheadB m) := by
  refine ⟨fun a => ?_, fun a b h => ?_, fun a b c h1 h2 => ?_⟩
  · simp [aheadB, idLt]
  · unfold aheadB idLt at *
    by_cases e : (objR m a).time = (objR m b).time
    · simp [e] at *; omega
    · simp [e, Ne.symm e] at *; omega
  · unfold aheadB idLt at *
    by_cases e1 : (objR m b).time = (objR m a).time <;> by_cases e2 : (objR m c).time = (objR m b).time <;> by_cases e3 : (objR m c).time = (objR m a).time <;> simp_all <;> omega
def wkM (m : List RItem) (n : Nat) (R S : List Id) : Mem := [(1000, .var [.i (stR m), .vec 1001 104 0 n, .vec 1002 32 0 S.length]), (1001, .vec 104 (nodesP m R) none), (1002, .vec 32 (idsP S) none)]
theorem wkAs {m : List RItem} {n : Nat} {R S : List Id} {f : Nat → Nat} {mm : Mem} (h1 : ∃ o, lk (f 1000) mm = some o ∧ MLe o (renO f (.var [.i (stR m), .vec 1001 104 0 n, .vec 1002 32 0 S.length]))) (h2 : lk (f 1001) mm = some (.vec 104 (nodesP m R) none)) (h3 : lk (f 1002) mm = some (.vec 32 (idsP S) none))
    (h4 : injB f (wkM m n R S) = true) : MemAs f (wkM m n R S) mm := MemL.as ⟨h1, ⟨_, h2, MLe.vecEq rfl⟩, ⟨_, h3, MLe.vecEq rfl⟩, trivial⟩ h4
theorem queue_Len_ok (m : List RItem) (n : Nat) (R S : List Id) : Body Pg Fn.graph_queue_Len ∧ AC Pg G Fn.graph_queue_Len [.vec 1001 104 0 n] (wkM m n R S) (.i (.int .i64 (n : Int))) (wkM m n R S) := by
  refine acC_of T_ok Fd.graph_queue_Len rfl (by kernel_rfl) ?_
  exact retSame rfl (wkAs ⟨_, rfl, MLe.refl _⟩ rfl rfl rfl)
theorem bytesLess_val : ∀ (l r : List UInt8), l.length = r.length → Op.bytesLess l r = decide (valB l < valB r)
  | [], [], _ => by simp [Op.bytesLess, valB]
  | a :: l, b :: r, hl => by
    have hl' : l.length = r.length := by simpa using hl
    have ih := bytesLess_val l r hl'
    have h1 := valB_lt l
    have h2 := valB_lt r
    simp only [Op.bytesLess, valB, hl'] at *
    rw [ih]
    by_cases hab : a < b
    · have := val_step (UInt8.lt_iff_toNat_lt.1 hab) (p := 256 ^ r.length) (x := valB l) (y := valB r) h1
      simp [hab, this]
    · by_cases he : a = b
      · subst he
        simp [hab]
      · have hba : b < a := by
          rw [UInt8.lt_iff_toNat_lt] at hab ⊢
          have : a.toNat ≠ b.toNat := fun h => he (UInt8.toNat_inj.1 h)
          omega
        have := val_step (UInt8.lt_iff_toNat_lt.1 hba) (p := 256 ^ r.length) (x := valB r) (y := valB l) h2
        have hn : ¬ a.toNat * 256 ^ r.length + valB l < b.toNat * 256 ^ r.length + valB r := by omega
        simp [hab, he, hn]
  | [], _ :: _, h => by cases h
  | _ :: _, [], h => by cases h
theorem idC_take (x : Id) : (((idC x).map PV.i).drop 0).take 32 = (u8s x.bytes).map .i ∧ x.bytes.length = 32 := by
  refine ⟨?_, x.len⟩
  rw [← idC_u8s, List.drop_zero, List.take_of_length_le (by simp [idC, u8c])]
theorem sha_Less_ok (x y : Id) : PureC Pg G Fn.sha256_Less [encId x, encId y] (.bool (idLt x y)) := by
  refine pureC_of T_ok Fd.sha256_Less rfl (by kernel_rfl) ?_
  refine drawW T_ok (by decide +kernel) ?_
  refine ⟨⟨by decide, by decide, by decide, by decide⟩, ?_⟩
  refine ⟨x.bytes, idC_take x, ?_⟩
  refine ⟨⟨by decide, by decide, by decide, by decide⟩, ?_⟩
  refine ⟨y.bytes, idC_take y, ?_⟩
  refine ⟨by kernel_rfl, ?_⟩
  show some (IV.bool (Op.bytesLess x.bytes y.bytes)) = _
  rw [bytesLess_val _ _ (by rw [x.len, y.len])]; rfl
theorem queue_Less_pure (m : List RItem) (L : List Id) {i j : Nat} (hi : i < L.length) (hj : j < L.length) :
    Body Pg Fn.graph_queue_Less ∧ AC Pg G Fn.graph_queue_Less ([.slice (L.map (encNode m)), .int .i64 (i : Int), .int .i64 (j : Int)].map .i) [] (.i (.bool (aheadB m (gt0 L i) (gt0 L j)))) [] := by
  have gi : 0 ≤ (i : Int) ∧ (L.map (encNode m))[(i : Int).toNat]? = some (encNode m (gt0 L i)) := by rw [gt0_eq hi]; exact idx_get _ hi
  have gj : 0 ≤ (j : Int) ∧ (L.map (encNode m))[(j : Int).toNat]? = some (encNode m (gt0 L j)) := by rw [gt0_eq hj]; exact idx_get _ hj
  generalize gt0 L i = a at *
  generalize gt0 L j = b at *
  refine pureB_of T_ok Fd.graph_queue_Less rfl (by kernel_rfl) ?_
  refine CW.go T_ok ?_
  refine drawW T_ok (by decide +kernel) ?_
  refine ⟨_, gi, ?_⟩
  refine ⟨_, gj, ?_⟩
  refine ⟨by kernel_rfl, ?_⟩
  refine condP.split (fun g => ?_) (fun g => ?_)
  · have g' : (objR m a).time ≠ (objR m b).time := by
      have h : (((objR m a).time : Int) != ((objR m b).time : Int)) = true := g
      exact fun e => bne_iff_ne.1 h (by rw [e])
    refine drawW T_ok (by decide +kernel) ?_
    refine ⟨_, gi, ?_⟩
    refine ⟨_, gj, ?_⟩
    refine ⟨by kernel_rfl, ?_⟩
    rw [aheadB, if_pos g']
    show some (IV.bool (decide (((objR m a).time : Int) > ((objR m b).time : Int)))) = _
    simp
  · have g' : (objR m a).time = (objR m b).time := by
      have h : (((objR m a).time : Int) != ((objR m b).time : Int)) = false := g
      have h2 : ((objR m a).time : Int) = ((objR m b).time : Int) := by simpa using h
      omega
    refine drawW T_ok (by decide +kernel) ?_
    refine ⟨_, gi, ?_⟩
    refine ⟨_, gj, ?_⟩
    refine ⟨_, _, ⟨rfl, sha_Less_ok a b⟩, ?_⟩
    refine ⟨by kernel_rfl, ?_⟩
    rw [aheadB, if_neg (by simpa using g')]
    rfl
theorem queue_Less_frz (m : List RItem) (R : List Id) {n i j : Nat} {om : Mem} (h : lk 1001 om = some (.vec 104 (nodesP m R) none)) (hn : n ≤ R.length) (hi : i < n) (hj : j < n) :
    FrzC Pg G Fn.graph_queue_Less [.slice ((R.map (encNode m)).take n), .int .i64 (i : Int), .int .i64 (j : Int)] (.bool (aheadB m (gt0 R i) (gt0 R j))) [.vec 1001 104 0 n, .i (.int .i64 (i : Int)), .i (.int .i64 (j : Int))] om := by
  have hl : (R.take n).length = n := by simp; omega
  have hg : ∀ k, k < n → gt0 (R.take n) k = gt0 R k := fun k hk => by
    rw [gt0, gt0, List.getD_eq_getElem?_getD, List.getD_eq_getElem?_getD, List.getElem?_take, if_pos hk]
  have := queue_Less_pure (G := G) m (R.take n) (i := i) (j := j) (by omega) (by omega)
  rw [hg i hi, hg j hj, List.map_take] at this
  exact ⟨this, rfl, FrzAll.args ⟨.vecT h (by simpa using hn), .iv rfl, .iv rfl, rfl⟩⟩
set_option maxHeartbeats 1000000 in
theorem queue_Swap_ok (m : List RItem) (R S : List Id) {n i j : Nat} (hn : n ≤ R.length) (hi : i < n) (hj : j < n) :
    Body Pg Fn.graph_queue_Swap ∧ AC Pg G Fn.graph_queue_Swap [.vec 1001 104 0 n, .i (.int .i64 (i : Int)), .i (.int .i64 (j : Int))] (wkM m n R S) (.i (.tup [])) (wkM m n (swapL R i j) S) := by
  refine acC_of T_ok Fd.graph_queue_Swap rfl (by kernel_rfl) ?_
  refine drawW T_ok (by decide +kernel) ?_
  refine ⟨⟨by omega, by omega⟩, ?_⟩
  refine ⟨encNode m (gt0 R j), ?_, ?_⟩
  · show (nodesP m R)[addS 0 ((j : Nat) : Int).toNat]? = _
    rw [addS_eq, Nat.zero_add, Int.toNat_natCast]; exact nodesP_get (by omega)
  refine ⟨⟨by omega, by omega⟩, ?_⟩
  refine ⟨encNode m (gt0 R i), ?_, ?_⟩
  · show (nodesP m R)[addS 0 ((i : Nat) : Int).toNat]? = _
    rw [addS_eq, Nat.zero_add, Int.toNat_natCast]; exact nodesP_get (by omega)
  refine ⟨⟨by omega, by omega⟩, ?_⟩
  refine ⟨?_, ?_⟩
  · show addS 0 ((i : Nat) : Int).toNat < (nodesP m R).length
    rw [addS_eq, Nat.zero_add, Int.toNat_natCast, nodesP_len]; omega
  refine ⟨⟨by omega, by omega⟩, ?_⟩
  refine ⟨?_, ?_⟩
  · show addS 0 ((j : Nat) : Int).toNat < ((nodesP m R).set (addS 0 ((i : Nat) : Int).toNat) (.i (encNode m (gt0 R j)))).length
    rw [List.length_set, addS_eq, Nat.zero_add, Int.toNat_natCast, nodesP_len]; omega
  refine ⟨by kernel_rfl, ?_⟩
  refine retSame (ps := []) ⟨[], rfl, rfl⟩ (wkAs ⟨_, rfl, MLe.refl _⟩ ?_ rfl rfl)
  rw [← nodesP_swap]
  show some (MO.vec 104 (((nodesP m R).set (addS 0 ((i : Nat) : Int).toNat) (.i (encNode m (gt0 R j)))).set (addS 0 ((j : Nat) : Int).toNat) (.i (encNode m (gt0 R i)))) none) = _
  rw [addS_eq, addS_eq, Nat.zero_add, Nat.zero_add, Int.toNat_natCast, Int.toNat_natCast]
theorem nodesP_snoc (m : List RItem) (R : List Id) (n : Nat) (y : Id) : (nodesP m R).take n ++ [PV.i (encNode m y)] = nodesP m (R.take n ++ [y]) := by
  simp [nodesP, List.map_take]
theorem queue_Push_ok (m : List RItem) (R S : List Id) {n : Nat} (hn : n ≤ R.length) (hR : R.length < 1000000) (y : Id) :
    Body Pg Fn.graph_queue_Push ∧ AC Pg G Fn.graph_queue_Push [.ptr 1000 1, .i (.iface Tn.graph_node (encNode m y))] (wkM m n R S) (.i (.tup [])) (wkM m (n + 1) (R.take n ++ [y]) S) := by
  refine acC_of T_ok Fd.graph_queue_Push rfl (by kernel_rfl) ?_
  refine drawW T_ok (by decide +kernel) ?_
  refine ⟨hasSize_one (encNode_len m y), nodesP m (R.take n ++ [y]), n + 1, ⟨by rw [nodesP_len]; exact hn, szOK (by simp; omega) (by kernel_rfl), nodesP_snoc m R n y, rfl⟩, ?_⟩
  refine ⟨by kernel_rfl, ?_⟩
  exact retSame (ps := []) ⟨[], rfl, rfl⟩ (wkAs ⟨_, rfl, MLe.refl _⟩ rfl rfl rfl)
theorem queue_Pop_ok (m : List RItem) (R S : List Id) {n : Nat} (h0 : 0 < n) (hn : n ≤ R.length) (hR : R.length < 1000000) :
    Body Pg Fn.graph_queue_Pop ∧ AC Pg G Fn.graph_queue_Pop [.ptr 1000 1] (wkM m n R S) (.i (.iface Tn.graph_node (encNode m (gt0 R (n - 1))))) (wkM m (n - 1) R S) := by
  have hw : IntKind.i64.wrap ((n : Int) - 1) = ((n - 1 : Nat) : Int) := by rw [wrap_i64 (by omega) (by omega)]; omega
  refine acC_of T_ok Fd.graph_queue_Pop rfl (by kernel_rfl) ?_
  refine ⟨?_, ?_⟩
  · show 0 ≤ IntKind.i64.wrap ((n : Int) - 1) ∧ IntKind.i64.wrap ((n : Int) - 1) < (n : Int)
    rw [hw]; omega
  refine ⟨encNode m (gt0 R (n - 1)), ?_, ?_⟩
  · show (nodesP m R)[addS 0 (IntKind.i64.wrap ((n : Int) - 1)).toNat]? = _
    rw [hw, addS_eq, Nat.zero_add, Int.toNat_natCast]; exact nodesP_get (by omega)
  refine ⟨?_, 0, n - 1, ⟨rfl, ?_⟩, ?_, ?_⟩
  · show 0 ≤ IntKind.i64.wrap ((n : Int) - 1)
    rw [hw]; omega
  · show lenB _ none (some (IntKind.i64.wrap ((n : Int) - 1))) = _
    rw [hw]; simp [lenB, endB]
  · show IntKind.i64.wrap ((n : Int) - 1) ≤ (n : Int)
    rw [hw]; omega
  exact retSame rfl (wkAs ⟨_, rfl, MLe.refl _⟩ rfl rfl rfl)
end Go.Kn
