/- Kn, part 16: '==' of structs and arrays of bools, numbers and strings. No program here. -/
import Derived.Test.YtadcjononmlofaaDoorKnLib
import Derived.DeepKeys
set_option autoImplicit false
namespace Go.Kn
open Go

def scV : IV → Value
  | .bool b => .bool b
  | .int k n => .int k n
  | .str s => .string ⟨s.toArray⟩
  | _ => undef

def scEq : IV → IV → Bool
  | .bool a, .bool b => a == b
  | .int _ a, .int _ b => a == b
  | .str a, .str b => a == b
  | _, _ => false

def cellsEq : List IV → List IV → Bool
  | [], [] => true
  | x :: xs, y :: ys => scEq x y && cellsEq xs ys
  | _, _ => false

theorem cellsEq_append : ∀ {a c : List IV} (b d : List IV), a.length = c.length → cellsEq (a ++ b) (c ++ d) = (cellsEq a c && cellsEq b d)
  | [], [], b, d, _ => by simp [cellsEq]
  | x :: a, y :: c, b, d, h => by
    simp only [List.cons_append, cellsEq, cellsEq_append b d (Nat.succ.inj h), Bool.and_assoc]
  | [], _ :: _, _, _, h => by cases h
  | _ :: _, [], _, _, h => by cases h

def tile (T : Ty) (g : Nat → List IV → Bool) (xs : List IV) : Nat → List Field → Bool
  | k, [] => Nat.beq k xs.length
  | k, f :: fs => f.name != "_" && Nat.beq f.offset k && (match lk f.type T.t with
    | some te => g f.type ((xs.drop k).take te.size) && Nat.ble (k + te.size) xs.length && tile T g xs (k + te.size) fs
    | none => false)

def items (g : List IV → Bool) (c : Nat) (xs : List IV) : Nat → Nat → Bool
  | _, 0 => true
  | k, m + 1 => g ((xs.drop (k * c)).take c) && items g c xs (k + 1) m

/-- Are these the cells of a value of type t, of bools, numbers and strings alone? -/
def shp (P : Program) (T : Ty) : Nat → Nat → List IV → Bool
  | 0, _, _ => false
  | d + 1, t, xs => match lk t T.t with
    | some ti => match ti.d with
      | .bool => (match xs with | [.bool _] => true | _ => false)
      | .int q => (match xs with | [.int k _] => Nat.beq (kIx q) (kIx k) | _ => false)
      | .string => (match xs with | [.str _] => true | _ => false)
      | .array n e => (match lk e T.t with
        | some te => Nat.beq xs.length (n * te.size) && items (shp P T d e) te.size xs 0 n
        | none => false)
      | .struct fs => !P.stoodInHeld t && tile T (shp P T d) xs 0 fs.toList
      | _ => false
    | none => false

def mkV (T : Ty) (t : Nat) (c : List IV) : Value :=
  match lk t T.t with
  | some te => bif isAggD te.d then .agg (c.map scV).toArray else (match c with | [x] => scV x | _ => undef)
  | none => undef

section
variable {P : Program} {T : Ty}

theorem cellsOf_eq {t : Nat} {ti : TI} (h : TOK1 P t ti) : P.cellsOf t = ti.size := by
  obtain ⟨i, hi, hs, _⟩ := h.info
  simp [Program.cellsOf, hi, hs]

theorem part_ok (hT : TOK P T) {d e off : Nat} {te : TI} (he : lk e T.t = some te) {xs : List IV} (hs : shp P T d e ((xs.drop off).take te.size) = true) (w : World) :
    (part e (xs.map scV).toArray off).run P w = .ok (mkV T e ((xs.drop off).take te.size)) w := by
  have h1 := hT e te he
  simp only [part, Sem.run_bind, h1.run_isAgg, Result.andThen_ok, mkV, he]
  cases hb : isAggD te.d with
  | true =>
    simp only [if_true, Sem.run_bind, h1.run_size, Result.andThen_ok, Sem.run_pure, cond_true]
    congr 2
    apply Array.ext'
    rw [Array.toList_extract]
    simp [List.extract, List.map_take, List.map_drop]
  | false =>
    simp only [Bool.false_eq_true, if_false, cond_false]
    have hone : ∃ x, (xs.drop off).take te.size = [x] := by
      cases d with
      | zero => simp [shp] at hs
      | succ d =>
        simp only [shp, he] at hs
        split at hs
        all_goals first
          | (split at hs; rename_i h; exact ⟨_, h⟩; cases hs)
          | (rename_i h; rw [h] at hb; cases hb; done)
          | (cases hs; done)
    obtain ⟨x, hx⟩ := hone
    rw [hx]
    have hg : xs[off]? = some x := by
      have : ((xs.drop off).take te.size)[0]? = some x := by rw [hx]; rfl
      rw [List.getElem?_take] at this
      split at this
      · simpa using this
      · cases this
    simp [hg]

theorem items_ok {d e c n : Nat} {xs ys : List IV} (hx : xs.length = n * c) (hy : ys.length = n * c) (w : World)
    (step : ∀ k, k < n → ∃ a b, (part e (xs.map scV).toArray (k * c)).run P w = .ok a w ∧ (part e (ys.map scV).toArray (k * c)).run P w = .ok b w ∧
      (Op.equalIn d e a b).run P w = .ok (cellsEq ((xs.drop (k * c)).take c) ((ys.drop (k * c)).take c)) w) :
    ∀ (m k : Nat), k + m = n → (Op.eqItems d e c (xs.map scV).toArray (ys.map scV).toArray (List.range' k m)).run P w = .ok (cellsEq (xs.drop (k * c)) (ys.drop (k * c))) w
  | 0, k, h => by
    have : k = n := by omega
    subst this
    rw [List.drop_of_length_le (by omega), List.drop_of_length_le (by omega)]
    simp [Op.eqItems, cellsEq]
  | m + 1, k, h => by
    obtain ⟨a, b, h1, h2, h3⟩ := step k (by omega)
    have hle : k * c + c ≤ n * c := by
      have := Nat.mul_le_mul_right c (show k + 1 ≤ n by omega)
      rw [Nat.add_mul] at this; omega
    have hsp : ∀ zs : List IV, zs.drop (k * c) = (zs.drop (k * c)).take c ++ zs.drop ((k + 1) * c) := fun zs => by
      rw [Nat.add_mul, Nat.one_mul, ← List.drop_drop, List.take_append_drop]
    have hce : cellsEq (xs.drop (k * c)) (ys.drop (k * c)) = (cellsEq ((xs.drop (k * c)).take c) ((ys.drop (k * c)).take c) && cellsEq (xs.drop ((k + 1) * c)) (ys.drop ((k + 1) * c))) := by
      conv => lhs; rw [hsp xs, hsp ys]
      exact cellsEq_append _ _ (by simp; omega)
    rw [hce, List.range'_succ]
    simp only [Op.eqItems, Sem.run_bind, h1, h2, h3, Result.andThen_ok]
    cases hr : cellsEq ((xs.drop (k * c)).take c) ((ys.drop (k * c)).take c) with
    | false => simp
    | true =>
      simp only [Bool.not_true, Bool.false_eq_true, if_false, Bool.true_and]
      exact items_ok hx hy w step m (k + 1) (by omega)

theorem items_get {g : List IV → Bool} {c : Nat} {xs : List IV} : ∀ {m k : Nat}, items g c xs k m = true → ∀ j, k ≤ j → j < k + m → g ((xs.drop (j * c)).take c) = true
  | 0, k, _, j, h1, h2 => by omega
  | m + 1, k, h, j, h1, h2 => by
    simp only [items, Bool.and_eq_true] at h
    by_cases hj : j = k
    · subst hj; exact h.1
    · exact items_get h.2 j (by omega) (by omega)

theorem tile_ok (hT : TOK P T) {d D : Nat} {xs ys : List IV} (hl : xs.length = ys.length) (w : World)
    (IH : ∀ (t : Nat) (a b : List IV), shp P T d t a = true → shp P T d t b = true → a.length = b.length → (Op.equalIn (D + d) t (mkV T t a) (mkV T t b)).run P w = .ok (cellsEq a b) w) :
    ∀ (fs : List Field) (k : Nat), tile T (shp P T d) xs k fs = true → tile T (shp P T d) ys k fs = true →
      (Op.eqFields (D + d) (xs.map scV).toArray (ys.map scV).toArray fs).run P w = .ok (cellsEq (xs.drop k) (ys.drop k)) w
  | [], k, h1, h2 => by
    have := Nat.eq_of_beq_eq_true h1
    rw [List.drop_of_length_le (by omega), List.drop_of_length_le (by omega)]
    simp [Op.eqFields, cellsEq]
  | f :: fs, k, h1, h2 => by
    simp only [tile, Bool.and_eq_true] at h1 h2
    obtain ⟨⟨hn, ho⟩, h1⟩ := h1
    obtain ⟨_, h2⟩ := h2
    have ho := Nat.eq_of_beq_eq_true ho
    cases he : lk f.type T.t with
    | none => rw [he] at h1; cases h1
    | some te =>
      rw [he] at h1 h2
      simp only [Bool.and_eq_true] at h1 h2
      obtain ⟨⟨a1, a2⟩, a3⟩ := h1
      obtain ⟨⟨b1, b2⟩, b3⟩ := h2
      have a2 := Nat.le_of_ble_eq_true a2
      have b2 := Nat.le_of_ble_eq_true b2
      have p1 := part_ok hT (off := k) he a1 w
      have p2 := part_ok hT (off := k) he b1 w
      have p3 := IH f.type _ _ a1 b1 (by simp; omega)
      have hsp : ∀ zs : List IV, zs.drop k = (zs.drop k).take te.size ++ zs.drop (k + te.size) := fun zs => by
        rw [← List.drop_drop, List.take_append_drop]
      have hce : cellsEq (xs.drop k) (ys.drop k) = (cellsEq ((xs.drop k).take te.size) ((ys.drop k).take te.size) && cellsEq (xs.drop (k + te.size)) (ys.drop (k + te.size))) := by
        conv => lhs; rw [hsp xs, hsp ys]
        exact cellsEq_append _ _ (by simp; omega)
      have hn' : f.name ≠ "_" := by simpa using hn
      rw [hce]
      simp only [Op.eqFields, if_pos hn', Sem.run_bind, ho, p1, p2, p3, Result.andThen_ok]
      cases hr : cellsEq ((xs.drop k).take te.size) ((ys.drop k).take te.size) with
      | false => simp
      | true =>
        simp only [Bool.not_true, Bool.false_eq_true, if_false, Bool.true_and]
        exact tile_ok hT hl w IH fs (k + te.size) a3 b3

theorem shp_len : ∀ (d t : Nat) (ti : TI) (xs : List IV), lk t T.t = some ti → isAggD ti.d = false → shp P T d t xs = true → ∃ x, xs = [x]
  | 0, _, _, _, _, _, h => by simp [shp] at h
  | d + 1, t, ti, xs, ht, hb, h => by
    simp only [shp, ht] at h
    split at h
    all_goals first
      | (split at h; exact ⟨_, rfl⟩; cases h)
      | (rename_i hd; rw [hd] at hb; cases hb; done)
      | (cases h; done)

theorem eq_ok (hT : TOK P T) : ∀ (d t : Nat) (xs ys : List IV), shp P T d t xs = true → shp P T d t ys = true → xs.length = ys.length → ∀ (D : Nat) (w : World), (Op.equalIn (D + d) t (mkV T t xs) (mkV T t ys)).run P w = .ok (cellsEq xs ys) w
  | 0, _, _, _, h, _, _, _, _ => by simp [shp] at h
  | d + 1, t, xs, ys, h1, h2, hl, D, w => by
    cases ht : lk t T.t with
    | none => simp [shp, ht] at h1
    | some ti =>
      have hti := hT t ti ht
      simp only [shp, ht] at h1 h2
      rw [show D + (d + 1) = (D + d) + 1 from rfl]
      simp only [mkV, ht]
      cases hd : ti.d with
      | bool =>
        simp only [hd] at h1 h2
        split at h1
        · split at h2
          · simp only [isAggD, cond_false, scV]
            rw [run_equalIn_bool w _ t _ _ (by rw [hti.und, hd])]
            simp [cellsEq, scEq]
          · cases h2
        · cases h1
      | int q =>
        simp only [hd] at h1 h2
        split at h1
        · split at h2
          · have e1 := kIx_inj h1
            have e2 := kIx_inj h2
            subst e1; subst e2
            simp only [isAggD, cond_false, scV]
            rw [run_equalIn_int w _ t _ _ _ _ (by rw [hti.und, hd])]
            simp [cellsEq, scEq]
          · cases h2
        · cases h1
      | string =>
        simp only [hd] at h1 h2
        split at h1
        · split at h2
          · simp only [isAggD, cond_false, scV]
            rw [run_equalIn_string w _ t _ _ (by rw [hti.und, hd])]
            simp only [toList_mk, cellsEq, scEq, Bool.and_true]
          · cases h2
        · cases h1
      | array n e =>
        simp only [hd] at h1 h2
        split at h1
        · rename_i te he
          rw [he] at h2
          simp only [Bool.and_eq_true] at h1 h2
          obtain ⟨a1, a2⟩ := h1
          obtain ⟨b1, b2⟩ := h2
          have a1 := Nat.eq_of_beq_eq_true a1
          have b1 := Nat.eq_of_beq_eq_true b1
          obtain ⟨i, hi, _⟩ := (hT e te he).info
          simp only [isAggD, cond_true]
          rw [run_equalIn_array w _ _ _ (by rw [hti.und, hd]) hi, cellsOf_eq (hT e te he), List.range_eq_range']
          have := items_ok (P := P) (d := D + d) (e := e) a1 b1 w (fun k hk => by
            have g1 := items_get a2 k (by omega) (by omega)
            have g2 := items_get b2 k (by omega) (by omega)
            exact ⟨_, _, part_ok hT he g1 w, part_ok hT he g2 w, eq_ok hT d e _ _ g1 g2 (by simp; omega) D w⟩) n 0 (by omega)
          simpa using this
        · cases h1
      | struct fs =>
        simp only [hd, Bool.and_eq_true, Bool.not_eq_true'] at h1 h2
        have hf : P.fieldsOf t = fs := by simp [Program.fieldsOf, hti.und, hd]
        simp only [isAggD, cond_true]
        rw [run_equalIn_struct w (D + d) t _ _ (by rw [hf, hti.und, hd]) h1.1, hf]
        have := tile_ok hT (D := D) hl w (fun t a b ha hb hab => eq_ok hT d t a b ha hb hab D w) fs.toList 0 h1.2 h2.2
        simpa using this
      | _ => simp only [hd] at h1; cases h1

theorem rel_scs {h : Hp} {xs : List IV} {v : Value} (r : RelI h (.agg xs) v) (hs : ∀ x ∈ xs, ∀ u, RelI h x u → u = scV x) : v = .agg (xs.map scV).toArray := by
  cases r with
  | agg cs vs hl h1 hr =>
    congr 1
    apply Array.ext'
    simp only []
    apply List.ext_getElem?
    intro i
    cases hv : vs[i]? with
    | none =>
      have : xs[i]? = none := by
        rw [List.getElem?_eq_none_iff] at hv ⊢; omega
      simp [this]
    | some u =>
      have hi := (List.getElem?_eq_some_iff.1 hv).1
      have hx : xs[i]? = some xs[i] := List.getElem?_eq_getElem (by omega)
      have := hs xs[i] (List.getElem_mem _) u (hr i _ u hx hv)
      simp [hx, this]

def isSc : IV → Bool
  | .bool _ => true
  | .int _ _ => true
  | .str _ => true
  | _ => false

theorem rel_sc {h : Hp} {x : IV} {u : Value} (hx : isSc x = true) (r : RelI h x u) : u = scV x := by
  cases r <;> first | rfl | (simp [isSc] at hx)

theorem eqAgg (hT : TOK P T) {d t : Nat} {ti : TI} {xs ys : List IV} {b : Bool} (ht : lk t T.t = some ti) (ha : isAggD ti.d = true) (hd : d ≤ 10000) (hg : P.eqGuardType P.depth t = false) (h1 : shp P T d t xs = true) (h2 : shp P T d t ys = true)
    (hs1 : (xs.all isSc) = true) (hs2 : (ys.all isSc) = true) (hl : xs.length = ys.length) (hb : cellsEq xs ys = b) : EqOK P t (.i (.agg xs)) (.i (.agg ys)) b := by
  subst hb
  intro σ w u v x y hu hv
  have hu' : u = .agg (xs.map scV).toArray := by
    cases hu with | i _ _ r => exact rel_scs r fun x hx u r => rel_sc (List.all_eq_true.1 hs1 x hx) r
  have hv' : v = .agg (ys.map scV).toArray := by
    cases hv with | i _ _ r => exact rel_scs r fun x hx u r => rel_sc (List.all_eq_true.1 hs2 x hx) r
  subst hu'; subst hv'
  have key := eq_ok hT d t xs ys h1 h2 hl (10000 - d) w
  simp only [mkV, ht, ha, cond_true, show 10000 - d + d = 10000 by omega] at key
  have g : ∀ op : BinOp, (op = .eql ∨ op = .neq) → (eqGuard op t x y (.agg (xs.map scV).toArray) (.agg (ys.map scV).toArray)).run P w = .ok () w := fun op ho => by
    rcases ho with rfl | rfl <;> simp [eqGuard, hg]
  constructor
  · rw [Sem.run_bind, g .eql (.inl rfl), Result.andThen_ok, run_eql_struct, key]; rfl
  · rw [Sem.run_bind, g .neq (.inr rfl), Result.andThen_ok]
    simp only [binOp, Op.equal, Sem.run_bind]
    rw [show Op.maxDepth = 10000 from rfl, key]
    rfl
end
end Go.Kn
