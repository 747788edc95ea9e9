/- The program's store: where an id stands. -/
import Derived.Test.YtadcjononmlofaaDoorKnCmp
set_option autoImplicit false
namespace Go.Kn
open Go Go.Proofs

variable {G : Gl}

/-- A text as a number, base 256. -/
def valB : List UInt8 → Nat
  | [] => 0
  | a :: r => a.toNat * 256 ^ r.length + valB r

theorem valB_lt : ∀ l : List UInt8, valB l < 256 ^ l.length
  | [] => by simp [valB]
  | a :: r => by
    have := valB_lt r
    have ha := a.toNat_lt
    simp only [valB, List.length_cons, Nat.pow_succ]
    have : a.toNat * 256 ^ r.length + 256 ^ r.length ≤ 256 ^ r.length * 256 := by
      have h : (a.toNat + 1) * 256 ^ r.length ≤ 256 * 256 ^ r.length := Nat.mul_le_mul_right _ (by omega)
      rw [Nat.add_mul, Nat.one_mul, Nat.mul_comm 256] at h
      exact h
    omega

theorem val_step {a b : Nat} (h : a < b) {p x y : Nat} (hx : x < p) : a * p + x < b * p + y := by
  have h1 : (a + 1) * p ≤ b * p := Nat.mul_le_mul_right _ h
  rw [Nat.add_mul, Nat.one_mul] at h1
  omega

theorem cmpL_val : ∀ (l r : List UInt8), l.length = r.length → (cmpL l r < 0 ↔ valB l < valB r) ∧ (0 < cmpL l r ↔ valB r < valB l)
  | [], [], _ => by simp [cmpL, valB]
  | a :: l, b :: r, hl => by
    have hl' : l.length = r.length := by simpa using hl
    have ih := cmpL_val l r hl'
    have h1 := valB_lt l
    have h2 := valB_lt r
    simp only [cmpL]
    by_cases hc : cmpB a b = 0
    · rw [if_pos hc]
      have := (cmpB_zero a b).1 hc
      subst this
      simp only [valB, hl']
      exact ⟨ih.1.trans (by omega), ih.2.trans (by omega)⟩
    · rw [if_neg hc]
      have hne : a ≠ b := fun h => hc ((cmpB_zero a b).2 h)
      simp only [valB, hl'] at *
      by_cases hab : a < b
      · have e : cmpB a b = -1 := by simp [cmpB, hab]
        have := val_step (UInt8.lt_iff_toNat_lt.1 hab) (p := 256 ^ r.length) (x := valB l) (y := valB r) h1
        rw [e]; omega
      · have hba : b < a := by
          rw [UInt8.lt_iff_toNat_lt] at hab ⊢
          have : a.toNat ≠ b.toNat := fun h => hne (UInt8.toNat_inj.1 h)
          omega
        have e : cmpB a b = 1 := by simp [cmpB, hab, hba]
        have := val_step (UInt8.lt_iff_toNat_lt.1 hba) (p := 256 ^ r.length) (x := valB r) (y := valB l) h2
        rw [e]; omega
  | [], _ :: _, h => by cases h
  | _ :: _, [], h => by cases h

theorem valB_inj : ∀ (l r : List UInt8), l.length = r.length → valB l = valB r → l = r
  | [], [], _, _ => rfl
  | a :: l, b :: r, hl, h => by
    have hl' : l.length = r.length := by simpa using hl
    have h1 := valB_lt l
    have h2 := valB_lt r
    simp only [valB, hl'] at h h1
    have hab : a.toNat = b.toNat := by
      rcases Nat.lt_trichotomy a.toNat b.toNat with hlt | heq | hlt
      · have := val_step hlt (p := 256 ^ r.length) (x := valB l) (y := valB r) h1; omega
      · exact heq
      · have := val_step hlt (p := 256 ^ r.length) (x := valB r) (y := valB l) h2; omega
    rw [hab] at h
    rw [UInt8.toNat_inj.1 hab, valB_inj l r hl' (by omega)]
  | [], _ :: _, h, _ => by cases h
  | _ :: _, [], h, _ => by cases h

def Id.key (x : Id) : Nat := valB x.bytes
theorem Id.key_inj {x y : Id} (h : x.key = y.key) : x = y := Id.ext (valB_inj _ _ (by rw [x.len, y.len]) h)
theorem idCmp_lt (x y : Id) : idCmp x y < 0 ↔ x.key < y.key := (cmpL_val _ _ (by rw [x.len, y.len])).1
theorem idCmp_gt (x y : Id) : 0 < idCmp x y ↔ y.key < x.key := (cmpL_val _ _ (by rw [x.len, y.len])).2
theorem idCmp_zero (x y : Id) : idCmp x y = 0 ↔ x = y := by
  constructor
  · intro h
    have h1 := idCmp_lt x y
    have h2 := idCmp_gt x y
    exact Id.key_inj (by omega)
  · rintro rfl
    have h1 := idCmp_lt x x
    have h2 := idCmp_gt x x
    omega

def Rising (l : List Item) : Prop := l.Pairwise fun a b => a.id.key < b.id.key
def lowI (l : List Item) (y : Id) : Nat := (l.takeWhile fun a => decide (a.id.key < y.key)).length
def hasI (l : List Item) (y : Id) : Bool := l.any fun a => decide (a.id = y)

theorem takeWhile_len {α : Type} (p : α → Bool) : ∀ (l : List α) (i : Nat), i ≤ l.length → (∀ (k : Nat) (x : α), k < i → l[k]? = some x → p x = true) → (∀ (k : Nat) (x : α), i ≤ k → l[k]? = some x → p x = false) → (l.takeWhile p).length = i
  | [], i, h, _, _ => by simp at h; simp [h]
  | a :: l, 0, _, _, h2 => by
    have := h2 0 a (Nat.le_refl _) rfl
    simp [this]
  | a :: l, i + 1, h, h1, h2 => by
    have ha := h1 0 a (by omega) rfl
    rw [List.takeWhile_cons_of_pos ha, List.length_cons, takeWhile_len p l i (by simpa using h) (fun k x hk e => h1 (k + 1) x (by omega) e) (fun k x hk e => h2 (k + 1) x (by omega) e)]

theorem lowI_eq {l : List Item} {y : Id} {i : Nat} (h : i ≤ l.length) (h1 : ∀ (k : Nat) (x : Item), k < i → l[k]? = some x → x.id.key < y.key) (h2 : ∀ (k : Nat) (x : Item), i ≤ k → l[k]? = some x → y.key ≤ x.id.key) : lowI l y = i :=
  takeWhile_len _ l i h (fun k x hk e => decide_eq_true (h1 k x hk e)) (fun k x hk e => decide_eq_false (by have := h2 k x hk e; omega))

theorem Rising.get {l : List Item} (h : Rising l) {i j : Nat} {a b : Item} (hij : i < j) (ha : l[i]? = some a) (hb : l[j]? = some b) : a.id.key < b.id.key := by
  obtain ⟨hi, rfl⟩ := List.getElem?_eq_some_iff.1 ha
  obtain ⟨hj, rfl⟩ := List.getElem?_eq_some_iff.1 hb
  exact List.pairwise_iff_getElem.1 h i j hi hj hij

def itemsP (l : List Item) : List PV := (l.map encItem).map .i
def rowM (l : List Item) : Mem := [(1001, .vec 33 (itemsP l) none)]

theorem itemsP_get {l : List Item} {i : Nat} {x : Item} (h : l[i]? = some x) : (itemsP l)[i]? = some (.i (encItem x)) := by simp [itemsP, h]

theorem half {i j : Nat} (h : i + j < 1000000000) : IntKind.i64.wrap ((IntKind.u64.wrap (IntKind.i64.wrap ((i : Int) + (j : Int)))).fdiv (2 ^ (min (1 : Int).toNat 64))) = (((i + j) / 2 : Nat) : Int) := by
  rw [wrap_i64 (a := (i : Int) + j) (by omega) (by omega), wrap_u64 (by omega) (by omega)]
  rw [show (2 : Int) ^ (min (1 : Int).toNat 64) = 2 by decide, Int.fdiv_eq_ediv_of_nonneg _ (by omega), wrap_i64 (by omega) (by omega)]
  omega

def bsE (l : List Item) (i j : Nat) : Env := [(0, .i (.slice (l.map encItem))), (2, .i (.func (.func Fn.store_Store_place_c1) [])), (4, .ptr 4 0), (8, .i (.int .i64 (l.length : Int))), (9, .i (.int .i64 (i : Int))), (10, .i (.int .i64 (j : Int)))]
def bsM (y : Id) : Mem := [(4, .var ((idC y).map .i))]

theorem binarySearch_ok (l : List Item) (y : Id) (hr : Rising l) (hl : l.length < 1000000) : PureC Pg G Fn.slices_BinarySearchFunc_store_item_api_Id [.slice (l.map encItem), encId y, .func (.func Fn.store_Store_place_c1) []] (.tup [.int .i64 (lowI l y : Int), .bool (hasI l y)]) := by
  refine pureW_of T_ok Fd.slices_BinarySearchFunc_store_item_api_Id rfl (by kernel_rfl) ?_
  refine CW.next T_ok ?_
  refine CW.next T_ok ?_
  refine CW.next T_ok ?_
  refine CW.cut T_ok (S := Nat) (fun i => bsE l i i) (fun _ => bsM y)
    (fun i => i ≤ l.length ∧ (∀ (k : Nat) (x : Item), k < i → l[k]? = some x → x.id.key < y.key) ∧ (∀ (k : Nat) (x : Item), i ≤ k → l[k]? = some x → y.key ≤ x.id.key)) ?_ ?_
  · refine loopX T_ok 0 (S := Nat × Nat) (S' := Nat) (fun s => bsE l s.1 s.2) (fun _ => bsM y) (fun s => s.2 - s.1)
      (fun s => s.1 ≤ s.2 ∧ s.2 ≤ l.length ∧ (∀ (k : Nat) (x : Item), k < s.1 → l[k]? = some x → x.id.key < y.key) ∧ (∀ (k : Nat) (x : Item), s.2 ≤ k → l[k]? = some x → y.key ≤ x.id.key))
      (fun i => bsE l i i) (fun _ => bsM y) (fun i => i ≤ l.length ∧ (∀ (k : Nat) (x : Item), k < i → l[k]? = some x → x.id.key < y.key) ∧ (∀ (k : Nat) (x : Item), i ≤ k → l[k]? = some x → y.key ≤ x.id.key))
      (0, l.length) ⟨rfl, rfl, rfl, ?_, rfl, ?_, trivial⟩ ⟨rfl, trivial⟩ ⟨by simp, by simp, (fun k x h => by simp at h), fun k x h e => by
        have := (List.getElem?_eq_some_iff.1 e).1; omega⟩ ?_ ?_
    · show some (PV.i (.int .i64 ((l.map encItem).length : Int))) = _
      simp
    · show some (PV.i (.int .i64 ((l.map encItem).length : Int))) = _
      simp
    · rintro ⟨i, j⟩ ⟨h1, h2, h3, h4⟩
      simp only at h1 h2 h3 h4
      refine condP.split (fun g => ?_) (fun g => ?_)
      · have g' : i < j := by have : (i : Int) < j := of_decide_eq_true g; omega
        have hh := half (i := i) (j := j) (by omega)
        have hlt : (i + j) / 2 < l.length := by omega
        have hget : l[(i + j) / 2]? = some l[(i + j) / 2] := List.getElem?_eq_getElem hlt
        refine ⟨by decide, ?_⟩
        refine drawW T_ok (by decide +kernel) ?_
        refine ⟨encItem l[(i + j) / 2], ⟨?_, ?_⟩, ?_⟩
        · show 0 ≤ IntKind.i64.wrap ((IntKind.u64.wrap (IntKind.i64.wrap ((i : Int) + (j : Int)))).fdiv (2 ^ (min (1 : Int).toNat 64)))
          rw [hh]; omega
        · show (l.map encItem)[(IntKind.i64.wrap ((IntKind.u64.wrap (IntKind.i64.wrap ((i : Int) + (j : Int)))).fdiv (2 ^ (min (1 : Int).toNat 64)))).toNat]? = _
          rw [hh, Int.toNat_natCast, List.getElem?_map, hget]; rfl
        refine ⟨_, _, ⟨rfl, place1_ok l[(i + j) / 2] y⟩, ?_⟩
        refine ⟨by kernel_rfl, ?_⟩
        refine condP.split (fun g2 => ?_) (fun g2 => ?_)
        · have g2' : l[(i + j) / 2].id.key < y.key := (idCmp_lt _ _).1 (of_decide_eq_true g2)
          refine ⟨((i + j) / 2 + 1, j), ⟨by simp only; omega, by simp only; omega, h2, fun k x hk e => ?_, h4⟩, ⟨rfl, rfl, rfl, rfl, ?_, rfl, trivial⟩, ⟨rfl, trivial⟩⟩
          · by_cases hke : k = (i + j) / 2
            · subst hke; rw [hget] at e; cases e; exact g2'
            · exact Nat.lt_trans (hr.get (show k < (i + j) / 2 by simp only at hk; omega) e hget) g2'
          · show some (PV.i (IV.int .i64 (IntKind.i64.wrap (IntKind.i64.wrap ((IntKind.u64.wrap (IntKind.i64.wrap ((i : Int) + (j : Int)))).fdiv (2 ^ (min (1 : Int).toNat 64))) + 1)))) = _
            rw [hh, int_succ (by omega)]
        · have g2' : y.key ≤ l[(i + j) / 2].id.key := by
            have h : ¬ idCmp l[(i + j) / 2].id y < 0 := of_decide_eq_false g2
            rw [idCmp_lt] at h; omega
          refine ⟨(i, (i + j) / 2), ⟨by simp only; omega, by simp only; omega, by simp only; omega, h3, fun k x hk e => ?_⟩, ⟨rfl, rfl, rfl, rfl, rfl, ?_, trivial⟩, ⟨rfl, trivial⟩⟩
          · by_cases hke : k = (i + j) / 2
            · subst hke; rw [hget] at e; cases e; exact g2'
            · have := hr.get (show (i + j) / 2 < k by simp only at hk; omega) hget e
              omega
          · show some (PV.i (IV.int .i64 (IntKind.i64.wrap ((IntKind.u64.wrap (IntKind.i64.wrap ((i : Int) + (j : Int)))).fdiv (2 ^ (min (1 : Int).toNat 64)))))) = _
            rw [hh]
      · have g' : i = j := by have : ¬ (i : Int) < j := of_decide_eq_false g; omega
        subst g'
        exact ⟨i, ⟨h2, h3, h4⟩, ⟨rfl, rfl, rfl, rfl, rfl, rfl, trivial⟩, ⟨rfl, trivial⟩⟩
    · intro i hi
      exact ⟨i, hi, ⟨rfl, rfl, rfl, rfl, rfl, rfl, trivial⟩, ⟨rfl, trivial⟩⟩
  · rintro i ⟨h1, h2, h3⟩
    have hlow := lowI_eq h1 h2 h3
    refine CW.go T_ok ?_
    refine drawW T_ok (by decide +kernel) ?_
    refine condP.split (fun g => ?_) (fun g => ?_)
    · have g' : i < l.length := by have : (i : Int) < l.length := of_decide_eq_true g; omega
      have hget : l[i]? = some l[i] := List.getElem?_eq_getElem g'
      refine ⟨encItem l[i], ⟨by omega, by show (l.map encItem)[(i : Int).toNat]? = _; simp [hget]⟩, ?_⟩
      refine ⟨_, _, ⟨rfl, place1_ok l[i] y⟩, ?_⟩
      refine ⟨by kernel_rfl, ?_⟩
      have hh : hasI l y = (idCmp l[i].id y == 0) := by
        rw [Bool.eq_iff_iff, hasI, List.any_eq_true, beq_iff_eq, idCmp_zero]
        constructor
        · rintro ⟨x, hx, hxy⟩
          have hxy := of_decide_eq_true hxy
          obtain ⟨k, hk, rfl⟩ := List.getElem_of_mem hx
          have hgk : l[k]? = some l[k] := List.getElem?_eq_getElem hk
          rcases Nat.lt_trichotomy k i with hlt | heq | hlt
          · have := h2 k _ hlt hgk; rw [hxy] at this; omega
          · subst heq; exact hxy
          · have h5 := hr.get hlt hget hgk
            have h6 := h3 i _ (Nat.le_refl _) hget
            rw [hxy] at h5; omega
        · intro h
          exact ⟨l[i], List.getElem_mem _, decide_eq_true h⟩
      rw [hh, hlow]
      rfl
    · have g' : i = l.length := by have : ¬ (i : Int) < l.length := of_decide_eq_false g; omega
      refine ⟨by kernel_rfl, ?_⟩
      have hh : hasI l y = false := by
        rw [hasI, Bool.eq_false_iff]
        intro h
        obtain ⟨x, hx, hxy⟩ := List.any_eq_true.1 h
        have hxy := of_decide_eq_true hxy
        obtain ⟨k, hk, rfl⟩ := List.getElem_of_mem hx
        have := h2 k _ (by omega) (List.getElem?_eq_getElem hk)
        rw [hxy] at this; omega
      rw [hh, hlow]
      rfl
end Go.Kn
