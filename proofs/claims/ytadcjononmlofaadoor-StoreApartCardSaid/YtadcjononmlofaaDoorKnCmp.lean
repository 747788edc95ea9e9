/- The order of ids: the program's. -/
import Derived.Test.YtadcjononmlofaaDoorKnAlone
import Derived.Test.YtadcjononmlofaaDoorKnIns
set_option autoImplicit false
namespace Go.Kn
open Go Go.Proofs

variable {G : Gl}

def cmpB (a b : UInt8) : Int := if a < b then -1 else if b < a then 1 else 0

theorem isNaN_ok (a : UInt8) : PureC Pg G Fn.cmp_isNaN_byte [.int .u8 (a.toNat : Int)] (.bool false) := by
  refine pureC_of T_ok Fd.cmp_isNaN_byte rfl (by kernel_rfl) ?_
  show some (IV.bool ((a.toNat : Int) != (a.toNat : Int))) = _
  simp

theorem cmpCompare_ok (a b : UInt8) : PureC Pg G Fn.cmp_Compare_byte [.int .u8 (a.toNat : Int), .int .u8 (b.toNat : Int)] (.int .i64 (cmpB a b)) := by
  refine pureC_of T_ok Fd.cmp_Compare_byte rfl (by kernel_rfl) ?_
  refine ⟨_, _, _, pureCall (isNaN_ok a) rfl, ?_⟩
  refine ⟨_, _, _, pureCall (isNaN_ok b) rfl, ?_⟩
  refine condP.split (fun g => ?_) (fun g => ?_)
  · have h : decide (((a.toNat : Nat) : Int) < (b.toNat : Int)) = true := g
    rw [lt_toNat] at h
    show some (IV.int .i64 (-1)) = _
    rw [cmpB, if_pos (of_decide_eq_true h)]
  · have h : decide (((a.toNat : Nat) : Int) < (b.toNat : Int)) = false := g
    rw [lt_toNat] at h
    refine condP.split (fun g2 => ?_) (fun g2 => ?_)
    · have h2 : decide (((a.toNat : Nat) : Int) > (b.toNat : Int)) = true := g2
      have h3 : decide (((b.toNat : Nat) : Int) < (a.toNat : Int)) = true := h2
      rw [lt_toNat] at h3
      show some (IV.int .i64 1) = _
      rw [cmpB, if_neg (of_decide_eq_false h), if_pos (of_decide_eq_true h3)]
    · have h2 : decide (((a.toNat : Nat) : Int) > (b.toNat : Int)) = false := g2
      have h3 : decide (((b.toNat : Nat) : Int) < (a.toNat : Int)) = false := h2
      rw [lt_toNat] at h3
      show some (IV.int .i64 0) = _
      rw [cmpB, if_neg (of_decide_eq_false h), if_neg (of_decide_eq_false h3)]

theorem cmpB_zero (a b : UInt8) : cmpB a b = 0 ↔ a = b := by
  unfold cmpB
  constructor
  · intro h
    split at h
    · cases h
    · split at h
      · cases h
      · rename_i h1 h2
        rw [UInt8.lt_iff_toNat_lt] at h1 h2
        exact UInt8.toNat_inj.1 (by omega)
  · rintro rfl
    simp

/-- Of two texts of one length: -1, 0, 1. -/
def cmpL : List UInt8 → List UInt8 → Int
  | a :: r, b :: s => if cmpB a b = 0 then cmpL r s else cmpB a b
  | _, _ => 0

def idCmp (x y : Id) : Int := cmpL x.bytes y.bytes

/-- What stands before place i is the same. -/
theorem cmpL_drop : ∀ (l r : List UInt8) (i : Nat), l.length = r.length → (∀ j, j < i → l.getD j 0 = r.getD j 0) → cmpL (l.drop i) (r.drop i) = cmpL l r
  | l, r, 0, _, _ => by simp
  | [], [], i + 1, _, _ => by simp
  | a :: l, b :: r, i + 1, hl, h => by
    have h0 : a = b := by simpa using h 0 (by omega)
    have ih := cmpL_drop l r i (by simpa using hl) (fun j hj => by simpa using h (j + 1) (by omega))
    simp only [List.drop_succ_cons, ih, cmpL]
    rw [if_pos ((cmpB_zero a b).2 h0)]
  | [], _ :: _, _ + 1, hl, _ => by cases hl
  | _ :: _, [], _ + 1, hl, _ => by cases hl

theorem cmpL_at {l r : List UInt8} {i : Nat} (hl : l.length = r.length) (hi : i < l.length) (h : ∀ j, j < i → l.getD j 0 = r.getD j 0) (hne : cmpB (l.getD i 0) (r.getD i 0) ≠ 0) : cmpL l r = cmpB (l.getD i 0) (r.getD i 0) := by
  rw [← cmpL_drop l r i hl h, List.drop_eq_getElem_cons hi, List.drop_eq_getElem_cons (show i < r.length by omega)]
  have e1 : l.getD i 0 = l[i] := by simp [List.getD_eq_getElem?_getD, hi]
  have e2 : r.getD i 0 = r[i] := by simp [List.getD_eq_getElem?_getD, show i < r.length by omega]
  rw [e1, e2] at hne ⊢
  simp only [cmpL, if_neg hne]

theorem cmpL_end {l r : List UInt8} (hl : l.length = r.length) (h : ∀ j, j < l.length → l.getD j 0 = r.getD j 0) : cmpL l r = 0 := by
  rw [← cmpL_drop l r l.length hl h, List.drop_of_length_le (Nat.le_refl _)]
  simp [cmpL]

def twoM (x y : Id) (r1 r2 : List IV) : Mem := [(1000, .var ((idC x ++ r1).map .i)), (1001, .var ((idC y ++ r2).map .i))]

theorem idr_get (x : Id) (r : List IV) {i : Nat} (h : i < 32) : ((idC x ++ r).map PV.i)[i]? = some (.i (.int .u8 ((x.b i).toNat : Int))) := by
  rw [List.map_append, List.getElem?_append_left (by simp [idC, u8c]; exact h)]
  exact u8c_get x.b h

theorem slicesCompare_ok (x y : Id) (r1 r2 : List IV) : Body Pg Fn.slices_Compare_byte ∧ AC Pg G Fn.slices_Compare_byte [.view 1000 1 0 32, .view 1001 1 0 32] (twoM x y r1 r2) (.i (.int .i64 (idCmp x y))) (twoM x y r1 r2) := by
  refine acC_of T_ok Fd.slices_Compare_byte rfl (by kernel_rfl) ?_
  refine loopX T_ok 0 (S := Nat) (S' := Unit) (fun i => [(0, .view 1000 1 0 32), (1, .view 1001 1 0 32), (9, .view 1000 1 0 32), (10, .i (.int .i64 32)), (11, .i (.int .i64 (i : Int)))]) (fun _ => twoM x y r1 r2) (fun i => 32 - i)
    (fun i => i ≤ 32 ∧ ∀ j, j < i → x.b j = y.b j) (fun _ => [(0, .view 1000 1 0 32), (1, .view 1001 1 0 32)]) (fun _ => twoM x y r1 r2) (fun _ => idCmp x y = 0) 0 ⟨rfl, rfl, rfl, rfl, rfl, trivial⟩ ⟨rfl, rfl, trivial⟩ ⟨by omega, by omega⟩ ?_ ?_
  · rintro i ⟨h1, h2⟩
    refine condP.split (fun g => ?_) (fun g => ?_)
    · have g' : i < 32 := by have : (i : Int) < 32 := of_decide_eq_true g; omega
      refine ⟨⟨by omega, by show (i : Int) < 32; omega⟩, ?_⟩
      refine withO.intro (idr_get x r1 (show (i : Int).toNat < 32 by omega)) ?_
      refine condP.split (fun g2 => ?_) (fun g2 => ?_)
      · have : (i : Int) ≥ 32 := of_decide_eq_true g2
        omega
      · refine ⟨⟨by omega, by show (i : Int) < 32; omega⟩, ?_⟩
        refine withO.intro (idr_get y r2 (show (i : Int).toNat < 32 by omega)) ?_
        refine ⟨_, _, _, pureCall (cmpCompare_ok (x.b i) (y.b i)) rfl, ?_⟩
        refine condP.split (fun g3 => ?_) (fun g3 => ?_)
        · have g3' : cmpB (x.b i) (y.b i) ≠ 0 := by have h : (cmpB (x.b i) (y.b i) != 0) = true := g3; simpa using h
          have : idCmp x y = cmpB (x.b i) (y.b i) := cmpL_at (by rw [x.len, y.len]) (by rw [x.len]; exact g') h2 g3'
          rw [this]
          exact retSame rfl (MemL.as ⟨⟨_, rfl, MLe.ivs _⟩, ⟨_, rfl, MLe.ivs _⟩, trivial⟩ rfl)
        · have g3' : cmpB (x.b i) (y.b i) = 0 := by have h : (cmpB (x.b i) (y.b i) != 0) = false := g3; simpa using h
          refine ⟨i + 1, ⟨by omega, by omega, fun j hj => ?_⟩, ⟨rfl, rfl, rfl, rfl, congrArg (fun n => some (PV.i (IV.int .i64 n))) (int_succ (by omega)), trivial⟩, ⟨rfl, rfl, trivial⟩⟩
          by_cases hji : j = i
          · subst hji; exact (cmpB_zero _ _).1 g3'
          · exact h2 j (by omega)
    · have g' : i = 32 := by have : ¬ (i : Int) < 32 := of_decide_eq_false g; omega
      subst g'
      refine ⟨(), ?_, ⟨rfl, rfl, trivial⟩, ⟨rfl, rfl, trivial⟩⟩
      exact cmpL_end (by rw [x.len, y.len]) (fun j hj => h2 j (by rw [x.len] at hj; exact hj))
  · intro _ h
    rw [h]
    exact retSame rfl (MemL.as ⟨⟨_, rfl, MLe.ivs _⟩, ⟨_, rfl, MLe.ivs _⟩, trivial⟩ rfl)

structure Item where
  id : Id
  text : List UInt8

def encItem (x : Item) : IV := .agg (idC x.id ++ [.str x.text])

theorem place1_ok (x : Item) (y : Id) : PureC Pg G Fn.store_Store_place_c1 [encItem x, encId y] (.int .i64 (idCmp x.id y)) := by
  refine pureC_of T_ok Fd.store_Store_place_c1 rfl (by kernel_rfl) ?_
  refine drawW T_ok (by decide +kernel) ?_
  refine ⟨⟨by decide, by decide, by decide, by decide⟩, ?_⟩
  refine ⟨⟨by decide, by decide, by decide, by decide⟩, ?_⟩
  have hc := slicesCompare_ok (G := G) x.id y [.str x.text] []
  refine ⟨[(1000, 2), (1001, 3)], _, _, _, _, ⟨hc.1, hc.2, ⟨rfl, rfl, rfl⟩, MemL.as ⟨⟨_, rfl, MLe.refl _⟩, ⟨_, rfl, MLe.refl _⟩, trivial⟩ rfl, rfl⟩, ?_⟩
  refine ⟨by kernel_rfl, ?_⟩
  rfl
end Go.Kn
