/- Kn, part 17: words of 32 bits. No program here. -/
import Derived.Test.YtadcjononmlofaaDoorKnLib
set_option autoImplicit false
namespace Go.Kn
open Go

def u32 (x : UInt32) : IV := .int .u32 (x.toNat : Int)
def w32 (n : Nat) (f : Nat → UInt32) : List IV := (List.range n).map fun i => u32 (f i)

theorem w32_len (n : Nat) (f : Nat → UInt32) : (w32 n f).length = n := by simp [w32]
theorem w32_get (f : Nat → UInt32) {n i : Nat} (h : i < n) : ((w32 n f).map PV.i)[i]? = some (.i (u32 (f i))) := by simp [w32, h]
theorem w32_get' (f : Nat → UInt32) {n i : Nat} (h : i < n) : (w32 n f)[i]? = some (u32 (f i)) := by simp [w32, h]
theorem w32_drop (f : Nat → UInt32) {n i : Nat} (h : i < n) : ((w32 n f).drop i)[0]? = some (u32 (f i)) := by simp [w32, h]
theorem w32_congr {n : Nat} {f g : Nat → UInt32} (h : ∀ i, i < n → f i = g i) : w32 n f = w32 n g := by
  apply List.map_congr_left
  intro i hi
  rw [h i (by simpa using hi)]

theorem list_set {α : Type} (l : List α) {i : Nat} {x : α} (h : i < l.length) : l.take i ++ [x] ++ l.drop (i + 1) = l.set i x := by
  rw [List.set_eq_take_append_cons_drop, if_pos h]; simp

theorem w32_set (f : Nat → UInt32) {n i : Nat} (h : i < n) (v : UInt32) (g : Nat → UInt32) (hg : ∀ j, j < n → g j = if j = i then v else f j) :
    ((w32 n f).map PV.i).take i ++ [PV.i (u32 v)] ++ ((w32 n f).map PV.i).drop (i + 1) = (w32 n g).map PV.i := by
  rw [list_set _ (by simp [w32_len]; exact h)]
  apply List.ext_getElem?
  intro j
  rw [List.getElem?_set]
  by_cases hj : i = j
  · subst hj
    rw [if_pos rfl, if_pos (by simp [w32_len]; exact h), w32_get g h, hg i h, if_pos rfl]
  · rw [if_neg hj]
    by_cases hjn : j < n
    · rw [w32_get f hjn, w32_get g hjn, hg j hjn, if_neg (Ne.symm hj)]
    · rw [List.getElem?_eq_none (by simp [w32_len]; omega), List.getElem?_eq_none (by simp [w32_len]; omega)]

theorem w32_store (f : Nat → UInt32) {n i k : Nat} {x : IV} {v : UInt32} {g : Nat → UInt32} (hk : k = i) (hx : x = u32 v) (h : i < n) (hg : ∀ j, j < n → g j = if j = i then v else f j) :
    some (MO.var (((w32 n f).map PV.i).take k ++ [PV.i x] ++ ((w32 n f).map PV.i).drop (k + 1))) = some (.var ((w32 n g).map PV.i)) := by
  subst hk; subst hx; rw [w32_set f h v g hg]

theorem u32_add (a b : UInt32) : IntKind.u32.wrap ((a.toNat : Int) + (b.toNat : Int)) = ((a + b).toNat : Int) := by
  rw [wrap_u32_mod, UInt32.toNat_add]
  have : (2 : Nat) ^ 32 = 4294967296 := by decide
  omega

theorem wraps_u32 (n : Int) (h0 : 0 ≤ n) (h1 : n < 2 ^ 32) : IntKind.u32.wrap n = n := by
  rw [wrap_u32_mod]
  have : (2 : Int) ^ 32 = 4294967296 := by decide
  omega

theorem u32_lt (a : UInt32) : a.toNat < 4294967296 := a.toNat_lt

theorem u32_wrap (a : UInt32) : IntKind.u32.wrap (a.toNat : Int) = (a.toNat : Int) := by
  have := u32_lt a
  rw [wrap_u32_mod]; omega

theorem u32_and (a b : UInt32) : Go.bits .and .u32 (a.toNat : Int) (b.toNat : Int) = ((a &&& b).toNat : Int) := by
  rw [(bits_nat .u32 32 (by decide) wraps_u32 a.toNat b.toNat a.toNat_lt b.toNat_lt).1, UInt32.toNat_and]
theorem u32_or (a b : UInt32) : Go.bits .or .u32 (a.toNat : Int) (b.toNat : Int) = ((a ||| b).toNat : Int) := by
  rw [(bits_nat .u32 32 (by decide) wraps_u32 a.toNat b.toNat a.toNat_lt b.toNat_lt).2, UInt32.toNat_or]

theorem bv_ofInt (a : UInt32) : BitVec.ofInt 32 (a.toNat : Int) = a.toBitVec := by
  apply BitVec.eq_of_toNat_eq
  rw [BitVec.ofInt_natCast, BitVec.toNat_ofNat]
  exact Nat.mod_eq_of_lt a.toNat_lt

theorem u32_xor (a b : UInt32) : Go.bits .xor .u32 (a.toNat : Int) (b.toNat : Int) = ((a ^^^ b).toNat : Int) := by
  show IntKind.u32.wrap (((BitVec.ofInt 32 (a.toNat : Int)) ^^^ (BitVec.ofInt 32 (b.toNat : Int))).toNat : Int) = _
  rw [bv_ofInt, bv_ofInt]
  exact u32_wrap (a ^^^ b)

theorem u32_not (a : UInt32) : Go.bits .xor .u32 (if IntKind.u32.signed then -1 else IntKind.u32.max) (a.toNat : Int) = ((~~~a).toNat : Int) := by
  have h : (if IntKind.u32.signed then (-1 : Int) else IntKind.u32.max) = (((0xFFFFFFFF : UInt32)).toNat : Int) := by decide
  rw [h, u32_xor]
  congr 2

theorem pow_cast (n : Nat) : (2 : Int) ^ n = ((2 ^ n : Nat) : Int) := by rw [Int.natCast_pow]; rfl

theorem u32_shr (a : UInt32) (n : Nat) (h : n < 32) : (a.toNat : Int).fdiv (2 ^ (min n 32)) = ((a >>> (UInt32.ofNat n)).toNat : Int) := by
  have h2 : (UInt32.ofNat n).toNat % 32 = n := by rw [UInt32.toNat_ofNat', show (2 : Nat) ^ 32 = 4294967296 by decide]; omega
  rw [Nat.min_eq_left (by omega), UInt32.toNat_shiftRight, h2, Nat.shiftRight_eq_div_pow, pow_cast, Int.fdiv_eq_ediv_of_nonneg _ (Int.natCast_nonneg _)]
  exact (Int.natCast_ediv _ _).symm

theorem u32_shl (a : UInt32) (n : Nat) (h : n < 32) : IntKind.u32.wrap ((a.toNat : Int) * 2 ^ (min n 32)) = ((a <<< (UInt32.ofNat n)).toNat : Int) := by
  have h2 : (UInt32.ofNat n).toNat % 32 = n := by rw [UInt32.toNat_ofNat', show (2 : Nat) ^ 32 = 4294967296 by decide]; omega
  rw [Nat.min_eq_left (by omega), UInt32.toNat_shiftLeft, h2, wrap_u32_mod, Nat.shiftLeft_eq, pow_cast]
  have e : (2 : Nat) ^ 32 = 4294967296 := by decide
  rw [e, ← Int.natCast_mul]
  omega
end Go.Kn
