/- The reference's package of layer 2: a block. -/
import Derived.Test.YtadcjononmlofaaDoorKnSha
import Derived.Test.YtadcjononmlofaaDoorKnCut
set_option autoImplicit false
namespace Go.Kn
open Go Go.Proofs

variable {G : Gl}

theorem rot_add (x : UInt32) (n : Nat) (h0 : 0 < n) (h1 : n < 32) : (x >>> UInt32.ofNat n) + (x <<< UInt32.ofNat (32 - n)) = rotl x (32 - n) := by
  unfold rotl
  rw [show 32 - (32 - n) = n by omega]
  apply UInt32.toNat_inj.1
  have e1 : (UInt32.ofNat n).toNat % 32 = n := by rw [UInt32.toNat_ofNat', show (2 : Nat) ^ 32 = 4294967296 by decide]; omega
  have e2 : (UInt32.ofNat (32 - n)).toNat % 32 = 32 - n := by rw [UInt32.toNat_ofNat', show (2 : Nat) ^ 32 = 4294967296 by decide]; omega
  have hx := x.toNat_lt
  rw [UInt32.toNat_add, UInt32.toNat_or, UInt32.toNat_shiftRight, UInt32.toNat_shiftLeft, e1, e2, Nat.shiftRight_eq_div_pow, Nat.shiftLeft_eq]
  have hp : 2 ^ n * 2 ^ (32 - n) = 2 ^ 32 := by rw [← Nat.pow_add]; congr 1; omega
  have hlt : x.toNat / 2 ^ n < 2 ^ (32 - n) := by
    rw [Nat.div_lt_iff_lt_mul (Nat.two_pow_pos n), Nat.mul_comm, hp]; exact hx
  have hm : x.toNat * 2 ^ (32 - n) % 2 ^ 32 = 2 ^ (32 - n) * (x.toNat % 2 ^ n) := by
    rw [← hp, Nat.mul_comm (2 ^ n), Nat.mul_comm x.toNat, Nat.mul_mod_mul_left]
  rw [hm, ← Nat.two_pow_add_eq_or_of_lt hlt]
  have hs : 2 ^ (32 - n) * (x.toNat % 2 ^ n) + x.toNat / 2 ^ n < 2 ^ 32 := by
    have h3 : x.toNat % 2 ^ n < 2 ^ n := Nat.mod_lt _ (Nat.two_pow_pos n)
    have h4 : 2 ^ (32 - n) * (x.toNat % 2 ^ n + 1) ≤ 2 ^ (32 - n) * 2 ^ n := Nat.mul_le_mul_left _ h3
    rw [Nat.mul_add, Nat.mul_one, Nat.mul_comm (2 ^ (32 - n)) (2 ^ n), hp] at h4
    omega
  rw [Nat.mod_eq_of_lt (by omega)]
  omega

theorem turn_ok (x : UInt32) (n : Nat) (h0 : 0 < n) (h1 : n < 32) : PureC Pg G Fn.ref02_turn [u32 x, .int .u64 (n : Int)] (u32 (rotl x (32 - n))) := by
  refine pureC_of T_ok Fd.ref02_turn rfl (by kernel_rfl) ?_
  have hw : IntKind.u64.wrap (32 - (n : Int)) = ((32 - n : Nat) : Int) := by rw [wrap_u64 (by omega) (by omega)]; omega
  refine ⟨by omega, ?_⟩
  refine ⟨by show 0 ≤ IntKind.u64.wrap (32 - (n : Int)); rw [hw]; omega, ?_⟩
  show some (IV.int .u32 (IntKind.u32.wrap ((x.toNat : Int).fdiv (2 ^ (min (n : Int).toNat 32)) + IntKind.u32.wrap ((x.toNat : Int) * 2 ^ (min (IntKind.u64.wrap (32 - (n : Int))).toNat 32))))) = _
  rw [hw, Int.toNat_natCast, Int.toNat_natCast, u32_shr x n h1, u32_shl x (32 - n) (by omega), u32_add, rot_add x n h0 h1]
  rfl

set_option maxRecDepth 100000 in
theorem k_ok : PureC Pg G Fn.ref02_k [] (.agg (w32 64 kF)) := by
  refine pureC_of T_ok Fd.ref02_k rfl (by kernel_rfl) ?_
  rfl

/-- A word out of four bytes. -/
def beN (t : List UInt8) (j : Nat) : Nat := (t.getD (4 * j) 0).toNat * 16777216 + (t.getD (4 * j + 1) 0).toNat * 65536 + (t.getD (4 * j + 2) 0).toNat * 256 + (t.getD (4 * j + 3) 0).toNat

theorem or_byte (w : UInt32) (c : UInt8) : ((w <<< 8) ||| c.toUInt32).toNat = w.toNat % 16777216 * 256 + c.toNat := by
  have hc := c.toNat_lt
  rw [UInt32.toNat_or, UInt32.toNat_shiftLeft, UInt8.toNat_toUInt32, Nat.shiftLeft_eq]
  have e : w.toNat * 2 ^ ((8 : UInt32).toNat % 32) % 2 ^ 32 = 2 ^ 8 * (w.toNat % 2 ^ 24) := by
    show w.toNat * 2 ^ 8 % 2 ^ 32 = _
    rw [show (2 : Nat) ^ 32 = 2 ^ 8 * 2 ^ 24 by decide, Nat.mul_comm, Nat.mul_mod_mul_left]
  rw [e, ← Nat.two_pow_add_eq_or_of_lt (by omega)]
  have : (2 : Nat) ^ 24 = 16777216 := by decide
  rw [this]
  omega

theorem fB_skip (t : List UInt8) (j : Nat) : ∀ i k, (∀ q, i ≤ q → q < k → q / 4 ≠ j) → i ≤ k → fB t k j = fB t i j
  | i, k, h, hik => by
    induction k with
    | zero => have : i = 0 := by omega
              rw [this]
    | succ k ih =>
      by_cases hk : i = k + 1
      · rw [hk]
      · rw [fB, if_neg (fun e => h k (by omega) (by omega) e.symm)]
        exact ih (fun q h1 h2 => h q h1 (by omega)) (by omega)

theorem fB_be (t : List UInt8) {j : Nat} (hj : j < 16) : (fB t 64 j).toNat = beN t j := by
  rw [fB_skip t j (4 * j + 4) 64 (fun q h1 h2 => by omega) (by omega)]
  have h0 : fB t (4 * j) j = 0 := by rw [fB_skip t j 0 (4 * j) (fun q h1 h2 => by omega) (by omega)]; rfl
  have s : ∀ i, i / 4 = j → fB t (i + 1) j = (fB t i j <<< 8) ||| (t.getD i 0).toUInt32 := fun i hi => by rw [fB, if_pos hi.symm]
  have b0 := (t.getD (4 * j) 0).toNat_lt
  have b1 := (t.getD (4 * j + 1) 0).toNat_lt
  have b2 := (t.getD (4 * j + 2) 0).toNat_lt
  have b3 := (t.getD (4 * j + 3) 0).toNat_lt
  have n1 : (fB t (4 * j + 1) j).toNat = (t.getD (4 * j) 0).toNat := by rw [s (4 * j) (by omega), or_byte, h0]; simp
  have n2 : (fB t (4 * j + 2) j).toNat = (t.getD (4 * j) 0).toNat * 256 + (t.getD (4 * j + 1) 0).toNat := by rw [s (4 * j + 1) (by omega), or_byte, n1]; omega
  have n3 : (fB t (4 * j + 3) j).toNat = (t.getD (4 * j) 0).toNat * 65536 + (t.getD (4 * j + 1) 0).toNat * 256 + (t.getD (4 * j + 2) 0).toNat := by rw [s (4 * j + 2) (by omega), or_byte, n2]; omega
  rw [s (4 * j + 3) (by omega), or_byte, n3, beN]
  omega

/-- The words, so many read. -/
def rB (t : List UInt8) (i j : Nat) : UInt32 := if j < i then fB t 64 j else 0

def rM (s : Nat → UInt32) (w : Nat → UInt32) : Mem := [(3, .var ((w32 8 s).map .i)), (5, .var ((w32 64 kF).map .i)), (6, z8), (7, .var ((w32 64 w).map .i))]
def rE (t : List UInt8) : Env := [(1, .i (.str t)), (3, .ptr 3 0), (5, .ptr 5 0), (6, .ptr 6 0), (7, .ptr 7 0)]

theorem ix4 {i k : Nat} (h : i < 16) (hk : k < 4) : IntKind.i64.wrap (IntKind.i64.wrap (4 * (i : Int)) + (k : Int)) = ((4 * i + k : Nat) : Int) := by
  rw [wrap_i64 (a := 4 * (i : Int)) (by omega) (by omega), wrap_i64 (by omega) (by omega)]; omega
theorem ix40 {i : Nat} (h : i < 16) : IntKind.i64.wrap (4 * (i : Int)) = ((4 * i : Nat) : Int) := by
  rw [wrap_i64 (by omega) (by omega)]; omega

theorem rblock_loop1 {s : Nat → UInt32} {t : List UInt8} (ht : t.length = 64) {env : Env} {m : Mem} {Q : EQ}
    (hE : LkE env ((8, .i (.int .i64 0)) :: rE t)) (hM : LkM m (rM s (rB t 0)))
    (hQ : Q (.exit 0) (rE t) (rM s (rB t 16))) :
    LoopW Pg G Fb.ref02_block.ntmps (nthLoop Fb.ref02_block 0) env m Q := by
  refine loopX T_ok 0 (S := Nat) (S' := Unit) (fun i => (8, .i (.int .i64 (i : Int))) :: rE t) (fun i => rM s (rB t i)) (fun i => 16 - i) (fun i => i ≤ 16)
    (fun _ => rE t) (fun _ => rM s (rB t 16)) (fun _ => True) 0 hE hM (by omega) ?_ (fun _ _ => hQ)
  intro i hi
  refine condP.split (fun g => ?_) (fun g => ?_)
  · have g' : i < 16 := by have : (i : Int) < 16 := of_decide_eq_true g; omega
    have e0 := ix40 g'
    have e1 := ix4 g' (k := 1) (by omega)
    have e2 := ix4 g' (k := 2) (by omega)
    have e3 := ix4 g' (k := 3) (by omega)
    refine drawW T_ok (by decide +kernel) ?_
    refine ⟨⟨by show 0 ≤ IntKind.i64.wrap (4 * (i : Int)); rw [e0]; omega, by show IntKind.i64.wrap (4 * (i : Int)) < (t.length : Int); rw [e0]; omega⟩, ?_⟩
    refine ⟨⟨by show 0 ≤ IntKind.i64.wrap (IntKind.i64.wrap (4 * (i : Int)) + ((1 : Nat) : Int)); rw [e1]; omega, by show IntKind.i64.wrap (IntKind.i64.wrap (4 * (i : Int)) + ((1 : Nat) : Int)) < (t.length : Int); rw [e1]; omega⟩, ?_⟩
    refine ⟨⟨by show 0 ≤ IntKind.i64.wrap (IntKind.i64.wrap (4 * (i : Int)) + ((2 : Nat) : Int)); rw [e2]; omega, by show IntKind.i64.wrap (IntKind.i64.wrap (4 * (i : Int)) + ((2 : Nat) : Int)) < (t.length : Int); rw [e2]; omega⟩, ?_⟩
    refine ⟨⟨by show 0 ≤ IntKind.i64.wrap (IntKind.i64.wrap (4 * (i : Int)) + ((3 : Nat) : Int)); rw [e3]; omega, by show IntKind.i64.wrap (IntKind.i64.wrap (4 * (i : Int)) + ((3 : Nat) : Int)) < (t.length : Int); rw [e3]; omega⟩, ?_⟩
    refine ⟨⟨by omega, by omega⟩, ?_⟩
    refine bifI ?_ ?_
    · show (true && Nat.ble ((i : Int).toNat + 1) ((w32 64 (rB t i)).map PV.i).length) = true
      rw [List.length_map, w32_len]; simp; omega
    refine ⟨by kernel_rfl, ?_⟩
    refine ⟨i + 1, ⟨by omega, by omega⟩, ⟨congrArg (fun n => some (PV.i (IV.int .i64 n))) (int_succ (by omega)), rfl, rfl, rfl, rfl, rfl, trivial⟩, ⟨rfl, rfl, rfl, ?_, trivial⟩⟩
    refine w32_store (rB t i) (i := i) (v := fB t 64 i) rfl ?_ (by omega) ?_
    · show IV.int .u32 (IntKind.u32.wrap (IntKind.u32.wrap (IntKind.u32.wrap (IntKind.u32.wrap (IntKind.u32.wrap ((t.getD (IntKind.i64.wrap (4 * (i : Int))).toNat 0).toNat : Int) * 16777216) +
        IntKind.u32.wrap (IntKind.u32.wrap ((t.getD (IntKind.i64.wrap (IntKind.i64.wrap (4 * (i : Int)) + ((1 : Nat) : Int))).toNat 0).toNat : Int) * 65536)) +
        IntKind.u32.wrap (IntKind.u32.wrap ((t.getD (IntKind.i64.wrap (IntKind.i64.wrap (4 * (i : Int)) + ((2 : Nat) : Int))).toNat 0).toNat : Int) * 256)) +
        IntKind.u32.wrap ((t.getD (IntKind.i64.wrap (IntKind.i64.wrap (4 * (i : Int)) + ((3 : Nat) : Int))).toNat 0).toNat : Int))) = IV.int .u32 ((fB t 64 i).toNat : Int)
      rw [e1, e2, e3, e0]
      simp only [Int.toNat_natCast]
      have b0 := (t.getD (4 * i) 0).toNat_lt
      have b1 := (t.getD (4 * i + 1) 0).toNat_lt
      have b2 := (t.getD (4 * i + 2) 0).toNat_lt
      have b3 := (t.getD (4 * i + 3) 0).toNat_lt
      rw [fB_be t g', beN]
      simp only [wrap_u32_mod]
      congr 1
      omega
    · intro j _
      unfold rB
      by_cases hj : j = i
      · subst hj; simp
      · rw [if_neg hj]
        by_cases h1 : j < i
        · rw [if_pos h1, if_pos (by omega)]
        · rw [if_neg h1, if_neg (by omega)]
  · have g' : i = 16 := by have : ¬ (i : Int) < 16 := of_decide_eq_false g; omega
    subst g'
    exact ⟨(), trivial, ⟨rfl, rfl, rfl, rfl, rfl, trivial⟩, ⟨rfl, rfl, rfl, rfl, trivial⟩⟩
theorem rblock_loop2 {s : Nat → UInt32} {t : List UInt8} {env : Env} {m : Mem} {Q : EQ}
    (hE : LkE env ((9, .i (.int .i64 16)) :: rE t)) (hM : LkM m (rM s (rB t 16)))
    (hQ : Q (.exit 2) (rE t) (rM s (wd t))) :
    LoopW Pg G Fb.ref02_block.ntmps (nthLoop Fb.ref02_block 1) env m Q := by
  let wB : Nat → Nat → UInt32 := fun i j => if j < i then wd t j else 0
  have h16 : w32 64 (rB t 16) = w32 64 (wB 16) := w32_congr fun i hi => by
    simp only [rB, wB]
    split
    · rename_i h; exact (wd_small t h).symm
    · rfl
  have h64 : w32 64 (wB 64) = w32 64 (wd t) := w32_congr fun i hi => by simp only [wB, if_pos hi]
  refine loopX T_ok 2 (S := Nat) (S' := Unit) (fun i => (9, .i (.int .i64 (i : Int))) :: rE t) (fun i => rM s (wB i)) (fun i => 64 - i) (fun i => 16 ≤ i ∧ i ≤ 64)
    (fun _ => rE t) (fun _ => rM s (wd t)) (fun _ => True) 16 hE ⟨hM.1, hM.2.1, hM.2.2.1, by rw [hM.2.2.2.1, h16], trivial⟩ ⟨by omega, by omega⟩ ?_ (fun _ _ => hQ)
  rintro i ⟨hi0, hi⟩
  refine condP.split (fun g => ?_) (fun g => ?_)
  · have g' : i < 64 := by have : (i : Int) < 64 := of_decide_eq_true g; omega
    have h15 : IntKind.i64.wrap ((i : Int) - 15) = ((i - 15 : Nat) : Int) := sub_i64 (k := 15) (by omega) (by omega)
    have h2 : IntKind.i64.wrap ((i : Int) - 2) = ((i - 2 : Nat) : Int) := sub_i64 (k := 2) (by omega) (by omega)
    have hx16 : IntKind.i64.wrap ((i : Int) - 16) = ((i - 16 : Nat) : Int) := sub_i64 (k := 16) (by omega) (by omega)
    have h7 : IntKind.i64.wrap ((i : Int) - 7) = ((i - 7 : Nat) : Int) := sub_i64 (k := 7) (by omega) (by omega)
    have ix : ∀ {x : Int} {k : Nat}, x = ((i - k : Nat) : Int) → 0 < k → k ≤ 16 → 0 ≤ x ∧ x < ((64 : Nat) : Int) := fun h h1 h2 => by rw [h]; omega
    have gt : ∀ {x : Int} {k : Nat}, x = ((i - k : Nat) : Int) → 0 < k → k ≤ 16 → ((w32 64 (wB i)).map PV.i)[x.toNat]? = some (.i (u32 (wd t (i - k)))) := fun {x k} h h1 h2 => by
      rw [h, Int.toNat_natCast, w32_get _ (by omega)]
      simp only [wB, if_pos (show i - k < i by omega)]
    refine drawW T_ok (by decide +kernel) ?_
    refine ⟨ix h15 (by omega) (by omega), ?_⟩
    refine withO.intro (gt h15 (by omega) (by omega)) ?_
    refine ⟨_, _, ⟨rfl, turn_ok (wd t (i - 15)) 7 (by decide) (by decide)⟩, ?_⟩
    refine ⟨ix h15 (by omega) (by omega), ?_⟩
    refine withO.intro (gt h15 (by omega) (by omega)) ?_
    refine ⟨_, _, ⟨rfl, turn_ok (wd t (i - 15)) 18 (by decide) (by decide)⟩, ?_⟩
    refine ⟨ix h15 (by omega) (by omega), ?_⟩
    refine withO.intro (gt h15 (by omega) (by omega)) ?_
    refine ⟨by decide, ?_⟩
    refine ⟨by kernel_rfl, ?_⟩
    refine drawW T_ok (by decide +kernel) ?_
    refine ⟨ix h2 (by omega) (by omega), ?_⟩
    refine withO.intro (gt h2 (by omega) (by omega)) ?_
    refine ⟨_, _, ⟨rfl, turn_ok (wd t (i - 2)) 17 (by decide) (by decide)⟩, ?_⟩
    refine ⟨ix h2 (by omega) (by omega), ?_⟩
    refine withO.intro (gt h2 (by omega) (by omega)) ?_
    refine ⟨_, _, ⟨rfl, turn_ok (wd t (i - 2)) 19 (by decide) (by decide)⟩, ?_⟩
    refine ⟨ix h2 (by omega) (by omega), ?_⟩
    refine withO.intro (gt h2 (by omega) (by omega)) ?_
    refine ⟨by decide, ?_⟩
    refine ⟨by kernel_rfl, ?_⟩
    refine drawW T_ok (by decide +kernel) ?_
    refine ⟨ix hx16 (by omega) (by omega), ?_⟩
    refine withO.intro (gt hx16 (by omega) (by omega)) ?_
    refine ⟨ix h7 (by omega) (by omega), ?_⟩
    refine withO.intro (gt h7 (by omega) (by omega)) ?_
    refine ⟨⟨by omega, by omega⟩, ?_⟩
    refine bifI ?_ ?_
    · show (true && Nat.ble ((i : Int).toNat + 1) ((w32 64 (wB i)).map PV.i).length) = true
      rw [List.length_map, w32_len]; simp; omega
    refine ⟨by kernel_rfl, ?_⟩
    refine ⟨i + 1, ⟨by omega, by omega, by omega⟩, ⟨congrArg (fun n => some (PV.i (IV.int .i64 n))) (int_succ (by omega)), rfl, rfl, rfl, rfl, rfl, trivial⟩, ⟨rfl, rfl, rfl, ?_, trivial⟩⟩
    refine w32_store (wB i) (i := i) (v := wd t i) rfl ?_ (by omega) ?_
    · show IV.int .u32 (IntKind.u32.wrap (IntKind.u32.wrap (IntKind.u32.wrap (((wd t (i - 16)).toNat : Int) +
        Go.bits .xor .u32 (Go.bits .xor .u32 ((rotl (wd t (i - 15)) 25).toNat : Int) ((rotl (wd t (i - 15)) 14).toNat : Int)) (((wd t (i - 15)).toNat : Int).fdiv (2 ^ (min 3 32)))) + ((wd t (i - 7)).toNat : Int)) +
        Go.bits .xor .u32 (Go.bits .xor .u32 ((rotl (wd t (i - 2)) 15).toNat : Int) ((rotl (wd t (i - 2)) 13).toNat : Int)) (((wd t (i - 2)).toNat : Int).fdiv (2 ^ (min 10 32))))) = _
      rw [u32_shr _ 3 (by omega), u32_shr _ 10 (by omega), u32_xor, u32_xor, u32_xor, u32_xor, u32_add, u32_add, u32_add, wd_big t hi0]
      have : wd t (i - 16) + sig0 (wd t (i - 15)) + wd t (i - 7) = wd t (i - 16) + wd t (i - 7) + sig0 (wd t (i - 15)) := by
        rw [UInt32.add_assoc, UInt32.add_comm (sig0 _), ← UInt32.add_assoc]
      rw [← this]
      rfl
    · intro j _
      simp only [wB]
      by_cases hj : j = i
      · subst hj; simp
      · rw [if_neg hj]
        by_cases h1 : j < i
        · rw [if_pos h1, if_pos (by omega)]
        · rw [if_neg h1, if_neg (by omega)]
  · have g' : i = 64 := by have : ¬ (i : Int) < 64 := of_decide_eq_false g; omega
    subst g'
    exact ⟨(), trivial, ⟨rfl, rfl, rfl, rfl, rfl, trivial⟩, ⟨rfl, rfl, rfl, by rw [← h64]; rfl, trivial⟩⟩
def sM (s W f : Nat → UInt32) : Mem := (12, .var ((w32 8 f).map .i)) :: rM s W
def sE : Env := [(3, .ptr 3 0), (5, .ptr 5 0), (6, .ptr 6 0), (7, .ptr 7 0), (12, .ptr 12 0)]

set_option maxHeartbeats 4000000 in
theorem rblock_loop3 {s W : Nat → UInt32} {env : Env} {m : Mem} {Q : EQ}
    (hE : LkE env ((13, .i (.int .i64 0)) :: sE)) (hM : LkM m (sM s W s))
    (hQ : Q (.exit 4) sE (sM s W (rnds s W 64))) :
    LoopW Pg G Fb.ref02_block.ntmps (nthLoop Fb.ref02_block 2) env m Q := by
  refine loopXW 4 (S := Nat) (S' := Unit) (fun i => (13, .i (.int .i64 (i : Int))) :: sE) (fun i => sM s W (rnds s W i)) (fun i => 64 - i) (fun i => i ≤ 64)
    (fun _ => sE) (fun _ => sM s W (rnds s W 64)) (fun _ => True) 0 hE hM (by omega) ?_ (fun _ _ => hQ)
  intro i hi
  refine CW.cut T_ok (S := Unit) (fun _ => (13, .i (.int .i64 (i : Int))) :: sE) (fun _ => sM s W (rnds s W i)) (fun _ => i < 64) ?_ ?_
  · refine condP.split (fun g => ?_) (fun g => ?_)
    · have g' : i < 64 := by have : (i : Int) < 64 := of_decide_eq_true g; omega
      exact ⟨(), g', ⟨rfl, rfl, rfl, rfl, rfl, rfl, trivial⟩, ⟨rfl, rfl, rfl, rfl, rfl, trivial⟩⟩
    · have g' : i = 64 := by have : ¬ (i : Int) < 64 := of_decide_eq_false g; omega
      subst g'
      exact ⟨(), trivial, ⟨rfl, rfl, rfl, rfl, rfl, trivial⟩, ⟨rfl, rfl, rfl, rfl, rfl, trivial⟩⟩
  intro _ g'
  refine CW.seq ?_
  refine CW.blk ?_
  have hr : rnds s W (i + 1) = rnd (rnds s W i) (kF i) (W i) := rfl
  generalize rnds s W i = f at *
  have hX : IntKind.u32.wrap (IntKind.u32.wrap (IntKind.u32.wrap (IntKind.u32.wrap (((f 7).toNat : Int) +
      Go.bits .xor .u32 (Go.bits .xor .u32 ((rotl (f 4) 26).toNat : Int) ((rotl (f 4) 21).toNat : Int)) ((rotl (f 4) 7).toNat : Int)) +
      Go.bits .xor .u32 (Go.bits .and .u32 ((f 4).toNat : Int) ((f 5).toNat : Int)) (Go.bits .and .u32 (Go.bits .xor .u32 (if IntKind.u32.signed = true then -1 else IntKind.u32.max) ((f 4).toNat : Int)) ((f 6).toNat : Int))) +
      ((kF i).toNat : Int)) + ((W i).toNat : Int)) = ((X1 f (kF i) (W i)).toNat : Int) := by
    rw [u32_not]
    simp only [u32_xor, u32_and, u32_add]
    rfl
  have hY : IntKind.u32.wrap (Go.bits .xor .u32 (Go.bits .xor .u32 ((rotl (f 0) 30).toNat : Int) ((rotl (f 0) 19).toNat : Int)) ((rotl (f 0) 10).toNat : Int) +
      Go.bits .xor .u32 (Go.bits .xor .u32 (Go.bits .and .u32 ((f 0).toNat : Int) ((f 1).toNat : Int)) (Go.bits .and .u32 ((f 0).toNat : Int) ((f 2).toNat : Int))) (Go.bits .and .u32 ((f 1).toNat : Int) ((f 2).toNat : Int))) = ((Y1 f).toNat : Int) := by
    simp only [u32_xor, u32_and, u32_add]
    rfl
  refine CW.cut T_ok (S := Unit) (fun _ => (13, .i (.int .i64 (i : Int))) :: (14, .i (u32 (X1 f (kF i) (W i)))) :: sE) (fun _ => sM s W f) (fun _ => True) ?_ ?_
  · refine drawW T_ok (by decide +kernel) ?_
    refine ⟨⟨by decide, by decide⟩, ?_⟩
    refine ⟨⟨by decide, by decide⟩, ?_⟩
    refine ⟨_, _, ⟨rfl, turn_ok (f 4) 6 (by decide) (by decide)⟩, ?_⟩
    refine ⟨⟨by decide, by decide⟩, ?_⟩
    refine ⟨_, _, ⟨rfl, turn_ok (f 4) 11 (by decide) (by decide)⟩, ?_⟩
    refine ⟨⟨by decide, by decide⟩, ?_⟩
    refine ⟨_, _, ⟨rfl, turn_ok (f 4) 25 (by decide) (by decide)⟩, ?_⟩
    refine ⟨⟨by decide, by decide⟩, ?_⟩
    refine ⟨⟨by decide, by decide⟩, ?_⟩
    refine ⟨⟨by decide, by decide⟩, ?_⟩
    refine ⟨⟨by decide, by decide⟩, ?_⟩
    refine ⟨⟨by omega, by omega⟩, ?_⟩
    refine withO.intro (w32_get kF (show (i : Int).toNat < 64 by omega)) ?_
    refine ⟨⟨by omega, by omega⟩, ?_⟩
    refine withO.intro (w32_get W (show (i : Int).toNat < 64 by omega)) ?_
    refine ⟨by kernel_rfl, ?_⟩
    exact ⟨(), trivial, ⟨rfl, congrArg (fun n => some (PV.i (IV.int .u32 n))) hX, rfl, rfl, rfl, rfl, rfl, trivial⟩, ⟨rfl, rfl, rfl, rfl, rfl, trivial⟩⟩
  intro _ _
  refine CW.cut T_ok (S := Unit) (fun _ => (13, .i (.int .i64 (i : Int))) :: (14, .i (u32 (X1 f (kF i) (W i)))) :: (15, .i (u32 (Y1 f))) :: sE) (fun _ => sM s W f) (fun _ => True) ?_ ?_
  · refine drawW T_ok (by decide +kernel) ?_
    refine ⟨⟨by decide, by decide⟩, ?_⟩
    refine ⟨_, _, ⟨rfl, turn_ok (f 0) 2 (by decide) (by decide)⟩, ?_⟩
    refine ⟨⟨by decide, by decide⟩, ?_⟩
    refine ⟨_, _, ⟨rfl, turn_ok (f 0) 13 (by decide) (by decide)⟩, ?_⟩
    refine ⟨⟨by decide, by decide⟩, ?_⟩
    refine ⟨_, _, ⟨rfl, turn_ok (f 0) 22 (by decide) (by decide)⟩, ?_⟩
    refine ⟨⟨by decide, by decide⟩, ?_⟩
    refine ⟨⟨by decide, by decide⟩, ?_⟩
    refine ⟨⟨by decide, by decide⟩, ?_⟩
    refine ⟨⟨by decide, by decide⟩, ?_⟩
    refine ⟨⟨by decide, by decide⟩, ?_⟩
    refine ⟨⟨by decide, by decide⟩, ?_⟩
    refine ⟨by kernel_rfl, ?_⟩
    exact ⟨(), trivial, ⟨rfl, rfl, congrArg (fun n => some (PV.i (IV.int .u32 n))) hY, rfl, rfl, rfl, rfl, rfl, trivial⟩, ⟨rfl, rfl, rfl, rfl, rfl, trivial⟩⟩
  intro _ _
  refine CW.go T_ok ?_
  refine ⟨⟨by decide, by decide⟩, ?_⟩
  refine ⟨⟨by decide, by decide⟩, ?_⟩
  refine ⟨⟨by decide, by decide⟩, ?_⟩
  refine ⟨⟨by decide, by decide⟩, ?_⟩
  refine ⟨⟨by decide, by decide⟩, ?_⟩
  refine ⟨⟨by decide, by decide⟩, ?_⟩
  refine ⟨⟨by decide, by decide⟩, ?_⟩
  refine CW.go T_ok ?_
  refine ⟨i + 1, ⟨by omega, by omega⟩, ⟨congrArg (fun n => some (PV.i (IV.int .i64 n))) (int_succ (by omega)), rfl, rfl, rfl, rfl, rfl, trivial⟩, ⟨?_, rfl, rfl, rfl, rfl, trivial⟩⟩
  rw [hr]
  refine cells8 ?_ rfl rfl rfl ?_ rfl rfl rfl
  · show PV.i (IV.int .u32 (IntKind.u32.wrap (((X1 f (kF i) (W i)).toNat : Int) + ((Y1 f).toNat : Int)))) = _
    rw [u32_add]; rfl
  · show PV.i (IV.int .u32 (IntKind.u32.wrap (((f 3).toNat : Int) + ((X1 f (kF i) (W i)).toNat : Int)))) = _
    rw [u32_add]; rfl

theorem rblock_loop4 {s W f : Nat → UInt32} {env : Env} {m : Mem} {Q : EQ}
    (hE : LkE env ((16, .i (.int .i64 0)) :: sE)) (hM : LkM m (sM s W f))
    (hQ : Q (.exit 6) sE (sM s W (fun i => f i + s i))) :
    LoopW Pg G Fb.ref02_block.ntmps (nthLoop Fb.ref02_block 3) env m Q := by
  refine loopX T_ok 6 (S := Nat) (S' := Unit) (fun i => (16, .i (.int .i64 (i : Int))) :: sE) (fun i => sM s W (hB s f i)) (fun i => 8 - i) (fun i => i ≤ 8)
    (fun _ => sE) (fun _ => sM s W (fun i => f i + s i)) (fun _ => True) 0 hE hM (by omega) ?_ (fun _ _ => hQ)
  intro i hi
  refine condP.split (fun g => ?_) (fun g => ?_)
  · have g' : i < 8 := by have : (i : Int) < 8 := of_decide_eq_true g; omega
    refine drawW T_ok (by decide +kernel) ?_
    refine ⟨⟨by omega, by omega⟩, ?_⟩
    refine withO.intro (w32_get (hB s f i) (show (i : Int).toNat < 8 by omega)) ?_
    refine ⟨⟨by omega, by omega⟩, ?_⟩
    refine withO.intro (w32_get s (show (i : Int).toNat < 8 by omega)) ?_
    refine ⟨⟨by omega, by omega⟩, ?_⟩
    refine bifI ?_ ?_
    · show (true && Nat.ble ((i : Int).toNat + 1) ((w32 8 (hB s f i)).map PV.i).length) = true
      rw [List.length_map, w32_len]; simp; omega
    refine ⟨by kernel_rfl, ?_⟩
    refine ⟨i + 1, ⟨by omega, by omega⟩, ⟨congrArg (fun n => some (PV.i (IV.int .i64 n))) (int_succ (by omega)), rfl, rfl, rfl, rfl, rfl, trivial⟩, ⟨?_, rfl, rfl, rfl, rfl, trivial⟩⟩
    refine w32_store (hB s f i) (i := i) (v := hB s f i i + s i) rfl ?_ (by omega) ?_
    · show IV.int .u32 (IntKind.u32.wrap (((hB s f i i).toNat : Int) + ((s i).toNat : Int))) = _
      rw [u32_add]; rfl
    · intro j _
      unfold hB
      by_cases hj : j = i
      · subst hj; simp
      · rw [if_neg hj]
        by_cases h1 : j < i
        · rw [if_pos h1, if_pos (by omega)]
        · rw [if_neg h1, if_neg (by omega)]
  · have g' : i = 8 := by have : ¬ (i : Int) < 8 := of_decide_eq_false g; omega
    subst g'
    exact ⟨(), trivial, ⟨rfl, rfl, rfl, rfl, rfl, trivial⟩, ⟨rfl, rfl, rfl, rfl, rfl, trivial⟩⟩

set_option maxRecDepth 100000 in
theorem ref02_block_ok (s : Nat → UInt32) {t : List UInt8} (ht : t.length = 64) : PureC Pg G Fn.ref02_block [.agg (w32 8 s), .str t, .agg (w32 64 kF)] (.agg (w32 8 (blk s t))) := by
  refine pureW_of T_ok Fd.ref02_block rfl (by kernel_rfl) ?_
  refine CW.next T_ok ?_
  refine CW.next T_ok ?_
  refine CW.cut T_ok (S := Unit) (fun _ => rE t) (fun _ => rM s (rB t 16)) (fun _ => True) ?_ ?_
  · exact rblock_loop1 (s := s) ht ⟨rfl, rfl, rfl, rfl, rfl, rfl, trivial⟩ ⟨rfl, rfl, rfl, rfl, trivial⟩ ⟨(), trivial, ⟨rfl, rfl, rfl, rfl, rfl, trivial⟩, ⟨rfl, rfl, rfl, rfl, trivial⟩⟩
  intro _ _
  refine CW.cut T_ok (S := Unit) (fun _ => rE t) (fun _ => rM s (wd t)) (fun _ => True) ?_ ?_
  · exact rblock_loop2 (s := s) ⟨rfl, rfl, rfl, rfl, rfl, rfl, trivial⟩ ⟨rfl, rfl, rfl, rfl, trivial⟩ ⟨(), trivial, ⟨rfl, rfl, rfl, rfl, rfl, trivial⟩, ⟨rfl, rfl, rfl, rfl, trivial⟩⟩
  intro _ _
  refine CW.cut T_ok (S := Unit) (fun _ => sE) (fun _ => sM s (wd t) s) (fun _ => True) ?_ ?_
  · exact ⟨(), trivial, ⟨rfl, rfl, rfl, rfl, rfl, trivial⟩, ⟨rfl, rfl, rfl, rfl, rfl, trivial⟩⟩
  intro _ _
  refine CW.cut T_ok (S := Unit) (fun _ => sE) (fun _ => sM s (wd t) (rnds s (wd t) 64)) (fun _ => True) ?_ ?_
  · exact rblock_loop3 (s := s) (W := wd t) ⟨rfl, rfl, rfl, rfl, rfl, rfl, trivial⟩ ⟨rfl, rfl, rfl, rfl, rfl, trivial⟩ ⟨(), trivial, ⟨rfl, rfl, rfl, rfl, rfl, trivial⟩, ⟨rfl, rfl, rfl, rfl, rfl, trivial⟩⟩
  intro _ _
  refine CW.go T_ok ?_
  refine rblock_loop4 (s := s) (W := wd t) (f := rnds s (wd t) 64) ⟨rfl, rfl, rfl, rfl, rfl, rfl, trivial⟩ ⟨rfl, rfl, rfl, rfl, rfl, trivial⟩ ?_
  show some _ = some (IV.agg (w32 8 (fun i => rnds s (wd t) 64 i + s i)))
  generalize rnds s (wd t) 64 = f
  rfl
end Go.Kn
