/- The program's package sha256. -/
import Derived.Test.YtadcjononmlofaaDoorKnU32
import Derived.Test.YtadcjononmlofaaDoorKnReader
set_option autoImplicit false
namespace Go.Kn
open Go Go.Proofs

variable {G : Gl}

def rotl (x : UInt32) (n : Nat) : UInt32 := (x <<< UInt32.ofNat n) ||| (x >>> UInt32.ofNat (32 - n))

theorem rotl_ok (x : UInt32) (k : Int) (n : Nat) (h0 : 0 < n) (h1 : n < 32) (hk : Go.bits .and .u64 (IntKind.u64.wrap k) 31 = (n : Int)) : PureC Pg G Fn.math_bits_RotateLeft32 [u32 x, .int .i64 k] (u32 (rotl x n)) := by
  refine pureC_of T_ok Fd.math_bits_RotateLeft32 rfl (by kernel_rfl) ?_
  refine ⟨by show 0 ≤ Go.bits .and .u64 (IntKind.u64.wrap k) 31; rw [hk]; omega, ?_⟩
  refine ⟨by show 0 ≤ IntKind.u64.wrap (32 - Go.bits .and .u64 (IntKind.u64.wrap k) 31); rw [hk, wrap_u64 (by omega) (by omega)]; omega, ?_⟩
  show some (IV.int .u32 (Go.bits .or .u32 (IntKind.u32.wrap ((x.toNat : Int) * 2 ^ (min (Go.bits .and .u64 (IntKind.u64.wrap k) 31).toNat 32))) ((x.toNat : Int).fdiv (2 ^ (min (IntKind.u64.wrap (32 - Go.bits .and .u64 (IntKind.u64.wrap k) 31)).toNat 32))))) = some (u32 (rotl x n))
  rw [hk, wrap_u64 (a := 32 - (n : Int)) (by omega) (by omega), show (32 - (n : Int)).toNat = 32 - n by omega, Int.toNat_natCast, u32_shl x n h1, u32_shr x (32 - n) (by omega), u32_or]
  rfl
end Go.Kn

namespace Go.Kn
open Go Go.Proofs

variable {G : Gl}

/-- The words, so many bytes read. -/
def fB (t : List UInt8) : Nat → Nat → UInt32
  | 0, _ => 0
  | i + 1, j => if j = i / 4 then (fB t i j <<< 8) ||| (t.getD i 0).toUInt32 else fB t i j

def sig0 (a : UInt32) : UInt32 := (rotl a 25 ^^^ rotl a 14) ^^^ (a >>> 3)
def sig1 (a : UInt32) : UInt32 := (rotl a 15 ^^^ rotl a 13) ^^^ (a >>> 10)

def wd (t : List UInt8) (i : Nat) : UInt32 :=
  if i < 16 then fB t 64 i else wd t (i - 16) + wd t (i - 7) + sig0 (wd t (i - 15)) + sig1 (wd t (i - 2))
  termination_by i

theorem div4 {i : Nat} (h : i < 1000) : IntKind.i64.wrap ((i : Int).tdiv 4) = ((i / 4 : Nat) : Int) := by
  rw [Int.tdiv_eq_ediv_of_nonneg (by omega), wrap_i64 (by omega) (by omega)]; omega

theorem u8_u32 (c : UInt8) : IntKind.u32.wrap (c.toNat : Int) = ((c.toUInt32).toNat : Int) := by
  have := c.toNat_lt
  rw [wrap_u32_mod, UInt8.toNat_toUInt32]; omega

def z64 : MO := .var ((w32 64 fun _ => 0).map .i)

theorem words_loop1 {t : List UInt8} (ht : t.length = 64) {env : Env} {m : Mem} {Q : EQ}
    (hE : LkE env [(0, .i (.str t)), (2, .ptr 2 0), (3, .ptr 3 0), (9, .i (.int .i64 0))]) (hM : LkM m [(2, z64), (3, .var ((w32 64 (fB t 0)).map .i))])
    (hQ : Q (.exit 0) [(0, .i (.str t)), (2, .ptr 2 0), (3, .ptr 3 0)] [(2, z64), (3, .var ((w32 64 (fB t 64)).map .i))]) :
    LoopW Pg G Fb.sha256_words.ntmps (nthLoop Fb.sha256_words 0) env m Q := by
  refine loopX T_ok 0 (S := Nat) (S' := Unit) (fun i => [(0, .i (.str t)), (2, .ptr 2 0), (3, .ptr 3 0), (9, .i (.int .i64 (i : Int)))]) (fun i => [(2, z64), (3, .var ((w32 64 (fB t i)).map .i))]) (fun i => 64 - i) (fun i => i ≤ 64)
    (fun _ => [(0, .i (.str t)), (2, .ptr 2 0), (3, .ptr 3 0)]) (fun _ => [(2, z64), (3, .var ((w32 64 (fB t 64)).map .i))]) (fun _ => True) 0 hE hM (by omega) ?_ (fun _ _ => hQ)
  intro i hi
  refine condP.split (fun g => ?_) (fun g => ?_)
  · have g' : i < 64 := by have : (i : Int) < 64 := of_decide_eq_true g; omega
    have h4 := div4 (i := i) (by omega)
    refine drawW T_ok (by decide +kernel) ?_
    refine ⟨by decide, ?_⟩
    refine ⟨by decide, ?_⟩
    refine ⟨⟨?_, ?_⟩, ?_⟩
    · show 0 ≤ IntKind.i64.wrap ((i : Int).tdiv 4)
      rw [h4]; omega
    · show IntKind.i64.wrap ((i : Int).tdiv 4) < 64
      rw [h4]; omega
    refine withO.intro (q := .i (u32 (fB t i (i / 4)))) ?_ ?_
    · show ((w32 64 (fB t i)).map PV.i)[(IntKind.i64.wrap ((i : Int).tdiv 4)).toNat]? = _
      rw [h4]; exact w32_get _ (by omega)
    refine ⟨by decide, ?_⟩
    refine ⟨⟨by omega, by omega⟩, ?_⟩
    refine ⟨⟨?_, ?_⟩, ?_⟩
    · show 0 ≤ IntKind.i64.wrap ((i : Int).tdiv 4)
      rw [h4]; omega
    · show IntKind.i64.wrap ((i : Int).tdiv 4) < 64
      rw [h4]; omega
    refine bifI ?_ ?_
    · show (true && Nat.ble ((IntKind.i64.wrap ((i : Int).tdiv 4)).toNat + 1) ((w32 64 (fB t i)).map PV.i).length) = true
      rw [h4, List.length_map, w32_len]; simp; omega
    refine ⟨by kernel_rfl, ?_⟩
    refine ⟨i + 1, ⟨by omega, by omega⟩, ⟨rfl, rfl, rfl, congrArg (fun n => some (PV.i (IV.int .i64 n))) (int_succ (by omega)), trivial⟩, ⟨rfl, ?_, trivial⟩⟩
    refine w32_store (fB t i) (i := i / 4) (v := (fB t i (i / 4) <<< 8) ||| (t.getD i 0).toUInt32) ?_ ?_ (by omega) ?_
    · show (IntKind.i64.wrap ((i : Int).tdiv 4)).toNat = i / 4
      rw [h4]; rfl
    · show IV.int .u32 (Go.bits .or .u32 (IntKind.u32.wrap (((fB t i (i / 4)).toNat : Int) * 2 ^ (min 8 32))) (IntKind.u32.wrap ((t.getD i 0).toNat : Int))) = _
      rw [u32_shl _ 8 (by omega), u8_u32, u32_or]
      rfl
    · intro j _
      simp only [fB]
      split
      · rename_i h; rw [h]
      · rfl
  · have g' : i = 64 := by have : ¬ (i : Int) < 64 := of_decide_eq_false g; omega
    subst g'
    exact ⟨(), trivial, ⟨rfl, rfl, rfl, trivial⟩, ⟨rfl, rfl, trivial⟩⟩
/-- The words, so many made. -/
def gB (t : List UInt8) (i j : Nat) : UInt32 := if j < i then wd t j else fB t 64 j

theorem gB_lt (t : List UInt8) {i j : Nat} (h : j < i) : gB t i j = wd t j := by simp [gB, h]

theorem wd_big (t : List UInt8) {i : Nat} (h : 16 ≤ i) : wd t i = wd t (i - 16) + wd t (i - 7) + sig0 (wd t (i - 15)) + sig1 (wd t (i - 2)) := by
  rw [wd, if_neg (by omega)]

theorem wd_small (t : List UInt8) {i : Nat} (h : i < 16) : wd t i = fB t 64 i := by
  rw [wd, if_pos h]

theorem sub_i64 {i k : Nat} (h : k ≤ i) (hi : i < 1000) : IntKind.i64.wrap ((i : Int) - (k : Int)) = ((i - k : Nat) : Int) := by
  rw [wrap_i64 (by omega) (by omega)]; omega

theorem words_loop2 {t : List UInt8} {env : Env} {m : Mem} {Q : EQ}
    (hE : LkE env [(0, .i (.str t)), (2, .ptr 2 0), (3, .ptr 3 0), (5, .i (.func (.func Fn.math_bits_RotateLeft32) [])), (6, .i (.int .i64 16))]) (hM : LkM m [(2, z64), (3, .var ((w32 64 (gB t 16)).map .i))])
    (hQ : Q (.exit 2) [(0, .i (.str t)), (2, .ptr 2 0), (3, .ptr 3 0)] [(2, z64), (3, .var ((w32 64 (gB t 64)).map .i))]) :
    LoopW Pg G Fb.sha256_words.ntmps (nthLoop Fb.sha256_words 1) env m Q := by
  refine loopX T_ok 2 (S := Nat) (S' := Unit) (fun i => [(0, .i (.str t)), (2, .ptr 2 0), (3, .ptr 3 0), (5, .i (.func (.func Fn.math_bits_RotateLeft32) [])), (6, .i (.int .i64 (i : Int)))]) (fun i => [(2, z64), (3, .var ((w32 64 (gB t i)).map .i))]) (fun i => 64 - i) (fun i => 16 ≤ i ∧ i ≤ 64)
    (fun _ => [(0, .i (.str t)), (2, .ptr 2 0), (3, .ptr 3 0)]) (fun _ => [(2, z64), (3, .var ((w32 64 (gB t 64)).map .i))]) (fun _ => True) 16 hE hM ⟨by omega, by omega⟩ ?_ (fun _ _ => hQ)
  rintro i ⟨hi0, hi⟩
  refine condP.split (fun g => ?_) (fun g => ?_)
  · have g' : i < 64 := by have : (i : Int) < 64 := of_decide_eq_true g; omega
    have h15 : IntKind.i64.wrap ((i : Int) - 15) = ((i - 15 : Nat) : Int) := sub_i64 (k := 15) (by omega) (by omega)
    have h2 : IntKind.i64.wrap ((i : Int) - 2) = ((i - 2 : Nat) : Int) := sub_i64 (k := 2) (by omega) (by omega)
    have h16 : IntKind.i64.wrap ((i : Int) - 16) = ((i - 16 : Nat) : Int) := sub_i64 (k := 16) (by omega) (by omega)
    have h7 : IntKind.i64.wrap ((i : Int) - 7) = ((i - 7 : Nat) : Int) := sub_i64 (k := 7) (by omega) (by omega)
    have ix : ∀ {x : Int} {k : Nat}, x = ((i - k : Nat) : Int) → 0 < k → k ≤ 16 → 0 ≤ x ∧ x < ((64 : Nat) : Int) := fun h h1 h2 => by rw [h]; omega
    have gt : ∀ {x : Int} {k : Nat}, x = ((i - k : Nat) : Int) → 0 < k → k ≤ 16 → ((w32 64 (gB t i)).map PV.i)[x.toNat]? = some (.i (u32 (wd t (i - k)))) := fun {x k} h h1 h2 => by
      rw [h, Int.toNat_natCast, w32_get _ (by omega), gB_lt t (by omega)]
    refine drawW T_ok (by decide +kernel) ?_
    refine ⟨ix h15 (by omega) (by omega), ?_⟩
    refine withO.intro (gt h15 (by omega) (by omega)) ?_
    refine ⟨ix h2 (by omega) (by omega), ?_⟩
    refine withO.intro (gt h2 (by omega) (by omega)) ?_
    refine ⟨by kernel_rfl, ?_⟩
    refine drawW T_ok (by decide +kernel) ?_
    refine ⟨ix h16 (by omega) (by omega), ?_⟩
    refine withO.intro (gt h16 (by omega) (by omega)) ?_
    refine ⟨ix h7 (by omega) (by omega), ?_⟩
    refine withO.intro (gt h7 (by omega) (by omega)) ?_
    refine ⟨_, _, ⟨rfl, rotl_ok (wd t (i - 15)) (-7) 25 (by decide) (by decide) (by decide)⟩, ?_⟩
    refine ⟨_, _, ⟨rfl, rotl_ok (wd t (i - 15)) (-18) 14 (by decide) (by decide) (by decide)⟩, ?_⟩
    refine ⟨by decide, ?_⟩
    refine ⟨_, _, ⟨rfl, rotl_ok (wd t (i - 2)) (-17) 15 (by decide) (by decide) (by decide)⟩, ?_⟩
    refine ⟨_, _, ⟨rfl, rotl_ok (wd t (i - 2)) (-19) 13 (by decide) (by decide) (by decide)⟩, ?_⟩
    refine ⟨by decide, ?_⟩
    refine ⟨⟨by omega, by omega⟩, ?_⟩
    refine bifI ?_ ?_
    · show (true && Nat.ble ((i : Int).toNat + 1) ((w32 64 (gB t i)).map PV.i).length) = true
      rw [List.length_map, w32_len]; simp; omega
    refine ⟨by kernel_rfl, ?_⟩
    refine ⟨i + 1, ⟨by omega, by omega, by omega⟩, ⟨rfl, rfl, rfl, rfl, congrArg (fun n => some (PV.i (IV.int .i64 n))) (int_succ (by omega)), trivial⟩, ⟨rfl, ?_, trivial⟩⟩
    refine w32_store (gB t i) (i := i) (v := wd t i) rfl ?_ (by omega) ?_
    · show IV.int .u32 (IntKind.u32.wrap (IntKind.u32.wrap (IntKind.u32.wrap (((wd t (i - 16)).toNat : Int) + ((wd t (i - 7)).toNat : Int)) +
        Go.bits .xor .u32 (Go.bits .xor .u32 ((rotl (wd t (i - 15)) 25).toNat : Int) ((rotl (wd t (i - 15)) 14).toNat : Int)) (((wd t (i - 15)).toNat : Int).fdiv (2 ^ (min 3 32)))) +
        Go.bits .xor .u32 (Go.bits .xor .u32 ((rotl (wd t (i - 2)) 15).toNat : Int) ((rotl (wd t (i - 2)) 13).toNat : Int)) (((wd t (i - 2)).toNat : Int).fdiv (2 ^ (min 10 32))))) = _
      rw [u32_shr _ 3 (by omega), u32_shr _ 10 (by omega), u32_xor, u32_xor, u32_xor, u32_xor, u32_add, u32_add, u32_add, wd_big t hi0]
      rfl
    · intro j _
      unfold gB
      by_cases hj : j = i
      · subst hj; simp
      · rw [if_neg hj]
        by_cases h1 : j < i
        · rw [if_pos h1, if_pos (by omega)]
        · rw [if_neg h1, if_neg (by omega)]
  · have g' : i = 64 := by have : ¬ (i : Int) < 64 := of_decide_eq_false g; omega
    subst g'
    exact ⟨(), trivial, ⟨rfl, rfl, rfl, trivial⟩, ⟨rfl, rfl, trivial⟩⟩

set_option maxRecDepth 100000 in
theorem sha256_words_ok {t : List UInt8} (ht : t.length = 64) : PureC Pg G Fn.sha256_words [.str t] (.agg (w32 64 (wd t))) := by
  refine pureC_of T_ok Fd.sha256_words rfl (by kernel_rfl) ?_
  refine words_loop1 ht ⟨rfl, rfl, rfl, rfl, trivial⟩ ⟨rfl, rfl, trivial⟩ ?_
  refine words_loop2 (t := t) ⟨rfl, rfl, rfl, rfl, rfl, trivial⟩ ⟨rfl, ?_, trivial⟩ ?_
  · show some (MO.var ((w32 64 (fB t 64)).map .i)) = _
    rw [w32_congr (f := fB t 64) (g := gB t 16) fun i hi => ?_]
    unfold gB
    split
    · rename_i h; exact (wd_small t h).symm
    · rfl
  · rw [w32_congr (f := gB t 64) (g := wd t) fun i hi => gB_lt t hi]
    generalize wd t = f
    rfl
end Go.Kn

namespace Go.Kn
open Go Go.Proofs

def kL : List UInt32 := [
  1116352408, 1899447441, 3049323471, 3921009573, 961987163, 1508970993, 2453635748, 2870763221,
  3624381080, 310598401, 607225278, 1426881987, 1925078388, 2162078206, 2614888103, 3248222580,
  3835390401, 4022224774, 264347078, 604807628, 770255983, 1249150122, 1555081692, 1996064986,
  2554220882, 2821834349, 2952996808, 3210313671, 3336571891, 3584528711, 113926993, 338241895,
  666307205, 773529912, 1294757372, 1396182291, 1695183700, 1986661051, 2177026350, 2456956037,
  2730485921, 2820302411, 3259730800, 3345764771, 3516065817, 3600352804, 4094571909, 275423344,
  430227734, 506948616, 659060556, 883997877, 958139571, 1322822218, 1537002063, 1747873779,
  1955562222, 2024104815, 2227730452, 2361852424, 2428436474, 2756734187, 3204031479, 3329325298]
def kF (i : Nat) : UInt32 := kL.getD i 0

/-- What the program's variables hold. -/
def G0 : Gl := [(Gv.sha256_constants, w32 64 kF)]

def X1 (f : Nat → UInt32) (K W : UInt32) : UInt32 := f 7 + ((rotl (f 4) 26 ^^^ rotl (f 4) 21) ^^^ rotl (f 4) 7) + ((f 4 &&& f 5) ^^^ (~~~(f 4) &&& f 6)) + K + W
def Y1 (f : Nat → UInt32) : UInt32 := ((rotl (f 0) 30 ^^^ rotl (f 0) 19) ^^^ rotl (f 0) 10) + (((f 0 &&& f 1) ^^^ (f 0 &&& f 2)) ^^^ (f 1 &&& f 2))

def rnd (f : Nat → UInt32) (K W : UInt32) : Nat → UInt32
  | 0 => X1 f K W + Y1 f
  | 1 => f 0
  | 2 => f 1
  | 3 => f 2
  | 4 => f 3 + X1 f K W
  | 5 => f 4
  | 6 => f 5
  | _ => f 6

def rnds (f W : Nat → UInt32) : Nat → Nat → UInt32
  | 0 => f
  | i + 1 => rnd (rnds f W i) (kF i) (W i)

def blk (s : Nat → UInt32) (t : List UInt8) (i : Nat) : UInt32 := rnds s (wd t) 64 i + s i

theorem cells8 {a0 a1 a2 a3 a4 a5 a6 a7 : PV} {g : Nat → UInt32} (h0 : a0 = .i (u32 (g 0))) (h1 : a1 = .i (u32 (g 1))) (h2 : a2 = .i (u32 (g 2))) (h3 : a3 = .i (u32 (g 3))) (h4 : a4 = .i (u32 (g 4))) (h5 : a5 = .i (u32 (g 5))) (h6 : a6 = .i (u32 (g 6))) (h7 : a7 = .i (u32 (g 7))) :
    some (MO.var [a0, a1, a2, a3, a4, a5, a6, a7]) = some (.var ((w32 8 g).map .i)) := by
  subst h0; subst h1; subst h2; subst h3; subst h4; subst h5; subst h6; subst h7; rfl

def z8 : MO := .var ((w32 8 fun _ => 0).map .i)

def bM (s f : Nat → UInt32) : Mem := [(2, .var ((w32 8 s).map .i)), (4, z8), (6, .var ((w32 8 f).map .i))]

theorem block_loop1 {s W : Nat → UInt32} {env : Env} {m : Mem} {Q : EQ}
    (hE : LkE env [(2, .ptr 2 0), (4, .ptr 4 0), (5, .i (.func (.func Fn.math_bits_RotateLeft32) [])), (6, .ptr 6 0), (16, .i (.agg (w32 64 W))), (17, .i (.int .i64 0))]) (hM : LkM m (bM s s))
    (hQ : Q (.exit 0) [(2, .ptr 2 0), (4, .ptr 4 0), (6, .ptr 6 0)] (bM s (rnds s W 64))) :
    LoopW Pg G0 Fb.sha256_block.ntmps (nthLoop Fb.sha256_block 0) env m Q := by
  refine loopX T_ok 0 (S := Nat) (S' := Unit) (fun i => [(2, .ptr 2 0), (4, .ptr 4 0), (5, .i (.func (.func Fn.math_bits_RotateLeft32) [])), (6, .ptr 6 0), (16, .i (.agg (w32 64 W))), (17, .i (.int .i64 (i : Int)))]) (fun i => bM s (rnds s W i)) (fun i => 64 - i) (fun i => i ≤ 64)
    (fun _ => [(2, .ptr 2 0), (4, .ptr 4 0), (6, .ptr 6 0)]) (fun _ => bM s (rnds s W 64)) (fun _ => True) 0 hE hM (by omega) ?_ (fun _ _ => hQ)
  intro i hi
  refine condP.split (fun g => ?_) (fun g => ?_)
  · have g' : i < 64 := by have : (i : Int) < 64 := of_decide_eq_true g; omega
    refine ⟨⟨by omega, by omega⟩, u32 (W i), ?_, ?_⟩
    · show (w32 64 W)[(i : Int).toNat]? = _
      exact w32_get' W g'
    have hr : rnds s W (i + 1) = rnd (rnds s W i) (kF i) (W i) := rfl
    generalize rnds s W i = f at *
    refine drawW T_ok (by decide +kernel) ?_
    refine ⟨⟨by decide, by decide⟩, ?_⟩
    refine ⟨⟨by decide, by decide⟩, ?_⟩
    refine ⟨by kernel_rfl, ?_⟩
    refine drawW T_ok (by decide +kernel) ?_
    refine ⟨⟨by decide, by decide⟩, ?_⟩
    refine ⟨_, _, ⟨rfl, rotl_ok (f 4) (-6) 26 (by decide) (by decide) (by decide)⟩, ?_⟩
    refine ⟨_, _, ⟨rfl, rotl_ok (f 4) (-11) 21 (by decide) (by decide) (by decide)⟩, ?_⟩
    refine ⟨_, _, ⟨rfl, rotl_ok (f 4) (-25) 7 (by decide) (by decide) (by decide)⟩, ?_⟩
    refine ⟨⟨by decide, by decide⟩, ?_⟩
    refine ⟨⟨by decide, by decide⟩, ?_⟩
    refine ⟨⟨by omega, by omega⟩, ?_⟩
    refine withX.intro (w32_drop kF (show (i : Int).toNat < 64 by omega)) ?_
    refine ⟨by kernel_rfl, ?_⟩
    refine drawW T_ok (by decide +kernel) ?_
    refine ⟨_, _, ⟨rfl, rotl_ok (f 0) (-2) 30 (by decide) (by decide) (by decide)⟩, ?_⟩
    refine ⟨_, _, ⟨rfl, rotl_ok (f 0) (-13) 19 (by decide) (by decide) (by decide)⟩, ?_⟩
    refine ⟨_, _, ⟨rfl, rotl_ok (f 0) (-22) 10 (by decide) (by decide) (by decide)⟩, ?_⟩
    refine ⟨⟨by decide, by decide⟩, ?_⟩
    refine ⟨⟨by decide, by decide⟩, ?_⟩
    refine ⟨⟨by decide, by decide⟩, ?_⟩
    refine ⟨⟨by decide, by decide⟩, ?_⟩
    refine ⟨by kernel_rfl, ?_⟩
    refine drawW T_ok (by decide +kernel) ?_
    refine ⟨⟨by decide, by decide, by decide, by decide⟩, ?_⟩
    refine ⟨⟨by decide, by decide, by decide, by decide⟩, ?_⟩
    refine ⟨[.i (u32 (f 0)), .i (u32 (f 0)), .i (u32 (f 1)), .i (u32 (f 2)), .i (u32 (f 3)), .i (u32 (f 4)), .i (u32 (f 5)), .i (u32 (f 6))], ⟨(by show (8 : Nat) ≤ 8; decide), (by show (7 : Nat) ≤ 8; decide), rfl⟩, ?_⟩
    refine ⟨by kernel_rfl, ?_⟩
    refine ⟨⟨by decide, by decide⟩, ?_⟩
    refine ⟨⟨by decide, by decide⟩, ?_⟩
    refine ⟨⟨by decide, by decide⟩, ?_⟩
    refine ⟨i + 1, ⟨by omega, by omega⟩, ⟨rfl, rfl, rfl, rfl, rfl, congrArg (fun n => some (PV.i (IV.int .i64 n))) (int_succ (by omega)), trivial⟩, ⟨rfl, rfl, ?_, trivial⟩⟩
    rw [hr]
    have hX : IntKind.u32.wrap (IntKind.u32.wrap (IntKind.u32.wrap (IntKind.u32.wrap (((f 7).toNat : Int) +
        Go.bits .xor .u32 (Go.bits .xor .u32 ((rotl (f 4) 26).toNat : Int) ((rotl (f 4) 21).toNat : Int)) ((rotl (f 4) 7).toNat : Int)) +
        Go.bits .xor .u32 (Go.bits .and .u32 ((f 4).toNat : Int) ((f 5).toNat : Int)) (Go.bits .and .u32 (Go.bits .xor .u32 (if IntKind.u32.signed = true then -1 else IntKind.u32.max) ((f 4).toNat : Int)) ((f 6).toNat : Int))) +
        ((kF i).toNat : Int)) + ((W i).toNat : Int)) = ((X1 f (kF i) (W i)).toNat : Int) := by
      rw [u32_not]
      simp only [u32_xor, u32_and, u32_add]
      rfl
    have hY : IntKind.u32.wrap (Go.bits .xor .u32 (Go.bits .xor .u32 ((rotl (f 0) 30).toNat : Int) ((rotl (f 0) 19).toNat : Int)) ((rotl (f 0) 10).toNat : Int) +
        Go.bits .xor .u32 (Go.bits .xor .u32 (Go.bits .and .u32 ((f 0).toNat : Int) ((f 1).toNat : Int)) (Go.bits .and .u32 ((f 0).toNat : Int) ((f 2).toNat : Int))) (Go.bits .and .u32 ((f 1).toNat : Int) ((f 2).toNat : Int))) = ((Y1 f).toNat : Int) := by
      simp only [u32_xor, u32_and, u32_add]
      rfl
    refine cells8 ?_ rfl rfl rfl ?_ rfl rfl rfl
    · show PV.i (IV.int .u32 (IntKind.u32.wrap (IntKind.u32.wrap (IntKind.u32.wrap (IntKind.u32.wrap (IntKind.u32.wrap (((f 7).toNat : Int) +
        Go.bits .xor .u32 (Go.bits .xor .u32 ((rotl (f 4) 26).toNat : Int) ((rotl (f 4) 21).toNat : Int)) ((rotl (f 4) 7).toNat : Int)) +
        Go.bits .xor .u32 (Go.bits .and .u32 ((f 4).toNat : Int) ((f 5).toNat : Int)) (Go.bits .and .u32 (Go.bits .xor .u32 (if IntKind.u32.signed = true then -1 else IntKind.u32.max) ((f 4).toNat : Int)) ((f 6).toNat : Int))) +
        ((kF i).toNat : Int)) + ((W i).toNat : Int)) +
        IntKind.u32.wrap (Go.bits .xor .u32 (Go.bits .xor .u32 ((rotl (f 0) 30).toNat : Int) ((rotl (f 0) 19).toNat : Int)) ((rotl (f 0) 10).toNat : Int) +
        Go.bits .xor .u32 (Go.bits .xor .u32 (Go.bits .and .u32 ((f 0).toNat : Int) ((f 1).toNat : Int)) (Go.bits .and .u32 ((f 0).toNat : Int) ((f 2).toNat : Int))) (Go.bits .and .u32 ((f 1).toNat : Int) ((f 2).toNat : Int)))))) = _
      rw [hX, hY, u32_add]
      rfl
    · show PV.i (IV.int .u32 (IntKind.u32.wrap (((f 3).toNat : Int) + IntKind.u32.wrap (IntKind.u32.wrap (IntKind.u32.wrap (IntKind.u32.wrap (((f 7).toNat : Int) +
        Go.bits .xor .u32 (Go.bits .xor .u32 ((rotl (f 4) 26).toNat : Int) ((rotl (f 4) 21).toNat : Int)) ((rotl (f 4) 7).toNat : Int)) +
        Go.bits .xor .u32 (Go.bits .and .u32 ((f 4).toNat : Int) ((f 5).toNat : Int)) (Go.bits .and .u32 (Go.bits .xor .u32 (if IntKind.u32.signed = true then -1 else IntKind.u32.max) ((f 4).toNat : Int)) ((f 6).toNat : Int))) +
        ((kF i).toNat : Int)) + ((W i).toNat : Int))))) = _
      rw [hX, u32_add]
      rfl
  · have g' : i = 64 := by have : ¬ (i : Int) < 64 := of_decide_eq_false g; omega
    subst g'
    exact ⟨(), trivial, ⟨rfl, rfl, rfl, trivial⟩, ⟨rfl, rfl, rfl, trivial⟩⟩
def hB (s f : Nat → UInt32) (i j : Nat) : UInt32 := if j < i then f j + s j else f j

theorem block_loop2 {s f : Nat → UInt32} {env : Env} {m : Mem} {Q : EQ}
    (hE : LkE env [(2, .ptr 2 0), (4, .ptr 4 0), (6, .ptr 6 0), (96, .i (.int .i64 0))]) (hM : LkM m (bM s f))
    (hQ : Q (.exit 2) [(2, .ptr 2 0), (4, .ptr 4 0), (6, .ptr 6 0)] (bM s (fun i => f i + s i))) :
    LoopW Pg G0 Fb.sha256_block.ntmps (nthLoop Fb.sha256_block 1) env m Q := by
  refine loopX T_ok 2 (S := Nat) (S' := Unit) (fun i => [(2, .ptr 2 0), (4, .ptr 4 0), (6, .ptr 6 0), (96, .i (.int .i64 (i : Int)))]) (fun i => bM s (hB s f i)) (fun i => 8 - i) (fun i => i ≤ 8)
    (fun _ => [(2, .ptr 2 0), (4, .ptr 4 0), (6, .ptr 6 0)]) (fun _ => bM s (fun i => f i + s i)) (fun _ => True) 0 hE hM (by omega) ?_ (fun _ _ => hQ)
  intro i hi
  refine condP.split (fun g => ?_) (fun g => ?_)
  · have g' : i < 8 := by have : (i : Int) < 8 := of_decide_eq_true g; omega
    refine drawW T_ok (by decide +kernel) ?_
    refine ⟨⟨by omega, by omega⟩, ?_⟩
    refine withO.intro (w32_get (hB s f i) (show (i : Int).toNat < 8 by omega)) ?_
    refine ⟨⟨by omega, by omega⟩, ?_⟩
    refine withO.intro (w32_get s (show (i : Int).toNat < 8 by omega)) ?_
    refine ⟨⟨by omega, by omega⟩, ?_⟩
    refine bifI ?_ ?_
    · show (true && Nat.ble ((i : Int).toNat + 1) ((w32 8 (hB s f i)).map PV.i).length) = true
      rw [List.length_map, w32_len]; simp; omega
    refine ⟨by kernel_rfl, ?_⟩
    refine ⟨i + 1, ⟨by omega, by omega⟩, ⟨rfl, rfl, rfl, congrArg (fun n => some (PV.i (IV.int .i64 n))) (int_succ (by omega)), trivial⟩, ⟨rfl, rfl, ?_, trivial⟩⟩
    refine w32_store (hB s f i) (i := i) (v := hB s f i i + s i) rfl ?_ (by omega) ?_
    · show IV.int .u32 (IntKind.u32.wrap (((hB s f i i).toNat : Int) + ((s i).toNat : Int))) = _
      rw [u32_add]; rfl
    · intro j _
      unfold hB
      by_cases hj : j = i
      · subst hj; simp
      · rw [if_neg hj]
        by_cases h1 : j < i
        · rw [if_pos h1, if_pos (by omega)]
        · rw [if_neg h1, if_neg (by omega)]
  · have g' : i = 8 := by have : ¬ (i : Int) < 8 := of_decide_eq_false g; omega
    subst g'
    exact ⟨(), trivial, ⟨rfl, rfl, rfl, trivial⟩, ⟨rfl, rfl, rfl, trivial⟩⟩

set_option maxRecDepth 100000 in
theorem sha256_block_ok (s : Nat → UInt32) {t : List UInt8} (ht : t.length = 64) : PureC Pg G0 Fn.sha256_block [.agg (w32 8 s), .str t] (.agg (w32 8 (blk s t))) := by
  refine pureW_of T_ok Fd.sha256_block rfl (by kernel_rfl) ?_
  refine CW.next T_ok ?_
  refine CW.next T_ok ?_
  refine CW.next T_ok ?_
  refine CW.go T_ok ?_
  refine ⟨_, _, _, pureCall (sha256_words_ok ht) rfl, ?_⟩
  refine block_loop1 (s := s) (W := wd t) ⟨rfl, rfl, rfl, rfl, rfl, rfl, trivial⟩ ⟨rfl, rfl, rfl, trivial⟩ ?_
  refine block_loop2 (s := s) (f := rnds s (wd t) 64) ⟨rfl, rfl, rfl, rfl, trivial⟩ ⟨rfl, rfl, rfl, trivial⟩ ?_
  show some _ = some (IV.agg (w32 8 (fun i => rnds s (wd t) 64 i + s i)))
  generalize rnds s (wd t) 64 = f
  rfl
end Go.Kn
