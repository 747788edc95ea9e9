/- The program's package sha256: the words of a block. -/
import Derived.Test.YtiibdlpfgmeifaaGreatDoorKn07
import Derived.Below
set_option autoImplicit false
set_option maxRecDepth 100000
namespace Go.Kn
open Go Go.Proofs
variable {G : Gl}
def fB (t : List UInt8) : Nat → Nat → UInt32
  | 0, _ => 0
  | i + 1, j => if j = i / 4 then (fB t i j <<< 8) ||| (t.getD i 0).toUInt32 else fB t i j
def sig0 (a : UInt32) : UInt32 := (rotl a 25 ^^^ rotl a 14) ^^^ (a >>> 3)
def sig1 (a : UInt32) : UInt32 := (rotl a 15 ^^^ rotl a 13) ^^^ (a >>> 10)
def wd (t : List UInt8) (i : Nat) : UInt32 :=
  if i < 16 then fB t 64 i else wd t (i - 16) + wd t (i - 7) + sig0 (wd t (i - 15)) + sig1 (wd t (i - 2))
  termination_by i
theorem div4 {i : Nat} (h : i < 1000) : IntKind.i64.wrap ((i : Int).tdiv 4) = ((i / 4 : Nat) : Int) := by
  rw [Int.tdiv_eq_ediv_of_nonneg (by omega), wrap_i64 (by omega) (by omega)]; omega
theorem u8_u32 (c : UInt8) : IntKind.u32.wrap (c.toNat : Int) = ((c.toUInt32).toNat : Int) := by
  have := c.toNat_lt
  rw [wrap_u32_mod, UInt8.toNat_toUInt32]; omega
def z64 : MO := .var ((w32 64 fun _ => 0).map .i)
theorem words_loop1 {t : List UInt8} (ht : t.length = 64) {env : Env} {m : Mem} {Q : EQ}
    (hE : LkE env [(0, .i (.str t)), (2, .ptr 2 0), (3, .ptr 3 0), (9, .i (.int .i64 0))]) (hM : LkM m [(2, z64), (3, .var ((w32 64 (fB t 0)).map .i))])
    (hQ : Q (.exit 0) [(0, .i (.str t)), (2, .ptr 2 0), (3, .ptr 3 0)] [(2, z64), (3, .var ((w32 64 (fB t 64)).map .i))]) :
    LoopW Pg G Fb.sha256_words.ntmps (nthLoop Fb.sha256_words 0) env m Q := by
  refine loopX T_ok 0 (S := Nat) (S' := Unit) (fun i => [(0, .i (.str t)), (2, .ptr 2 0), (3, .ptr 3 0), (9, .i (.int .i64 (i : Int)))]) (fun i => [(2, z64), (3, .var ((w32 64 (fB t i)).map .i))]) (fun i => 64 - i) (fun i => i ≤ 64)
    (fun _ => [(0, .i (.str t)), (2, .ptr 2 0), (3, .ptr 3 0)]) (fun _ => [(2, z64), (3, .var ((w32 64 (fB t 64)).map .i))]) (fun _ => True) 0 hE hM (by omega) ?_ (fun _ _ => hQ)
  intro i hi
  refine condP.split (fun g => ?_) (fun g => ?_)
  · have g' : i < 64 := by have : (i : Int) < 64 := of_decide_eq_true g; omega
    have h4 := div4 (i := i) (by omega)
    refine drawW T_ok (by decide +kernel) ?_
    refine ⟨by decide, ?_⟩
    refine ⟨by decide, ?_⟩
    refine ⟨⟨?_, ?_⟩, ?_⟩
    · show 0 ≤ IntKind.i64.wrap ((i : Int).tdiv 4)
      rw [h4]; omega
    · show IntKind.i64.wrap ((i : Int).tdiv 4) < 64
      rw [h4]; omega
    refine withO.intro (q := .i (u32 (fB t i (i / 4)))) ?_ ?_
    · show ((w32 64 (fB t i)).map PV.i)[(IntKind.i64.wrap ((i : Int).tdiv 4)).toNat]? = _
      rw [h4]; exact w32_get _ (by omega)
    refine ⟨by decide, ?_⟩
    refine ⟨⟨by omega, by omega⟩, ?_⟩
    refine ⟨⟨?_, ?_⟩, ?_⟩
    · show 0 ≤ IntKind.i64.wrap ((i : Int).tdiv 4)
      rw [h4]; omega
    · show IntKind.i64.wrap ((i : Int).tdiv 4) < 64
      rw [h4]; omega
    refine bifI ?_ ?_
    · show (true && Nat.ble ((IntKind.i64.wrap ((i : Int).tdiv 4)).toNat + 1) ((w32 64 (fB t i)).map PV.i).length) = true
      rw [h4, List.length_map, w32_len]; simp; omega
    refine ⟨by kernel_rfl, ?_⟩
    refine ⟨i + 1, ⟨by omega, by omega⟩, ⟨rfl, rfl, rfl, congrArg (fun n => some (PV.i (IV.int .i64 n))) (int_succ (by omega)), trivial⟩, ⟨rfl, ?_, trivial⟩⟩
    refine w32_store (fB t i) (i := i / 4) (v := (fB t i (i / 4) <<< 8) ||| (t.getD i 0).toUInt32) ?_ ?_ (by omega) ?_
    · show (IntKind.i64.wrap ((i : Int).tdiv 4)).toNat = i / 4
      rw [h4]; rfl
    · show IV.int .u32 (Go.bits .or .u32 (IntKind.u32.wrap (((fB t i (i / 4)).toNat : Int) * 2 ^ (min 8 32))) (IntKind.u32.wrap ((t.getD i 0).toNat : Int))) = _
      rw [u32_shl _ 8 (by omega), u8_u32, u32_or]
      rfl
    · intro j _
      simp only [fB]
      split
      · rename_i h; rw [h]
      · rfl
  · have g' : i = 64 := by have : ¬ (i : Int) < 64 := of_decide_eq_false g; omega
    subst g'
    exact ⟨(), trivial, ⟨rfl, rfl, rfl, trivial⟩, ⟨rfl, rfl, trivial⟩⟩
def gB (t : List UInt8) (i j : Nat) : UInt32 := if j < i then wd t j else fB t 64 j
theorem gB_lt (t : List UInt8) {i j : Nat} (h : j < i) : gB t i j = wd t j := by simp [gB, h]
theorem wd_big (t : List UInt8) {i : Nat} (h : 16 ≤ i) : wd t i = wd t (i - 16) + wd t (i - 7) + sig0 (wd t (i - 15)) + sig1 (wd t (i - 2)) := by
  rw [wd, if_neg (by omega)]
theorem wd_small (t : List UInt8) {i : Nat} (h : i < 16) : wd t i = fB t 64 i := by
  rw [wd, if_pos h]
theorem sub_i64 {i k : Nat} (h : k ≤ i) (hi : i < 1000) : IntKind.i64.wrap ((i : Int) - (k : Int)) = ((i - k : Nat) : Int) := by
  rw [wrap_i64 (by omega) (by omega)]; omega
theorem words_loop2 {t : List UInt8} {env : Env} {m : Mem} {Q : EQ}
    (hE : LkE env [(0, .i (.str t)), (2, .ptr 2 0), (3, .ptr 3 0), (5, .i (.func (.func Fn.math_bits_RotateLeft32) [])), (6, .i (.int .i64 16))]) (hM : LkM m [(2, z64), (3, .var ((w32 64 (gB t 16)).map .i))])
    (hQ : Q (.exit 2) [(0, .i (.str t)), (2, .ptr 2 0), (3, .ptr 3 0)] [(2, z64), (3, .var ((w32 64 (gB t 64)).map .i))]) :
    LoopW Pg G Fb.sha256_words.ntmps (nthLoop Fb.sha256_words 1) env m Q := by
  refine loopX T_ok 2 (S := Nat) (S' := Unit) (fun i => [(0, .i (.str t)), (2, .ptr 2 0), (3, .ptr 3 0), (5, .i (.func (.func Fn.math_bits_RotateLeft32) [])), (6, .i (.int .i64 (i : Int)))]) (fun i => [(2, z64), (3, .var ((w32 64 (gB t i)).map .i))]) (fun i => 64 - i) (fun i => 16 ≤ i ∧ i ≤ 64)
    (fun _ => [(0, .i (.str t)), (2, .ptr 2 0), (3, .ptr 3 0)]) (fun _ => [(2, z64), (3, .var ((w32 64 (gB t 64)).map .i))]) (fun _ => True) 16 hE hM ⟨by omega, by omega⟩ ?_ (fun _ _ => hQ)
  rintro i ⟨hi0, hi⟩
  refine condP.split (fun g => ?_) (fun g => ?_)
  · have g' : i < 64 := by have : (i : Int) < 64 := of_decide_eq_true g; omega
    have h15 : IntKind.i64.wrap ((i : Int) - 15) = ((i - 15 : Nat) : Int) := sub_i64 (k := 15) (by omega) (by omega)
    have h2 : IntKind.i64.wrap ((i : Int) - 2) = ((i - 2 : Nat) : Int) := sub_i64 (k := 2) (by omega) (by omega)
    have h16 : IntKind.i64.wrap ((i : Int) - 16) = ((i - 16 : Nat) : Int) := sub_i64 (k := 16) (by omega) (by omega)
    have h7 : IntKind.i64.wrap ((i : Int) - 7) = ((i - 7 : Nat) : Int) := sub_i64 (k := 7) (by omega) (by omega)
    have ix : ∀ {x : Int} {k : Nat}, x = ((i - k : Nat) : Int) → 0 < k → k ≤ 16 → 0 ≤ x ∧ x < ((64 : Nat) : Int) := fun h h1 h2 => by rw [h]; omega
    have gt : ∀ {x : Int} {k : Nat}, x = ((i - k : Nat) : Int) → 0 < k → k ≤ 16 → ((w32 64 (gB t i)).map PV.i)[x.toNat]? = some (.i (u32 (wd t (i - k)))) := fun {x k} h h1 h2 => by
      rw [h, Int.toNat_natCast, w32_get _ (by omega), gB_lt t (by omega)]
    refine drawW T_ok (by decide +kernel) ?_
    refine ⟨ix h15 (by omega) (by omega), ?_⟩
    refine withO.intro (gt h15 (by omega) (by omega)) ?_
    refine ⟨ix h2 (by omega) (by omega), ?_⟩
    refine withO.intro (gt h2 (by omega) (by omega)) ?_
    refine ⟨by kernel_rfl, ?_⟩
    refine drawW T_ok (by decide +kernel) ?_
    refine ⟨ix h16 (by omega) (by omega), ?_⟩
    refine withO.intro (gt h16 (by omega) (by omega)) ?_
    refine ⟨ix h7 (by omega) (by omega), ?_⟩
    refine withO.intro (gt h7 (by omega) (by omega)) ?_
    refine ⟨_, _, ⟨rfl, rotl_ok (wd t (i - 15)) (-7) 25 (by decide) (by decide) (by decide)⟩, ?_⟩
    refine ⟨_, _, ⟨rfl, rotl_ok (wd t (i - 15)) (-18) 14 (by decide) (by decide) (by decide)⟩, ?_⟩
    refine ⟨by decide, ?_⟩
    refine ⟨_, _, ⟨rfl, rotl_ok (wd t (i - 2)) (-17) 15 (by decide) (by decide) (by decide)⟩, ?_⟩
    refine ⟨_, _, ⟨rfl, rotl_ok (wd t (i - 2)) (-19) 13 (by decide) (by decide) (by decide)⟩, ?_⟩
    refine ⟨by decide, ?_⟩
    refine ⟨⟨by omega, by omega⟩, ?_⟩
    refine bifI ?_ ?_
    · show (true && Nat.ble ((i : Int).toNat + 1) ((w32 64 (gB t i)).map PV.i).length) = true
      rw [List.length_map, w32_len]; simp; omega
    refine ⟨by kernel_rfl, ?_⟩
    refine ⟨i + 1, ⟨by omega, by omega, by omega⟩, ⟨rfl, rfl, rfl, rfl, congrArg (fun n => some (PV.i (IV.int .i64 n))) (int_succ (by omega)), trivial⟩, ⟨rfl, ?_, trivial⟩⟩
    refine w32_store (gB t i) (i := i) (v := wd t i) rfl ?_ (by omega) ?_
    · show IV.int .u32 (IntKind.u32.wrap (IntKind.u32.wrap (IntKind.u32.wrap (((wd t (i - 16)).toNat : Int) + ((wd t (i - 7)).toNat : Int)) +
        Go.bits .xor .u32 (Go.bits .xor .u32 ((rotl (wd t (i - 15)) 25).toNat : Int) ((rotl (wd t (i - 15)) 14).toNat : Int)) (((wd t (i - 15)).toNat : Int).fdiv (2 ^ (min 3 32)))) +
        Go.bits .xor .u32 (Go.bits .xor .u32 ((rotl (wd t (i - 2)) 15).toNat : Int) ((rotl (wd t (i - 2)) 13).toNat : Int)) (((wd t (i - 2)).toNat : Int).fdiv (2 ^ (min 10 32))))) = _
      rw [u32_shr _ 3 (by omega), u32_shr _ 10 (by omega), u32_xor, u32_xor, u32_xor, u32_xor, u32_add, u32_add, u32_add, wd_big t hi0]
      rfl
    · intro j _
      unfold gB
      by_cases hj : j = i
      · subst hj; simp
      · rw [if_neg hj]
        by_cases h1 : j < i
        · rw [if_pos h1, if_pos (by omega)]
        · rw [if_neg h1, if_neg (by omega)]
  · have g' : i = 64 := by have : ¬ (i : Int) < 64 := of_decide_eq_false g; omega
    subst g'
    exact ⟨(), trivial, ⟨rfl, rfl, rfl, trivial⟩, ⟨rfl, rfl, trivial⟩⟩
set_option maxRecDepth 100000 in
theorem sha256_words_ok {t : List UInt8} (ht : t.length = 64) : PureC Pg G Fn.sha256_words [.str t] (.agg (w32 64 (wd t))) := by
  refine pureC_of T_ok Fd.sha256_words rfl (by kernel_rfl) ?_
  refine words_loop1 ht ⟨rfl, rfl, rfl, rfl, trivial⟩ ⟨rfl, rfl, trivial⟩ ?_
  refine words_loop2 (t := t) ⟨rfl, rfl, rfl, rfl, rfl, trivial⟩ ⟨rfl, ?_, trivial⟩ ?_
  · show some (MO.var ((w32 64 (fB t 64)).map .i)) = _
    rw [w32_congr (f := fB t 64) (g := gB t 16) fun i hi => ?_]
    unfold gB
    split
    · rename_i h; exact (wd_small t h).symm
    · rfl
  · rw [w32_congr (f := gB t 64) (g := wd t) fun i hi => gB_lt t hi]
    generalize wd t = f
    rfl
end Go.Kn
set_option maxRecDepth 100000
namespace Go.Kn
open Go Go.Proofs
def kL : List UInt32 := [
  1116352408, 1899447441, 3049323471, 3921009573, 961987163, 1508970993, 2453635748, 2870763221,
  3624381080, 310598401, 607225278, 1426881987, 1925078388, 2162078206, 2614888103, 3248222580,
  3835390401, 4022224774, 264347078, 604807628, 770255983, 1249150122, 1555081692, 1996064986,
  2554220882, 2821834349, 2952996808, 3210313671, 3336571891, 3584528711, 113926993, 338241895,
  666307205, 773529912, 1294757372, 1396182291, 1695183700, 1986661051, 2177026350, 2456956037,
  2730485921, 2820302411, 3259730800, 3345764771, 3516065817, 3600352804, 4094571909, 275423344,
  430227734, 506948616, 659060556, 883997877, 958139571, 1322822218, 1537002063, 1747873779,
  1955562222, 2024104815, 2227730452, 2361852424, 2428436474, 2756734187, 3204031479, 3329325298]
def kF (i : Nat) : UInt32 := kL.getD i 0
def G0 : Gl := [(Gv.sha256_constants, w32 64 kF)]
def X1 (f : Nat → UInt32) (K W : UInt32) : UInt32 := f 7 + ((rotl (f 4) 26 ^^^ rotl (f 4) 21) ^^^ rotl (f 4) 7) + ((f 4 &&& f 5) ^^^ (~~~(f 4) &&& f 6)) + K + W
def Y1 (f : Nat → UInt32) : UInt32 := ((rotl (f 0) 30 ^^^ rotl (f 0) 19) ^^^ rotl (f 0) 10) + (((f 0 &&& f 1) ^^^ (f 0 &&& f 2)) ^^^ (f 1 &&& f 2))
def rnd (f : Nat → UInt32) (K W : UInt32) : Nat → UInt32
  | 0 => X1 f K W + Y1 f
  | 1 => f 0
  | 2 => f 1
  | 3 => f 2
  | 4 => f 3 + X1 f K W
  | 5 => f 4
  | 6 => f 5
  | _ => f 6
def rnds (f W : Nat → UInt32) : Nat → Nat → UInt32
  | 0 => f
  | i + 1 => rnd (rnds f W i) (kF i) (W i)
def blk (s : Nat → UInt32) (t : List UInt8) (i : Nat) : UInt32 := rnds s (wd t) 64 i + s i
theorem cells8 {a0 a1 a2 a3 a4 a5 a6 a7 : PV} {g : Nat → UInt32} (h0 : a0 = .i (u32 (g 0))) (h1 : a1 = .i (u32 (g 1))) (h2 : a2 = .i (u32 (g 2))) (h3 : a3 = .i (u32 (g 3))) (h4 : a4 = .i (u32 (g 4))) (h5 : a5 = .i (u32 (g 5))) (h6 : a6 = .i (u32 (g 6))) (h7 : a7 = .i (u32 (g 7))) :
    some (MO.var [a0, a1, a2, a3, a4, a5, a6, a7]) = some (.var ((w32 8 g).map .i)) := by
  subst h0; subst h1; subst h2; subst h3; subst h4; subst h5; subst h6; subst h7; rfl
def z8 : MO := .var ((w32 8 fun _ => 0).map .i)
def bM (s f : Nat → UInt32) : Mem := [(2, .var ((w32 8 s).map .i)), (4, z8), (6, .var ((w32 8 f).map .i))]
theorem block_loop1 {s W : Nat → UInt32} {env : Env} {m : Mem} {Q : EQ}
    (hE : LkE env [(2, .ptr 2 0), (4, .ptr 4 0), (5, .i (.func (.func Fn.math_bits_RotateLeft32) [])), (6, .ptr 6 0), (16, .i (.agg (w32 64 W))), (17, .i (.int .i64 0))]) (hM : LkM m (bM s s))
    (hQ : Q (.exit 0) [(2, .ptr 2 0), (4, .ptr 4 0), (6, .ptr 6 0)] (bM s (rnds s W 64))) :
    LoopW Pg G0 Fb.sha256_block.ntmps (nthLoop Fb.sha256_block 0) env m Q := by
  refine loopX T_ok 0 (S := Nat) (S' := Unit) (fun i => [(2, .ptr 2 0), (4, .ptr 4 0), (5, .i (.func (.func Fn.math_bits_RotateLeft32) [])), (6, .ptr 6 0), (16, .i (.agg (w32 64 W))), (17, .i (.int .i64 (i : Int)))]) (fun i => bM s (rnds s W i)) (fun i => 64 - i) (fun i => i ≤ 64)
    (fun _ => [(2, .ptr 2 0), (4, .ptr 4 0), (6, .ptr 6 0)]) (fun _ => bM s (rnds s W 64)) (fun _ => True) 0 hE hM (by omega) ?_ (fun _ _ => hQ)
  intro i hi
  refine condP.split (fun g => ?_) (fun g => ?_)
  · have g' : i < 64 := by have : (i : Int) < 64 := of_decide_eq_true g; omega
    refine ⟨⟨by omega, by omega⟩, u32 (W i), ?_, ?_⟩
    · show (w32 64 W)[(i : Int).toNat]? = _
      exact w32_get' W g'
    have hr : rnds s W (i + 1) = rnd (rnds s W i) (kF i) (W i) := rfl
    generalize rnds s W i = f at *
    refine drawW T_ok (by decide +kernel) ?_
    refine ⟨⟨by decide, by decide⟩, ?_⟩
    refine ⟨⟨by decide, by decide⟩, ?_⟩
    refine ⟨by kernel_rfl, ?_⟩
    refine drawW T_ok (by decide +kernel) ?_
    refine ⟨⟨by decide, by decide⟩, ?_⟩
    refine ⟨_, _, ⟨rfl, rotl_ok (f 4) (-6) 26 (by decide) (by decide) (by decide)⟩, ?_⟩
    refine ⟨_, _, ⟨rfl, rotl_ok (f 4) (-11) 21 (by decide) (by decide) (by decide)⟩, ?_⟩
    refine ⟨_, _, ⟨rfl, rotl_ok (f 4) (-25) 7 (by decide) (by decide) (by decide)⟩, ?_⟩
    refine ⟨⟨by decide, by decide⟩, ?_⟩
    refine ⟨⟨by decide, by decide⟩, ?_⟩
    refine ⟨⟨by omega, by omega⟩, ?_⟩
    refine withX.intro (w32_drop kF (show (i : Int).toNat < 64 by omega)) ?_
    refine ⟨by kernel_rfl, ?_⟩
    refine drawW T_ok (by decide +kernel) ?_
    refine ⟨_, _, ⟨rfl, rotl_ok (f 0) (-2) 30 (by decide) (by decide) (by decide)⟩, ?_⟩
    refine ⟨_, _, ⟨rfl, rotl_ok (f 0) (-13) 19 (by decide) (by decide) (by decide)⟩, ?_⟩
    refine ⟨_, _, ⟨rfl, rotl_ok (f 0) (-22) 10 (by decide) (by decide) (by decide)⟩, ?_⟩
    refine ⟨⟨by decide, by decide⟩, ?_⟩
    refine ⟨⟨by decide, by decide⟩, ?_⟩
    refine ⟨⟨by decide, by decide⟩, ?_⟩
    refine ⟨⟨by decide, by decide⟩, ?_⟩
    refine ⟨by kernel_rfl, ?_⟩
    refine drawW T_ok (by decide +kernel) ?_
    refine ⟨⟨by decide, by decide, by decide, by decide⟩, ?_⟩
    refine ⟨⟨by decide, by decide, by decide, by decide⟩, ?_⟩
    refine ⟨[.i (u32 (f 0)), .i (u32 (f 0)), .i (u32 (f 1)), .i (u32 (f 2)), .i (u32 (f 3)), .i (u32 (f 4)), .i (u32 (f 5)), .i (u32 (f 6))], ⟨(by show (8 : Nat) ≤ 8; decide), (by show (7 : Nat) ≤ 8; decide), rfl⟩, ?_⟩
    refine ⟨by kernel_rfl, ?_⟩
    refine ⟨⟨by decide, by decide⟩, ?_⟩
    refine ⟨⟨by decide, by decide⟩, ?_⟩
    refine ⟨⟨by decide, by decide⟩, ?_⟩
    refine ⟨i + 1, ⟨by omega, by omega⟩, ⟨rfl, rfl, rfl, rfl, rfl, congrArg (fun n => some (PV.i (IV.int .i64 n))) (int_succ (by omega)), trivial⟩, ⟨rfl, rfl, ?_, trivial⟩⟩
    rw [hr]
    have hX : IntKind.u32.wrap (IntKind.u32.wrap (IntKind.u32.wrap (IntKind.u32.wrap (((f 7).toNat : Int) +
        Go.bits .xor .u32 (Go.bits .xor .u32 ((rotl (f 4) 26).toNat : Int) ((rotl (f 4) 21).toNat : Int)) ((rotl (f 4) 7).toNat : Int)) +
        Go.bits .xor .u32 (Go.bits .and .u32 ((f 4).toNat : Int) ((f 5).toNat : Int)) (Go.bits .and .u32 (Go.bits .xor .u32 (if IntKind.u32.signed = true then -1 else IntKind.u32.max) ((f 4).toNat : Int)) ((f 6).toNat : Int))) +
        ((kF i).toNat : Int)) + ((W i).toNat : Int)) = ((X1 f (kF i) (W i)).toNat : Int) := by
      rw [u32_not]
      simp only [u32_xor, u32_and, u32_add]
      rfl
    have hY : IntKind.u32.wrap (Go.bits .xor .u32 (Go.bits .xor .u32 ((rotl (f 0) 30).toNat : Int) ((rotl (f 0) 19).toNat : Int)) ((rotl (f 0) 10).toNat : Int) +
        Go.bits .xor .u32 (Go.bits .xor .u32 (Go.bits .and .u32 ((f 0).toNat : Int) ((f 1).toNat : Int)) (Go.bits .and .u32 ((f 0).toNat : Int) ((f 2).toNat : Int))) (Go.bits .and .u32 ((f 1).toNat : Int) ((f 2).toNat : Int))) = ((Y1 f).toNat : Int) := by
      simp only [u32_xor, u32_and, u32_add]
      rfl
    refine cells8 ?_ rfl rfl rfl ?_ rfl rfl rfl
    · show PV.i (IV.int .u32 (IntKind.u32.wrap (IntKind.u32.wrap (IntKind.u32.wrap (IntKind.u32.wrap (IntKind.u32.wrap (((f 7).toNat : Int) +
        Go.bits .xor .u32 (Go.bits .xor .u32 ((rotl (f 4) 26).toNat : Int) ((rotl (f 4) 21).toNat : Int)) ((rotl (f 4) 7).toNat : Int)) +
        Go.bits .xor .u32 (Go.bits .and .u32 ((f 4).toNat : Int) ((f 5).toNat : Int)) (Go.bits .and .u32 (Go.bits .xor .u32 (if IntKind.u32.signed = true then -1 else IntKind.u32.max) ((f 4).toNat : Int)) ((f 6).toNat : Int))) +
        ((kF i).toNat : Int)) + ((W i).toNat : Int)) +
        IntKind.u32.wrap (Go.bits .xor .u32 (Go.bits .xor .u32 ((rotl (f 0) 30).toNat : Int) ((rotl (f 0) 19).toNat : Int)) ((rotl (f 0) 10).toNat : Int) +
        Go.bits .xor .u32 (Go.bits .xor .u32 (Go.bits .and .u32 ((f 0).toNat : Int) ((f 1).toNat : Int)) (Go.bits .and .u32 ((f 0).toNat : Int) ((f 2).toNat : Int))) (Go.bits .and .u32 ((f 1).toNat : Int) ((f 2).toNat : Int)))))) = _
      rw [hX, hY, u32_add]
      rfl
    · show PV.i (IV.int .u32 (IntKind.u32.wrap (((f 3).toNat : Int) + IntKind.u32.wrap (IntKind.u32.wrap (IntKind.u32.wrap (IntKind.u32.wrap (((f 7).toNat : Int) +
        Go.bits .xor .u32 (Go.bits .xor .u32 ((rotl (f 4) 26).toNat : Int) ((rotl (f 4) 21).toNat : Int)) ((rotl (f 4) 7).toNat : Int)) +
        Go.bits .xor .u32 (Go.bits .and .u32 ((f 4).toNat : Int) ((f 5).toNat : Int)) (Go.bits .and .u32 (Go.bits .xor .u32 (if IntKind.u32.signed = true then -1 else IntKind.u32.max) ((f 4).toNat : Int)) ((f 6).toNat : Int))) +
        ((kF i).toNat : Int)) + ((W i).toNat : Int))))) = _
      rw [hX, u32_add]
      rfl
  · have g' : i = 64 := by have : ¬ (i : Int) < 64 := of_decide_eq_false g; omega
    subst g'
    exact ⟨(), trivial, ⟨rfl, rfl, rfl, trivial⟩, ⟨rfl, rfl, rfl, trivial⟩⟩
def hB (s f : Nat → UInt32) (i j : Nat) : UInt32 := if j < i then f j + s j else f j
theorem block_loop2 {s f : Nat → UInt32} {env : Env} {m : Mem} {Q : EQ}
    (hE : LkE env [(2, .ptr 2 0), (4, .ptr 4 0), (6, .ptr 6 0), (96, .i (.int .i64 0))]) (hM : LkM m (bM s f))
    (hQ : Q (.exit 2) [(2, .ptr 2 0), (4, .ptr 4 0), (6, .ptr 6 0)] (bM s (fun i => f i + s i))) :
    LoopW Pg G0 Fb.sha256_block.ntmps (nthLoop Fb.sha256_block 1) env m Q := by
  refine loopX T_ok 2 (S := Nat) (S' := Unit) (fun i => [(2, .ptr 2 0), (4, .ptr 4 0), (6, .ptr 6 0), (96, .i (.int .i64 (i : Int)))]) (fun i => bM s (hB s f i)) (fun i => 8 - i) (fun i => i ≤ 8)
    (fun _ => [(2, .ptr 2 0), (4, .ptr 4 0), (6, .ptr 6 0)]) (fun _ => bM s (fun i => f i + s i)) (fun _ => True) 0 hE hM (by omega) ?_ (fun _ _ => hQ)
  intro i hi
  refine condP.split (fun g => ?_) (fun g => ?_)
  · have g' : i < 8 := by have : (i : Int) < 8 := of_decide_eq_true g; omega
    refine drawW T_ok (by decide +kernel) ?_
    refine ⟨⟨by omega, by omega⟩, ?_⟩
    refine withO.intro (w32_get (hB s f i) (show (i : Int).toNat < 8 by omega)) ?_
    refine ⟨⟨by omega, by omega⟩, ?_⟩
    refine withO.intro (w32_get s (show (i : Int).toNat < 8 by omega)) ?_
    refine ⟨⟨by omega, by omega⟩, ?_⟩
    refine bifI ?_ ?_
    · show (true && Nat.ble ((i : Int).toNat + 1) ((w32 8 (hB s f i)).map PV.i).length) = true
      rw [List.length_map, w32_len]; simp; omega
    refine ⟨by kernel_rfl, ?_⟩
    refine ⟨i + 1, ⟨by omega, by omega⟩, ⟨rfl, rfl, rfl, congrArg (fun n => some (PV.i (IV.int .i64 n))) (int_succ (by omega)), trivial⟩, ⟨rfl, rfl, ?_, trivial⟩⟩
    refine w32_store (hB s f i) (i := i) (v := hB s f i i + s i) rfl ?_ (by omega) ?_
    · show IV.int .u32 (IntKind.u32.wrap (((hB s f i i).toNat : Int) + ((s i).toNat : Int))) = _
      rw [u32_add]; rfl
    · intro j _
      unfold hB
      by_cases hj : j = i
      · subst hj; simp
      · rw [if_neg hj]
        by_cases h1 : j < i
        · rw [if_pos h1, if_pos (by omega)]
        · rw [if_neg h1, if_neg (by omega)]
  · have g' : i = 8 := by have : ¬ (i : Int) < 8 := of_decide_eq_false g; omega
    subst g'
    exact ⟨(), trivial, ⟨rfl, rfl, rfl, trivial⟩, ⟨rfl, rfl, rfl, trivial⟩⟩
set_option maxRecDepth 100000 in
theorem sha256_block_ok (s : Nat → UInt32) {t : List UInt8} (ht : t.length = 64) : PureC Pg G0 Fn.sha256_block [.agg (w32 8 s), .str t] (.agg (w32 8 (blk s t))) := by
  refine pureW_of T_ok Fd.sha256_block rfl (by kernel_rfl) ?_
  refine CW.next T_ok ?_
  refine CW.next T_ok ?_
  refine CW.next T_ok ?_
  refine CW.go T_ok ?_
  refine ⟨_, _, _, pureCall (sha256_words_ok ht) rfl, ?_⟩
  refine block_loop1 (s := s) (W := wd t) ⟨rfl, rfl, rfl, rfl, rfl, rfl, trivial⟩ ⟨rfl, rfl, rfl, trivial⟩ ?_
  refine block_loop2 (s := s) (f := rnds s (wd t) 64) ⟨rfl, rfl, rfl, rfl, trivial⟩ ⟨rfl, rfl, rfl, trivial⟩ ?_
  show some _ = some (IV.agg (w32 8 (fun i => rnds s (wd t) 64 i + s i)))
  generalize rnds s (wd t) 64 = f
  rfl
end Go.Kn
namespace Go.Kn
open Go
section
variable {P : Program} {T : Ty} {G : Gl} {n : Nat}
theorem CW.seq {c d : Code} {env : Env} {m : Mem} {Q : EQ} (h : CW P G n c env m (fun e env m => match e with | .normal => CW P G n d env m Q | e => Q e env m)) : CW P G n (.seq c d) env m Q := by
  intro R σ a w he hj hn
  refine wp_seq (wp_mono (h R σ a w he hj hn) ?_)
  rintro e a' w' ⟨σ', env', m', q, he', hj', hn'⟩
  cases e with
  | normal => exact q R σ' a' w' he' hj' hn'
  | _ => exact ⟨σ', env', m', q, he', hj', hn'⟩
theorem CW.blk {id : Nat} {c : Code} {env : Env} {m : Mem} {Q : EQ} (h : CW P G n c env m (fun e env m => match e with | .exit id' => bif Nat.beq id' id then Q .normal env m else Q (.exit id') env m | e => Q e env m)) :
    CW P G n (.block id c) env m Q := by
  intro R σ a w he hj hn
  refine wp_block (wp_mono (h R σ a w he hj hn) ?_)
  rintro e a' w' ⟨σ', env', m', q, he', hj', hn'⟩
  cases e with
  | exit id' =>
    simp only [Exit.inBlock]
    by_cases hid : id' = id
    · subst hid
      simp only [Nat.beq_refl, cond_true] at q
      rw [if_pos rfl]
      exact ⟨σ', env', m', q, he', hj', hn'⟩
    · rw [if_neg hid]
      simp only [beq_ne hid, cond_false] at q
      exact ⟨σ', env', m', q, he', hj', hn'⟩
  | _ => exact ⟨σ', env', m', q, he', hj', hn'⟩
theorem loopXW {c : Code} {env : Env} {m : Mem} {Q : EQ} (id : Nat) {S S' : Type} (E : S → Env) (M : S → Mem) (μ : S → Nat) (I : S → Prop) (EX : S' → Env) (MX : S' → Mem) (X : S' → Prop) (s0 : S)
    (hE : LkE env (E s0)) (hM : LkM m (M s0)) (h0 : I s0)
    (round : ∀ s, I s → CW P G n c (E s) (M s) (fun e env' m' => match e with
      | .normal => ∃ s', (μ s' < μ s ∧ I s') ∧ LkE env' (E s') ∧ LkM m' (M s')
      | .exit id' => bif Nat.beq id' id then ∃ x, X x ∧ LkE env' (EX x) ∧ LkM m' (MX x) else Q (.exit id') env' m'
      | e => Q e env' m'))
    (rest : ∀ x, X x → Q (.exit id) (EX x) (MX x)) : LoopW P G n c env m Q := by
  let Q1 : EQ := fun e env' m' => match e with
      | .exit id' => bif Nat.beq id' id then ∃ x, X x ∧ LkE env' (EX x) ∧ LkM m' (MX x) else Q (.exit id') env' m'
      | e => Q e env' m'
  have h1 : LoopW P G n c env m Q1 := by
    refine loopW (fun k env m => ∃ s, k = μ s ∧ I s ∧ env = E s ∧ m = M s) (μ s0) ⟨hE.sle, hM.sle⟩ ⟨s0, rfl, h0, rfl, rfl⟩ ?_
    rintro k env m ⟨s, rfl, hI, rfl, rfl⟩
    refine CW.mono (round s hI) ?_
    rintro e env' m' q
    cases e with
    | normal =>
      obtain ⟨s', ⟨h1, h2⟩, h3, h4⟩ := q
      exact ⟨μ s', E s', M s', h1, ⟨h3.sle, h4.sle⟩, s', rfl, h2, rfl, rfl⟩
    | _ => exact q
  intro R σ a w he hj hn
  refine wp_mono (h1 R σ a w he hj hn) ?_
  rintro e a w ⟨σ, env, m, q, r1, r2, r3⟩
  cases e with
  | exit id' =>
    simp only [Q1] at q
    cases hb : Nat.beq id' id with
    | true =>
      rw [hb] at q
      obtain ⟨x, h2, h3, h4⟩ := q
      have := Nat.eq_of_beq_eq_true hb
      subst this
      exact ⟨σ, EX x, MX x, rest x h2, r1.le h3.sle, r2.le h4.sle, r3⟩
    | false =>
      rw [hb] at q
      exact ⟨σ, env, m, q, r1, r2, r3⟩
  | _ => exact ⟨σ, env, m, q, r1, r2, r3⟩
end
end Go.Kn
set_option maxRecDepth 100000
namespace Go.Kn
open Go Go.Proofs
variable {G : Gl}
theorem rot_add (x : UInt32) (n : Nat) (h0 : 0 < n) (h1 : n < 32) : (x >>> UInt32.ofNat n) + (x <<< UInt32.ofNat (32 - n)) = rotl x (32 - n) := by
  unfold rotl
  rw [show 32 - (32 - n) = n by omega]
  apply UInt32.toNat_inj.1
  have e1 : (UInt32.ofNat n).toNat % 32 = n := by rw [UInt32.toNat_ofNat', show (2 : Nat) ^ 32 = 4294967296 by decide]; omega
  have e2 : (UInt32.ofNat (32 - n)).toNat % 32 = 32 - n := by rw [UInt32.toNat_ofNat', show (2 : Nat) ^ 32 = 4294967296 by decide]; omega
  have hx := x.toNat_lt
  rw [UInt32.toNat_add, UInt32.toNat_or, UInt32.toNat_shiftRight, UInt32.toNat_shiftLeft, e1, e2, Nat.shiftRight_eq_div_pow, Nat.shiftLeft_eq]
  have hp : 2 ^ n * 2 ^ (32 - n) = 2 ^ 32 := by rw [← Nat.pow_add]; congr 1; omega
  have hlt : x.toNat / 2 ^ n < 2 ^ (32 - n) := by
    rw [Nat.div_lt_iff_lt_mul (Nat.two_pow_pos n), Nat.mul_comm, hp]; exact hx
  have hm : x.toNat * 2 ^ (32 - n) % 2 ^ 32 = 2 ^ (32 - n) * (x.toNat % 2 ^ n) := by
    rw [← hp, Nat.mul_comm (2 ^ n), Nat.mul_comm x.toNat, Nat.mul_mod_mul_left]
  rw [hm, ← Nat.two_pow_add_eq_or_of_lt hlt]
  have hs : 2 ^ (32 - n) * (x.toNat % 2 ^ n) + x.toNat / 2 ^ n < 2 ^ 32 := by
    have h3 : x.toNat % 2 ^ n < 2 ^ n := Nat.mod_lt _ (Nat.two_pow_pos n)
    have h4 : 2 ^ (32 - n) * (x.toNat % 2 ^ n + 1) ≤ 2 ^ (32 - n) * 2 ^ n := Nat.mul_le_mul_left _ h3
    rw [Nat.mul_add, Nat.mul_one, Nat.mul_comm (2 ^ (32 - n)) (2 ^ n), hp] at h4
    omega
  rw [Nat.mod_eq_of_lt (by omega)]
  omega
theorem turn_ok (x : UInt32) (n : Nat) (h0 : 0 < n) (h1 : n < 32) : PureC Pg G Fn.ref02_turn [u32 x, .int .u64 (n : Int)] (u32 (rotl x (32 - n))) := by
  refine pureC_of T_ok Fd.ref02_turn rfl (by kernel_rfl) ?_
  have hw : IntKind.u64.wrap (32 - (n : Int)) = ((32 - n : Nat) : Int) := by rw [wrap_u64 (by omega) (by omega)]; omega
  refine ⟨by omega, ?_⟩
  refine ⟨by show 0 ≤ IntKind.u64.wrap (32 - (n : Int)); rw [hw]; omega, ?_⟩
  show some (IV.int .u32 (IntKind.u32.wrap ((x.toNat : Int).fdiv (2 ^ (min (n : Int).toNat 32)) + IntKind.u32.wrap ((x.toNat : Int) * 2 ^ (min (IntKind.u64.wrap (32 - (n : Int))).toNat 32))))) = _
  rw [hw, Int.toNat_natCast, Int.toNat_natCast, u32_shr x n h1, u32_shl x (32 - n) (by omega), u32_add, rot_add x n h0 h1]
  rfl
set_option maxRecDepth 100000 in
theorem k_ok : PureC Pg G Fn.ref02_k [] (.agg (w32 64 kF)) := by
  refine pureC_of T_ok Fd.ref02_k rfl (by kernel_rfl) ?_
  rfl
def beN (t : List UInt8) (j : Nat) : Nat := (t.getD (4 * j) 0).toNat * 16777216 + (t.getD (4 * j + 1) 0).toNat * 65536 + (t.getD (4 * j + 2) 0).toNat * 256 + (t.getD (4 * j + 3) 0).toNat
theorem or_byte (w : UInt32) (c : UInt8) : ((w <<< 8) ||| c.toUInt32).toNat = w.toNat % 16777216 * 256 + c.toNat := by
  have hc := c.toNat_lt
  rw [UInt32.toNat_or, UInt32.toNat_shiftLeft, UInt8.toNat_toUInt32, Nat.shiftLeft_eq]
  have e : w.toNat * 2 ^ ((8 : UInt32).toNat % 32) % 2 ^ 32 = 2 ^ 8 * (w.toNat % 2 ^ 24) := by
    show w.toNat * 2 ^ 8 % 2 ^ 32 = _
    rw [show (2 : Nat) ^ 32 = 2 ^ 8 * 2 ^ 24 by decide, Nat.mul_comm, Nat.mul_mod_mul_left]
  rw [e, ← Nat.two_pow_add_eq_or_of_lt (by omega)]
  have : (2 : Nat) ^ 24 = 16777216 := by decide
  rw [this]
  omega
theorem fB_skip (t : List UInt8) (j : Nat) : ∀ i k, (∀ q, i ≤ q → q < k → q / 4 ≠ j) → i ≤ k → fB t k j = fB t i j
  | i, k, h, hik => by
    induction k with
    | zero => have : i = 0 := by omega
              rw [this]
    | succ k ih =>
      by_cases hk : i = k + 1
      · rw [hk]
      · rw [fB, if_neg (fun e => h k (by omega) (by omega) e.symm)]
        exact ih (fun q h1 h2 => h q h1 (by omega)) (by omega)
theorem fB_be (t : List UInt8) {j : Nat} (hj : j < 16) : (fB t 64 j).toNat = beN t j := by
  rw [fB_skip t j (4 * j + 4) 64 (fun q h1 h2 => by omega) (by omega)]
  have h0 : fB t (4 * j) j = 0 := by rw [fB_skip t j 0 (4 * j) (fun q h1 h2 => by omega) (by omega)]; rfl
  have s : ∀ i, i / 4 = j → fB t (i + 1) j = (fB t i j <<< 8) ||| (t.getD i 0).toUInt32 := fun i hi => by rw [fB, if_pos hi.symm]
  have b0 := (t.getD (4 * j) 0).toNat_lt
  have b1 := (t.getD (4 * j + 1) 0).toNat_lt
  have b2 := (t.getD (4 * j + 2) 0).toNat_lt
  have b3 := (t.getD (4 * j + 3) 0).toNat_lt
  have n1 : (fB t (4 * j + 1) j).toNat = (t.getD (4 * j) 0).toNat := by rw [s (4 * j) (by omega), or_byte, h0]; simp
  have n2 : (fB t (4 * j + 2) j).toNat = (t.getD (4 * j) 0).toNat * 256 + (t.getD (4 * j + 1) 0).toNat := by rw [s (4 * j + 1) (by omega), or_byte, n1]; omega
  have n3 : (fB t (4 * j + 3) j).toNat = (t.getD (4 * j) 0).toNat * 65536 + (t.getD (4 * j + 1) 0).toNat * 256 + (t.getD (4 * j + 2) 0).toNat := by rw [s (4 * j + 2) (by omega), or_byte, n2]; omega
  rw [s (4 * j + 3) (by omega), or_byte, n3, beN]
  omega
def rB (t : List UInt8) (i j : Nat) : UInt32 := if j < i then fB t 64 j else 0
def rM (s : Nat → UInt32) (w : Nat → UInt32) : Mem := [(3, .var ((w32 8 s).map .i)), (5, .var ((w32 64 kF).map .i)), (6, z8), (7, .var ((w32 64 w).map .i))]
def rE (t : List UInt8) : Env := [(1, .i (.str t)), (3, .ptr 3 0), (5, .ptr 5 0), (6, .ptr 6 0), (7, .ptr 7 0)]
theorem ix4 {i k : Nat} (h : i < 16) (hk : k < 4) : IntKind.i64.wrap (IntKind.i64.wrap (4 * (i : Int)) + (k : Int)) = ((4 * i + k : Nat) : Int) := by
  rw [wrap_i64 (a := 4 * (i : Int)) (by omega) (by omega), wrap_i64 (by omega) (by omega)]; omega
theorem ix40 {i : Nat} (h : i < 16) : IntKind.i64.wrap (4 * (i : Int)) = ((4 * i : Nat) : Int) := by
  rw [wrap_i64 (by omega) (by omega)]; omega
theorem rblock_loop1 {s : Nat → UInt32} {t : List UInt8} (ht : t.length = 64) {env : Env} {m : Mem} {Q : EQ}
    (hE : LkE env ((8, .i (.int .i64 0)) :: rE t)) (hM : LkM m (rM s (rB t 0)))
    (hQ : Q (.exit 0) (rE t) (rM s (rB t 16))) :
    LoopW Pg G Fb.ref02_block.ntmps (nthLoop Fb.ref02_block 0) env m Q := by
  refine loopX T_ok 0 (S := Nat) (S' := Unit) (fun i => (8, .i (.int .i64 (i : Int))) :: rE t) (fun i => rM s (rB t i)) (fun i => 16 - i) (fun i => i ≤ 16)
    (fun _ => rE t) (fun _ => rM s (rB t 16)) (fun _ => True) 0 hE hM (by omega) ?_ (fun _ _ => hQ)
  intro i hi
  refine condP.split (fun g => ?_) (fun g => ?_)
  · have g' : i < 16 := by have : (i : Int) < 16 := of_decide_eq_true g; omega
    have e0 := ix40 g'
    have e1 := ix4 g' (k := 1) (by omega)
    have e2 := ix4 g' (k := 2) (by omega)
    have e3 := ix4 g' (k := 3) (by omega)
    refine drawW T_ok (by decide +kernel) ?_
    refine ⟨⟨by show 0 ≤ IntKind.i64.wrap (4 * (i : Int)); rw [e0]; omega, by show IntKind.i64.wrap (4 * (i : Int)) < (t.length : Int); rw [e0]; omega⟩, ?_⟩
    refine ⟨⟨by show 0 ≤ IntKind.i64.wrap (IntKind.i64.wrap (4 * (i : Int)) + ((1 : Nat) : Int)); rw [e1]; omega, by show IntKind.i64.wrap (IntKind.i64.wrap (4 * (i : Int)) + ((1 : Nat) : Int)) < (t.length : Int); rw [e1]; omega⟩, ?_⟩
    refine ⟨⟨by show 0 ≤ IntKind.i64.wrap (IntKind.i64.wrap (4 * (i : Int)) + ((2 : Nat) : Int)); rw [e2]; omega, by show IntKind.i64.wrap (IntKind.i64.wrap (4 * (i : Int)) + ((2 : Nat) : Int)) < (t.length : Int); rw [e2]; omega⟩, ?_⟩
    refine ⟨⟨by show 0 ≤ IntKind.i64.wrap (IntKind.i64.wrap (4 * (i : Int)) + ((3 : Nat) : Int)); rw [e3]; omega, by show IntKind.i64.wrap (IntKind.i64.wrap (4 * (i : Int)) + ((3 : Nat) : Int)) < (t.length : Int); rw [e3]; omega⟩, ?_⟩
    refine ⟨⟨by omega, by omega⟩, ?_⟩
    refine bifI ?_ ?_
    · show (true && Nat.ble ((i : Int).toNat + 1) ((w32 64 (rB t i)).map PV.i).length) = true
      rw [List.length_map, w32_len]; simp; omega
    refine ⟨by kernel_rfl, ?_⟩
    refine ⟨i + 1, ⟨by omega, by omega⟩, ⟨congrArg (fun n => some (PV.i (IV.int .i64 n))) (int_succ (by omega)), rfl, rfl, rfl, rfl, rfl, trivial⟩, ⟨rfl, rfl, rfl, ?_, trivial⟩⟩
    refine w32_store (rB t i) (i := i) (v := fB t 64 i) rfl ?_ (by omega) ?_
    · show IV.int .u32 (IntKind.u32.wrap (IntKind.u32.wrap (IntKind.u32.wrap (IntKind.u32.wrap (IntKind.u32.wrap ((t.getD (IntKind.i64.wrap (4 * (i : Int))).toNat 0).toNat : Int) * 16777216) +
        IntKind.u32.wrap (IntKind.u32.wrap ((t.getD (IntKind.i64.wrap (IntKind.i64.wrap (4 * (i : Int)) + ((1 : Nat) : Int))).toNat 0).toNat : Int) * 65536)) +
        IntKind.u32.wrap (IntKind.u32.wrap ((t.getD (IntKind.i64.wrap (IntKind.i64.wrap (4 * (i : Int)) + ((2 : Nat) : Int))).toNat 0).toNat : Int) * 256)) +
        IntKind.u32.wrap ((t.getD (IntKind.i64.wrap (IntKind.i64.wrap (4 * (i : Int)) + ((3 : Nat) : Int))).toNat 0).toNat : Int))) = IV.int .u32 ((fB t 64 i).toNat : Int)
      rw [e1, e2, e3, e0]
      simp only [Int.toNat_natCast]
      have b0 := (t.getD (4 * i) 0).toNat_lt
      have b1 := (t.getD (4 * i + 1) 0).toNat_lt
      have b2 := (t.getD (4 * i + 2) 0).toNat_lt
      have b3 := (t.getD (4 * i + 3) 0).toNat_lt
      rw [fB_be t g', beN]
      simp only [wrap_u32_mod]
      congr 1
      omega
    · intro j _
      unfold rB
      by_cases hj : j = i
      · subst hj; simp
      · rw [if_neg hj]
        by_cases h1 : j < i
        · rw [if_pos h1, if_pos (by omega)]
        · rw [if_neg h1, if_neg (by omega)]
  · have g' : i = 16 := by have : ¬ (i : Int) < 16 := of_decide_eq_false g; omega
    subst g'
    exact ⟨(), trivial, ⟨rfl, rfl, rfl, rfl, rfl, trivial⟩, ⟨rfl, rfl, rfl, rfl, trivial⟩⟩
theorem rblock_loop2 {s : Nat → UInt32} {t : List UInt8} {env : Env} {m : Mem} {Q : EQ}
    (hE : LkE env ((9, .i (.int .i64 16)) :: rE t)) (hM : LkM m (rM s (rB t 16)))
    (hQ : Q (.exit 2) (rE t) (rM s (wd t))) :
    LoopW Pg G Fb.ref02_block.ntmps (nthLoop Fb.ref02_block 1) env m Q := by
  let wB : Nat → Nat → UInt32 := fun i j => if j < i then wd t j else 0
  have h16 : w32 64 (rB t 16) = w32 64 (wB 16) := w32_congr fun i hi => by
    simp only [rB, wB]
    split
    · rename_i h; exact (wd_small t h).symm
    · rfl
  have h64 : w32 64 (wB 64) = w32 64 (wd t) := w32_congr fun i hi => by simp only [wB, if_pos hi]
  refine loopX T_ok 2 (S := Nat) (S' := Unit) (fun i => (9, .i (.int .i64 (i : Int))) :: rE t) (fun i => rM s (wB i)) (fun i => 64 - i) (fun i => 16 ≤ i ∧ i ≤ 64)
    (fun _ => rE t) (fun _ => rM s (wd t)) (fun _ => True) 16 hE ⟨hM.1, hM.2.1, hM.2.2.1, by rw [hM.2.2.2.1, h16], trivial⟩ ⟨by omega, by omega⟩ ?_ (fun _ _ => hQ)
  rintro i ⟨hi0, hi⟩
  refine condP.split (fun g => ?_) (fun g => ?_)
  · have g' : i < 64 := by have : (i : Int) < 64 := of_decide_eq_true g; omega
    have h15 : IntKind.i64.wrap ((i : Int) - 15) = ((i - 15 : Nat) : Int) := sub_i64 (k := 15) (by omega) (by omega)
    have h2 : IntKind.i64.wrap ((i : Int) - 2) = ((i - 2 : Nat) : Int) := sub_i64 (k := 2) (by omega) (by omega)
    have hx16 : IntKind.i64.wrap ((i : Int) - 16) = ((i - 16 : Nat) : Int) := sub_i64 (k := 16) (by omega) (by omega)
    have h7 : IntKind.i64.wrap ((i : Int) - 7) = ((i - 7 : Nat) : Int) := sub_i64 (k := 7) (by omega) (by omega)
    have ix : ∀ {x : Int} {k : Nat}, x = ((i - k : Nat) : Int) → 0 < k → k ≤ 16 → 0 ≤ x ∧ x < ((64 : Nat) : Int) := fun h h1 h2 => by rw [h]; omega
    have gt : ∀ {x : Int} {k : Nat}, x = ((i - k : Nat) : Int) → 0 < k → k ≤ 16 → ((w32 64 (wB i)).map PV.i)[x.toNat]? = some (.i (u32 (wd t (i - k)))) := fun {x k} h h1 h2 => by
      rw [h, Int.toNat_natCast, w32_get _ (by omega)]
      simp only [wB, if_pos (show i - k < i by omega)]
    refine drawW T_ok (by decide +kernel) ?_
    refine ⟨ix h15 (by omega) (by omega), ?_⟩
    refine withO.intro (gt h15 (by omega) (by omega)) ?_
    refine ⟨_, _, ⟨rfl, turn_ok (wd t (i - 15)) 7 (by decide) (by decide)⟩, ?_⟩
    refine ⟨ix h15 (by omega) (by omega), ?_⟩
    refine withO.intro (gt h15 (by omega) (by omega)) ?_
    refine ⟨_, _, ⟨rfl, turn_ok (wd t (i - 15)) 18 (by decide) (by decide)⟩, ?_⟩
    refine ⟨ix h15 (by omega) (by omega), ?_⟩
    refine withO.intro (gt h15 (by omega) (by omega)) ?_
    refine ⟨by decide, ?_⟩
    refine ⟨by kernel_rfl, ?_⟩
    refine drawW T_ok (by decide +kernel) ?_
    refine ⟨ix h2 (by omega) (by omega), ?_⟩
    refine withO.intro (gt h2 (by omega) (by omega)) ?_
    refine ⟨_, _, ⟨rfl, turn_ok (wd t (i - 2)) 17 (by decide) (by decide)⟩, ?_⟩
    refine ⟨ix h2 (by omega) (by omega), ?_⟩
    refine withO.intro (gt h2 (by omega) (by omega)) ?_
    refine ⟨_, _, ⟨rfl, turn_ok (wd t (i - 2)) 19 (by decide) (by decide)⟩, ?_⟩
    refine ⟨ix h2 (by omega) (by omega), ?_⟩
    refine withO.intro (gt h2 (by omega) (by omega)) ?_
    refine ⟨by decide, ?_⟩
    refine ⟨by kernel_rfl, ?_⟩
    refine drawW T_ok (by decide +kernel) ?_
    refine ⟨ix hx16 (by omega) (by omega), ?_⟩
    refine withO.intro (gt hx16 (by omega) (by omega)) ?_
    refine ⟨ix h7 (by omega) (by omega), ?_⟩
    refine withO.intro (gt h7 (by omega) (by omega)) ?_
    refine ⟨⟨by omega, by omega⟩, ?_⟩
    refine bifI ?_ ?_
    · show (true && Nat.ble ((i : Int).toNat + 1) ((w32 64 (wB i)).map PV.i).length) = true
      rw [List.length_map, w32_len]; simp; omega
    refine ⟨by kernel_rfl, ?_⟩
    refine ⟨i + 1, ⟨by omega, by omega, by omega⟩, ⟨congrArg (fun n => some (PV.i (IV.int .i64 n))) (int_succ (by omega)), rfl, rfl, rfl, rfl, rfl, trivial⟩, ⟨rfl, rfl, rfl, ?_, trivial⟩⟩
    refine w32_store (wB i) (i := i) (v := wd t i) rfl ?_ (by omega) ?_
    · show IV.int .u32 (IntKind.u32.wrap (IntKind.u32.wrap (IntKind.u32.wrap (((wd t (i - 16)).toNat : Int) +
        Go.bits .xor .u32 (Go.bits .xor .u32 ((rotl (wd t (i - 15)) 25).toNat : Int) ((rotl (wd t (i - 15)) 14).toNat : Int)) (((wd t (i - 15)).toNat : Int).fdiv (2 ^ (min 3 32)))) + ((wd t (i - 7)).toNat : Int)) +
        Go.bits .xor .u32 (Go.bits .xor .u32 ((rotl (wd t (i - 2)) 15).toNat : Int) ((rotl (wd t (i - 2)) 13).toNat : Int)) (((wd t (i - 2)).toNat : Int).fdiv (2 ^ (min 10 32))))) = _
      rw [u32_shr _ 3 (by omega), u32_shr _ 10 (by omega), u32_xor, u32_xor, u32_xor, u32_xor, u32_add, u32_add, u32_add, wd_big t hi0]
      have : wd t (i - 16) + sig0 (wd t (i - 15)) + wd t (i - 7) = wd t (i - 16) + wd t (i - 7) + sig0 (wd t (i - 15)) := by
        rw [UInt32.add_assoc, UInt32.add_comm (sig0 _), ← UInt32.add_assoc]
      rw [← this]
      rfl
    · intro j _
      simp only [wB]
      by_cases hj : j = i
      · subst hj; simp
      · rw [if_neg hj]
        by_cases h1 : j < i
        · rw [if_pos h1, if_pos (by omega)]
        · rw [if_neg h1, if_neg (by omega)]
  · have g' : i = 64 := by have : ¬ (i : Int) < 64 := of_decide_eq_false g; omega
    subst g'
    exact ⟨(), trivial, ⟨rfl, rfl, rfl, rfl, rfl, trivial⟩, ⟨rfl, rfl, rfl, by rw [← h64]; rfl, trivial⟩⟩
def sM (s W f : Nat → UInt32) : Mem := (12, .var ((w32 8 f).map .i)) :: rM s W
def sE : Env := [(3, .ptr 3 0), (5, .ptr 5 0), (6, .ptr 6 0), (7, .ptr 7 0), (12, .ptr 12 0)]
set_option maxHeartbeats 4000000 in
theorem rblock_loop3 {s W : Nat → UInt32} {env : Env} {m : Mem} {Q : EQ}
    (hE : LkE env ((13, .i (.int .i64 0)) :: sE)) (hM : LkM m (sM s W s))
    (hQ : Q (.exit 4) sE (sM s W (rnds s W 64))) :
    LoopW Pg G Fb.ref02_block.ntmps (nthLoop Fb.ref02_block 2) env m Q := by
  refine loopXW 4 (S := Nat) (S' := Unit) (fun i => (13, .i (.int .i64 (i : Int))) :: sE) (fun i => sM s W (rnds s W i)) (fun i => 64 - i) (fun i => i ≤ 64)
    (fun _ => sE) (fun _ => sM s W (rnds s W 64)) (fun _ => True) 0 hE hM (by omega) ?_ (fun _ _ => hQ)
  intro i hi
  refine CW.cut T_ok (S := Unit) (fun _ => (13, .i (.int .i64 (i : Int))) :: sE) (fun _ => sM s W (rnds s W i)) (fun _ => i < 64) ?_ ?_
  · refine condP.split (fun g => ?_) (fun g => ?_)
    · have g' : i < 64 := by have : (i : Int) < 64 := of_decide_eq_true g; omega
      exact ⟨(), g', ⟨rfl, rfl, rfl, rfl, rfl, rfl, trivial⟩, ⟨rfl, rfl, rfl, rfl, rfl, trivial⟩⟩
    · have g' : i = 64 := by have : ¬ (i : Int) < 64 := of_decide_eq_false g; omega
      subst g'
      exact ⟨(), trivial, ⟨rfl, rfl, rfl, rfl, rfl, trivial⟩, ⟨rfl, rfl, rfl, rfl, rfl, trivial⟩⟩
  intro _ g'
  refine CW.seq ?_
  refine CW.blk ?_
  have hr : rnds s W (i + 1) = rnd (rnds s W i) (kF i) (W i) := rfl
  generalize rnds s W i = f at *
  have hX : IntKind.u32.wrap (IntKind.u32.wrap (IntKind.u32.wrap (IntKind.u32.wrap (((f 7).toNat : Int) +
      Go.bits .xor .u32 (Go.bits .xor .u32 ((rotl (f 4) 26).toNat : Int) ((rotl (f 4) 21).toNat : Int)) ((rotl (f 4) 7).toNat : Int)) +
      Go.bits .xor .u32 (Go.bits .and .u32 ((f 4).toNat : Int) ((f 5).toNat : Int)) (Go.bits .and .u32 (Go.bits .xor .u32 (if IntKind.u32.signed = true then -1 else IntKind.u32.max) ((f 4).toNat : Int)) ((f 6).toNat : Int))) +
      ((kF i).toNat : Int)) + ((W i).toNat : Int)) = ((X1 f (kF i) (W i)).toNat : Int) := by
    rw [u32_not]
    simp only [u32_xor, u32_and, u32_add]
    rfl
  have hY : IntKind.u32.wrap (Go.bits .xor .u32 (Go.bits .xor .u32 ((rotl (f 0) 30).toNat : Int) ((rotl (f 0) 19).toNat : Int)) ((rotl (f 0) 10).toNat : Int) +
      Go.bits .xor .u32 (Go.bits .xor .u32 (Go.bits .and .u32 ((f 0).toNat : Int) ((f 1).toNat : Int)) (Go.bits .and .u32 ((f 0).toNat : Int) ((f 2).toNat : Int))) (Go.bits .and .u32 ((f 1).toNat : Int) ((f 2).toNat : Int))) = ((Y1 f).toNat : Int) := by
    simp only [u32_xor, u32_and, u32_add]
    rfl
  refine CW.cut T_ok (S := Unit) (fun _ => (13, .i (.int .i64 (i : Int))) :: (14, .i (u32 (X1 f (kF i) (W i)))) :: sE) (fun _ => sM s W f) (fun _ => True) ?_ ?_
  · refine drawW T_ok (by decide +kernel) ?_
    refine ⟨⟨by decide, by decide⟩, ?_⟩
    refine ⟨⟨by decide, by decide⟩, ?_⟩
    refine ⟨_, _, ⟨rfl, turn_ok (f 4) 6 (by decide) (by decide)⟩, ?_⟩
    refine ⟨⟨by decide, by decide⟩, ?_⟩
    refine ⟨_, _, ⟨rfl, turn_ok (f 4) 11 (by decide) (by decide)⟩, ?_⟩
    refine ⟨⟨by decide, by decide⟩, ?_⟩
    refine ⟨_, _, ⟨rfl, turn_ok (f 4) 25 (by decide) (by decide)⟩, ?_⟩
    refine ⟨⟨by decide, by decide⟩, ?_⟩
    refine ⟨⟨by decide, by decide⟩, ?_⟩
    refine ⟨⟨by decide, by decide⟩, ?_⟩
    refine ⟨⟨by decide, by decide⟩, ?_⟩
    refine ⟨⟨by omega, by omega⟩, ?_⟩
    refine withO.intro (w32_get kF (show (i : Int).toNat < 64 by omega)) ?_
    refine ⟨⟨by omega, by omega⟩, ?_⟩
    refine withO.intro (w32_get W (show (i : Int).toNat < 64 by omega)) ?_
    refine ⟨by kernel_rfl, ?_⟩
    exact ⟨(), trivial, ⟨rfl, congrArg (fun n => some (PV.i (IV.int .u32 n))) hX, rfl, rfl, rfl, rfl, rfl, trivial⟩, ⟨rfl, rfl, rfl, rfl, rfl, trivial⟩⟩
  intro _ _
  refine CW.cut T_ok (S := Unit) (fun _ => (13, .i (.int .i64 (i : Int))) :: (14, .i (u32 (X1 f (kF i) (W i)))) :: (15, .i (u32 (Y1 f))) :: sE) (fun _ => sM s W f) (fun _ => True) ?_ ?_
  · refine drawW T_ok (by decide +kernel) ?_
    refine ⟨⟨by decide, by decide⟩, ?_⟩
    refine ⟨_, _, ⟨rfl, turn_ok (f 0) 2 (by decide) (by decide)⟩, ?_⟩
    refine ⟨⟨by decide, by decide⟩, ?_⟩
    refine ⟨_, _, ⟨rfl, turn_ok (f 0) 13 (by decide) (by decide)⟩, ?_⟩
    refine ⟨⟨by decide, by decide⟩, ?_⟩
    refine ⟨_, _, ⟨rfl, turn_ok (f 0) 22 (by decide) (by decide)⟩, ?_⟩
    refine ⟨⟨by decide, by decide⟩, ?_⟩
    refine ⟨⟨by decide, by decide⟩, ?_⟩
    refine ⟨⟨by decide, by decide⟩, ?_⟩
    refine ⟨⟨by decide, by decide⟩, ?_⟩
    refine ⟨⟨by decide, by decide⟩, ?_⟩
    refine ⟨⟨by decide, by decide⟩, ?_⟩
    refine ⟨by kernel_rfl, ?_⟩
    exact ⟨(), trivial, ⟨rfl, rfl, congrArg (fun n => some (PV.i (IV.int .u32 n))) hY, rfl, rfl, rfl, rfl, rfl, trivial⟩, ⟨rfl, rfl, rfl, rfl, rfl, trivial⟩⟩
  intro _ _
  refine CW.go T_ok ?_
  refine ⟨⟨by decide, by decide⟩, ?_⟩
  refine ⟨⟨by decide, by decide⟩, ?_⟩
  refine ⟨⟨by decide, by decide⟩, ?_⟩
  refine ⟨⟨by decide, by decide⟩, ?_⟩
  refine ⟨⟨by decide, by decide⟩, ?_⟩
  refine ⟨⟨by decide, by decide⟩, ?_⟩
  refine ⟨⟨by decide, by decide⟩, ?_⟩
  refine CW.go T_ok ?_
  refine ⟨i + 1, ⟨by omega, by omega⟩, ⟨congrArg (fun n => some (PV.i (IV.int .i64 n))) (int_succ (by omega)), rfl, rfl, rfl, rfl, rfl, trivial⟩, ⟨?_, rfl, rfl, rfl, rfl, trivial⟩⟩
  rw [hr]
  refine cells8 ?_ rfl rfl rfl ?_ rfl rfl rfl
  · show PV.i (IV.int .u32 (IntKind.u32.wrap (((X1 f (kF i) (W i)).toNat : Int) + ((Y1 f).toNat : Int)))) = _
    rw [u32_add]; rfl
  · show PV.i (IV.int .u32 (IntKind.u32.wrap (((f 3).toNat : Int) + ((X1 f (kF i) (W i)).toNat : Int)))) = _
    rw [u32_add]; rfl
theorem rblock_loop4 {s W f : Nat → UInt32} {env : Env} {m : Mem} {Q : EQ}
    (hE : LkE env ((16, .i (.int .i64 0)) :: sE)) (hM : LkM m (sM s W f))
    (hQ : Q (.exit 6) sE (sM s W (fun i => f i + s i))) :
    LoopW Pg G Fb.ref02_block.ntmps (nthLoop Fb.ref02_block 3) env m Q := by
  refine loopX T_ok 6 (S := Nat) (S' := Unit) (fun i => (16, .i (.int .i64 (i : Int))) :: sE) (fun i => sM s W (hB s f i)) (fun i => 8 - i) (fun i => i ≤ 8)
    (fun _ => sE) (fun _ => sM s W (fun i => f i + s i)) (fun _ => True) 0 hE hM (by omega) ?_ (fun _ _ => hQ)
  intro i hi
  refine condP.split (fun g => ?_) (fun g => ?_)
  · have g' : i < 8 := by have : (i : Int) < 8 := of_decide_eq_true g; omega
    refine drawW T_ok (by decide +kernel) ?_
    refine ⟨⟨by omega, by omega⟩, ?_⟩
    refine withO.intro (w32_get (hB s f i) (show (i : Int).toNat < 8 by omega)) ?_
    refine ⟨⟨by omega, by omega⟩, ?_⟩
    refine withO.intro (w32_get s (show (i : Int).toNat < 8 by omega)) ?_
    refine ⟨⟨by omega, by omega⟩, ?_⟩
    refine bifI ?_ ?_
    · show (true && Nat.ble ((i : Int).toNat + 1) ((w32 8 (hB s f i)).map PV.i).length) = true
      rw [List.length_map, w32_len]; simp; omega
    refine ⟨by kernel_rfl, ?_⟩
    refine ⟨i + 1, ⟨by omega, by omega⟩, ⟨congrArg (fun n => some (PV.i (IV.int .i64 n))) (int_succ (by omega)), rfl, rfl, rfl, rfl, rfl, trivial⟩, ⟨?_, rfl, rfl, rfl, rfl, trivial⟩⟩
    refine w32_store (hB s f i) (i := i) (v := hB s f i i + s i) rfl ?_ (by omega) ?_
    · show IV.int .u32 (IntKind.u32.wrap (((hB s f i i).toNat : Int) + ((s i).toNat : Int))) = _
      rw [u32_add]; rfl
    · intro j _
      unfold hB
      by_cases hj : j = i
      · subst hj; simp
      · rw [if_neg hj]
        by_cases h1 : j < i
        · rw [if_pos h1, if_pos (by omega)]
        · rw [if_neg h1, if_neg (by omega)]
  · have g' : i = 8 := by have : ¬ (i : Int) < 8 := of_decide_eq_false g; omega
    subst g'
    exact ⟨(), trivial, ⟨rfl, rfl, rfl, rfl, rfl, trivial⟩, ⟨rfl, rfl, rfl, rfl, rfl, trivial⟩⟩
set_option maxRecDepth 100000 in
theorem ref02_block_ok (s : Nat → UInt32) {t : List UInt8} (ht : t.length = 64) : PureC Pg G Fn.ref02_block [.agg (w32 8 s), .str t, .agg (w32 64 kF)] (.agg (w32 8 (blk s t))) := by
  refine pureW_of T_ok Fd.ref02_block rfl (by kernel_rfl) ?_
  refine CW.next T_ok ?_
  refine CW.next T_ok ?_
  refine CW.cut T_ok (S := Unit) (fun _ => rE t) (fun _ => rM s (rB t 16)) (fun _ => True) ?_ ?_
  · exact rblock_loop1 (s := s) ht ⟨rfl, rfl, rfl, rfl, rfl, rfl, trivial⟩ ⟨rfl, rfl, rfl, rfl, trivial⟩ ⟨(), trivial, ⟨rfl, rfl, rfl, rfl, rfl, trivial⟩, ⟨rfl, rfl, rfl, rfl, trivial⟩⟩
  intro _ _
  refine CW.cut T_ok (S := Unit) (fun _ => rE t) (fun _ => rM s (wd t)) (fun _ => True) ?_ ?_
  · exact rblock_loop2 (s := s) ⟨rfl, rfl, rfl, rfl, rfl, rfl, trivial⟩ ⟨rfl, rfl, rfl, rfl, trivial⟩ ⟨(), trivial, ⟨rfl, rfl, rfl, rfl, rfl, trivial⟩, ⟨rfl, rfl, rfl, rfl, trivial⟩⟩
  intro _ _
  refine CW.cut T_ok (S := Unit) (fun _ => sE) (fun _ => sM s (wd t) s) (fun _ => True) ?_ ?_
  · exact ⟨(), trivial, ⟨rfl, rfl, rfl, rfl, rfl, trivial⟩, ⟨rfl, rfl, rfl, rfl, rfl, trivial⟩⟩
  intro _ _
  refine CW.cut T_ok (S := Unit) (fun _ => sE) (fun _ => sM s (wd t) (rnds s (wd t) 64)) (fun _ => True) ?_ ?_
  · exact rblock_loop3 (s := s) (W := wd t) ⟨rfl, rfl, rfl, rfl, rfl, rfl, trivial⟩ ⟨rfl, rfl, rfl, rfl, rfl, trivial⟩ ⟨(), trivial, ⟨rfl, rfl, rfl, rfl, rfl, trivial⟩, ⟨rfl, rfl, rfl, rfl, rfl, trivial⟩⟩
  intro _ _
  refine CW.go T_ok ?_
  refine rblock_loop4 (s := s) (W := wd t) (f := rnds s (wd t) 64) ⟨rfl, rfl, rfl, rfl, rfl, rfl, trivial⟩ ⟨rfl, rfl, rfl, rfl, rfl, trivial⟩ ?_
  show some _ = some (IV.agg (w32 8 (fun i => rnds s (wd t) 64 i + s i)))
  generalize rnds s (wd t) 64 = f
  rfl
end Go.Kn
namespace Go.Kn
open Go Go.RowKit
section
variable {P : Program} {G : Gl}
theorem pureC_below {f : FuncId} {as0 : List IV} {x : IV} (hb : Body P f)
    (h : ∀ (σ : Gh) (w : World) (vs : List Value), RelPs σ (as0.map .i) vs → (∀ b o v, σ.h b o = some v → w.cell? ⟨b, o, none⟩ = some v) →
      ∃ v, RelI σ.h x v ∧ Calls P f vs.toArray w fun e w' => e = .returned v ∧ Below w.heap.size w w') : PureC P G f as0 x := by
  refine .inl ⟨hb, ?_⟩
  intro σ w vs hj hr
  obtain ⟨v, hv, hc⟩ := h σ w vs hr hj.inv.hh
  refine hc.mono ?_
  rintro e w' ⟨rfl, hw⟩
  refine ⟨v, σ, rfl, .i _ _ hv, ?_⟩
  exact {
    inv := InvM.nil fun b o u e => by
      have hcell := hj.inv.hh b o u e
      rw [hw.cell (p := ⟨b, o, none⟩) (cell_lt hcell)]; exact hcell
    glob := hj.glob
    hm := hj.hm
    os := hw.os.trans hj.os
    tape := hw.tape.trans hj.tape
    out := hw.output.trans hj.out
    sz := Nat.le_trans hj.sz hw.size
    old := fun b hb' hn => by rw [hw.block b hb']; exact hj.old b hb' hn
    hn := hj.hn
    own := fun k o b lo hi e => (nomatch e)
    kp := hj.kp
    kn := fun k o L e1 e2 => (nomatch e2) }
end
end Go.Kn
