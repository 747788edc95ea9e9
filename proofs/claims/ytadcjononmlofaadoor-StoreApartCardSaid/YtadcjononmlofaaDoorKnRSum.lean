/- The reference's package of layer 2: the sum; the order of ids. -/
import Derived.Test.YtadcjononmlofaaDoorKnRSha
import Derived.Test.YtadcjononmlofaaDoorKnSha4
import Derived.Test.YtadcjononmlofaaDoorKnPlace
set_option autoImplicit false
namespace Go.Kn
open Go Go.Proofs

variable {G : Gl}

def padZ (s : List UInt8) : Nat := (120 - (s.length + 1) % 64) % 64

theorem rsum_loop1 {s : List UInt8} (hs : s.length < 1000000) {z : MO} {n : Int} {env : Env} {m : Mem} {Q : EQ}
    (hE : LkE env [(2, .ptr 2 0), (3, .i (.int .u64 n)), (4, .i (.str (s ++ [128])))]) (hM : LkM m [(2, z)])
    (hQ : Q (.exit 0) [(2, .ptr 2 0), (3, .i (.int .u64 n)), (4, .i (.str (s ++ [128] ++ List.replicate (padZ s) 0)))] [(2, z)]) :
    LoopW Pg G Fb.ref02_Sum.ntmps (nthLoop Fb.ref02_Sum 0) env m Q := by
  refine loopX T_ok 0 (S := Nat) (S' := Unit) (fun k => [(2, .ptr 2 0), (3, .i (.int .u64 n)), (4, .i (.str (s ++ [128] ++ List.replicate k 0)))]) (fun _ => [(2, z)]) (fun k => padZ s - k) (fun k => k ≤ padZ s)
    (fun _ => [(2, .ptr 2 0), (3, .i (.int .u64 n)), (4, .i (.str (s ++ [128] ++ List.replicate (padZ s) 0)))]) (fun _ => [(2, z)]) (fun _ => True) 0 ⟨hE.1, hE.2.1, by rw [hE.2.2.1]; simp, trivial⟩ hM (by omega) ?_ (fun _ _ => hQ)
  intro k hk
  have hz : padZ s < 64 := Nat.mod_lt _ (by omega)
  have hlen : ((s ++ [128] ++ List.replicate k 0).length : Int).tmod 64 = (((s.length + 1 + k) % 64 : Nat) : Int) := by
    rw [Int.tmod_eq_emod_of_nonneg (by omega)]; simp; omega
  refine ⟨by decide, ?_⟩
  refine condP.split (fun g => ?_) (fun g => ?_)
  · have g' : (s.length + 1 + k) % 64 ≠ 56 := by
      have h : ((((s ++ [128] ++ List.replicate k 0).length : Nat) : Int).tmod 64 != 56) = true := g
      rw [hlen] at h
      intro e; rw [e] at h; simp at h
    have hlt : k < padZ s := by unfold padZ at hk ⊢; omega
    refine ⟨[0], rfl, ?_⟩
    refine ⟨by simp; omega, ?_⟩
    refine ⟨k + 1, ⟨by omega, by omega⟩, ⟨rfl, rfl, ?_, trivial⟩, ⟨rfl, trivial⟩⟩
    show some (PV.i (IV.str (s ++ [128] ++ List.replicate k 0 ++ [0]))) = _
    rw [List.replicate_succ', List.append_assoc _ (List.replicate k 0)]
  · have g' : (s.length + 1 + k) % 64 = 56 := by
      have h : ((((s ++ [128] ++ List.replicate k 0).length : Nat) : Int).tmod 64 != 56) = false := g
      rw [hlen] at h
      have : (((s.length + 1 + k) % 64 : Nat) : Int) = 56 := by simpa using h
      omega
    have hkz : k = padZ s := by unfold padZ at hk ⊢; omega
    subst hkz
    exact ⟨(), trivial, ⟨rfl, rfl, rfl, trivial⟩, ⟨rfl, trivial⟩⟩

theorem rsum_loop2 {b : List UInt8} {n : Nat} (hb : b.length < 2000000) {z : MO} {env : Env} {m : Mem} {Q : EQ}
    (hE : LkE env [(2, .ptr 2 0), (3, .i (.int .u64 (n : Int))), (4, .i (.str b)), (5, .i (.int .i64 7))]) (hM : LkM m [(2, z)])
    (hQ : Q (.exit 2) [(2, .ptr 2 0), (4, .i (.str (b ++ tail8 n)))] [(2, z)]) :
    LoopW Pg G Fb.ref02_Sum.ntmps (nthLoop Fb.ref02_Sum 1) env m Q := by
  refine loopX T_ok 2 (S := Nat) (S' := Unit) (fun i => [(2, .ptr 2 0), (3, .i (.int .u64 (n : Int))), (4, .i (.str (b ++ (tail8 n).take i))), (5, .i (.int .i64 (7 - (i : Int))))]) (fun _ => [(2, z)]) (fun i => 8 - i) (fun i => i ≤ 8)
    (fun _ => [(2, .ptr 2 0), (4, .i (.str (b ++ tail8 n)))]) (fun _ => [(2, z)]) (fun _ => True) 0 ⟨hE.1, hE.2.1, by rw [hE.2.2.1]; simp, hE.2.2.2.1, trivial⟩ hM (by omega) ?_ (fun _ _ => hQ)
  intro i hi
  have hlb : (tail8 n).length = 8 := by simp [tail8]
  refine condP.split (fun g => ?_) (fun g => ?_)
  · have g' : i < 8 := by have : 7 - (i : Int) ≥ 0 := of_decide_eq_true g; omega
    have hw : IntKind.u64.wrap (IntKind.i64.wrap (8 * (7 - (i : Int)))) = ((56 - 8 * i : Nat) : Int) := by
      rw [wrap_i64 (by omega) (by omega), wrap_u64 (by omega) (by omega)]; omega
    refine ⟨by show 0 ≤ IntKind.u64.wrap (IntKind.i64.wrap (8 * (7 - (i : Int)))); rw [hw]; omega, ?_⟩
    refine ⟨_, u8s_one _, ?_⟩
    refine ⟨by simp [hlb]; omega, ?_⟩
    refine ⟨i + 1, ⟨by omega, by omega⟩, ⟨rfl, rfl, ?_, ?_, trivial⟩, ⟨rfl, trivial⟩⟩
    · show some (PV.i (IV.str (b ++ (tail8 n).take i ++ [UInt8.ofNat (((n : Int).fdiv (2 ^ (min (IntKind.u64.wrap (IntKind.i64.wrap (8 * (7 - (i : Int))))).toNat 64)) % 256)).toNat]))) = _
      have e1 : (tail8 n).take (i + 1) = (tail8 n).take i ++ [UInt8.ofNat (n / 2 ^ (56 - 8 * i) % 256)] := by
        rw [List.take_succ_eq_append_getElem (by omega)]
        simp [tail8]
      have e2 : (((n : Int).fdiv (2 ^ (min (IntKind.u64.wrap (IntKind.i64.wrap (8 * (7 - (i : Int))))).toNat 64)) % 256)).toNat = n / 2 ^ (56 - 8 * i) % 256 := by
        rw [hw, Int.toNat_natCast, Nat.min_eq_left (by omega), pow_cast, Int.fdiv_eq_ediv_of_nonneg _ (Int.natCast_nonneg _), ← Int.natCast_ediv]
        omega
      rw [e1, e2, List.append_assoc]
    · show some (PV.i (IV.int .i64 (IntKind.i64.wrap (7 - (i : Int) - 1)))) = some (PV.i (IV.int .i64 (7 - ((i + 1 : Nat) : Int))))
      rw [wrap_i64 (by omega) (by omega)]
      congr 3
      omega
  · have g' : i = 8 := by have : ¬ 7 - (i : Int) ≥ 0 := of_decide_eq_false g; omega
    subst g'
    exact ⟨(), trivial, ⟨rfl, by rw [← List.take_of_length_le (l := tail8 n) (i := 8) (by omega)]; rfl, trivial⟩, ⟨rfl, trivial⟩⟩

theorem rsum_loop3 {t : List UInt8} (ht0 : t.length % 64 = 0) (hl : t.length < 3000000) {z : MO} {env : Env} {m : Mem} {Q : EQ}
    (hE : LkE env [(2, .ptr 2 0), (4, .i (.str t)), (6, .ptr 6 0), (7, .ptr 7 0), (8, .i (.int .i64 0))]) (hM : LkM m [(2, z), (6, .var ((w32 8 H0).map .i)), (7, .var ((w32 64 kF).map .i))])
    (hQ : Q (.exit 4) [(2, .ptr 2 0), (6, .ptr 6 0)] [(2, z), (6, .var ((w32 8 (foldB H0 t)).map .i))]) :
    LoopW Pg G Fb.ref02_Sum.ntmps (nthLoop Fb.ref02_Sum 2) env m Q := by
  refine loopX T_ok 4 (S := Nat × (Nat → UInt32)) (S' := Unit) (fun s => [(2, .ptr 2 0), (4, .i (.str t)), (6, .ptr 6 0), (7, .ptr 7 0), (8, .i (.int .i64 (s.1 : Int)))]) (fun s => [(2, z), (6, .var ((w32 8 s.2).map .i)), (7, .var ((w32 64 kF).map .i))]) (fun s => t.length - s.1)
    (fun s => s.1 % 64 = 0 ∧ s.1 ≤ t.length ∧ foldB s.2 (t.drop s.1) = foldB H0 t)
    (fun _ => [(2, .ptr 2 0), (6, .ptr 6 0)]) (fun _ => [(2, z), (6, .var ((w32 8 (foldB H0 t)).map .i))]) (fun _ => True) (0, H0) hE hM ⟨by simp, by simp, by simp⟩ ?_ (fun _ _ => hQ)
  rintro ⟨i, f⟩ ⟨h1, h2, h3⟩
  simp only at h1 h2 h3
  have hw : IntKind.i64.wrap ((i : Int) + 64) = ((i + 64 : Nat) : Int) := by rw [wrap_i64 (by omega) (by omega)]; omega
  refine condP.split (fun g => ?_) (fun g => ?_)
  · have g' : i + 64 ≤ t.length := by
      have h : IntKind.i64.wrap ((i : Int) + 64) ≤ (t.length : Int) := of_decide_eq_true g
      rw [hw] at h; omega
    have hsl : (t.take (IntKind.i64.wrap ((i : Int) + 64)).toNat).drop (i : Int).toNat = (t.drop i).take 64 := by
      rw [hw, Int.toNat_natCast, Int.toNat_natCast, List.drop_take]; congr 1; omega
    have hb := ref02_block_ok (G := G) f (t := (t.drop i).take 64) (by simp; omega)
    rw [← hsl] at hb
    refine drawW T_ok (by decide +kernel) ?_
    refine ⟨⟨by show 0 ≤ (i : Int); omega, by show (i : Int) ≤ IntKind.i64.wrap ((i : Int) + 64); rw [hw]; omega, by show IntKind.i64.wrap ((i : Int) + 64) ≤ (t.length : Int); rw [hw]; omega⟩, ?_⟩
    refine ⟨_, _, ⟨rfl, hb⟩, ?_⟩
    refine ⟨by kernel_rfl, ?_⟩
    refine ⟨(i + 64, blk f ((t.drop i).take 64)), ⟨by simp only; omega, by simp only; omega, by simp only; omega, ?_⟩, ⟨rfl, rfl, rfl, rfl, congrArg (fun n => some (PV.i (IV.int .i64 n))) hw, trivial⟩, ⟨rfl, ?_, rfl, trivial⟩⟩
    · rw [← h3]
      conv => rhs; rw [foldB, dif_pos (by simp; omega)]
      simp
    · rw [hsl]; rfl
  · have g' : i = t.length := by
      have h : ¬ IntKind.i64.wrap ((i : Int) + 64) ≤ (t.length : Int) := of_decide_eq_false g
      rw [hw] at h; omega
    rw [foldB, dif_neg (by simp; omega)] at h3
    rw [h3]
    exact ⟨(), trivial, ⟨rfl, rfl, trivial⟩, ⟨rfl, rfl, trivial⟩⟩

theorem rsum_loop4 {f : Nat → UInt32} {env : Env} {m : Mem} {Q : EQ} {z : MO}
    (hE : LkE env [(2, .ptr 2 0), (6, .ptr 6 0), (9, .ptr 9 0), (10, .i (.int .i64 0))]) (hM : LkM m [(2, z), (6, .var ((w32 8 f).map .i)), (9, .var ((u8c 32 (oB f 0)).map .i))])
    (hQ : Q (.exit 6) [(2, .ptr 2 0), (9, .ptr 9 0)] [(2, z), (9, .var ((u8c 32 (oB f 32)).map .i))]) :
    LoopW Pg G Fb.ref02_Sum.ntmps (nthLoop Fb.ref02_Sum 3) env m Q := by
  refine loopX T_ok 6 (S := Nat) (S' := Unit) (fun i => [(2, .ptr 2 0), (6, .ptr 6 0), (9, .ptr 9 0), (10, .i (.int .i64 (i : Int)))]) (fun i => [(2, z), (6, .var ((w32 8 f).map .i)), (9, .var ((u8c 32 (oB f i)).map .i))]) (fun i => 32 - i) (fun i => i ≤ 32)
    (fun _ => [(2, .ptr 2 0), (9, .ptr 9 0)]) (fun _ => [(2, z), (9, .var ((u8c 32 (oB f 32)).map .i))]) (fun _ => True) 0 hE hM (by omega) ?_ (fun _ _ => hQ)
  intro i hi
  refine condP.split (fun g => ?_) (fun g => ?_)
  · have g' : i < 32 := by have : (i : Int) < 32 := of_decide_eq_true g; omega
    have h4 := div4 (i := i) (by omega)
    have hsh : IntKind.u64.wrap (IntKind.i64.wrap (24 - IntKind.i64.wrap (8 * ((i : Int).tmod 4)))) = ((24 - 8 * (i % 4) : Nat) : Int) := by
      rw [Int.tmod_eq_emod_of_nonneg (by omega), wrap_i64 (a := 8 * ((i : Int) % 4)) (by omega) (by omega), wrap_i64 (by omega) (by omega), wrap_u64 (by omega) (by omega)]; omega
    refine ⟨by decide, ?_⟩
    refine ⟨⟨?_, ?_⟩, ?_⟩
    · show 0 ≤ IntKind.i64.wrap ((i : Int).tdiv 4)
      rw [h4]; omega
    · show IntKind.i64.wrap ((i : Int).tdiv 4) < 8
      rw [h4]; omega
    refine withO.intro (q := .i (u32 (f (i / 4)))) ?_ ?_
    · show ((w32 8 f).map PV.i)[(IntKind.i64.wrap ((i : Int).tdiv 4)).toNat]? = _
      rw [h4]; exact w32_get _ (by omega)
    refine ⟨by decide, ?_⟩
    refine ⟨by show 0 ≤ IntKind.u64.wrap (IntKind.i64.wrap (24 - IntKind.i64.wrap (8 * ((i : Int).tmod 4)))); rw [hsh]; omega, ?_⟩
    refine ⟨⟨by omega, by omega⟩, ?_⟩
    refine bifI ?_ ?_
    · show (true && Nat.ble ((i : Int).toNat + 1) ((u8c 32 (oB f i)).map PV.i).length) = true
      rw [List.length_map, u8c_len]; simp; omega
    refine ⟨i + 1, ⟨by omega, by omega⟩, ⟨rfl, rfl, rfl, congrArg (fun n => some (PV.i (IV.int .i64 n))) (int_succ (by omega)), trivial⟩, ⟨rfl, rfl, ?_, trivial⟩⟩
    refine u8c_store (oB f i) (i := i) (v := outB f i) rfl ?_ (by omega) ?_
    · show IV.int .u8 (IntKind.u8.wrap (((f (i / 4)).toNat : Int).fdiv (2 ^ (min (IntKind.u64.wrap (IntKind.i64.wrap (24 - IntKind.i64.wrap (8 * ((i : Int).tmod 4))))).toNat 32)))) = _
      rw [hsh, Int.toNat_natCast, u32_shr _ _ (by omega), u32_u8]
      rfl
    · intro j _
      unfold oB
      by_cases hj : j = i
      · subst hj; simp
      · rw [if_neg hj]
        by_cases h1 : j < i
        · rw [if_pos h1, if_pos (by omega)]
        · rw [if_neg h1, if_neg (by omega)]
  · have g' : i = 32 := by have : ¬ (i : Int) < 32 := of_decide_eq_false g; omega
    subst g'
    exact ⟨(), trivial, ⟨rfl, rfl, trivial⟩, ⟨rfl, rfl, trivial⟩⟩

set_option maxRecDepth 100000 in
theorem ref02_Sum_ok (s : List UInt8) (hs : s.length < 1000000) : PureC Pg G Fn.ref02_Sum [.str s] (encId (sha s)) := by
  refine pureW_of T_ok Fd.ref02_Sum rfl (by kernel_rfl) ?_
  refine CW.next T_ok ?_
  have e1 : IntKind.u64.wrap (IntKind.u64.wrap (s.length : Int) * 8) = ((s.length * 8 : Nat) : Int) := by
    rw [wrap_u64 (a := (s.length : Int)) (by omega) (by omega), wrap_u64 (by omega) (by omega)]; omega
  refine CW.cut T_ok (S := Unit) (fun _ => [(0, .i (.str s)), (2, .ptr 2 0), (3, .i (.int .u64 ((s.length * 8 : Nat) : Int)))]) (fun _ => [(2, .var ((u8c 32 fun _ => 0).map .i))]) (fun _ => True) ?_ ?_
  · exact ⟨(), trivial, ⟨rfl, rfl, congrArg (fun n => some (PV.i (IV.int .u64 n))) e1, trivial⟩, ⟨rfl, trivial⟩⟩
  intro _ _
  refine CW.next T_ok ?_
  refine ⟨[128], rfl, ?_⟩
  refine ⟨by show s.length + 1 ≤ _; omega, ?_⟩
  refine CW.go T_ok ?_
  refine rsum_loop1 (s := s) hs ⟨rfl, rfl, rfl, trivial⟩ ⟨rfl, trivial⟩ ?_
  refine rsum_loop2 (b := s ++ [128] ++ List.replicate (padZ s) 0) (n := s.length * 8) (by simp [padZ]; omega) ⟨rfl, rfl, rfl, rfl, trivial⟩ ⟨rfl, trivial⟩ ?_
  refine ⟨_, _, _, pureCall k_ok rfl, ?_⟩
  refine rsum_loop3 (t := padS s) (padS_len s).1 (by simp [padS, tail8]; omega) ⟨rfl, rfl, rfl, rfl, rfl, trivial⟩ ⟨rfl, rfl, rfl, trivial⟩ ?_
  refine rsum_loop4 (f := foldB H0 (padS s)) ⟨rfl, rfl, rfl, rfl, trivial⟩ ⟨rfl, rfl, rfl, trivial⟩ ?_
  show some _ = some (encId (sha s))
  have : encId (sha s) = .agg (u8c 32 (oB (foldB H0 (padS s)) 32)) := by
    rw [encId, idC, u8c_congr (f := (sha s).b) (g := oB (foldB H0 (padS s)) 32) fun i hi => ?_]
    rw [sha_b s hi, oB, if_pos hi]
  rw [this]
  generalize oB (foldB H0 (padS s)) 32 = h
  rfl
def idLt (x y : Id) : Bool := decide (x.key < y.key)

theorem ne_u8 (a b : UInt8) : (((a.toNat : Nat) : Int) != (b.toNat : Int)) = !decide (a = b) := by
  rw [ne_toNat]; by_cases h : a = b <;> simp [h]

theorem ref02_Less_ok (x y : Id) : PureC Pg G Fn.ref02_Less [encId x, encId y] (.bool (idLt x y)) := by
  refine pureC_of T_ok Fd.ref02_Less rfl (by kernel_rfl) ?_
  refine loopX T_ok 0 (S := Nat) (S' := Unit) (fun i => [(2, .ptr 2 0), (3, .ptr 3 0), (5, .i (.int .i64 (i : Int)))]) (fun _ => [(2, .var ((idC x).map .i)), (3, .var ((idC y).map .i))]) (fun i => 32 - i)
    (fun i => i ≤ 32 ∧ ∀ j, j < i → x.b j = y.b j) (fun _ => []) (fun _ => []) (fun _ => idLt x y = false) 0 ⟨rfl, rfl, rfl, trivial⟩ ⟨rfl, rfl, trivial⟩ ⟨by omega, by omega⟩ ?_ ?_
  · rintro i ⟨h1, h2⟩
    refine condP.split (fun g => ?_) (fun g => ?_)
    · have g' : i < 32 := by have : (i : Int) < 32 := of_decide_eq_true g; omega
      refine drawW T_ok (by decide +kernel) ?_
      refine ⟨⟨by omega, by omega⟩, ?_⟩
      refine withO.intro (u8c_get x.b (show (i : Int).toNat < 32 by omega)) ?_
      refine ⟨⟨by omega, by omega⟩, ?_⟩
      refine withO.intro (u8c_get y.b (show (i : Int).toNat < 32 by omega)) ?_
      refine ⟨by kernel_rfl, ?_⟩
      refine condP.split (fun g2 => ?_) (fun g2 => ?_)
      · have g2' : x.b i ≠ y.b i := by
          have h : (((x.b i).toNat : Int) != ((y.b i).toNat : Int)) = true := g2
          rw [ne_u8] at h; simpa using h
        refine drawW T_ok (by decide +kernel) ?_
        refine ⟨⟨by omega, by omega⟩, ?_⟩
        refine withO.intro (u8c_get x.b (show (i : Int).toNat < 32 by omega)) ?_
        refine ⟨⟨by omega, by omega⟩, ?_⟩
        refine withO.intro (u8c_get y.b (show (i : Int).toNat < 32 by omega)) ?_
        refine ⟨by kernel_rfl, ?_⟩
        show some (IV.bool (decide (((x.b i).toNat : Int) < ((y.b i).toNat : Int)))) = some (.bool (idLt x y))
        have hne : cmpB (x.b i) (y.b i) ≠ 0 := fun h => g2' ((cmpB_zero _ _).1 h)
        have hc : idCmp x y = cmpB (x.b i) (y.b i) := cmpL_at (by rw [x.len, y.len]) (by rw [x.len]; exact g') h2 hne
        rw [lt_toNat]
        congr 2
        rw [idLt, Bool.eq_iff_iff, decide_eq_true_iff, decide_eq_true_iff, ← idCmp_lt, hc, cmpB]
        by_cases hlt : x.b i < y.b i
        · simp [hlt]
        · simp only [hlt, if_false, false_iff]
          split <;> omega
      · have g2' : x.b i = y.b i := by
          have h : (((x.b i).toNat : Int) != ((y.b i).toNat : Int)) = false := g2
          rw [ne_u8] at h; simpa using h
        refine ⟨i + 1, ⟨by omega, by omega, fun j hj => ?_⟩, ⟨rfl, rfl, congrArg (fun n => some (PV.i (IV.int .i64 n))) (int_succ (by omega)), trivial⟩, ⟨rfl, rfl, trivial⟩⟩
        by_cases hji : j = i
        · subst hji; exact g2'
        · exact h2 j (by omega)
    · have g' : i = 32 := by have : ¬ (i : Int) < 32 := of_decide_eq_false g; omega
      subst g'
      refine ⟨(), ?_, trivial, trivial⟩
      have : x = y := Id.eq_iff.2 fun j hj => h2 j hj
      rw [this, idLt]; simp
  · intro _ h
    show some (IV.bool false) = some (.bool (idLt x y))
    rw [h]

theorem encId_get {l : List Id} {i : Nat} (h : i < l.length) : (l.map encId)[i]? = some (encId l[i]) := by simp [h]

theorem same_go {α : Type} [DecidableEq α] {a b : List α} (hl : a.length = b.length) (h : ∀ j (h1 : j < a.length) (h2 : j < b.length), a[j] = b[j]) : a = b :=
  List.ext_getElem hl h

theorem ref02_Same_ok (a b : List Id) (hl : a.length < 1000000) : PureC Pg G Fn.ref02_Same [.slice (a.map encId), .slice (b.map encId)] (.bool (decide (a = b))) := by
  refine pureC_of T_ok Fd.ref02_Same rfl (by kernel_rfl) ?_
  have la : ((a.map encId).length : Int) = (a.length : Int) := by simp
  have lb : ((b.map encId).length : Int) = (b.length : Int) := by simp
  refine condP.split (fun g => ?_) (fun g => ?_)
  · have g' : a.length ≠ b.length := by
      have h : ((((a.map encId).length : Nat) : Int) != ((b.map encId).length : Int)) = true := g
      rw [la, lb] at h
      intro e; rw [e] at h; simp at h
    show some (IV.bool false) = _
    rw [decide_eq_false (fun e => g' (by rw [e]))]
  · have g' : a.length = b.length := by
      have h : ((((a.map encId).length : Nat) : Int) != ((b.map encId).length : Int)) = false := g
      rw [la, lb] at h
      have : (a.length : Int) = b.length := by simpa using h
      omega
    refine loopX T_ok 0 (S := Nat) (S' := Unit) (fun i => [(0, .i (.slice (a.map encId))), (1, .i (.slice (b.map encId))), (5, .i (.int .i64 (i : Int)))]) (fun _ => []) (fun i => a.length - i)
      (fun i => i ≤ a.length ∧ ∀ j (h1 : j < a.length) (h2 : j < b.length), j < i → a[j] = b[j]) (fun _ => []) (fun _ => []) (fun _ => a = b) 0 ⟨rfl, rfl, rfl, trivial⟩ trivial ⟨by omega, by intro j _ _ h; omega⟩ ?_ ?_
    · rintro i ⟨h1, h2⟩
      refine condP.split (fun g2 => ?_) (fun g2 => ?_)
      · have g2' : i < a.length := by have h : (i : Int) < ((a.map encId).length : Int) := of_decide_eq_true g2; rw [la] at h; omega
        have g3' : i < b.length := by omega
        refine drawW T_ok (by decide +kernel) ?_
        refine ⟨encId a[i], ⟨by omega, encId_get g2'⟩, ?_⟩
        refine ⟨encId b[i], ⟨by omega, encId_get g3'⟩, ?_⟩
        refine ⟨_, eqId a[i] b[i], ?_⟩
        refine ⟨by kernel_rfl, ?_⟩
        refine condP.split (fun g4 => ?_) (fun g4 => ?_)
        · have g4' : a[i] ≠ b[i] := by simpa using g4
          show some (IV.bool false) = _
          rw [decide_eq_false (fun e => g4' (by simp [e]))]
        · have g4' : a[i] = b[i] := by simpa using g4
          refine ⟨i + 1, ⟨by omega, by omega, fun j q1 q2 hj => ?_⟩, ⟨rfl, rfl, congrArg (fun n => some (PV.i (IV.int .i64 n))) (int_succ (by omega)), trivial⟩, trivial⟩
          by_cases hji : j = i
          · subst hji; exact g4'
          · exact h2 j q1 q2 (by omega)
      · have g2' : i = a.length := by have h : ¬ (i : Int) < ((a.map encId).length : Int) := of_decide_eq_false g2; rw [la] at h; omega
        subst g2'
        exact ⟨(), same_go g' (fun j q1 q2 => h2 j q1 q2 q1), trivial, trivial⟩
    · intro _ h
      show some (IV.bool true) = _
      rw [decide_eq_true h]
end Go.Kn
