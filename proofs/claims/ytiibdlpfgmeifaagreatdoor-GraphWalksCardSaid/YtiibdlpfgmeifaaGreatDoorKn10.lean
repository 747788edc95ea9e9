/- The program's package sha256: the sum. -/
import Derived.Test.YtiibdlpfgmeifaaGreatDoorKn08
import Derived.Test.YtiibdlpfgmeifaaGreatDoorKn09
import Derived.Test.YtiibdlpfgmeifaaGreatDoorKn07
set_option autoImplicit false
set_option maxRecDepth 100000
namespace Go.Kn
open Go Go.Proofs
theorem strings_Join_ok {G : Gl} (s : List UInt8) (hs : s.length < 1000000) : PureC Pg G Fn.strings_Join [.slice [.str s], .str []] (.str s) := by
  refine pureC_below ⟨_, _, Fd.strings_Join, rfl, by kernel_rfl⟩ fun σ w vs hr hh => ?_
  obtain ⟨hl, hr⟩ := hr
  match vs, hl with
  | [v1, v2], _ =>
    have r2 := rel_str (hr 1 _ v2 rfl rfl)
    subst r2
    have r1 := hr 0 _ v1 rfl rfl
    cases r1 with
    | i _ _ r1 =>
      cases r1 with
      | slice b o cap sz l f hcap hsz h1 hc hrr =>
        have q := hrr 0 (.str s) 0 (.str s) rfl rfl
        have hcell := hh _ _ _ (hc 0 (.str s) 0 (.str s) rfl rfl)
        generalize hv : f 0 0 = u at q hcell
        cases q
        simp only [Nat.zero_mul, Nat.add_zero] at hcell
        refine ⟨.string ⟨s.toArray⟩, .str s, ?_⟩
        have := Tryz.strings_Join b o cap [⟨s.toArray⟩] ⟨#[]⟩ w (fun j x hj => by
          cases j with
          | zero => cases hj; exact hcell
          | succ j => cases hj) (cell_lt hcell) (by simp) (by simpa using hcap) (by simp [Lib.join_one]; omega)
        simpa [Lib.join_one] using this
theorem strings_Repeat_ok {G : Gl} (c : Nat) (hc : c < 1000000) : PureC Pg G Fn.strings_Repeat [.str [0], .int .i64 (c : Int)] (.str (List.replicate c 0)) := by
  refine pureC_below ⟨_, _, Fd.strings_Repeat, rfl, by kernel_rfl⟩ fun σ w vs hr hh => ?_
  obtain ⟨hl, hr⟩ := hr
  match vs, hl with
  | [v1, v2], _ =>
    have r1 := rel_str (hr 0 _ v1 rfl rfl)
    have r2 := rel_int (hr 1 _ v2 rfl rfl)
    subst r1; subst r2
    refine ⟨.string ⟨(List.replicate c 0).toArray⟩, .str _, ?_⟩
    have h := Tryz.strings_Repeat ⟨#[0]⟩ c w (by omega) (by show 1 * c ≤ _; omega)
    have e : Lib.repeatL (ByteArray.mk #[0]).data.toList c = List.replicate c 0 := by
      have := Lib.repeatL_replicate 0 1 c
      simpa using this
    rw [e] at h
    exact h
def tail8 (n : Nat) : List UInt8 := (List.range 8).map fun i => UInt8.ofNat (n / 2 ^ (56 - 8 * i) % 256)
def padS (s : List UInt8) : List UInt8 := s ++ [128] ++ List.replicate ((120 - (s.length + 1) % 64) % 64) 0 ++ tail8 (s.length * 8)
def foldB (s : Nat → UInt32) (t : List UInt8) : Nat → UInt32 :=
  if h : 64 ≤ t.length then foldB (blk s (t.take 64)) (t.drop 64) else s
  termination_by t.length
  decreasing_by simp; omega
def h0L : List UInt32 := [1779033703, 3144134277, 1013904242, 2773480762, 1359893119, 2600822924, 528734635, 1541459225]
def H0 (i : Nat) : UInt32 := h0L.getD i 0
def outB (f : Nat → UInt32) (i : Nat) : UInt8 := (f (i / 4) >>> UInt32.ofNat (24 - 8 * (i % 4))).toUInt8
def sha (s : List UInt8) : Id := ⟨(List.range 32).map (outB (foldB H0 (padS s))), by simp⟩
theorem padS_len (s : List UInt8) : (padS s).length % 64 = 0 ∧ 0 < (padS s).length := by
  simp [padS, tail8]; omega
theorem sum_loop1 {b : List UInt8} {n : Nat} (hb : b.length < 2000000) {env : Env} {m : Mem} {Q : EQ} {z : MO}
    (hE : LkE env [(2, .ptr 2 0), (3, .i (.str b)), (4, .i (.int .u64 (n : Int))), (25, .i (.int .i64 0))]) (hM : LkM m [(2, z)])
    (hQ : Q (.exit 0) [(2, .ptr 2 0), (3, .i (.str (b ++ tail8 n)))] [(2, z)]) :
    LoopW Pg G0 Fb.sha256_Sum.ntmps (nthLoop Fb.sha256_Sum 0) env m Q := by
  refine loopX T_ok 0 (S := Nat) (S' := Unit) (fun i => [(2, .ptr 2 0), (3, .i (.str (b ++ (tail8 n).take i))), (4, .i (.int .u64 (n : Int))), (25, .i (.int .i64 (i : Int)))]) (fun _ => [(2, z)]) (fun i => 8 - i) (fun i => i ≤ 8)
    (fun _ => [(2, .ptr 2 0), (3, .i (.str (b ++ tail8 n)))]) (fun _ => [(2, z)]) (fun _ => True) 0 ⟨hE.1, by rw [hE.2.1]; simp, hE.2.2.1, hE.2.2.2.1, trivial⟩ hM (by omega) ?_ (fun _ _ => hQ)
  intro i hi
  have hlb : (tail8 n).length = 8 := by simp [tail8]
  refine condP.split (fun g => ?_) (fun g => ?_)
  · have g' : i < 8 := by have : (i : Int) < 8 := of_decide_eq_true g; omega
    have hw : IntKind.i64.wrap (56 - IntKind.i64.wrap (8 * (i : Int))) = ((56 - 8 * i : Nat) : Int) := by
      rw [wrap_i64 (a := 8 * (i : Int)) (by omega) (by omega), wrap_i64 (by omega) (by omega)]; omega
    refine ⟨by show 0 ≤ IntKind.i64.wrap (56 - IntKind.i64.wrap (8 * (i : Int))); rw [hw]; omega, ?_⟩
    refine ⟨_, u8s_one _, ?_⟩
    refine ⟨by simp [hlb]; omega, ?_⟩
    refine ⟨i + 1, ⟨by omega, by omega⟩, ⟨rfl, ?_, rfl, congrArg (fun n => some (PV.i (IV.int .i64 n))) (int_succ (by omega)), trivial⟩, ⟨rfl, trivial⟩⟩
    show some (PV.i (IV.str (b ++ (tail8 n).take i ++ [UInt8.ofNat (((n : Int).fdiv (2 ^ (min (IntKind.i64.wrap (56 - IntKind.i64.wrap (8 * (i : Int)))).toNat 64)) % 256)).toNat]))) = _
    have e1 : (tail8 n).take (i + 1) = (tail8 n).take i ++ [UInt8.ofNat (n / 2 ^ (56 - 8 * i) % 256)] := by
      rw [List.take_succ_eq_append_getElem (by omega)]
      simp [tail8]
    have e2 : (((n : Int).fdiv (2 ^ (min (IntKind.i64.wrap (56 - IntKind.i64.wrap (8 * (i : Int)))).toNat 64)) % 256)).toNat = n / 2 ^ (56 - 8 * i) % 256 := by
      rw [hw, Int.toNat_natCast, Nat.min_eq_left (by omega), pow_cast, Int.fdiv_eq_ediv_of_nonneg _ (Int.natCast_nonneg _), ← Int.natCast_ediv]
      omega
    rw [e1, e2, List.append_assoc]
  · have g' : i = 8 := by have : ¬ (i : Int) < 8 := of_decide_eq_false g; omega
    subst g'
    exact ⟨(), trivial, ⟨rfl, by rw [← List.take_of_length_le (l := tail8 n) (i := 8) (by omega)]; rfl, trivial⟩, ⟨rfl, trivial⟩⟩
theorem sum_loop2 {t0 : List UInt8} (ht0 : t0.length % 64 = 0) {env : Env} {m : Mem} {Q : EQ} {z : MO}
    (hE : LkE env [(2, .ptr 2 0), (3, .i (.str t0)), (6, .ptr 6 0)]) (hM : LkM m [(2, z), (6, .var ((w32 8 H0).map .i))])
    (hQ : Q (.exit 2) [(2, .ptr 2 0), (6, .ptr 6 0)] [(2, z), (6, .var ((w32 8 (foldB H0 t0)).map .i))]) :
    LoopW Pg G0 Fb.sha256_Sum.ntmps (nthLoop Fb.sha256_Sum 1) env m Q := by
  refine loopX T_ok 2 (S := List UInt8 × (Nat → UInt32)) (S' := Unit) (fun s => [(2, .ptr 2 0), (3, .i (.str s.1)), (6, .ptr 6 0)]) (fun s => [(2, z), (6, .var ((w32 8 s.2).map .i))]) (fun s => s.1.length) (fun s => s.1.length % 64 = 0 ∧ foldB s.2 s.1 = foldB H0 t0)
    (fun _ => [(2, .ptr 2 0), (6, .ptr 6 0)]) (fun _ => [(2, z), (6, .var ((w32 8 (foldB H0 t0)).map .i))]) (fun _ => True) (t0, H0) hE hM ⟨ht0, rfl⟩ ?_ (fun _ _ => hQ)
  rintro ⟨t, f⟩ ⟨h1, h2⟩
  simp only at h1 h2
  refine condP.split (fun g => ?_) (fun g => ?_)
  · have g' : t ≠ [] := by simpa using g
    have hpos : 0 < t.length := List.length_pos_iff.2 g'
    have hl : 64 ≤ t.length := by omega
    have ht : (t.take (64 : Int).toNat).drop (0 : Int).toNat = t.take 64 := by simp
    refine drawW T_ok (by decide +kernel) ?_
    refine ⟨⟨by decide, by show (0 : Int) ≤ 64; decide, by show (64 : Int) ≤ t.length; omega⟩, ?_⟩
    have hb := sha256_block_ok f (t := t.take 64) (by simp; omega)
    rw [← ht] at hb
    refine ⟨_, _, ⟨rfl, hb⟩, ?_⟩
    refine ⟨by kernel_rfl, ?_⟩
    refine ⟨⟨by decide, by show (64 : Int) ≤ t.length; omega, by simp⟩, ?_⟩
    refine ⟨(t.drop 64, blk f (t.take 64)), ⟨by simp; omega, by simp; omega, ?_⟩, ⟨rfl, ?_, rfl, trivial⟩, ⟨rfl, ?_, trivial⟩⟩
    · rw [← h2]
      conv => rhs; rw [foldB, dif_pos hl]
    · show some (PV.i (IV.str ((t.take (t.length : Int).toNat).drop (64 : Int).toNat))) = _
      simp
    · rw [ht]; rfl
  · have g' : t = [] := by simpa using g
    subst g'
    rw [foldB, dif_neg (by simp)] at h2
    rw [h2]
    exact ⟨(), trivial, ⟨rfl, rfl, trivial⟩, ⟨rfl, rfl, trivial⟩⟩
theorem u8c_store (f : Nat → UInt8) {n i k : Nat} {x : IV} {v : UInt8} {g : Nat → UInt8} (hk : k = i) (hx : x = .int .u8 (v.toNat : Int)) (h : i < n) (hg : ∀ j, j < n → g j = if j = i then v else f j) :
    some (MO.var (((u8c n f).map .i).take k ++ [PV.i x] ++ ((u8c n f).map .i).drop (k + 1))) = some (.var ((u8c n g).map .i)) := by
  subst hk; subst hx
  rw [list_set _ (by simp [u8c]; exact h)]
  congr 2
  apply List.ext_getElem?
  intro j
  rw [List.getElem?_set]
  by_cases hj : k = j
  · subst hj
    rw [if_pos rfl, if_pos (by simp [u8c]; exact h), u8c_get g h, hg k h, if_pos rfl]
  · rw [if_neg hj]
    by_cases hjn : j < n
    · rw [u8c_get f hjn, u8c_get g hjn, hg j hjn, if_neg (Ne.symm hj)]
    · rw [List.getElem?_eq_none (by simp [u8c]; omega), List.getElem?_eq_none (by simp [u8c]; omega)]
theorem u8c_len (n : Nat) (f : Nat → UInt8) : (u8c n f).length = n := by simp [u8c]
def oB (f : Nat → UInt32) (i j : Nat) : UInt8 := if j < i then outB f j else 0
theorem u32_u8 (a : UInt32) : IntKind.u8.wrap (a.toNat : Int) = (a.toUInt8.toNat : Int) := by
  rw [wrap_u8_mod, UInt32.toNat_toUInt8]
  have : (2 : Nat) ^ 8 = 256 := by decide
  omega
theorem sum_loop3 {f : Nat → UInt32} {env : Env} {m : Mem} {Q : EQ} {z : MO}
    (hE : LkE env [(2, .ptr 2 0), (6, .ptr 6 0), (7, .ptr 7 0), (48, .i (.int .i64 0))]) (hM : LkM m [(2, z), (6, .var ((w32 8 f).map .i)), (7, .var ((u8c 32 (oB f 0)).map .i))])
    (hQ : Q (.exit 4) [(2, .ptr 2 0), (7, .ptr 7 0)] [(2, z), (7, .var ((u8c 32 (oB f 32)).map .i))]) :
    LoopW Pg G0 Fb.sha256_Sum.ntmps (nthLoop Fb.sha256_Sum 2) env m Q := by
  refine loopX T_ok 4 (S := Nat) (S' := Unit) (fun i => [(2, .ptr 2 0), (6, .ptr 6 0), (7, .ptr 7 0), (48, .i (.int .i64 (i : Int)))]) (fun i => [(2, z), (6, .var ((w32 8 f).map .i)), (7, .var ((u8c 32 (oB f i)).map .i))]) (fun i => 32 - i) (fun i => i ≤ 32)
    (fun _ => [(2, .ptr 2 0), (7, .ptr 7 0)]) (fun _ => [(2, z), (7, .var ((u8c 32 (oB f 32)).map .i))]) (fun _ => True) 0 hE hM (by omega) ?_ (fun _ _ => hQ)
  intro i hi
  refine condP.split (fun g => ?_) (fun g => ?_)
  · have g' : i < 32 := by have : (i : Int) < 32 := of_decide_eq_true g; omega
    have h4 := div4 (i := i) (by omega)
    have hsh : IntKind.i64.wrap (24 - IntKind.i64.wrap (8 * ((i : Int).tmod 4))) = ((24 - 8 * (i % 4) : Nat) : Int) := by
      rw [Int.tmod_eq_emod_of_nonneg (by omega), wrap_i64 (a := 8 * ((i : Int) % 4)) (by omega) (by omega), wrap_i64 (by omega) (by omega)]; omega
    refine ⟨by decide, ?_⟩
    refine ⟨⟨?_, ?_⟩, ?_⟩
    · show 0 ≤ IntKind.i64.wrap ((i : Int).tdiv 4)
      rw [h4]; omega
    · show IntKind.i64.wrap ((i : Int).tdiv 4) < 8
      rw [h4]; omega
    refine withO.intro (q := .i (u32 (f (i / 4)))) ?_ ?_
    · show ((w32 8 f).map PV.i)[(IntKind.i64.wrap ((i : Int).tdiv 4)).toNat]? = _
      rw [h4]; exact w32_get _ (by omega)
    refine ⟨by decide, ?_⟩
    refine ⟨by show 0 ≤ IntKind.i64.wrap (24 - IntKind.i64.wrap (8 * ((i : Int).tmod 4))); rw [hsh]; omega, ?_⟩
    refine ⟨⟨by omega, by omega⟩, ?_⟩
    refine bifI ?_ ?_
    · show (true && Nat.ble ((i : Int).toNat + 1) ((u8c 32 (oB f i)).map PV.i).length) = true
      rw [List.length_map, u8c_len]; simp; omega
    refine ⟨i + 1, ⟨by omega, by omega⟩, ⟨rfl, rfl, rfl, congrArg (fun n => some (PV.i (IV.int .i64 n))) (int_succ (by omega)), trivial⟩, ⟨rfl, rfl, ?_, trivial⟩⟩
    refine u8c_store (oB f i) (i := i) (v := outB f i) rfl ?_ (by omega) ?_
    · show IV.int .u8 (IntKind.u8.wrap (((f (i / 4)).toNat : Int).fdiv (2 ^ (min (IntKind.i64.wrap (24 - IntKind.i64.wrap (8 * ((i : Int).tmod 4)))).toNat 32)))) = _
      rw [hsh, Int.toNat_natCast, u32_shr _ _ (by omega), u32_u8]
      rfl
    · intro j _
      unfold oB
      by_cases hj : j = i
      · subst hj; simp
      · rw [if_neg hj]
        by_cases h1 : j < i
        · rw [if_pos h1, if_pos (by omega)]
        · rw [if_neg h1, if_neg (by omega)]
  · have g' : i = 32 := by have : ¬ (i : Int) < 32 := of_decide_eq_false g; omega
    subst g'
    exact ⟨(), trivial, ⟨rfl, rfl, trivial⟩, ⟨rfl, rfl, trivial⟩⟩
theorem sha_b (s : List UInt8) {i : Nat} (h : i < 32) : (sha s).b i = outB (foldB H0 (padS s)) i := by
  simp [sha, Id.b, List.getD_eq_getElem?_getD, h]
theorem u8c_congr {n : Nat} {f g : Nat → UInt8} (h : ∀ i, i < n → f i = g i) : u8c n f = u8c n g := by
  apply List.map_congr_left
  intro i hi
  rw [h i (by simpa using hi)]
set_option maxRecDepth 100000 in
theorem sha256_Sum_ok (s : List UInt8) (hs : s.length < 1000000) : PureC Pg G0 Fn.sha256_Sum [.slice [.str s]] (encId (sha s)) := by
  refine pureW_of T_ok Fd.sha256_Sum rfl (by kernel_rfl) ?_
  refine CW.next T_ok ?_
  refine CW.next T_ok ?_
  refine ⟨_, _, _, pureCall (strings_Join_ok s hs) rfl, ?_⟩
  have e1 : IntKind.u64.wrap (IntKind.u64.wrap (s.length : Int) * 8) = ((s.length * 8 : Nat) : Int) := by
    rw [wrap_u64 (a := (s.length : Int)) (by omega) (by omega), wrap_u64 (by omega) (by omega)]; omega
  refine CW.cut T_ok (S := Unit) (fun _ => [(2, .ptr 2 0), (3, .i (.str s)), (4, .i (.int .u64 ((s.length * 8 : Nat) : Int)))]) (fun _ => [(2, .var ((u8c 32 fun _ => 0).map .i))]) (fun _ => True) ?_ ?_
  · refine ⟨(), trivial, ⟨rfl, rfl, ?_, trivial⟩, ⟨rfl, trivial⟩⟩
    rw [← e1]; rfl
  intro _ _
  refine CW.next T_ok ?_
  refine ⟨by show s.length + 1 ≤ _; omega, ?_⟩
  have e2 : (IntKind.i64.wrap (120 - (((s ++ [128]).length : Nat) : Int).tmod 64)).tmod 64 = (((120 - (s.length + 1) % 64) % 64 : Nat) : Int) := by
    have h : (((s ++ [128]).length : Nat) : Int).tmod 64 = (((s.length + 1) % 64 : Nat) : Int) := by
      rw [Int.tmod_eq_emod_of_nonneg (by omega)]; simp
    rw [h, wrap_i64 (a := 120 - _) (by omega) (by omega), Int.tmod_eq_emod_of_nonneg (by omega)]; omega
  refine CW.cut T_ok (S := Unit) (fun _ => [(2, .ptr 2 0), (3, .i (.str (s ++ [128] ++ List.replicate ((120 - (s.length + 1) % 64) % 64) 0))), (4, .i (.int .u64 ((s.length * 8 : Nat) : Int)))]) (fun _ => [(2, .var ((u8c 32 fun _ => 0).map .i))]) (fun _ => True) ?_ ?_
  · refine ⟨by decide, ?_⟩
    refine ⟨by decide, ?_⟩
    refine ⟨_, _, _, pureCall (strings_Repeat_ok ((120 - (s.length + 1) % 64) % 64) (by omega)) ?_, ?_⟩
    · show some [IV.str [0], IV.int .i64 ((IntKind.i64.wrap (120 - (((s ++ [128]).length : Nat) : Int).tmod 64)).tmod 64)] = _
      rw [e2]
    refine ⟨?_, ?_⟩
    · show (s ++ [128]).length + (List.replicate _ _).length ≤ _
      simp; omega
    exact ⟨(), trivial, ⟨rfl, rfl, rfl, trivial⟩, ⟨rfl, trivial⟩⟩
  intro _ _
  refine CW.go T_ok ?_
  refine sum_loop1 (b := s ++ [128] ++ List.replicate ((120 - (s.length + 1) % 64) % 64) 0) (n := s.length * 8) (by simp; omega) ⟨rfl, rfl, rfl, rfl, trivial⟩ ⟨rfl, trivial⟩ ?_
  refine sum_loop2 (t0 := padS s) (padS_len s).1 ⟨rfl, rfl, rfl, trivial⟩ ⟨rfl, rfl, trivial⟩ ?_
  refine sum_loop3 (f := foldB H0 (padS s)) ⟨rfl, rfl, rfl, rfl, trivial⟩ ⟨rfl, rfl, rfl, trivial⟩ ?_
  show some _ = some (encId (sha s))
  have : encId (sha s) = .agg (u8c 32 (oB (foldB H0 (padS s)) 32)) := by
    rw [encId, idC, u8c_congr (f := (sha s).b) (g := oB (foldB H0 (padS s)) 32) fun i hi => ?_]
    rw [sha_b s hi, oB, if_pos hi]
  rw [this]
  generalize oB (foldB H0 (padS s)) 32 = h
  rfl
set_option maxRecDepth 100000 in
theorem object_Id_ok (s : List UInt8) (hs : s.length < 1000000) : PureC Pg G0 Fn.object_Id [.str s] (encId (sha s)) := by
  refine pureC_of T_ok Fd.object_Id rfl (by kernel_rfl) ?_
  refine ⟨_, _, _, pureCall (sha256_Sum_ok s hs) rfl, ?_⟩
  show some _ = some (encId (sha s))
  generalize sha s = x
  rfl
end Go.Kn
set_option maxRecDepth 100000
namespace Go.Kn
open Go Go.Proofs
variable {G : Gl}
def padZ (s : List UInt8) : Nat := (120 - (s.length + 1) % 64) % 64
theorem rsum_loop1 {s : List UInt8} (hs : s.length < 1000000) {z : MO} {n : Int} {env : Env} {m : Mem} {Q : EQ}
    (hE : LkE env [(2, .ptr 2 0), (3, .i (.int .u64 n)), (4, .i (.str (s ++ [128])))]) (hM : LkM m [(2, z)])
    (hQ : Q (.exit 0) [(2, .ptr 2 0), (3, .i (.int .u64 n)), (4, .i (.str (s ++ [128] ++ List.replicate (padZ s) 0)))] [(2, z)]) :
    LoopW Pg G Fb.ref02_Sum.ntmps (nthLoop Fb.ref02_Sum 0) env m Q := by
  refine loopX T_ok 0 (S := Nat) (S' := Unit) (fun k => [(2, .ptr 2 0), (3, .i (.int .u64 n)), (4, .i (.str (s ++ [128] ++ List.replicate k 0)))]) (fun _ => [(2, z)]) (fun k => padZ s - k) (fun k => k ≤ padZ s)
    (fun _ => [(2, .ptr 2 0), (3, .i (.int .u64 n)), (4, .i (.str (s ++ [128] ++ List.replicate (padZ s) 0)))]) (fun _ => [(2, z)]) (fun _ => True) 0 ⟨hE.1, hE.2.1, by rw [hE.2.2.1]; simp, trivial⟩ hM (by omega) ?_ (fun _ _ => hQ)
  intro k hk
  have hz : padZ s < 64 := Nat.mod_lt _ (by omega)
  have hlen : ((s ++ [128] ++ List.replicate k 0).length : Int).tmod 64 = (((s.length + 1 + k) % 64 : Nat) : Int) := by
    rw [Int.tmod_eq_emod_of_nonneg (by omega)]; simp; omega
  refine ⟨by decide, ?_⟩
  refine condP.split (fun g => ?_) (fun g => ?_)
  · have g' : (s.length + 1 + k) % 64 ≠ 56 := by
      have h : ((((s ++ [128] ++ List.replicate k 0).length : Nat) : Int).tmod 64 != 56) = true := g
      rw [hlen] at h
      intro e; rw [e] at h; simp at h
    have hlt : k < padZ s := by unfold padZ at hk ⊢; omega
    refine ⟨[0], rfl, ?_⟩
    refine ⟨by simp; omega, ?_⟩
    refine ⟨k + 1, ⟨by omega, by omega⟩, ⟨rfl, rfl, ?_, trivial⟩, ⟨rfl, trivial⟩⟩
    show some (PV.i (IV.str (s ++ [128] ++ List.replicate k 0 ++ [0]))) = _
    rw [List.replicate_succ', List.append_assoc _ (List.replicate k 0)]
  · have g' : (s.length + 1 + k) % 64 = 56 := by
      have h : ((((s ++ [128] ++ List.replicate k 0).length : Nat) : Int).tmod 64 != 56) = false := g
      rw [hlen] at h
      have : (((s.length + 1 + k) % 64 : Nat) : Int) = 56 := by simpa using h
      omega
    have hkz : k = padZ s := by unfold padZ at hk ⊢; omega
    subst hkz
    exact ⟨(), trivial, ⟨rfl, rfl, rfl, trivial⟩, ⟨rfl, trivial⟩⟩
theorem rsum_loop2 {b : List UInt8} {n : Nat} (hb : b.length < 2000000) {z : MO} {env : Env} {m : Mem} {Q : EQ}
    (hE : LkE env [(2, .ptr 2 0), (3, .i (.int .u64 (n : Int))), (4, .i (.str b)), (5, .i (.int .i64 7))]) (hM : LkM m [(2, z)])
    (hQ : Q (.exit 2) [(2, .ptr 2 0), (4, .i (.str (b ++ tail8 n)))] [(2, z)]) :
    LoopW Pg G Fb.ref02_Sum.ntmps (nthLoop Fb.ref02_Sum 1) env m Q := by
  refine loopX T_ok 2 (S := Nat) (S' := Unit) (fun i => [(2, .ptr 2 0), (3, .i (.int .u64 (n : Int))), (4, .i (.str (b ++ (tail8 n).take i))), (5, .i (.int .i64 (7 - (i : Int))))]) (fun _ => [(2, z)]) (fun i => 8 - i) (fun i => i ≤ 8)
    (fun _ => [(2, .ptr 2 0), (4, .i (.str (b ++ tail8 n)))]) (fun _ => [(2, z)]) (fun _ => True) 0 ⟨hE.1, hE.2.1, by rw [hE.2.2.1]; simp, hE.2.2.2.1, trivial⟩ hM (by omega) ?_ (fun _ _ => hQ)
  intro i hi
  have hlb : (tail8 n).length = 8 := by simp [tail8]
  refine condP.split (fun g => ?_) (fun g => ?_)
  · have g' : i < 8 := by have : 7 - (i : Int) ≥ 0 := of_decide_eq_true g; omega
    have hw : IntKind.u64.wrap (IntKind.i64.wrap (8 * (7 - (i : Int)))) = ((56 - 8 * i : Nat) : Int) := by
      rw [wrap_i64 (by omega) (by omega), wrap_u64 (by omega) (by omega)]; omega
    refine ⟨by show 0 ≤ IntKind.u64.wrap (IntKind.i64.wrap (8 * (7 - (i : Int)))); rw [hw]; omega, ?_⟩
    refine ⟨_, u8s_one _, ?_⟩
    refine ⟨by simp [hlb]; omega, ?_⟩
    refine ⟨i + 1, ⟨by omega, by omega⟩, ⟨rfl, rfl, ?_, ?_, trivial⟩, ⟨rfl, trivial⟩⟩
    · show some (PV.i (IV.str (b ++ (tail8 n).take i ++ [UInt8.ofNat (((n : Int).fdiv (2 ^ (min (IntKind.u64.wrap (IntKind.i64.wrap (8 * (7 - (i : Int))))).toNat 64)) % 256)).toNat]))) = _
      have e1 : (tail8 n).take (i + 1) = (tail8 n).take i ++ [UInt8.ofNat (n / 2 ^ (56 - 8 * i) % 256)] := by
        rw [List.take_succ_eq_append_getElem (by omega)]
        simp [tail8]
      have e2 : (((n : Int).fdiv (2 ^ (min (IntKind.u64.wrap (IntKind.i64.wrap (8 * (7 - (i : Int))))).toNat 64)) % 256)).toNat = n / 2 ^ (56 - 8 * i) % 256 := by
        rw [hw, Int.toNat_natCast, Nat.min_eq_left (by omega), pow_cast, Int.fdiv_eq_ediv_of_nonneg _ (Int.natCast_nonneg _), ← Int.natCast_ediv]
        omega
      rw [e1, e2, List.append_assoc]
    · show some (PV.i (IV.int .i64 (IntKind.i64.wrap (7 - (i : Int) - 1)))) = some (PV.i (IV.int .i64 (7 - ((i + 1 : Nat) : Int))))
      rw [wrap_i64 (by omega) (by omega)]
      congr 3
      omega
  · have g' : i = 8 := by have : ¬ 7 - (i : Int) ≥ 0 := of_decide_eq_false g; omega
    subst g'
    exact ⟨(), trivial, ⟨rfl, by rw [← List.take_of_length_le (l := tail8 n) (i := 8) (by omega)]; rfl, trivial⟩, ⟨rfl, trivial⟩⟩
theorem rsum_loop3 {t : List UInt8} (ht0 : t.length % 64 = 0) (hl : t.length < 3000000) {z : MO} {env : Env} {m : Mem} {Q : EQ}
    (hE : LkE env [(2, .ptr 2 0), (4, .i (.str t)), (6, .ptr 6 0), (7, .ptr 7 0), (8, .i (.int .i64 0))]) (hM : LkM m [(2, z), (6, .var ((w32 8 H0).map .i)), (7, .var ((w32 64 kF).map .i))])
    (hQ : Q (.exit 4) [(2, .ptr 2 0), (6, .ptr 6 0)] [(2, z), (6, .var ((w32 8 (foldB H0 t)).map .i))]) :
    LoopW Pg G Fb.ref02_Sum.ntmps (nthLoop Fb.ref02_Sum 2) env m Q := by
  refine loopX T_ok 4 (S := Nat × (Nat → UInt32)) (S' := Unit) (fun s => [(2, .ptr 2 0), (4, .i (.str t)), (6, .ptr 6 0), (7, .ptr 7 0), (8, .i (.int .i64 (s.1 : Int)))]) (fun s => [(2, z), (6, .var ((w32 8 s.2).map .i)), (7, .var ((w32 64 kF).map .i))]) (fun s => t.length - s.1)
    (fun s => s.1 % 64 = 0 ∧ s.1 ≤ t.length ∧ foldB s.2 (t.drop s.1) = foldB H0 t)
    (fun _ => [(2, .ptr 2 0), (6, .ptr 6 0)]) (fun _ => [(2, z), (6, .var ((w32 8 (foldB H0 t)).map .i))]) (fun _ => True) (0, H0) hE hM ⟨by simp, by simp, by simp⟩ ?_ (fun _ _ => hQ)
  rintro ⟨i, f⟩ ⟨h1, h2, h3⟩
  simp only at h1 h2 h3
  have hw : IntKind.i64.wrap ((i : Int) + 64) = ((i + 64 : Nat) : Int) := by rw [wrap_i64 (by omega) (by omega)]; omega
  refine condP.split (fun g => ?_) (fun g => ?_)
  · have g' : i + 64 ≤ t.length := by
      have h : IntKind.i64.wrap ((i : Int) + 64) ≤ (t.length : Int) := of_decide_eq_true g
      rw [hw] at h; omega
    have hsl : (t.take (IntKind.i64.wrap ((i : Int) + 64)).toNat).drop (i : Int).toNat = (t.drop i).take 64 := by
      rw [hw, Int.toNat_natCast, Int.toNat_natCast, List.drop_take]; congr 1; omega
    have hb := ref02_block_ok (G := G) f (t := (t.drop i).take 64) (by simp; omega)
    rw [← hsl] at hb
    refine drawW T_ok (by decide +kernel) ?_
    refine ⟨⟨by show 0 ≤ (i : Int); omega, by show (i : Int) ≤ IntKind.i64.wrap ((i : Int) + 64); rw [hw]; omega, by show IntKind.i64.wrap ((i : Int) + 64) ≤ (t.length : Int); rw [hw]; omega⟩, ?_⟩
    refine ⟨_, _, ⟨rfl, hb⟩, ?_⟩
    refine ⟨by kernel_rfl, ?_⟩
    refine ⟨(i + 64, blk f ((t.drop i).take 64)), ⟨by simp only; omega, by simp only; omega, by simp only; omega, ?_⟩, ⟨rfl, rfl, rfl, rfl, congrArg (fun n => some (PV.i (IV.int .i64 n))) hw, trivial⟩, ⟨rfl, ?_, rfl, trivial⟩⟩
    · rw [← h3]
      conv => rhs; rw [foldB, dif_pos (by simp; omega)]
      simp
    · rw [hsl]; rfl
  · have g' : i = t.length := by
      have h : ¬ IntKind.i64.wrap ((i : Int) + 64) ≤ (t.length : Int) := of_decide_eq_false g
      rw [hw] at h; omega
    rw [foldB, dif_neg (by simp; omega)] at h3
    rw [h3]
    exact ⟨(), trivial, ⟨rfl, rfl, trivial⟩, ⟨rfl, rfl, trivial⟩⟩
theorem rsum_loop4 {f : Nat → UInt32} {env : Env} {m : Mem} {Q : EQ} {z : MO}
    (hE : LkE env [(2, .ptr 2 0), (6, .ptr 6 0), (9, .ptr 9 0), (10, .i (.int .i64 0))]) (hM : LkM m [(2, z), (6, .var ((w32 8 f).map .i)), (9, .var ((u8c 32 (oB f 0)).map .i))])
    (hQ : Q (.exit 6) [(2, .ptr 2 0), (9, .ptr 9 0)] [(2, z), (9, .var ((u8c 32 (oB f 32)).map .i))]) :
    LoopW Pg G Fb.ref02_Sum.ntmps (nthLoop Fb.ref02_Sum 3) env m Q := by
  refine loopX T_ok 6 (S := Nat) (S' := Unit) (fun i => [(2, .ptr 2 0), (6, .ptr 6 0), (9, .ptr 9 0), (10, .i (.int .i64 (i : Int)))]) (fun i => [(2, z), (6, .var ((w32 8 f).map .i)), (9, .var ((u8c 32 (oB f i)).map .i))]) (fun i => 32 - i) (fun i => i ≤ 32)
    (fun _ => [(2, .ptr 2 0), (9, .ptr 9 0)]) (fun _ => [(2, z), (9, .var ((u8c 32 (oB f 32)).map .i))]) (fun _ => True) 0 hE hM (by omega) ?_ (fun _ _ => hQ)
  intro i hi
  refine condP.split (fun g => ?_) (fun g => ?_)
  · have g' : i < 32 := by have : (i : Int) < 32 := of_decide_eq_true g; omega
    have h4 := div4 (i := i) (by omega)
    have hsh : IntKind.u64.wrap (IntKind.i64.wrap (24 - IntKind.i64.wrap (8 * ((i : Int).tmod 4)))) = ((24 - 8 * (i % 4) : Nat) : Int) := by
      rw [Int.tmod_eq_emod_of_nonneg (by omega), wrap_i64 (a := 8 * ((i : Int) % 4)) (by omega) (by omega), wrap_i64 (by omega) (by omega), wrap_u64 (by omega) (by omega)]; omega
    refine ⟨by decide, ?_⟩
    refine ⟨⟨?_, ?_⟩, ?_⟩
    · show 0 ≤ IntKind.i64.wrap ((i : Int).tdiv 4)
      rw [h4]; omega
    · show IntKind.i64.wrap ((i : Int).tdiv 4) < 8
      rw [h4]; omega
    refine withO.intro (q := .i (u32 (f (i / 4)))) ?_ ?_
    · show ((w32 8 f).map PV.i)[(IntKind.i64.wrap ((i : Int).tdiv 4)).toNat]? = _
      rw [h4]; exact w32_get _ (by omega)
    refine ⟨by decide, ?_⟩
    refine ⟨by show 0 ≤ IntKind.u64.wrap (IntKind.i64.wrap (24 - IntKind.i64.wrap (8 * ((i : Int).tmod 4)))); rw [hsh]; omega, ?_⟩
    refine ⟨⟨by omega, by omega⟩, ?_⟩
    refine bifI ?_ ?_
    · show (true && Nat.ble ((i : Int).toNat + 1) ((u8c 32 (oB f i)).map PV.i).length) = true
      rw [List.length_map, u8c_len]; simp; omega
    refine ⟨i + 1, ⟨by omega, by omega⟩, ⟨rfl, rfl, rfl, congrArg (fun n => some (PV.i (IV.int .i64 n))) (int_succ (by omega)), trivial⟩, ⟨rfl, rfl, ?_, trivial⟩⟩
    refine u8c_store (oB f i) (i := i) (v := outB f i) rfl ?_ (by omega) ?_
    · show IV.int .u8 (IntKind.u8.wrap (((f (i / 4)).toNat : Int).fdiv (2 ^ (min (IntKind.u64.wrap (IntKind.i64.wrap (24 - IntKind.i64.wrap (8 * ((i : Int).tmod 4))))).toNat 32)))) = _
      rw [hsh, Int.toNat_natCast, u32_shr _ _ (by omega), u32_u8]
      rfl
    · intro j _
      unfold oB
      by_cases hj : j = i
      · subst hj; simp
      · rw [if_neg hj]
        by_cases h1 : j < i
        · rw [if_pos h1, if_pos (by omega)]
        · rw [if_neg h1, if_neg (by omega)]
  · have g' : i = 32 := by have : ¬ (i : Int) < 32 := of_decide_eq_false g; omega
    subst g'
    exact ⟨(), trivial, ⟨rfl, rfl, trivial⟩, ⟨rfl, rfl, trivial⟩⟩
set_option maxRecDepth 100000 in
theorem ref02_Sum_ok (s : List UInt8) (hs : s.length < 1000000) : PureC Pg G Fn.ref02_Sum [.str s] (encId (sha s)) := by
  refine pureW_of T_ok Fd.ref02_Sum rfl (by kernel_rfl) ?_
  refine CW.next T_ok ?_
  have e1 : IntKind.u64.wrap (IntKind.u64.wrap (s.length : Int) * 8) = ((s.length * 8 : Nat) : Int) := by
    rw [wrap_u64 (a := (s.length : Int)) (by omega) (by omega), wrap_u64 (by omega) (by omega)]; omega
  refine CW.cut T_ok (S := Unit) (fun _ => [(0, .i (.str s)), (2, .ptr 2 0), (3, .i (.int .u64 ((s.length * 8 : Nat) : Int)))]) (fun _ => [(2, .var ((u8c 32 fun _ => 0).map .i))]) (fun _ => True) ?_ ?_
  · exact ⟨(), trivial, ⟨rfl, rfl, congrArg (fun n => some (PV.i (IV.int .u64 n))) e1, trivial⟩, ⟨rfl, trivial⟩⟩
  intro _ _
  refine CW.next T_ok ?_
  refine ⟨[128], rfl, ?_⟩
  refine ⟨by show s.length + 1 ≤ _; omega, ?_⟩
  refine CW.go T_ok ?_
  refine rsum_loop1 (s := s) hs ⟨rfl, rfl, rfl, trivial⟩ ⟨rfl, trivial⟩ ?_
  refine rsum_loop2 (b := s ++ [128] ++ List.replicate (padZ s) 0) (n := s.length * 8) (by simp [padZ]; omega) ⟨rfl, rfl, rfl, rfl, trivial⟩ ⟨rfl, trivial⟩ ?_
  refine ⟨_, _, _, pureCall k_ok rfl, ?_⟩
  refine rsum_loop3 (t := padS s) (padS_len s).1 (by simp [padS, tail8]; omega) ⟨rfl, rfl, rfl, rfl, rfl, trivial⟩ ⟨rfl, rfl, rfl, trivial⟩ ?_
  refine rsum_loop4 (f := foldB H0 (padS s)) ⟨rfl, rfl, rfl, rfl, trivial⟩ ⟨rfl, rfl, rfl, trivial⟩ ?_
  show some _ = some (encId (sha s))
  have : encId (sha s) = .agg (u8c 32 (oB (foldB H0 (padS s)) 32)) := by
    rw [encId, idC, u8c_congr (f := (sha s).b) (g := oB (foldB H0 (padS s)) 32) fun i hi => ?_]
    rw [sha_b s hi, oB, if_pos hi]
  rw [this]
  generalize oB (foldB H0 (padS s)) 32 = h
  rfl
def idLt (x y : Id) : Bool := decide (x.key < y.key)
theorem ne_u8 (a b : UInt8) : (((a.toNat : Nat) : Int) != (b.toNat : Int)) = !decide (a = b) := by
  rw [ne_toNat]; by_cases h : a = b <;> simp [h]
theorem ref02_Less_ok (x y : Id) : PureC Pg G Fn.ref02_Less [encId x, encId y] (.bool (idLt x y)) := by
  refine pureC_of T_ok Fd.ref02_Less rfl (by kernel_rfl) ?_
  refine loopX T_ok 0 (S := Nat) (S' := Unit) (fun i => [(2, .ptr 2 0), (3, .ptr 3 0), (5, .i (.int .i64 (i : Int)))]) (fun _ => [(2, .var ((idC x).map .i)), (3, .var ((idC y).map .i))]) (fun i => 32 - i)
    (fun i => i ≤ 32 ∧ ∀ j, j < i → x.b j = y.b j) (fun _ => []) (fun _ => []) (fun _ => idLt x y = false) 0 ⟨rfl, rfl, rfl, trivial⟩ ⟨rfl, rfl, trivial⟩ ⟨by omega, by omega⟩ ?_ ?_
  · rintro i ⟨h1, h2⟩
    refine condP.split (fun g => ?_) (fun g => ?_)
    · have g' : i < 32 := by have : (i : Int) < 32 := of_decide_eq_true g; omega
      refine drawW T_ok (by decide +kernel) ?_
      refine ⟨⟨by omega, by omega⟩, ?_⟩
      refine withO.intro (u8c_get x.b (show (i : Int).toNat < 32 by omega)) ?_
      refine ⟨⟨by omega, by omega⟩, ?_⟩
      refine withO.intro (u8c_get y.b (show (i : Int).toNat < 32 by omega)) ?_
      refine ⟨by kernel_rfl, ?_⟩
      refine condP.split (fun g2 => ?_) (fun g2 => ?_)
      · have g2' : x.b i ≠ y.b i := by
          have h : (((x.b i).toNat : Int) != ((y.b i).toNat : Int)) = true := g2
          rw [ne_u8] at h; simpa using h
        refine drawW T_ok (by decide +kernel) ?_
        refine ⟨⟨by omega, by omega⟩, ?_⟩
        refine withO.intro (u8c_get x.b (show (i : Int).toNat < 32 by omega)) ?_
        refine ⟨⟨by omega, by omega⟩, ?_⟩
        refine withO.intro (u8c_get y.b (show (i : Int).toNat < 32 by omega)) ?_
        refine ⟨by kernel_rfl, ?_⟩
        show some (IV.bool (decide (((x.b i).toNat : Int) < ((y.b i).toNat : Int)))) = some (.bool (idLt x y))
        have hne : cmpB (x.b i) (y.b i) ≠ 0 := fun h => g2' ((cmpB_zero _ _).1 h)
        have hc : idCmp x y = cmpB (x.b i) (y.b i) := cmpL_at (by rw [x.len, y.len]) (by rw [x.len]; exact g') h2 hne
        rw [lt_toNat]
        congr 2
        rw [idLt, Bool.eq_iff_iff, decide_eq_true_iff, decide_eq_true_iff, ← idCmp_lt, hc, cmpB]
        by_cases hlt : x.b i < y.b i
        · simp [hlt]
        · simp only [hlt, if_false, false_iff]
          split <;> omega
      · have g2' : x.b i = y.b i := by
          have h : (((x.b i).toNat : Int) != ((y.b i).toNat : Int)) = false := g2
          rw [ne_u8] at h; simpa using h
        refine ⟨i + 1, ⟨by omega, by omega, fun j hj => ?_⟩, ⟨rfl, rfl, congrArg (fun n => some (PV.i (IV.int .i64 n))) (int_succ (by omega)), trivial⟩, ⟨rfl, rfl, trivial⟩⟩
        by_cases hji : j = i
        · subst hji; exact g2'
        · exact h2 j (by omega)
    · have g' : i = 32 := by have : ¬ (i : Int) < 32 := of_decide_eq_false g; omega
      subst g'
      refine ⟨(), ?_, trivial, trivial⟩
      have : x = y := Id.eq_iff.2 fun j hj => h2 j hj
      rw [this, idLt]; simp
  · intro _ h
    show some (IV.bool false) = some (.bool (idLt x y))
    rw [h]
theorem encId_get {l : List Id} {i : Nat} (h : i < l.length) : (l.map encId)[i]? = some (encId l[i]) := by simp [h]
theorem same_go {α : Type} [DecidableEq α] {a b : List α} (hl : a.length = b.length) (h : ∀ j (h1 : j < a.length) (h2 : j < b.length), a[j] = b[j]) : a = b :=
  List.ext_getElem hl h
theorem ref02_Same_ok (a b : List Id) (hl : a.length < 1000000) : PureC Pg G Fn.ref02_Same [.slice (a.map encId), .slice (b.map encId)] (.bool (decide (a = b))) := by
  refine pureC_of T_ok Fd.ref02_Same rfl (by kernel_rfl) ?_
  have la : ((a.map encId).length : Int) = (a.length : Int) := by simp
  have lb : ((b.map encId).length : Int) = (b.length : Int) := by simp
  refine condP.split (fun g => ?_) (fun g => ?_)
  · have g' : a.length ≠ b.length := by
      have h : ((((a.map encId).length : Nat) : Int) != ((b.map encId).length : Int)) = true := g
      rw [la, lb] at h
      intro e; rw [e] at h; simp at h
    show some (IV.bool false) = _
    rw [decide_eq_false (fun e => g' (by rw [e]))]
  · have g' : a.length = b.length := by
      have h : ((((a.map encId).length : Nat) : Int) != ((b.map encId).length : Int)) = false := g
      rw [la, lb] at h
      have : (a.length : Int) = b.length := by simpa using h
      omega
    refine loopX T_ok 0 (S := Nat) (S' := Unit) (fun i => [(0, .i (.slice (a.map encId))), (1, .i (.slice (b.map encId))), (5, .i (.int .i64 (i : Int)))]) (fun _ => []) (fun i => a.length - i)
      (fun i => i ≤ a.length ∧ ∀ j (h1 : j < a.length) (h2 : j < b.length), j < i → a[j] = b[j]) (fun _ => []) (fun _ => []) (fun _ => a = b) 0 ⟨rfl, rfl, rfl, trivial⟩ trivial ⟨by omega, by intro j _ _ h; omega⟩ ?_ ?_
    · rintro i ⟨h1, h2⟩
      refine condP.split (fun g2 => ?_) (fun g2 => ?_)
      · have g2' : i < a.length := by have h : (i : Int) < ((a.map encId).length : Int) := of_decide_eq_true g2; rw [la] at h; omega
        have g3' : i < b.length := by omega
        refine drawW T_ok (by decide +kernel) ?_
        refine ⟨encId a[i], ⟨by omega, encId_get g2'⟩, ?_⟩
        refine ⟨encId b[i], ⟨by omega, encId_get g3'⟩, ?_⟩
        refine ⟨_, eqId a[i] b[i], ?_⟩
        refine ⟨by kernel_rfl, ?_⟩
        refine condP.split (fun g4 => ?_) (fun g4 => ?_)
        · have g4' : a[i] ≠ b[i] := by simpa using g4
          show some (IV.bool false) = _
          rw [decide_eq_false (fun e => g4' (by simp [e]))]
        · have g4' : a[i] = b[i] := by simpa using g4
          refine ⟨i + 1, ⟨by omega, by omega, fun j q1 q2 hj => ?_⟩, ⟨rfl, rfl, congrArg (fun n => some (PV.i (IV.int .i64 n))) (int_succ (by omega)), trivial⟩, trivial⟩
          by_cases hji : j = i
          · subst hji; exact g4'
          · exact h2 j q1 q2 (by omega)
      · have g2' : i = a.length := by have h : ¬ (i : Int) < ((a.map encId).length : Int) := of_decide_eq_false g2; rw [la] at h; omega
        subst g2'
        exact ⟨(), same_go g' (fun j q1 q2 => h2 j q1 q2 q1), trivial, trivial⟩
    · intro _ h
      show some (IV.bool true) = _
      rw [decide_eq_true h]
end Go.Kn
set_option maxRecDepth 100000
namespace Go.Kn
open Go Go.Proofs
variable {G : Gl}
theorem idx_lt {α : Type} {l : List α} {f : α → IV} {i : Nat} (g : decide ((i : Int) < ((l.map f).length : Int)) = true) : i < l.length := by
  have h : (i : Int) < ((l.map f).length : Int) := of_decide_eq_true g
  rw [List.length_map] at h; omega
theorem idx_ge {α : Type} {l : List α} {f : α → IV} {i : Nat} (g : decide ((i : Int) < ((l.map f).length : Int)) = false) (h : i ≤ l.length) : i = l.length := by
  have h : ¬ (i : Int) < ((l.map f).length : Int) := of_decide_eq_false g
  rw [List.length_map] at h; omega
theorem idx_get {α : Type} {l : List α} (f : α → IV) {i : Nat} (h : i < l.length) : 0 ≤ (i : Int) ∧ (l.map f)[(i : Int).toNat]? = some (f l[i]) := ⟨by omega, by simp [h]⟩
theorem i_succ {i : Nat} (h : i < 9223372036854775807) : some (PV.i (IV.int .i64 (IntKind.i64.wrap ((i : Int) + 1)))) = some (PV.i (IV.int .i64 ((i + 1 : Nat) : Int))) := by rw [int_succ h]
theorem tokLe {k s : Nat} {l l' : List IV} (h : l = l') : PLe (.tok k s l) (.i (.slice l')) := by subst h; exact .tok _ _ _
theorem hasSize_one {k : Nat} {x : IV} (h : x.cells.length = k) : hasSize k [x] := by
  intro y hy
  have := List.mem_singleton.1 hy
  subst this; exact h
def inB (l : List Id) (y : Id) : Bool := l.any fun a => decide (a = y)
theorem ref02_In_ok (l : List Id) (y : Id) (hl : l.length < 1000000) : PureC Pg G Fn.ref02_In [.slice (l.map encId), encId y] (.bool (inB l y)) := by
  refine pureC_of T_ok Fd.ref02_In rfl (by kernel_rfl) ?_
  refine loopX T_ok 0 (S := Nat) (S' := Unit) (fun i => [(0, .i (.slice (l.map encId))), (3, .ptr 3 0), (5, .i (.int .i64 (i : Int)))]) (fun _ => [(3, .var ((idC y).map .i))]) (fun i => l.length - i)
    (fun i => i ≤ l.length ∧ ∀ j (h : j < l.length), j < i → l[j] ≠ y) (fun _ => []) (fun _ => []) (fun _ => inB l y = false) 0 ⟨rfl, rfl, rfl, trivial⟩ ⟨rfl, trivial⟩ ⟨by omega, by intro j _ h; omega⟩ ?_ ?_
  · rintro i ⟨h1, h2⟩
    refine condP.split (fun g => ?_) (fun g => ?_)
    · have g' := idx_lt g
      refine drawW T_ok (by decide +kernel) ?_
      refine ⟨encId l[i], idx_get encId g', ?_⟩
      refine ⟨_, eqId l[i] y, ?_⟩
      refine ⟨by kernel_rfl, ?_⟩
      refine condP.split (fun g2 => ?_) (fun g2 => ?_)
      · have g2' : l[i] = y := of_decide_eq_true g2
        have : inB l y = true := List.any_eq_true.2 ⟨l[i], List.getElem_mem _, decide_eq_true g2'⟩
        rw [this]; rfl
      · have g2' : l[i] ≠ y := of_decide_eq_false g2
        refine ⟨i + 1, ⟨by omega, by omega, fun j q hj => ?_⟩, ⟨rfl, rfl, i_succ (by omega), trivial⟩, ⟨rfl, trivial⟩⟩
        by_cases hji : j = i
        · subst hji; exact g2'
        · exact h2 j q (by omega)
    · have g' := idx_ge g h1
      subst g'
      refine ⟨(), ?_, trivial, trivial⟩
      rw [inB, List.any_eq_false]
      intro x hx
      obtain ⟨j, hj, rfl⟩ := List.getElem_of_mem hx
      simpa using h2 j hj hj
  · intro _ h
    rw [h]; rfl
theorem inB_iff {l : List Id} {y : Id} : inB l y = true ↔ y ∈ l := by
  simp [inB]
instance (l : List Id) : Decidable (RiseK l) := by unfold RiseK; infer_instance
def riseB (l : List Id) : Bool := decide (RiseK l)
theorem rise_take {l : List Id} {i : Nat} (h : i + 1 < l.length) (h1 : RiseK (l.take (i + 1))) (h2 : l[i].key < l[i + 1].key) : RiseK (l.take (i + 2)) := by
  unfold RiseK at *
  rw [List.take_succ_eq_append_getElem h, List.pairwise_append]
  refine ⟨h1, List.pairwise_singleton _ _, fun a ha b hb => ?_⟩
  rw [List.mem_singleton] at hb
  subst hb
  rw [List.take_succ_eq_append_getElem (show i < l.length by omega)] at ha h1
  rcases List.mem_append.1 ha with ha | ha
  · exact Nat.lt_trans ((List.pairwise_append.1 h1).2.2 a ha _ (by simp)) h2
  · rw [List.mem_singleton] at ha; subst ha; exact h2
theorem ref02_Rise_ok (l : List Id) (hl : l.length < 1000000) : PureC Pg G Fn.ref02_Rise [.slice (l.map encId)] (.bool (riseB l)) := by
  refine pureC_of T_ok Fd.ref02_Rise rfl (by kernel_rfl) ?_
  refine loopX T_ok 0 (S := Nat) (S' := Unit) (fun i => [(0, .i (.slice (l.map encId))), (3, .i (.int .i64 ((i + 1 : Nat) : Int)))]) (fun _ => []) (fun i => l.length - i)
    (fun i => (i = 0 ∨ i < l.length) ∧ RiseK (l.take (i + 1))) (fun _ => []) (fun _ => []) (fun _ => riseB l = true) 0 ⟨rfl, rfl, trivial⟩ trivial ⟨by omega, ?_⟩ ?_ ?_
  · cases l with
    | nil => exact List.Pairwise.nil
    | cons a r => exact List.pairwise_singleton _ _
  · rintro i ⟨h1, h2⟩
    refine condP.split (fun g => ?_) (fun g => ?_)
    · have g' : i + 1 < l.length := idx_lt g
      have hw : IntKind.i64.wrap (((i + 1 : Nat) : Int) - 1) = (i : Int) := by rw [wrap_i64 (by omega) (by omega)]; omega
      refine drawW T_ok (by decide +kernel) ?_
      refine ⟨encId l[i], ?_, ?_⟩
      · show 0 ≤ IntKind.i64.wrap (((i + 1 : Nat) : Int) - 1) ∧ (l.map encId)[(IntKind.i64.wrap (((i + 1 : Nat) : Int) - 1)).toNat]? = _
        rw [hw]; exact idx_get encId (show i < l.length by omega)
      refine ⟨encId l[i + 1], idx_get encId g', ?_⟩
      refine ⟨_, _, ⟨rfl, ref02_Less_ok l[i] l[i + 1]⟩, ?_⟩
      refine ⟨by kernel_rfl, ?_⟩
      refine condP.split (fun g2 => ?_) (fun g2 => ?_)
      · have g2' : ¬ l[i].key < l[i + 1].key := by
          have : (!idLt l[i] l[i + 1]) = true := g2
          simpa [idLt] using this
        have : riseB l = false := by
          refine decide_eq_false fun h => g2' ?_
          exact List.pairwise_iff_getElem.1 h i (i + 1) (by omega) g' (by omega)
        rw [this]; rfl
      · have g2' : l[i].key < l[i + 1].key := by
          have : (!idLt l[i] l[i + 1]) = false := g2
          simpa [idLt] using this
        exact ⟨i + 1, ⟨by omega, .inr g', rise_take g' h2 g2'⟩, ⟨rfl, i_succ (by omega), trivial⟩, trivial⟩
    · have g' : ¬ i + 1 < l.length := by
        have h : ¬ ((i + 1 : Nat) : Int) < ((l.map encId).length : Int) := of_decide_eq_false g
        rw [List.length_map] at h; omega
      refine ⟨(), ?_, trivial, trivial⟩
      rw [List.take_of_length_le (by omega)] at h2
      exact decide_eq_true h2
  · intro _ h
    rw [h]; rfl
theorem RiseK.at {l : List Id} (h : RiseK l) {i j : Nat} (hij : i < j) (hj : j < l.length) : l[i].key < l[j].key := List.pairwise_iff_getElem.1 h i j (by omega) hj hij
theorem lowK_at {l : List Id} {y : Id} {i : Nat} (h : i ≤ l.length) (h1 : ∀ j (q : j < l.length), j < i → l[j].key < y.key) (h2 : ∀ j (q : j < l.length), i ≤ j → y.key ≤ l[j].key) : lowK l y = i :=
  lowK_eq h (fun k x hk e => by obtain ⟨q, rfl⟩ := List.getElem?_eq_some_iff.1 e; exact h1 k q hk) (fun k x hk e => by obtain ⟨q, rfl⟩ := List.getElem?_eq_some_iff.1 e; exact h2 k q hk)
theorem addK_at {l : List Id} (hr : RiseK l) {y : Id} {a : Nat} (ha : a ≤ l.length) (h : ∀ j (q : j < l.length), a ≤ j → y.key < l[j].key) (h0 : a = 0 ∨ ∃ q : a - 1 < l.length, 0 < a ∧ l[a - 1].key ≤ y.key) :
    addK l y = if a = 0 ∨ l[a - 1]? ≠ some y then l.take a ++ y :: l.drop a else l := by
  have hlt : ∀ j (q : j < l.length), j < a - 1 → ∀ q' : a - 1 < l.length, l[j].key < l[a - 1].key := fun j q hj q' => hr.at hj q'
  by_cases hc : a = 0 ∨ l[a - 1]? ≠ some y
  · rw [if_pos hc]
    have hno : hasK l y = false := by
      rw [hasK, List.any_eq_false]
      intro x hx
      obtain ⟨j, hj, rfl⟩ := List.getElem_of_mem hx
      intro e
      have e := of_decide_eq_true e
      by_cases hja : a ≤ j
      · have := h j hj hja; rw [e] at this; omega
      · rcases h0 with h0 | ⟨q, hp, h0⟩
        · omega
        · by_cases hj1 : j = a - 1
          · subst hj1
            rcases hc with hc | hc
            · omega
            · exact hc (by rw [List.getElem?_eq_getElem hj, e])
          · have := hlt j hj (by omega) q; rw [e] at this; omega
    have hlow : lowK l y = a := by
      refine lowK_at ha (fun j q hj => ?_) fun j q hj => Nat.le_of_lt (h j q hj)
      rcases h0 with h0 | ⟨q', hp, h0⟩
      · omega
      · by_cases hj1 : j = a - 1
        · subst hj1
          rcases Nat.lt_or_eq_of_le h0 with h0 | h0
          · exact h0
          · rcases hc with hc | hc
            · omega
            · exact absurd (by rw [List.getElem?_eq_getElem q, Id.key_inj h0]) hc
        · exact Nat.lt_of_lt_of_le (hlt j q (by omega) q') h0
    rw [addK, hno, hlow]; simp
  · rw [if_neg hc]
    have hc' : 0 < a ∧ l[a - 1]? = some y := by
      refine ⟨?_, ?_⟩
      · by_cases h : a = 0
        · exact absurd (.inl h) hc
        · omega
      · by_cases h : l[a - 1]? = some y
        · exact h
        · exact absurd (.inr h) hc
    have : hasK l y = true := List.any_eq_true.2 ⟨y, List.mem_of_getElem? hc'.2, decide_eq_true rfl⟩
    rw [addK, this]; simp
theorem mem_addK {l : List Id} {y x : Id} : x ∈ addK l y ↔ x ∈ l ∨ x = y := by
  unfold addK
  cases h : hasK l y with
  | true =>
    simp only [if_true]
    refine ⟨.inl, fun e => e.elim id fun e => ?_⟩
    subst e
    obtain ⟨z, hz, e⟩ := List.any_eq_true.1 h
    have := of_decide_eq_true e
    subst this; exact hz
  | false =>
    simp only [Bool.false_eq_true, if_false]
    conv => rhs; rw [← List.take_append_drop (lowK l y) l]
    simp only [List.mem_append, List.mem_cons]
    constructor
    · rintro (h | h | h)
      · exact .inl (.inl h)
      · exact .inr h
      · exact .inl (.inr h)
    · rintro ((h | h) | h)
      · exact .inl h
      · exact .inr (.inr h)
      · exact .inr (.inl h)
theorem drop_tw {α : Type} (p : α → Bool) : ∀ l : List α, l.drop (l.takeWhile p).length = l.dropWhile p
  | [] => rfl
  | a :: l => by
    cases h : p a
    · simp [List.takeWhile_cons, List.dropWhile_cons, h]
    · simp [List.takeWhile_cons, List.dropWhile_cons, h, drop_tw p l]
theorem rise_addK {l : List Id} (h : RiseK l) (y : Id) : RiseK (addK l y) := by
  unfold addK
  cases hh : hasK l y with
  | true => simpa using h
  | false =>
    simp only [Bool.false_eq_true, if_false]
    have hn : ∀ a ∈ l, a ≠ y := by
      intro a ha e
      rw [hasK, List.any_eq_false] at hh
      exact hh a ha (decide_eq_true e)
    have h1 : ∀ a ∈ l.take (lowK l y), a.key < y.key := by
      intro a ha
      have : l.take (lowK l y) = l.takeWhile fun a => decide (a.key < y.key) :=
        (List.prefix_iff_eq_take.1 (List.takeWhile_prefix (l := l) fun a => decide (a.key < y.key))).symm
      rw [this] at ha
      exact of_decide_eq_true (List.all_eq_true.1 (List.all_takeWhile (l := l) (p := fun a => decide (a.key < y.key))) a ha)
    have h2 : ∀ a ∈ l.drop (lowK l y), y.key < a.key := by
      have hd : l.drop (lowK l y) = l.dropWhile fun a => decide (a.key < y.key) := drop_tw _ l
      have hp : (l.drop (lowK l y)).Pairwise fun a b => a.key < b.key := List.Pairwise.sublist (List.drop_sublist _ _) h
      have hne : ∀ a ∈ l.drop (lowK l y), a ≠ y := fun a ha => hn a (List.mem_of_mem_drop ha)
      generalize l.drop (lowK l y) = d at *
      cases d with
      | nil => intro a ha; cases ha
      | cons b r =>
        have hb : y.key < b.key := by
          have := List.head_dropWhile_not (fun a : Id => decide (a.key < y.key)) (l := l) (by rw [← hd]; simp)
          simp only [← hd, List.head_cons] at this
          have := of_decide_eq_false this
          have hk : b.key ≠ y.key := fun e => hne b List.mem_cons_self (Id.key_inj e)
          omega
        intro a ha
        rcases List.mem_cons.1 ha with rfl | ha
        · exact hb
        · have := (List.pairwise_cons.1 hp).1 a ha
          omega
    unfold RiseK
    rw [List.pairwise_append]
    refine ⟨List.Pairwise.sublist (List.take_sublist _ _) h, List.pairwise_cons.2 ⟨h2, List.Pairwise.sublist (List.drop_sublist _ _) h⟩, fun a ha b hb => ?_⟩
    have ha := h1 a ha
    rcases List.mem_cons.1 hb with rfl | hb
    · exact ha
    · have := h2 b hb
      omega
theorem addK_len (l : List Id) (y : Id) : (addK l y).length ≤ l.length + 1 := by
  unfold addK
  split
  · omega
  · rw [insK_len]; exact Nat.le_refl _
def sortK (l : List Id) : List Id := l.foldl addK []
theorem sortK_succ {l : List Id} {i : Nat} (h : i < l.length) : sortK (l.take (i + 1)) = addK (sortK (l.take i)) l[i] := by
  rw [sortK, sortK, List.take_succ_eq_append_getElem h, List.foldl_append]; rfl
theorem foldl_rise {l : List Id} : ∀ {s : List Id}, RiseK s → RiseK (l.foldl addK s) := by
  induction l with
  | nil => exact fun h => h
  | cons a l ih => exact fun h => ih (rise_addK h a)
theorem rise_sortK (l : List Id) : RiseK (sortK l) := foldl_rise List.Pairwise.nil
theorem foldl_len {l : List Id} : ∀ {s : List Id}, (l.foldl addK s).length ≤ s.length + l.length := by
  induction l with
  | nil => exact fun {s} => Nat.le_refl _
  | cons a l ih => exact fun {s} => by have := ih (s := addK s a); have := addK_len s a; simp only [List.foldl_cons, List.length_cons]; omega
theorem sortK_len (l : List Id) : (sortK l).length ≤ l.length := by have := foldl_len (l := l) (s := []); simpa [sortK] using this
theorem mem_foldl {l : List Id} {x : Id} : ∀ {s : List Id}, x ∈ l.foldl addK s ↔ x ∈ s ∨ x ∈ l := by
  induction l with
  | nil => simp
  | cons a l ih => intro s; rw [List.foldl_cons, ih, mem_addK, List.mem_cons, or_assoc]
theorem mem_sortK {l : List Id} {x : Id} : x ∈ sortK l ↔ x ∈ l := by rw [sortK, mem_foldl]; simp
theorem rise_ext : ∀ {a b : List Id}, RiseK a → RiseK b → (∀ x, x ∈ a ↔ x ∈ b) → a = b
  | [], [], _, _, _ => rfl
  | [], y :: b, _, _, h => by have := (h y).2 List.mem_cons_self; simp at this
  | x :: a, [], _, _, h => by have := (h x).1 List.mem_cons_self; simp at this
  | x :: a, y :: b, ha, hb, h => by
    have ha' := List.pairwise_cons.1 ha
    have hb' := List.pairwise_cons.1 hb
    have hxy : x = y := by
      rcases List.mem_cons.1 ((h x).1 List.mem_cons_self) with e | e
      · exact e
      · rcases List.mem_cons.1 ((h y).2 List.mem_cons_self) with e' | e'
        · exact e'.symm
        · have := ha'.1 y e'; have := hb'.1 x e; omega
    subst hxy
    congr 1
    refine rise_ext ha'.2 hb'.2 fun z => ?_
    have hz := h z
    simp only [List.mem_cons] at hz
    constructor
    · intro q
      rcases hz.1 (.inr q) with e | e
      · subst e; have := ha'.1 z q; omega
      · exact e
    · intro q
      rcases hz.2 (.inr q) with e | e
      · subst e; have := hb'.1 z q; omega
      · exact e
def soE (l o : List Id) (i : Nat) : Env := [(0, .i (.slice (l.map encId))), (3, .i (.slice (o.map encId))), (4, .i (.int .i64 (i : Int)))]
def soE2 (l o : List Id) (i a : Nat) : Env := [(0, .i (.slice (l.map encId))), (3, .i (.slice (o.map encId))), (4, .i (.int .i64 (i : Int))), (5, .i (.int .i64 (a : Int)))]
theorem ref02_Sorted_ok (l : List Id) (hl : l.length < 1000000) : PureC Pg G Fn.ref02_Sorted [.slice (l.map encId)] (.slice ((sortK l).map encId)) := by
  refine pureC_of T_ok Fd.ref02_Sorted rfl (by kernel_rfl) ?_
  refine loopXL T_ok 0 (S := Nat) (S' := Unit) (fun i => soE l (sortK (l.take i)) i) (fun _ => []) (fun i => l.length - i) (fun i => i ≤ l.length) (fun _ => [(3, .i (.slice ((sortK l).map encId)))]) (fun _ => []) (fun _ => True) 0
    ⟨⟨_, rfl, .refl _⟩, ⟨_, rfl, .full _⟩, ⟨_, rfl, .refl _⟩, trivial⟩ trivial (by omega) ?_ ?_
  · intro i hi
    refine condP.split (fun g => ?_) (fun g => ?_)
    · have g' := idx_lt g
      have hso := sortK_succ g'
      have hrise := rise_sortK (l.take i)
      have hlen : (sortK (l.take i)).length ≤ i := by have := sortK_len (l.take i); simp at this; omega
      generalize sortK (l.take i) = o at *
      refine loopXL T_ok 2 (S := Nat) (S' := Nat) (fun a => soE2 l o i a) (fun _ => []) (fun a => a) (fun a => a ≤ o.length ∧ ∀ j (q : j < o.length), a ≤ j → l[i].key < o[j].key) (fun a => soE2 l o i a) (fun _ => [])
        (fun a => a ≤ o.length ∧ (∀ j (q : j < o.length), a ≤ j → l[i].key < o[j].key) ∧ (a = 0 ∨ ∃ q : a - 1 < o.length, 0 < a ∧ o[a - 1].key ≤ l[i].key)) o.length ?_ trivial ⟨Nat.le_refl _, fun j q h => by omega⟩ ?_ ?_
      · refine ⟨⟨_, rfl, .refl _⟩, ⟨_, rfl, .refl _⟩, ⟨_, rfl, .refl _⟩, ⟨_, ?_, .refl _⟩, trivial⟩
        show some (PV.i (IV.int .i64 ((o.map encId).length : Int))) = _
        rw [List.length_map]
      · rintro a ⟨h1, h2⟩
        have hw : 0 < a → IntKind.i64.wrap ((a : Int) - 1) = ((a - 1 : Nat) : Int) := fun h => by rw [wrap_i64 (by omega) (by omega)]; omega
        refine drawW T_ok (by decide +kernel) ?_
        refine condP.split (fun g2 => ?_) (fun g2 => ?_)
        · have g2' : 0 < a := by have h : (a : Int) > 0 := of_decide_eq_true g2; omega
          refine ⟨encId l[i], idx_get encId g', ?_⟩
          refine ⟨encId o[a - 1], ?_, ?_⟩
          · show 0 ≤ IntKind.i64.wrap ((a : Int) - 1) ∧ (o.map encId)[(IntKind.i64.wrap ((a : Int) - 1)).toNat]? = _
            rw [hw g2']; exact idx_get encId (by omega)
          refine ⟨_, _, ⟨rfl, ref02_Less_ok l[i] o[a - 1]⟩, ?_⟩
          refine ⟨by kernel_rfl, ?_⟩
          refine condP.split (fun g3 => ?_) (fun g3 => ?_)
          · have g3' : l[i].key < o[a - 1].key := of_decide_eq_true g3
            refine ⟨a - 1, ⟨by omega, by omega, fun j q hj => ?_⟩, ⟨⟨_, rfl, .refl _⟩, ⟨_, rfl, .refl _⟩, ⟨_, rfl, .refl _⟩, ⟨_, congrArg (fun n => some (PV.i (IV.int .i64 n))) (hw g2'), .refl _⟩, trivial⟩, trivial⟩
            by_cases hja : j = a - 1
            · subst hja; exact g3'
            · exact h2 j q (by omega)
          · have g3' : ¬ l[i].key < o[a - 1].key := of_decide_eq_false g3
            exact ⟨a, ⟨h1, h2, .inr ⟨by omega, g2', by omega⟩⟩, ⟨⟨_, rfl, .refl _⟩, ⟨_, rfl, .refl _⟩, ⟨_, rfl, .refl _⟩, ⟨_, rfl, .refl _⟩, trivial⟩, trivial⟩
        · have g2' : a = 0 := by have h : ¬ (a : Int) > 0 := of_decide_eq_false g2; omega
          refine ⟨by kernel_rfl, ?_⟩
          exact ⟨a, ⟨h1, h2, .inl g2'⟩, ⟨⟨_, rfl, .refl _⟩, ⟨_, rfl, .refl _⟩, ⟨_, rfl, .refl _⟩, ⟨_, rfl, .refl _⟩, trivial⟩, trivial⟩
      · rintro a ⟨h1, h2, h3⟩
        have hadd := addK_at hrise h1 h2 h3
        have hw : 0 < a → IntKind.i64.wrap ((a : Int) - 1) = ((a - 1 : Nat) : Int) := fun h => by rw [wrap_i64 (by omega) (by omega)]; omega
        have ins : ∀ {hc : a = 0 ∨ o[a - 1]? ≠ some l[i]}, addK o l[i] = o.take a ++ l[i] :: o.drop a := fun {hc} => by rw [hadd, if_pos hc]
        have fin : ∀ (hc : a = 0 ∨ o[a - 1]? ≠ some l[i]), (((o.map encId).take a ++ [encId l[i]]) ++ (o.map encId).drop a) = (addK o l[i]).map encId := fun hc => by
          rw [hadd, if_pos hc]; simp [List.map_take, List.map_drop]
        have sz : ∀ k x, x ∈ (o.map encId).take k → x.cells.length = 32 := fun k x hx => hasSize_id o x (List.mem_of_mem_take hx)
        have sz2 : ∀ k x, x ∈ (o.map encId).drop k → x.cells.length = 32 := fun k x hx => hasSize_id o x (List.mem_of_mem_drop hx)
        refine drawW T_ok (by decide +kernel) ?_
        refine condP.split (fun g2 => ?_) (fun g2 => ?_)
        · have g2' : a = 0 := by have h : ((a : Int) == 0) = true := g2; have := eq_of_beq h; omega
          refine ⟨by kernel_rfl, ?_⟩
          refine drawW T_ok (by decide +kernel) ?_
          refine ⟨⟨⟨by decide, by show (0 : Int) ≤ a; omega, by show (a : Int) ≤ ((o.map encId).length : Int); rw [List.length_map]; omega⟩, hasSize_id o⟩, ?_⟩
          refine ⟨⟨⟨fun x hx => (by cases hx), sz _⟩, szOK (by simp; omega) (by kernel_rfl)⟩, ?_⟩
          refine ⟨encId l[i], idx_get encId g', ?_⟩
          refine ⟨⟨⟨sz _, hasSize_one (encId_len _)⟩, szOK (by simp; omega) (by kernel_rfl)⟩, ?_⟩
          refine ⟨⟨⟨by show (0 : Int) ≤ a; omega, by show (a : Int) ≤ ((o.map encId).length : Int); rw [List.length_map]; omega, Int.le_refl _⟩, hasSize_id o⟩, ?_⟩
          refine ⟨⟨⟨fun x hx => (List.mem_append.1 hx).elim (sz _ x) fun h => hasSize_one (encId_len _) x h, fun x hx => hasSize_id o x (List.mem_of_mem_take (List.mem_of_mem_drop hx))⟩, szOK (by simp; omega) (by kernel_rfl)⟩, ?_⟩
          refine ⟨by kernel_rfl, ?_⟩
          refine ⟨i + 1, ⟨by omega, by omega⟩, ⟨⟨_, rfl, .refl _⟩, ⟨_, rfl, tokLe ?_⟩, ⟨_, i_succ (by omega), .refl _⟩, trivial⟩, trivial⟩
          show ([] ++ (((o.map encId).take ((a : Nat) : Int).toNat).drop (0 : Int).toNat)) ++ [encId l[i]] ++ (((o.map encId).take (((o.map encId).length : Nat) : Int).toNat).drop ((a : Nat) : Int).toNat) = _
          rw [Int.toNat_natCast, Int.toNat_natCast, List.take_length, hso, ← fin (.inl g2')]
          rfl
        · have g2' : 0 < a := by
            have h : ((a : Int) == 0) = false := g2
            have : (a : Int) ≠ 0 := by simpa using h
            omega
          refine ⟨encId o[a - 1], ?_, ?_⟩
          · show 0 ≤ IntKind.i64.wrap ((a : Int) - 1) ∧ (o.map encId)[(IntKind.i64.wrap ((a : Int) - 1)).toNat]? = _
            rw [hw g2']; exact idx_get encId (by omega)
          refine ⟨encId l[i], idx_get encId g', ?_⟩
          refine ⟨_, eqId o[a - 1] l[i], ?_⟩
          refine ⟨by kernel_rfl, ?_⟩
          refine condP.split (fun g3 => ?_) (fun g3 => ?_)
          · have g3' : o[a - 1] ≠ l[i] := by
              have h : (!decide (o[a - 1] = l[i])) = true := g3
              simpa using h
            refine drawW T_ok (by decide +kernel) ?_
            refine ⟨⟨⟨by decide, by show (0 : Int) ≤ a; omega, by show (a : Int) ≤ ((o.map encId).length : Int); rw [List.length_map]; omega⟩, hasSize_id o⟩, ?_⟩
            refine ⟨⟨⟨fun x hx => (by cases hx), sz _⟩, szOK (by simp; omega) (by kernel_rfl)⟩, ?_⟩
            refine ⟨encId l[i], idx_get encId g', ?_⟩
            refine ⟨⟨⟨sz _, hasSize_one (encId_len _)⟩, szOK (by simp; omega) (by kernel_rfl)⟩, ?_⟩
            refine ⟨⟨⟨by show (0 : Int) ≤ a; omega, by show (a : Int) ≤ ((o.map encId).length : Int); rw [List.length_map]; omega, Int.le_refl _⟩, hasSize_id o⟩, ?_⟩
            refine ⟨⟨⟨fun x hx => (List.mem_append.1 hx).elim (sz _ x) fun h => hasSize_one (encId_len _) x h, fun x hx => hasSize_id o x (List.mem_of_mem_take (List.mem_of_mem_drop hx))⟩, szOK (by simp; omega) (by kernel_rfl)⟩, ?_⟩
            refine ⟨by kernel_rfl, ?_⟩
            refine ⟨i + 1, ⟨by omega, by omega⟩, ⟨⟨_, rfl, .refl _⟩, ⟨_, rfl, tokLe ?_⟩, ⟨_, i_succ (by omega), .refl _⟩, trivial⟩, trivial⟩
            show ([] ++ (((o.map encId).take ((a : Nat) : Int).toNat).drop (0 : Int).toNat)) ++ [encId l[i]] ++ (((o.map encId).take (((o.map encId).length : Nat) : Int).toNat).drop ((a : Nat) : Int).toNat) = _
            rw [Int.toNat_natCast, Int.toNat_natCast, List.take_length, hso, ← fin (.inr (by rw [List.getElem?_eq_getElem (by omega)]; simpa using g3'))]
            rfl
          · have g3' : o[a - 1] = l[i] := by
              have h : (!decide (o[a - 1] = l[i])) = false := g3
              simpa using h
            have he : addK o l[i] = o := by
              rw [hadd, if_neg]
              rintro (h | h)
              · omega
              · exact h (by rw [List.getElem?_eq_getElem (by omega), g3'])
            refine ⟨i + 1, ⟨by omega, by omega⟩, ⟨⟨_, rfl, .refl _⟩, ⟨_, ?_, .refl _⟩, ⟨_, i_succ (by omega), .refl _⟩, trivial⟩, trivial⟩
            rw [hso, he]; rfl
    · have g' := idx_ge g hi
      subst g'
      rw [List.take_length]
      exact ⟨(), trivial, ⟨⟨_, rfl, .refl _⟩, trivial⟩, trivial⟩
  · intro _ _
    rfl
end Go.Kn
set_option maxRecDepth 100000
namespace Go.Kn
open Go Go.Proofs
variable {G : Gl}
theorem ref04_Name_ok (s : List UInt8) (hs : s.length < 1000000) : PureC Pg G Fn.ref04_Name [.str s] (.bool (nameB s)) := by
  refine pureC_of T_ok Fd.ref04_Name rfl (by kernel_rfl) ?_
  refine loopX T_ok 0 (S := Nat) (S' := Unit) (fun i => [(0, .i (.str s)), (3, .i (.int .i64 (i : Int)))]) (fun _ => []) (fun i => s.length - i) (fun i => i ≤ s.length ∧ ∀ j, j < i → s.getD j 0 ≠ 0 ∧ s.getD j 0 ≠ 47)
    (fun _ => [(0, .i (.str s))]) (fun _ => []) (fun _ => (0 : UInt8) ∉ s ∧ (47 : UInt8) ∉ s) 0 ⟨rfl, rfl, trivial⟩ trivial ⟨by omega, by omega⟩ ?_ ?_
  · rintro i ⟨h1, h2⟩
    refine condP.split (fun g => ?_) (fun g => ?_)
    · have g' : i < s.length := by have : (i : Int) < s.length := of_decide_eq_true g; omega
      have hmem : s.getD i 0 ∈ s := by
        rw [List.getD_eq_getElem?_getD, List.getElem?_eq_getElem g']; simp
      refine ⟨⟨by omega, by omega⟩, ?_⟩
      refine condP.split (fun g2 => ?_) (fun g2 => ?_)
      · have g2' : s.getD i 0 = 0 := by
          have h : (((s.getD i 0).toNat : Int) == 0) = true := g2
          exact UInt8.toNat_inj.1 (by have := eq_of_beq h; show (s.getD i 0).toNat = 0; omega)
        show some (IV.bool false) = some (.bool (nameB s))
        rw [g2'] at hmem
        simp [nameB, hmem]
      · have g2' : s.getD i 0 ≠ 0 := by
          have h : (((s.getD i 0).toNat : Int) == 0) = false := g2
          intro e; rw [e] at h; simp at h
        refine ⟨⟨by omega, by omega⟩, ?_⟩
        refine condP.split (fun g3 => ?_) (fun g3 => ?_)
        · have g3' : s.getD i 0 = 47 := by
            have h : (((s.getD i 0).toNat : Int) == 47) = true := g3
            exact UInt8.toNat_inj.1 (by have := eq_of_beq h; show (s.getD i 0).toNat = 47; omega)
          show some (IV.bool false) = some (.bool (nameB s))
          rw [g3'] at hmem
          simp [nameB, hmem]
        · have g3' : s.getD i 0 ≠ 47 := by
            have h : (((s.getD i 0).toNat : Int) == 47) = false := g3
            intro e; rw [e] at h; simp at h
          refine ⟨i + 1, ⟨by omega, by omega, fun j hj => ?_⟩, ⟨rfl, congrArg (fun n => some (PV.i (IV.int .i64 n))) (int_succ (by omega)), trivial⟩, trivial⟩
          by_cases hji : j = i
          · subst hji; exact ⟨g2', g3'⟩
          · exact h2 j (by omega)
    · have g' : i = s.length := by have : ¬ (i : Int) < s.length := of_decide_eq_false g; omega
      subst g'
      have hno : ∀ c : UInt8, c ∈ s → c ≠ 0 ∧ c ≠ 47 := fun c hc => by
        obtain ⟨j, hj, rfl⟩ := List.getElem_of_mem hc
        have := h2 j hj
        simpa [List.getD_eq_getElem?_getD, hj] using this
      exact ⟨(), ⟨fun h => (hno 0 h).1 rfl, fun h => (hno 47 h).2 rfl⟩, ⟨rfl, trivial⟩, trivial⟩
  · rintro _ ⟨h1, h2⟩
    refine condP.split (fun g => ?_) (fun g => ?_)
    · have g' : s ≠ [] := by have : (s.length : Int) ≥ 1 := of_decide_eq_true g; intro e; subst e; simp at this
      show some (IV.bool (decide ((s.length : Int) ≤ 40))) = some (.bool (nameB s))
      simp only [nameB, g', h1, h2, ne_eq, not_false_eq_true, decide_true, Bool.true_and, Bool.and_true]
      congr 2
      exact decide_eq_decide.2 (by omega)
    · have g' : s = [] := by have : ¬ (s.length : Int) ≥ 1 := of_decide_eq_false g; exact List.eq_nil_of_length_eq_zero (by omega)
      show some (IV.bool false) = some (.bool (nameB s))
      simp [nameB, g']
def mayR (o : Obj) : Bool :=
  if o.kind < 1 ∨ 4 < o.kind then false
  else if (o.kind ≠ 1 ∧ o.data ≠ []) ∨ (o.kind ≠ 2 ∧ o.entries ≠ []) then false
  else if o.kind ≠ 3 ∧ commitE o = false then false
  else if (o.kind ≠ 4 ∧ tagE o = false) ∨ (o.kind = 4 ∧ (kindB o.of && nameB o.name) = false) then false
  else if 64 < o.entries.length ∨ 8 < o.parents.length then false
  else entB none o.entries
theorem mayR_eq (o : Obj) : mayR o = mayB o := by
  have hc : commitE o = true → o.parents = [] := by
    intro h
    simp only [commitE, Bool.and_eq_true] at h
    have h2 := eq_of_beq h.1.1.2
    exact List.eq_nil_of_length_eq_zero (by simpa using h2)
  have ht : treeE o = decide (o.entries = []) := by
    rw [Bool.eq_iff_iff, treeE, beq_iff_eq, decide_eq_true_iff]
    constructor
    · intro h; exact List.eq_nil_of_length_eq_zero (by simpa using h)
    · intro h; simp [h]
  have hb : blobE o = decide (o.data = []) := by
    rw [Bool.eq_iff_iff, blobE, beq_iff_eq, decide_eq_true_iff]
  unfold mayR mayB aloneB entriesB
  rw [ht, hb]
  by_cases k1 : o.kind = 1
  · simp only [k1]
    by_cases he : o.entries = [] <;> cases hce : commitE o <;> cases htg : tagE o <;> simp [he, entB]
    all_goals simp [hc hce]
  · by_cases k2 : o.kind = 2
    · simp only [k2]
      by_cases hd : o.data = [] <;> cases hce : commitE o <;> cases htg : tagE o <;> simp [hd]
      rw [hc hce]
      by_cases h64 : 64 < o.entries.length
      · have : ¬ o.entries.length ≤ 64 := by omega
        simp [h64, this]
      · have : o.entries.length ≤ 64 := by omega
        simp [h64, this]
    · by_cases k3 : o.kind = 3
      · simp only [k3]
        by_cases hd : o.data = [] <;> by_cases he : o.entries = [] <;> cases htg : tagE o <;> simp [hd, he, entB]
        by_cases h8 : 8 < o.parents.length
        · have : ¬ o.parents.length ≤ 8 := by omega
          simp [h8, this]
        · have : o.parents.length ≤ 8 := by omega
          simp [h8, this]
      · by_cases k4 : o.kind = 4
        · simp only [k4]
          by_cases hd : o.data = [] <;> by_cases he : o.entries = [] <;> cases hce : commitE o <;> cases hk : kindB o.of <;> cases hn : nameB o.name <;> simp [hd, he, entB]
          rw [hc hce]; simp
        · have : o.kind < 1 ∨ 4 < o.kind := by omega
          simp [k1, k2, k3, k4, this]
def oM (o : Obj) : Mem := [(1, .var ((encObj o).cells.map .i))]
def oM2 (o : Obj) : Mem := [(1, .var ((encObj o).cells.map .i)), (3, .var ((idC Id.none).map .i))]
theorem lenE (l : List Entry) : ((l.map encEntry).length : Int) = (l.length : Int) := by simp
theorem lenI (l : List Id) : ((l.map encId).length : Int) = (l.length : Int) := by simp
set_option maxHeartbeats 1000000 in
set_option maxRecDepth 100000 in
theorem ref04_May_ok (o : Obj) (hl : o.entries.length < 1000000) (hn : o.name.length < 1000000) (hen : ∀ e ∈ o.entries, e.name.length < 1000000) : PureC Pg G Fn.ref04_May [encObj o] (.bool (mayB o)) := by
  rw [← mayR_eq]
  have fin : ∀ b, b = mayR o → some (IV.bool b) = some (.bool (mayR o)) := fun b h => by rw [h]
  refine pureW_of T_ok Fd.ref04_May rfl (by kernel_rfl) ?_
  refine CW.next T_ok ?_
  refine CW.cut T_ok (S := Unit) (fun _ => [(1, .ptr 1 0)]) (fun _ => oM o) (fun _ => ¬ (o.kind < 1 ∨ 4 < o.kind)) ?_ ?_
  · refine condP.split (fun g => ?_) (fun g => ?_)
    · have g' : o.kind < 1 := of_decide_eq_true g
      exact fin false (by simp [mayR, g'])
    · have g' : ¬ o.kind < 1 := of_decide_eq_false g
      refine condP.split (fun g2 => ?_) (fun g2 => ?_)
      · have g2' : 4 < o.kind := of_decide_eq_true g2
        exact fin false (by simp [mayR, g2'])
      · have g2' : ¬ 4 < o.kind := of_decide_eq_false g2
        exact ⟨(), by simp [g', g2'], ⟨rfl, trivial⟩, ⟨rfl, trivial⟩⟩
  intro _ hk
  refine CW.next T_ok ?_
  refine CW.cut T_ok (S := Unit) (fun _ => [(1, .ptr 1 0), (3, .ptr 3 0)]) (fun _ => oM2 o) (fun _ => ¬ ((o.kind ≠ 1 ∧ o.data ≠ []) ∨ (o.kind ≠ 2 ∧ o.entries ≠ []))) ?_ ?_
  · have bad : (o.kind ≠ 1 ∧ o.data ≠ []) ∨ (o.kind ≠ 2 ∧ o.entries ≠ []) → false = mayR o := fun h => by rw [mayR, if_neg hk, if_pos h]
    have ent : ∀ {b : Bool}, decide (((o.entries.map encEntry).length : Int) > 0) = b → (b = true ↔ o.entries ≠ []) := fun {b} h => by
      rw [← h, lenE, decide_eq_true_iff]
      constructor
      · intro h1 h2; rw [h2] at h1; simp at h1
      · intro h1; have := List.length_pos_iff.2 h1; omega
    refine condP.split (fun g => ?_) (fun g => ?_)
    · have g' : o.kind ≠ 1 := by simpa using g
      refine condP.split (fun g2 => ?_) (fun g2 => ?_)
      · have g2' : o.data ≠ [] := by simpa using g2
        exact fin false (bad (.inl ⟨g', g2'⟩))
      · have g2' : o.data = [] := by simpa using g2
        refine condP.split (fun g3 => ?_) (fun g3 => ?_)
        · have g3' : o.kind ≠ 2 := by simpa using g3
          refine condP.split (fun g4 => ?_) (fun g4 => ?_)
          · exact fin false (bad (.inr ⟨g3', (ent g4).1 rfl⟩))
          · have g4' : o.entries = [] := Classical.byContradiction fun h => by have := (ent g4).2 h; cases this
            exact ⟨(), by simp [g2', g4'], ⟨rfl, rfl, trivial⟩, ⟨rfl, rfl, trivial⟩⟩
        · have g3' : o.kind = 2 := by simpa using g3
          exact ⟨(), by simp [g2', g3'], ⟨rfl, rfl, trivial⟩, ⟨rfl, rfl, trivial⟩⟩
    · have g' : o.kind = 1 := by simpa using g
      refine condP.split (fun g3 => ?_) (fun g3 => ?_)
      · have g3' : o.kind ≠ 2 := by simpa using g3
        refine condP.split (fun g4 => ?_) (fun g4 => ?_)
        · exact fin false (bad (.inr ⟨g3', (ent g4).1 rfl⟩))
        · have g4' : o.entries = [] := Classical.byContradiction fun h => by have := (ent g4).2 h; cases this
          exact ⟨(), by simp [g', g4'], ⟨rfl, rfl, trivial⟩, ⟨rfl, rfl, trivial⟩⟩
      · have g3' : o.kind = 2 := by simpa using g3
        exact absurd g3' (by omega)
  intro _ h2
  refine CW.cut T_ok (S := Unit) (fun _ => [(1, .ptr 1 0), (3, .ptr 3 0)]) (fun _ => oM2 o) (fun _ => ¬ (o.kind ≠ 3 ∧ commitE o = false)) ?_ ?_
  · have bad : o.kind ≠ 3 ∧ commitE o = false → false = mayR o := fun h => by rw [mayR, if_neg hk, if_neg h2, if_pos h]
    have par : ∀ {b : Bool}, decide (((o.parents.map encId).length : Int) > 0) = b → (((o.parents.map encId).length : Int) == 0) = !b := fun {b} h => by
      rw [← h, lenI]
      generalize o.parents.length = n
      by_cases hz : n = 0
      · subst hz; rfl
      · have h1 : ((n : Int) == 0) = false := by rw [beq_eq_false_iff_ne]; omega
        have h2 : decide ((n : Int) > 0) = true := decide_eq_true (by omega)
        rw [h1, h2]; rfl
    refine condP.split (fun g => ?_) (fun g => ?_)
    · have g' : o.kind ≠ 3 := by simpa using g
      refine ⟨_, eqId o.tree Id.none, ?_⟩
      refine condP.split (fun q1 => ?_) (fun q1 => ?_)
      · have q1' : decide (o.tree = Id.none) = false := by simpa using q1
        exact fin false (bad ⟨g', by simp only [commitE, q1', Bool.false_and]⟩)
      · have q1' : decide (o.tree = Id.none) = true := by simpa using q1
        refine condP.split (fun q2 => ?_) (fun q2 => ?_)
        · exact fin false (bad ⟨g', by simp only [commitE, q1', par q2, Bool.not_true, Bool.and_false, Bool.false_and]⟩)
        · refine condP.split (fun q3 => ?_) (fun q3 => ?_)
          · have q3' : ((o.time : Int) == 0) = false := by simpa using q3
            exact fin false (bad ⟨g', by simp only [commitE, q1', par q2, q3', Bool.and_false, Bool.false_and]⟩)
          · have q3' : ((o.time : Int) == 0) = true := by simpa using q3
            refine condP.split (fun q4 => ?_) (fun q4 => ?_)
            · have q4' : (o.text == []) = false := by simpa using q4
              exact fin false (bad ⟨g', by simp only [commitE, q4', Bool.and_false]⟩)
            · have q4' : (o.text == []) = true := by simpa using q4
              exact ⟨(), by simp only [commitE, q1', par q2, q3', q4']; simp, ⟨rfl, rfl, trivial⟩, ⟨rfl, rfl, trivial⟩⟩
    · have g' : o.kind = 3 := by simpa using g
      exact ⟨(), by simp [g'], ⟨rfl, rfl, trivial⟩, ⟨rfl, rfl, trivial⟩⟩
  intro _ h3
  refine CW.cut T_ok (S := Unit) (fun _ => [(1, .ptr 1 0)]) (fun _ => oM o) (fun _ => ¬ ((o.kind ≠ 4 ∧ tagE o = false) ∨ (o.kind = 4 ∧ (kindB o.of && nameB o.name) = false))) ?_ ?_
  · have bad : ((o.kind ≠ 4 ∧ tagE o = false) ∨ (o.kind = 4 ∧ (kindB o.of && nameB o.name) = false)) → false = mayR o := fun h => by rw [mayR, if_neg hk, if_neg h2, if_neg h3, if_pos h]
    refine condP.split (fun g => ?_) (fun g => ?_)
    · have g' : o.kind ≠ 4 := by simpa using g
      refine ⟨_, eqId o.target Id.none, ?_⟩
      refine condP.split (fun q1 => ?_) (fun q1 => ?_)
      · have q1' : decide (o.target = Id.none) = false := by simpa using q1
        exact fin false (bad (.inl ⟨g', by simp only [tagE, q1', Bool.false_and]⟩))
      · have q1' : decide (o.target = Id.none) = true := by simpa using q1
        refine condP.split (fun q2 => ?_) (fun q2 => ?_)
        · have q2' : (o.of == 0) = false := by simpa using q2
          exact fin false (bad (.inl ⟨g', by simp only [tagE, q2', Bool.and_false, Bool.false_and]⟩))
        · have q2' : (o.of == 0) = true := by simpa using q2
          refine condP.split (fun q3 => ?_) (fun q3 => ?_)
          · have q3' : (o.name == []) = false := by simpa using q3
            exact fin false (bad (.inl ⟨g', by simp only [tagE, q3', Bool.and_false]⟩))
          · have q3' : (o.name == []) = true := by simpa using q3
            exact ⟨(), by simp only [tagE, q1', q2', q3']; simp [g'], ⟨rfl, trivial⟩, ⟨rfl, trivial⟩⟩
    · have g' : o.kind = 4 := by simpa using g
      refine ⟨_, _, _, pureCall (ref04_Name_ok o.name hn) rfl, ?_⟩
      refine condP.split (fun q1 => ?_) (fun q1 => ?_)
      · have q1' : o.of < 1 := of_decide_eq_true q1
        have : kindB o.of = false := by simp only [kindB, Bool.and_eq_false_iff, decide_eq_false_iff_not]; left; omega
        exact fin false (bad (.inr ⟨g', by rw [this]; rfl⟩))
      · have q1' : ¬ o.of < 1 := of_decide_eq_false q1
        refine condP.split (fun q2 => ?_) (fun q2 => ?_)
        · have q2' : o.of > 4 := of_decide_eq_true q2
          have : kindB o.of = false := by simp only [kindB, Bool.and_eq_false_iff, decide_eq_false_iff_not]; right; omega
          exact fin false (bad (.inr ⟨g', by rw [this]; rfl⟩))
        · have q2' : ¬ o.of > 4 := of_decide_eq_false q2
          have hkb : kindB o.of = true := by simp only [kindB, Bool.and_eq_true, decide_eq_true_eq]; omega
          refine condP.split (fun q3 => ?_) (fun q3 => ?_)
          · have q3' : nameB o.name = false := by simpa using q3
            exact fin false (bad (.inr ⟨g', by rw [q3']; simp⟩))
          · have q3' : nameB o.name = true := by simpa using q3
            exact ⟨(), by simp [g', hkb, q3'], ⟨rfl, trivial⟩, ⟨rfl, trivial⟩⟩
  intro _ h4
  refine CW.cut T_ok (S := Unit) (fun _ => [(1, .ptr 1 0)]) (fun _ => oM o) (fun _ => ¬ (64 < o.entries.length ∨ 8 < o.parents.length)) ?_ ?_
  · have bad : (64 < o.entries.length ∨ 8 < o.parents.length) → false = mayR o := fun h => by rw [mayR, if_neg hk, if_neg h2, if_neg h3, if_neg h4, if_pos h]
    refine condP.split (fun g => ?_) (fun g => ?_)
    · have g' : ((o.entries.map encEntry).length : Int) > 64 := of_decide_eq_true g
      rw [lenE] at g'
      exact fin false (bad (.inl (by omega)))
    · have g' : ¬ ((o.entries.map encEntry).length : Int) > 64 := of_decide_eq_false g
      rw [lenE] at g'
      refine condP.split (fun q => ?_) (fun q => ?_)
      · have q' : ((o.parents.map encId).length : Int) > 8 := of_decide_eq_true q
        rw [lenI] at q'
        exact fin false (bad (.inr (by omega)))
      · have q' : ¬ ((o.parents.map encId).length : Int) > 8 := of_decide_eq_false q
        rw [lenI] at q'
        exact ⟨(), by omega, ⟨rfl, trivial⟩, ⟨rfl, trivial⟩⟩
  intro _ h5
  have hm : mayR o = entB none o.entries := by rw [mayR, if_neg hk, if_neg h2, if_neg h3, if_neg h4, if_neg h5]
  refine CW.go T_ok ?_
  refine loopX T_ok 0 (S := Nat) (S' := Unit) (fun i => [(1, .ptr 1 0), (5, .i (.int .i64 (i : Int)))]) (fun _ => oM o) (fun i => o.entries.length - i)
    (fun i => i ≤ o.entries.length ∧ entB (prevN o.entries i) (o.entries.drop i) = entB none o.entries) (fun _ => []) (fun _ => []) (fun _ => entB none o.entries = true) 0
    ⟨rfl, rfl, trivial⟩ ⟨rfl, trivial⟩ ⟨by omega, rfl⟩ ?_ ?_
  · rintro i ⟨i1, i2⟩
    refine condP.split (fun g1 => ?_) (fun g1 => ?_)
    · have g1' : i < o.entries.length := by have h : (i : Int) < ((o.entries.map encEntry).length : Int) := of_decide_eq_true g1; rw [lenE] at h; omega
      have hget : o.entries[i]? = some o.entries[i] := List.getElem?_eq_getElem g1'
      have hdr : o.entries.drop i = o.entries[i] :: o.entries.drop (i + 1) := List.drop_eq_getElem_cons g1'
      rw [hdr] at i2
      have hbad : entOK (prevN o.entries i) o.entries[i] = false → false = mayR o := fun h => by
        rw [hm, ← i2, entB, h]; rfl
      have hgo : entOK (prevN o.entries i) o.entries[i] = true → entB (prevN o.entries (i + 1)) (o.entries.drop (i + 1)) = entB none o.entries := fun h => by
        rw [← i2, entB, h, prevN, hget]; rfl
      refine ⟨encEntry o.entries[i], ⟨by omega, by simp [hget]⟩, ?_⟩
      refine ⟨_, _, _, pureCall (ref04_Name_ok o.entries[i].name (hen _ (List.getElem_mem _))) rfl, ?_⟩
      refine condP.split (fun g2 => ?_) (fun g2 => ?_)
      · have g2' : nameB o.entries[i].name = false := by simpa using g2
        exact fin false (hbad (by simp [entOK, g2']))
      · have g2' : nameB o.entries[i].name = true := by simpa using g2
        refine condP.split (fun g3 => ?_) (fun g3 => ?_)
        · have g3' : o.entries[i].kind < 1 := of_decide_eq_true g3
          have h1 : o.entries[i].kind ≠ 1 := by omega
          have h2 : o.entries[i].kind ≠ 2 := by omega
          exact fin false (hbad (by simp [entOK, h1, h2]))
        · have g3' : ¬ o.entries[i].kind < 1 := of_decide_eq_false g3
          refine condP.split (fun g4 => ?_) (fun g4 => ?_)
          · have g4' : o.entries[i].kind > 2 := of_decide_eq_true g4
            have h1 : o.entries[i].kind ≠ 1 := by omega
            have h2 : o.entries[i].kind ≠ 2 := by omega
            exact fin false (hbad (by simp [entOK, h1, h2]))
          · have g4' : ¬ o.entries[i].kind > 2 := of_decide_eq_false g4
            have hkk : (o.entries[i].kind = 1 ∨ o.entries[i].kind = 2) := by omega
            refine drawW T_ok (by decide +kernel) ?_
            refine condP.split (fun g5 => ?_) (fun g5 => ?_)
            · have g5' : 0 < i := by have : (i : Int) > 0 := of_decide_eq_true g5; omega
              obtain ⟨j, rfl⟩ : ∃ j, i = j + 1 := ⟨i - 1, by omega⟩
              have hw : IntKind.i64.wrap (((j + 1 : Nat) : Int) - 1) = (j : Int) := by rw [wrap_i64 (by omega) (by omega)]; omega
              have hj : o.entries[j]? = some o.entries[j] := List.getElem?_eq_getElem (by omega)
              refine ⟨encEntry o.entries[j], ⟨?_, ?_⟩, ?_⟩
              · show 0 ≤ IntKind.i64.wrap (((j + 1 : Nat) : Int) - 1)
                rw [hw]; omega
              · show (o.entries.map encEntry)[(IntKind.i64.wrap (((j + 1 : Nat) : Int) - 1)).toNat]? = _
                rw [hw]; simp [hj]
              refine ⟨by kernel_rfl, ?_⟩
              refine condP.split (fun g6 => ?_) (fun g6 => ?_)
              · have g6' : Op.bytesLess o.entries[j].name o.entries[j + 1].name = false := by simpa using g6
                exact fin false (hbad (by simp [entOK, prevN, hj, g6']))
              · have g6' : Op.bytesLess o.entries[j].name o.entries[j + 1].name = true := by simpa using g6
                exact ⟨j + 1 + 1, ⟨by omega, by omega, hgo (by simp [entOK, prevN, hj, g6', g2', hkk])⟩, ⟨rfl, congrArg (fun n => some (PV.i (IV.int .i64 n))) (int_succ (by omega)), trivial⟩, ⟨rfl, trivial⟩⟩
            · have g5' : i = 0 := by have : ¬ (i : Int) > 0 := of_decide_eq_false g5; omega
              subst g5'
              refine ⟨by kernel_rfl, ?_⟩
              exact ⟨0 + 1, ⟨by omega, by omega, hgo (by simp [entOK, prevN, g2', hkk])⟩, ⟨rfl, rfl, trivial⟩, ⟨rfl, trivial⟩⟩
    · have g1' : i = o.entries.length := by have h : ¬ (i : Int) < ((o.entries.map encEntry).length : Int) := of_decide_eq_false g1; rw [lenE] at h; omega
      subst g1'
      refine ⟨(), ?_, trivial, trivial⟩
      rw [← i2, List.drop_of_length_le (Nat.le_refl _)]; rfl
  · intro _ h
    exact fin true (by rw [hm, h])
end Go.Kn
set_option maxRecDepth 100000
namespace Go.Kn
open Go Go.Proofs
variable {G : Gl}
def oneB (n : Int) : UInt8 := UInt8.ofNat (n % 256).toNat
def entS (e : Entry) : List UInt8 := [oneB e.kind] ++ textS e.name ++ e.id.bytes
def entsS : List Entry → List UInt8
  | [] => []
  | e :: r => entS e ++ entsS r
def idsS : List Id → List UInt8
  | [] => []
  | x :: r => x.bytes ++ idsS r
theorem entsS_append (a b : List Entry) : entsS (a ++ b) = entsS a ++ entsS b := by
  induction a with
  | nil => rfl
  | cons x r ih => simp [entsS, ih]
theorem idsS_append (a b : List Id) : idsS (a ++ b) = idsS a ++ idsS b := by
  induction a with
  | nil => rfl
  | cons x r ih => simp [idsS, ih]
theorem textS_len {t : List UInt8} (h : t.length < 1000000) : (textS t).length ≤ t.length + 10 := by
  have := putS_len (n := t.length) (by omega)
  simp [textS]; omega
theorem entS_len {e : Entry} (h : e.name.length < 1000000) : (entS e).length ≤ 1000100 := by
  have := textS_len h
  have := e.id.len
  simp [entS]; omega
theorem entsS_len : ∀ (l : List Entry), (∀ e ∈ l, e.name.length < 1000000) → (entsS l).length ≤ l.length * 1000100
  | [], _ => by simp [entsS]
  | e :: r, h => by
    have h1 := entS_len (h e (by simp))
    have h2 := entsS_len r fun e he => h e (by simp [he])
    simp only [entsS, List.length_append, List.length_cons]; omega
theorem idsS_len : ∀ (l : List Id), (idsS l).length = l.length * 32
  | [] => rfl
  | x :: r => by simp only [idsS, List.length_append, List.length_cons, idsS_len r, x.len]; omega
def comS (o : Obj) : List UInt8 := o.tree.bytes ++ putS o.parents.length ++ idsS o.parents ++ putS o.time ++ textS o.text
def tagS (o : Obj) : List UInt8 := [oneB o.of] ++ o.target.bytes ++ textS o.name
def bodyS (o : Obj) : List UInt8 := o.data ++ entsS o.entries ++ (if o.kind = 3 then comS o else []) ++ (if o.kind = 4 then tagS o else [])
structure Small (o : Obj) : Prop where
  e : o.entries.length < 1000
  n : ∀ e ∈ o.entries, e.name.length < 1000000
  p : o.parents.length < 1000
  d : o.data.length < 1000000
  t : o.text.length < 1000000
  m : o.name.length < 1000000
  i : o.time < 4294967296
theorem body_loop1 {o : Obj} (hs : Small o) {env : Env} {m : Mem} {Q : EQ}
    (hE : LkE env [(1, .ptr 1 0), (3, .i (.str o.data)), (4, .i (.int .i64 0))]) (hM : LkM m (oM o))
    (hQ : Q (.exit 0) [(1, .ptr 1 0), (3, .i (.str (o.data ++ entsS o.entries)))] (oM o)) :
    LoopW Pg G Fb.ref04_body.ntmps (nthLoop Fb.ref04_body 0) env m Q := by
  refine loopX T_ok 0 (S := Nat) (S' := Unit) (fun i => [(1, .ptr 1 0), (3, .i (.str (o.data ++ entsS (o.entries.take i)))), (4, .i (.int .i64 (i : Int)))]) (fun _ => oM o) (fun i => o.entries.length - i) (fun i => i ≤ o.entries.length)
    (fun _ => [(1, .ptr 1 0), (3, .i (.str (o.data ++ entsS o.entries)))]) (fun _ => oM o) (fun _ => True) 0 ⟨hE.1, by rw [hE.2.1]; simp [entsS], hE.2.2.1, trivial⟩ hM (by omega) ?_ (fun _ _ => hQ)
  intro i hi
  have hq := hs.e
  have hd := hs.d
  have hpl := entsS_len (o.entries.take i) fun e he => hs.n e (List.mem_of_mem_take he)
  have hpl' : (entsS (o.entries.take i)).length ≤ 1000 * 1000100 := by
    refine Nat.le_trans hpl (Nat.mul_le_mul_right _ ?_)
    simp; omega
  refine condP.split (fun g => ?_) (fun g => ?_)
  · have g' : i < o.entries.length := by have h : (i : Int) < ((o.entries.map encEntry).length : Int) := of_decide_eq_true g; rw [lenE] at h; omega
    have hget : o.entries[i]? = some o.entries[i] := List.getElem?_eq_getElem g'
    have hn := hs.n _ (List.getElem_mem g')
    have hx : (o.entries.map encEntry)[(i : Int).toNat]? = some (encEntry o.entries[i]) := by simp [hget]
    have htl := textS_len hn
    refine drawW T_ok (by decide +kernel) ?_
    refine ⟨encEntry o.entries[i], ⟨by omega, hx⟩, ?_⟩
    refine ⟨_, _, ⟨rfl, ref04_one_ok o.entries[i].kind⟩, ?_⟩
    refine ⟨by simp; omega, ?_⟩
    refine ⟨encEntry o.entries[i], ⟨by omega, hx⟩, ?_⟩
    refine ⟨_, _, ⟨rfl, ref01_Text_ok o.entries[i].name (by omega)⟩, ?_⟩
    refine ⟨by simp; omega, ?_⟩
    refine ⟨encEntry o.entries[i], ⟨by omega, hx⟩, ?_⟩
    refine ⟨_, _, ⟨rfl, ref04_bytes_ok o.entries[i].id⟩, ?_⟩
    refine ⟨by have := o.entries[i].id.len; simp; omega, ?_⟩
    refine ⟨by kernel_rfl, ?_⟩
    refine ⟨i + 1, ⟨by omega, by omega⟩, ⟨rfl, ?_, congrArg (fun n => some (PV.i (IV.int .i64 n))) (int_succ (by omega)), trivial⟩, ⟨rfl, trivial⟩⟩
    show some (PV.i (IV.str (o.data ++ entsS (o.entries.take i) ++ [oneB o.entries[i].kind] ++ textS o.entries[i].name ++ o.entries[i].id.bytes))) = _
    rw [List.take_succ_eq_append_getElem g', entsS_append]
    simp [entsS, entS]
  · have g' : i = o.entries.length := by have h : ¬ (i : Int) < ((o.entries.map encEntry).length : Int) := of_decide_eq_false g; rw [lenE] at h; omega
    refine ⟨(), trivial, ⟨rfl, ?_, trivial⟩, ⟨rfl, trivial⟩⟩
    rw [g', List.take_length]; rfl
theorem body_loop2 {o : Obj} (hs : Small o) {b : List UInt8} (hb : b.length < 3000000000) {env : Env} {m : Mem} {Q : EQ}
    (hE : LkE env [(1, .ptr 1 0), (3, .i (.str b)), (5, .i (.int .i64 0))]) (hM : LkM m (oM o))
    (hQ : Q (.exit 2) [(1, .ptr 1 0), (3, .i (.str (b ++ idsS o.parents)))] (oM o)) :
    LoopW Pg G Fb.ref04_body.ntmps (nthLoop Fb.ref04_body 1) env m Q := by
  refine loopX T_ok 2 (S := Nat) (S' := Unit) (fun i => [(1, .ptr 1 0), (3, .i (.str (b ++ idsS (o.parents.take i)))), (5, .i (.int .i64 (i : Int)))]) (fun _ => oM o) (fun i => o.parents.length - i) (fun i => i ≤ o.parents.length)
    (fun _ => [(1, .ptr 1 0), (3, .i (.str (b ++ idsS o.parents)))]) (fun _ => oM o) (fun _ => True) 0 ⟨hE.1, by rw [hE.2.1]; simp [idsS], hE.2.2.1, trivial⟩ hM (by omega) ?_ (fun _ _ => hQ)
  intro i hi
  have hp := hs.p
  have hl := idsS_len (o.parents.take i)
  have hl2 : (o.parents.take i).length ≤ 1000 := by simp; omega
  refine condP.split (fun g => ?_) (fun g => ?_)
  · have g' : i < o.parents.length := by have h : (i : Int) < ((o.parents.map encId).length : Int) := of_decide_eq_true g; rw [lenI] at h; omega
    have hget : o.parents[i]? = some o.parents[i] := List.getElem?_eq_getElem g'
    refine ⟨encId o.parents[i], ⟨by omega, by simp [hget]⟩, ?_⟩
    refine ⟨_, _, _, pureCall (ref04_bytes_ok o.parents[i]) rfl, ?_⟩
    refine ⟨by have := o.parents[i].len; simp; omega, ?_⟩
    refine ⟨i + 1, ⟨by omega, by omega⟩, ⟨rfl, ?_, congrArg (fun n => some (PV.i (IV.int .i64 n))) (int_succ (by omega)), trivial⟩, ⟨rfl, trivial⟩⟩
    show some (PV.i (IV.str (b ++ idsS (o.parents.take i) ++ o.parents[i].bytes))) = _
    rw [List.take_succ_eq_append_getElem g', idsS_append]
    simp [idsS]
  · have g' : i = o.parents.length := by have h : ¬ (i : Int) < ((o.parents.map encId).length : Int) := of_decide_eq_false g; rw [lenI] at h; omega
    refine ⟨(), trivial, ⟨rfl, ?_, trivial⟩, ⟨rfl, trivial⟩⟩
    rw [g', List.take_length]; rfl
theorem ref04_body_ok (o : Obj) (hs : Small o) : PureC Pg G Fn.ref04_body [encObj o] (.str (bodyS o)) := by
  have hel := entsS_len o.entries hs.n
  have hel' : (entsS o.entries).length ≤ 1000 * 1000100 := Nat.le_trans hel (Nat.mul_le_mul_right _ (by have := hs.e; omega))
  have hd := hs.d
  have hp := hs.p
  have ht := hs.t
  have htx := textS_len hs.t
  have htm := textS_len hs.m
  have hnm := hs.m
  have hti := hs.i
  have hpl := idsS_len o.parents
  have hput1 := putS_len (n := o.parents.length) (by omega)
  have hput2 := putS_len (n := o.time) (by omega)
  refine pureW_of T_ok Fd.ref04_body rfl (by kernel_rfl) ?_
  refine CW.next T_ok ?_
  refine CW.next T_ok ?_
  refine CW.cut T_ok (S := Unit) (fun _ => [(1, .ptr 1 0), (3, .i (.str (o.data ++ entsS o.entries)))]) (fun _ => oM o) (fun _ => True) ?_ ?_
  · exact body_loop1 hs ⟨rfl, rfl, rfl, trivial⟩ ⟨rfl, trivial⟩ ⟨(), trivial, ⟨rfl, rfl, trivial⟩, ⟨rfl, trivial⟩⟩
  intro _ _
  refine CW.cut T_ok (S := Unit) (fun _ => [(1, .ptr 1 0), (3, .i (.str (o.data ++ entsS o.entries ++ (if o.kind = 3 then comS o else []))))]) (fun _ => oM o) (fun _ => True) ?_ ?_
  · refine condP.split (fun g => ?_) (fun g => ?_)
    · have g' : o.kind = 3 := eq_of_beq g
      rw [if_pos g']
      refine drawW T_ok (by decide +kernel) ?_
      refine ⟨_, _, ⟨rfl, ref04_bytes_ok o.tree⟩, ?_⟩
      refine ⟨by have := o.tree.len; simp; omega, ?_⟩
      have hw : IntKind.u64.wrap (((o.parents.map encId).length : Nat) : Int) = ((o.parents.length : Nat) : Int) := by rw [lenI, wrap_u64 (by omega) (by omega)]
      refine ⟨[.int .u64 (o.parents.length : Int)], _, ⟨congrArg (fun n => [IV.int .u64 n]) hw, ref01_Put_ok o.parents.length (by omega)⟩, ?_⟩
      refine ⟨by have := o.tree.len; simp; omega, ?_⟩
      refine ⟨by kernel_rfl, ?_⟩
      refine body_loop2 hs (b := o.data ++ entsS o.entries ++ o.tree.bytes ++ putS o.parents.length) (by have := o.tree.len; simp; omega) ⟨rfl, rfl, rfl, trivial⟩ ⟨rfl, trivial⟩ ?_
      refine drawW T_ok (by decide +kernel) ?_
      have hw2 : IntKind.u64.wrap (o.time : Int) = (o.time : Int) := wrap_u64 (by omega) (by omega)
      refine ⟨[.int .u64 (o.time : Int)], _, ⟨congrArg (fun n => [IV.int .u64 n]) hw2, ref01_Put_ok o.time (by omega)⟩, ?_⟩
      refine ⟨by have := o.tree.len; simp; omega, ?_⟩
      refine ⟨_, _, ⟨rfl, ref01_Text_ok o.text (by omega)⟩, ?_⟩
      refine ⟨by have := o.tree.len; simp; omega, ?_⟩
      refine ⟨by kernel_rfl, ?_⟩
      refine ⟨(), trivial, ⟨rfl, ?_, trivial⟩, ⟨rfl, trivial⟩⟩
      show some (PV.i (IV.str (o.data ++ entsS o.entries ++ o.tree.bytes ++ putS o.parents.length ++ idsS o.parents ++ putS o.time ++ textS o.text))) = _
      simp [comS]
    · have g' : ¬ o.kind = 3 := by have h : (o.kind == 3) = false := g; simpa using h
      rw [if_neg g', List.append_nil]
      exact ⟨(), trivial, ⟨rfl, rfl, trivial⟩, ⟨rfl, trivial⟩⟩
  intro _ _
  have hcl : (if o.kind = 3 then comS o else []).length ≤ 1100000 := by
    split
    · have := o.tree.len
      simp only [comS, List.length_append]; omega
    · simp
  refine CW.go T_ok ?_
  refine condP.split (fun g => ?_) (fun g => ?_)
  · have g' : o.kind = 4 := eq_of_beq g
    refine drawW T_ok (by decide +kernel) ?_
    refine ⟨_, _, ⟨rfl, ref04_one_ok o.of⟩, ?_⟩
    refine ⟨by simp only [List.length_append, List.length_singleton]; omega, ?_⟩
    refine ⟨_, _, ⟨rfl, ref04_bytes_ok o.target⟩, ?_⟩
    refine ⟨by have := o.target.len; simp only [List.length_append, List.length_singleton]; omega, ?_⟩
    refine ⟨_, _, ⟨rfl, ref01_Text_ok o.name (by omega)⟩, ?_⟩
    refine ⟨by have := o.target.len; simp only [List.length_append, List.length_singleton]; omega, ?_⟩
    refine ⟨by kernel_rfl, ?_⟩
    show some (IV.str (o.data ++ entsS o.entries ++ (if o.kind = 3 then comS o else []) ++ [oneB o.of] ++ o.target.bytes ++ textS o.name)) = some (.str (bodyS o))
    simp [bodyS, g', tagS]
  · have g' : ¬ o.kind = 4 := by have h : (o.kind == 4) = false := g; simpa using h
    show some (IV.str (o.data ++ entsS o.entries ++ (if o.kind = 3 then comS o else []))) = some (.str (bodyS o))
    simp [bodyS, g']
def encS (o : Obj) : List UInt8 := [oneB o.kind] ++ textS (bodyS o)
def encodeR (o : Obj) : Option (List UInt8) := if mayB o = false then none else if 4096 < (encS o).length then none else some (encS o)
def encV : Option (List UInt8) → IV
  | some s => .tup [.str s, .bool true]
  | none => .tup [.str [], .bool false]
theorem bodyS_len {o : Obj} (hs : Small o) : (bodyS o).length ≤ 1010000000 := by
  have hel := entsS_len o.entries hs.n
  have hel' : (entsS o.entries).length ≤ 1000 * 1000100 := Nat.le_trans hel (Nat.mul_le_mul_right _ (by have := hs.e; omega))
  have hd := hs.d
  have hp := hs.p
  have htx := textS_len hs.t
  have htm := textS_len hs.m
  have ht := hs.t
  have hn := hs.m
  have hi := hs.i
  have hpl := idsS_len o.parents
  have hput1 := putS_len (n := o.parents.length) (by omega)
  have hput2 := putS_len (n := o.time) (by omega)
  have h1 : (if o.kind = 3 then comS o else []).length ≤ 1100000 := by
    split
    · have := o.tree.len
      simp only [comS, List.length_append]; omega
    · simp
  have h2 : (if o.kind = 4 then tagS o else []).length ≤ 1100000 := by
    split
    · have := o.target.len
      simp only [tagS, List.length_append, List.length_singleton]; omega
    · simp
  simp only [bodyS, List.length_append]
  omega
set_option maxRecDepth 100000 in
theorem ref04_Encode_ok (o : Obj) (hs : Small o) : PureC Pg G Fn.ref04_Encode [encObj o] (encV (encodeR o)) := by
  have hbl := bodyS_len hs
  have htl : (textS (bodyS o)).length ≤ 1010000010 := by
    have := putS_len (n := (bodyS o).length) (by omega)
    simp [textS]; omega
  refine pureC_of T_ok Fd.ref04_Encode rfl (by kernel_rfl) ?_
  refine ⟨_, _, _, pureCall (ref04_May_ok o (by have := hs.e; omega) hs.m hs.n) rfl, ?_⟩
  cases hm : mayB o with
  | false =>
    show some (IV.tup [.str [], .bool false]) = some (encV (encodeR o))
    simp [encodeR, hm, encV]
  | true =>
    refine drawW T_ok (by decide +kernel) ?_
    refine ⟨_, _, ⟨rfl, ref04_one_ok o.kind⟩, ?_⟩
    refine ⟨_, _, ⟨rfl, ref04_body_ok o hs⟩, ?_⟩
    refine ⟨_, _, ⟨rfl, ref01_Text_ok (bodyS o) (by omega)⟩, ?_⟩
    refine ⟨by simp only [List.length_singleton]; omega, ?_⟩
    refine ⟨by kernel_rfl, ?_⟩
    have he : (encS o).length = (textS (bodyS o)).length + 1 := by simp [encS]
    refine condP.split (fun g => ?_) (fun g => ?_)
    · have h : (((encS o).length : Nat) : Int) > 4096 := of_decide_eq_true g
      show some (IV.tup [.str [], .bool false]) = some (encV (encodeR o))
      have h' : 4096 < (encS o).length := by omega
      simp [encodeR, hm, h', encV]
    · have h : ¬ (((encS o).length : Nat) : Int) > 4096 := of_decide_eq_false g
      show some (IV.tup [.str (encS o), .bool true]) = some (encV (encodeR o))
      have h' : ¬ 4096 < (encS o).length := by omega
      simp [encodeR, hm, h', encV]
theorem u8c_len' (n : Nat) (f : Nat → UInt8) : (u8c n f).length = n := by simp [u8c]
theorem u8c_store' (f : Nat → UInt8) {n i k : Nat} {x : IV} {v : UInt8} {g : Nat → UInt8} (hk : k = i) (hx : x = .int .u8 (v.toNat : Int)) (h : i < n) (hg : ∀ j, j < n → g j = if j = i then v else f j) :
    some (MO.var (((u8c n f).map .i).take k ++ [PV.i x] ++ ((u8c n f).map .i).drop (k + 1))) = some (.var ((u8c n g).map .i)) := by
  subst hk; subst hx
  have hset : ∀ (l : List PV) (y : PV), k < l.length → l.take k ++ [y] ++ l.drop (k + 1) = l.set k y := fun l y h => by
    rw [List.set_eq_take_append_cons_drop, if_pos h]; simp
  rw [hset _ _ (by simp [u8c]; exact h)]
  congr 2
  apply List.ext_getElem?
  intro j
  rw [List.getElem?_set]
  by_cases hj : k = j
  · subst hj
    rw [if_pos rfl, if_pos (by simp [u8c]; exact h), u8c_get g h, hg k h, if_pos rfl]
  · rw [if_neg hj]
    by_cases hjn : j < n
    · rw [u8c_get f hjn, u8c_get g hjn, hg j hjn, if_neg (Ne.symm hj)]
    · rw [List.getElem?_eq_none (by simp [u8c]; omega), List.getElem?_eq_none (by simp [u8c]; omega)]
theorem ref04_id_ok (s : List UInt8) (hs : s.length < 4000000000) : PureC Pg G Fn.ref04_id [.str s] (encId (idOf s)) := by
  let iB : Nat → Nat → UInt8 := fun i j => if j < i then (idOf s).b j else 0
  have hget : ∀ i, i < 32 → i < s.length → (idOf s).b i = s.getD i 0 := fun i h1 h2 => by
    simp only [idOf, Id.b, List.getD_eq_getElem?_getD, List.getElem?_take, if_pos h1, List.getElem?_append_left h2]
  have hzero : ∀ i, i < 32 → s.length ≤ i → (idOf s).b i = 0 := fun i h1 h2 => by
    simp only [idOf, Id.b, List.getD_eq_getElem?_getD, List.getElem?_take, if_pos h1, List.getElem?_append_right h2]
    rw [List.getElem?_replicate, if_pos (by omega)]; rfl
  refine pureC_of T_ok Fd.ref04_id rfl (by kernel_rfl) ?_
  refine loopX T_ok 0 (S := Nat) (S' := Unit) (fun i => [(0, .i (.str s)), (2, .ptr 2 0), (3, .ptr 3 0), (4, .i (.int .i64 (i : Int)))]) (fun i => [(2, .var ((u8c 32 fun _ => 0).map .i)), (3, .var ((u8c 32 (iB i)).map .i))]) (fun i => 32 - i) (fun i => i ≤ 32)
    (fun _ => [(2, .ptr 2 0), (3, .ptr 3 0)]) (fun _ => [(2, .var ((u8c 32 fun _ => 0).map .i)), (3, .var ((idC (idOf s)).map .i))]) (fun _ => True) 0 ⟨rfl, rfl, rfl, rfl, trivial⟩ ⟨rfl, rfl, trivial⟩ (by omega) ?_ ?_
  · intro i hi
    refine condP.split (fun g => ?_) (fun g => ?_)
    · have g' : i < 32 := by have : (i : Int) < 32 := of_decide_eq_true g; omega
      refine condP.split (fun g2 => ?_) (fun g2 => ?_)
      · have g2' : i < s.length := by have : (i : Int) < s.length := of_decide_eq_true g2; omega
        refine ⟨⟨by omega, by omega⟩, ?_⟩
        refine ⟨⟨by omega, by omega⟩, ?_⟩
        refine bifI ?_ ?_
        · show (true && Nat.ble ((i : Int).toNat + 1) ((u8c 32 (iB i)).map PV.i).length) = true
          rw [List.length_map, u8c_len']; simp; omega
        refine ⟨i + 1, ⟨by omega, by omega⟩, ⟨rfl, rfl, rfl, congrArg (fun n => some (PV.i (IV.int .i64 n))) (int_succ (by omega)), trivial⟩, ⟨rfl, ?_, trivial⟩⟩
        refine u8c_store' (iB i) (i := i) (v := s.getD i 0) rfl rfl (by omega) ?_
        intro j _
        simp only [iB]
        by_cases hj : j = i
        · subst hj; simp [hget j g' g2']
        · rw [if_neg hj]
          by_cases h1 : j < i
          · rw [if_pos h1, if_pos (by omega)]
          · rw [if_neg h1, if_neg (by omega)]
      · have g2' : s.length ≤ i := by have : ¬ (i : Int) < s.length := of_decide_eq_false g2; omega
        refine ⟨(), trivial, ⟨rfl, rfl, trivial⟩, ⟨rfl, ?_, trivial⟩⟩
        show some (MO.var ((u8c 32 (iB i)).map .i)) = some (.var ((u8c 32 (idOf s).b).map .i))
        congr 2
        refine congrArg (List.map PV.i) (List.map_congr_left ?_)
        intro j hj
        have hj : j < 32 := by simpa using hj
        simp only [iB]
        by_cases h1 : j < i
        · rw [if_pos h1]
        · rw [if_neg h1, hzero j hj (by omega)]
    · have g' : i = 32 := by have : ¬ (i : Int) < 32 := of_decide_eq_false g; omega
      subst g'
      refine ⟨(), trivial, ⟨rfl, rfl, trivial⟩, ⟨rfl, ?_, trivial⟩⟩
      show some (MO.var ((u8c 32 (iB 32)).map .i)) = some (.var ((u8c 32 (idOf s).b).map .i))
      congr 2
  · intro _ _
    show some _ = some (encId (idOf s))
    generalize idOf s = x
    rfl
end Go.Kn
set_option maxRecDepth 100000
namespace Go.Kn
open Go Go.Proofs
variable {G : Gl}
def gEnts : Nat → List UInt8 → List Entry
  | 0, _ => []
  | m + 1, t => if t = [] then [] else
    ⟨(takeR (t.drop 1)).1, ((t.getD 0 0).toNat : Int), idOf (t.drop (1 + (takeR (t.drop 1)).2))⟩ :: gEnts m ((t.drop (1 + (takeR (t.drop 1)).2)).drop 32)
def gIds : Nat → List UInt8 → List Id × List UInt8
  | 0, t => ([], t)
  | m + 1, t => (idOf t :: (gIds m (t.drop 32)).1, (gIds m (t.drop 32)).2)
def gCom (t : List UInt8) : Obj :=
  let g := getR (t.drop 32)
  let q := gIds (min g.1 9) ((t.drop 32).drop g.2)
  let h := getR q.2
  { Obj.ofKind 3 with tree := idOf t, parents := q.1, time := h.1 % 4294967296, text := (takeR (q.2.drop h.2)).1 }
def gTag (t : List UInt8) : Obj :=
  { Obj.ofKind 4 with of := ((t.getD 0 0).toNat : Int), target := idOf (t.drop 1), name := (takeR ((t.drop 1).drop 32)).1 }
def guessB (k : Int) (t : List UInt8) : Obj :=
  if k = 1 then { Obj.ofKind k with data := t } else if k = 2 then { Obj.ofKind k with entries := gEnts 65 t } else if k = 3 then gCom t else if k = 4 then gTag t else Obj.ofKind k
def guessR (s : List UInt8) : Obj := if (takeR (s.drop 1)).2 = 0 then Obj.ofKind 0 else guessB ((s.getD 0 0).toNat : Int) (takeR (s.drop 1)).1
theorem takeR_len (s : List UInt8) : (takeR s).1.length ≤ s.length ∧ (takeR s).2 ≤ s.length := by
  have := getR_le s
  unfold takeR
  split
  · simp
  · rename_i h
    simp; omega
def gM (k : Int) (es : List Entry) : Mem := [(2, .var (objCells (Obj.ofKind 0) (.full []) (.full []))), (3, .var (objCells (Obj.ofKind k) (.tok 64 34 (es.map encEntry)) (.full []))), (64, .tip)]
theorem guess_loop1 {t0 : List UInt8} {k : Int} (hl : t0.length < 1000000) {env : Env} {m : Mem} {Q : EQ}
    (hE : LkE env [(2, .ptr 2 0), (3, .ptr 3 0), (4, .i (.str t0)), (6, .i (.int .i64 0))]) (hM : LkM m (gM k []))
    (hQ : Q (.exit 1) [(2, .ptr 2 0), (3, .ptr 3 0)] (gM k (gEnts 65 t0))) :
    LoopW Pg G Fb.ref04_guess.ntmps (nthLoop Fb.ref04_guess 0) env m Q := by
  refine loopX T_ok 1 (S := Nat × List UInt8 × List Entry) (S' := Unit) (fun s => [(2, .ptr 2 0), (3, .ptr 3 0), (4, .i (.str s.2.1)), (6, .i (.int .i64 (s.1 : Int)))]) (fun s => gM k s.2.2) (fun s => 65 - s.1)
    (fun s => s.1 ≤ 65 ∧ s.2.1.length < 1000000 ∧ s.2.2.length ≤ s.1 ∧ s.2.2 ++ gEnts (65 - s.1) s.2.1 = gEnts 65 t0)
    (fun _ => [(2, .ptr 2 0), (3, .ptr 3 0)]) (fun _ => gM k (gEnts 65 t0)) (fun _ => True) (0, t0, []) hE hM ⟨by simp, by simpa using hl, by simp, by simp⟩ ?_ (fun _ _ => hQ)
  rintro ⟨i, t, es⟩ ⟨h1, h2, h3, h4⟩
  simp only at h1 h2 h3 h4
  have stop : (i = 65 ∨ t = []) → es = gEnts 65 t0 := fun h => by
    rw [← h4]
    rcases h with h | h
    · subst h; simp [gEnts]
    · cases h5 : 65 - i with
      | zero => simp [gEnts]
      | succ n => simp [gEnts, h]
  refine condP.split (fun g => ?_) (fun g => ?_)
  · have g' : i < 65 := by have : (i : Int) < 65 := of_decide_eq_true g; omega
    refine condP.split (fun g2 => ?_) (fun g2 => ?_)
    · have g2' : t ≠ [] := by simpa using g2
      have hpos : 0 < t.length := List.length_pos_iff.2 g2'
      have hdr : (t.take (t.length : Int).toNat).drop (1 : Int).toNat = t.drop 1 := by simp
      have ht := ref01_Take_ok (G := G) (t.drop 1) (by simp; omega)
      rw [← hdr] at ht
      have hk2 := (takeR_len (t.drop 1)).2
      have hlt := (t.getD 0 0).toNat_lt
      refine ⟨⟨by decide, by show (1 : Int) ≤ t.length; omega, by simp⟩, ?_⟩
      refine ⟨_, _, _, pureCall ht rfl, ?_⟩
      rw [hdr]
      have hw : IntKind.i64.wrap (1 + ((takeR (t.drop 1)).2 : Int)) = ((1 + (takeR (t.drop 1)).2 : Nat) : Int) := by
        rw [List.length_drop] at hk2
        rw [wrap_i64 (by omega) (by omega)]; omega
      refine ⟨_, _, _, pureCall (ref04_behind_ok t (1 + (takeR (t.drop 1)).2)) ?_, ?_⟩
      · exact congrArg (fun n => some [IV.str t, IV.int .i64 n]) hw
      have hkw : IntKind.i64.wrap ((t.getD 0 0).toNat : Int) = ((t.getD 0 0).toNat : Int) := wrap_i64 (by omega) (by omega)
      refine drawW T_ok (by decide +kernel) ?_
      refine ⟨⟨by decide, by show (0 : Int) < t.length; omega⟩, ?_⟩
      refine ⟨_, _, ⟨rfl, ref04_id_ok (t.drop (1 + (takeR (t.drop 1)).2)) (by simp; omega)⟩, ?_⟩
      refine ⟨⟨⟨hasSize_ent _, fun x hx => by have := List.mem_singleton.1 hx; subst this; rfl⟩, szOK (by simp; omega) (by kernel_rfl)⟩, ?_⟩
      refine ⟨by kernel_rfl, ?_⟩
      refine ⟨_, _, _, pureCall (ref04_behind_ok (t.drop (1 + (takeR (t.drop 1)).2)) 32) rfl, ?_⟩
      have hge : gEnts (65 - i) t = ⟨(takeR (t.drop 1)).1, ((t.getD 0 0).toNat : Int), idOf (t.drop (1 + (takeR (t.drop 1)).2))⟩ :: gEnts (65 - (i + 1)) ((t.drop (1 + (takeR (t.drop 1)).2)).drop 32) := by
        rw [show 65 - i = 65 - (i + 1) + 1 by omega, gEnts, if_neg g2']
      refine ⟨(i + 1, (t.drop (1 + (takeR (t.drop 1)).2)).drop 32, es ++ [⟨(takeR (t.drop 1)).1, ((t.getD 0 0).toNat : Int), idOf (t.drop (1 + (takeR (t.drop 1)).2))⟩]), ⟨by simp only; omega, by simp only; omega, by simp; omega, by simp; omega, ?_⟩, ⟨rfl, rfl, rfl, congrArg (fun n => some (PV.i (IV.int .i64 n))) (int_succ (by omega)), trivial⟩, ⟨rfl, ?_, rfl, trivial⟩⟩
      · rw [← h4, hge]; simp
      · rw [List.map_append]
        show some (MO.var (objCells (Obj.ofKind k) (.tok 64 34 (es.map encEntry ++ [.agg (.str (takeR (t.drop 1)).1 :: .int .i64 (IntKind.i64.wrap ((t.getD 0 0).toNat : Int)) :: idC (idOf (t.drop (1 + (takeR (t.drop 1)).2))))])) (.full []))) = _
        rw [hkw]; rfl
    · have g2' : t = [] := by simpa using g2
      rw [← stop (.inr g2')]
      exact ⟨(), trivial, ⟨rfl, rfl, trivial⟩, ⟨rfl, rfl, rfl, trivial⟩⟩
  · have g' : i = 65 := by have : ¬ (i : Int) < 65 := of_decide_eq_false g; omega
    rw [← stop (.inl g')]
    exact ⟨(), trivial, ⟨rfl, rfl, trivial⟩, ⟨rfl, rfl, rfl, trivial⟩⟩
def gM3 (x : Id) (k : Int) (ps : List Id) : Mem := [(2, .var (objCells (Obj.ofKind 0) (.full []) (.full []))), (3, .var (objCells { Obj.ofKind k with tree := x } (.full []) (.tok 97 32 (ps.map encId)))), (97, .tip)]
theorem gIds_len : ∀ (m : Nat) (t : List UInt8), (gIds m t).2.length ≤ t.length ∧ (gIds m t).1.length = m
  | 0, t => by simp [gIds]
  | m + 1, t => by
    have := gIds_len m (t.drop 32)
    simp [gIds] at this ⊢; omega
theorem guess_loop2 {t0 : List UInt8} {k : Int} {x : Id} {n : Nat} (hn : n < 18446744073709551616) (hl : t0.length < 1000000) {env : Env} {m : Mem} {Q : EQ}
    (hE : LkE env [(2, .ptr 2 0), (3, .ptr 3 0), (4, .i (.str t0)), (10, .i (.int .u64 (n : Int))), (12, .i (.int .u64 0))]) (hM : LkM m (gM3 x k []))
    (hQ : Q (.exit 3) [(2, .ptr 2 0), (3, .ptr 3 0), (4, .i (.str (gIds (min n 9) t0).2))] (gM3 x k (gIds (min n 9) t0).1)) :
    LoopW Pg G Fb.ref04_guess.ntmps (nthLoop Fb.ref04_guess 1) env m Q := by
  refine loopX T_ok 3 (S := Nat × List UInt8 × List Id) (S' := Unit) (fun s => [(2, .ptr 2 0), (3, .ptr 3 0), (4, .i (.str s.2.1)), (10, .i (.int .u64 (n : Int))), (12, .i (.int .u64 (s.1 : Int)))]) (fun s => gM3 x k s.2.2) (fun s => min n 9 - s.1)
    (fun s => s.1 ≤ min n 9 ∧ s.2.1.length < 1000000 ∧ s.2.2.length ≤ s.1 ∧ s.2.2 ++ (gIds (min n 9 - s.1) s.2.1).1 = (gIds (min n 9) t0).1 ∧ (gIds (min n 9 - s.1) s.2.1).2 = (gIds (min n 9) t0).2)
    (fun _ => [(2, .ptr 2 0), (3, .ptr 3 0), (4, .i (.str (gIds (min n 9) t0).2))]) (fun _ => gM3 x k (gIds (min n 9) t0).1) (fun _ => True) (0, t0, []) hE hM ⟨by simp, by simpa using hl, by simp, by simp, by simp⟩ ?_ (fun _ _ => hQ)
  rintro ⟨i, t, es⟩ ⟨h1, h2, h3, h4, h5⟩
  simp only at h1 h2 h3 h4 h5
  have stop : i = min n 9 → es = (gIds (min n 9) t0).1 ∧ t = (gIds (min n 9) t0).2 := fun h => by
    rw [← h4, ← h5, ← h]; simp [gIds]
  refine condP.split (fun g => ?_) (fun g => ?_)
  · have g' : i < n := by have : (i : Int) < n := of_decide_eq_true g; omega
    refine condP.split (fun g2 => ?_) (fun g2 => ?_)
    · have g2' : i < 9 := by have : (i : Int) < 9 := of_decide_eq_true g2; omega
      have hg : gIds (min n 9 - i) t = (idOf t :: (gIds (min n 9 - (i + 1)) (t.drop 32)).1, (gIds (min n 9 - (i + 1)) (t.drop 32)).2) := by
        rw [show min n 9 - i = min n 9 - (i + 1) + 1 by omega, gIds]
      rw [hg] at h4 h5
      refine drawW T_ok (by decide +kernel) ?_
      refine ⟨_, _, ⟨rfl, ref04_id_ok t (by omega)⟩, ?_⟩
      refine ⟨⟨⟨hasSize_id _, fun x hx => by have := List.mem_singleton.1 hx; subst this; rfl⟩, szOK (by simp; omega) (by kernel_rfl)⟩, ?_⟩
      refine ⟨by kernel_rfl, ?_⟩
      refine ⟨_, _, _, pureCall (ref04_behind_ok t 32) rfl, ?_⟩
      refine ⟨(i + 1, t.drop 32, es ++ [idOf t]), ⟨by simp only; omega, by simp only; omega, by simp; omega, by simp; omega, ?_, h5⟩, ⟨rfl, rfl, rfl, rfl, ?_, trivial⟩, ⟨rfl, ?_, rfl, trivial⟩⟩
      · rw [← h4]; simp
      · show some (PV.i (IV.int .u64 (IntKind.u64.wrap ((i : Int) + 1)))) = _
        rw [wrap_u64 (by omega) (by omega)]; rfl
      · rw [List.map_append]; rfl
    · have g2' : ¬ i < 9 := by have : ¬ (i : Int) < 9 := of_decide_eq_false g2; omega
      obtain ⟨q1, q2⟩ := stop (by omega)
      rw [← q1, ← q2]
      exact ⟨(), trivial, ⟨rfl, rfl, rfl, trivial⟩, ⟨rfl, rfl, rfl, trivial⟩⟩
  · have g' : ¬ i < n := by have : ¬ (i : Int) < n := of_decide_eq_false g; omega
    obtain ⟨q1, q2⟩ := stop (by omega)
    rw [← q1, ← q2]
    exact ⟨(), trivial, ⟨rfl, rfl, rfl, trivial⟩, ⟨rfl, rfl, rfl, trivial⟩⟩
def g0M (k : Int) : Mem := [(2, .var (objCells (Obj.ofKind 0) (.full []) (.full []))), (3, .var (objCells (Obj.ofKind k) (.full []) (.full [])))]
theorem gE_tok {k : Int} : TLes 64 (objCells (Obj.ofKind k) (.full []) (.full [])) (objCells (Obj.ofKind k) (.tok 64 34 []) (.full [])) :=
  ⟨.refl _, .refl _, .tok 34, TLes.refl _⟩
theorem g3_tok {k : Int} {x : Id} : TLes 97 (objCells { Obj.ofKind k with tree := x } (.full []) (.full [])) (objCells { Obj.ofKind k with tree := x } (.full []) (.tok 97 32 [])) :=
  ⟨.refl _, .refl _, .refl _, (TLes.refl _).append ⟨.tok 32, TLes.refl _⟩⟩
set_option maxHeartbeats 4000000 in
set_option maxRecDepth 100000 in
theorem ref04_guess_ok (s : List UInt8) (h0 : s ≠ []) (hs : s.length < 1000000) : PureC Pg G Fn.ref04_guess [.str s] (encObj (guessR s)) := by
  have hpos : 0 < s.length := List.length_pos_iff.2 h0
  have hlt := (s.getD 0 0).toNat_lt
  have hk : IntKind.i64.wrap (((s.getD (0 : Int).toNat 0).toNat : Nat) : Int) = ((s.getD 0 0).toNat : Int) := wrap_i64 (by omega) (by show ((s.getD 0 0).toNat : Int) < _; omega)
  have fin : ∀ o, o = guessR s → some (encObj o) = some (encObj (guessR s)) := fun o h => by rw [h]
  refine pureW_of T_ok Fd.ref04_guess rfl (by kernel_rfl) ?_
  refine CW.next T_ok ?_
  refine CW.cut T_ok (S := Unit) (fun _ => [(0, .i (.str s)), (2, .ptr 2 0), (3, .ptr 3 0)]) (fun _ => g0M ((s.getD 0 0).toNat : Int)) (fun _ => True) ?_ ?_
  · refine ⟨⟨by decide, by show (0 : Int) < s.length; omega⟩, ?_⟩
    refine ⟨(), trivial, ⟨rfl, rfl, rfl, trivial⟩, ⟨rfl, ?_, trivial⟩⟩
    rw [← hk]; rfl
  intro _ _
  have hdr : (s.take (s.length : Int).toNat).drop (1 : Int).toNat = s.drop 1 := by simp
  have ht := ref01_Take_ok (G := G) (s.drop 1) (by simp; omega)
  rw [← hdr] at ht
  refine CW.next T_ok ?_
  refine ⟨⟨by decide, by show (1 : Int) ≤ s.length; omega, by simp⟩, ?_⟩
  refine ⟨_, _, _, pureCall ht rfl, ?_⟩
  rw [hdr]
  have htl := (takeR_len (s.drop 1)).1
  have hgd : guessR s = if (takeR (s.drop 1)).2 = 0 then Obj.ofKind 0 else guessB ((s.getD 0 0).toNat : Int) (takeR (s.drop 1)).1 := rfl
  generalize takeR (s.drop 1) = p at *
  generalize ((s.getD 0 0).toNat : Int) = k at *
  obtain ⟨t, c⟩ := p
  simp only at htl hgd
  have htl' : t.length < 1000000 := by rw [List.length_drop] at htl; omega
  refine CW.cut T_ok (S := Unit) (fun _ => [(2, .ptr 2 0), (3, .ptr 3 0), (4, .i (.str t))]) (fun _ => g0M k) (fun _ => c ≠ 0) ?_ ?_
  · refine condP.split (fun g => ?_) (fun g => ?_)
    · have g' : c = 0 := by have h : ((c : Int) == 0) = true := g; have := eq_of_beq h; omega
      exact fin _ (by rw [hgd, if_pos g'])
    · have g' : c ≠ 0 := by intro e; subst e; have h : (((0 : Nat) : Int) == 0) = false := g; simp at h
      exact ⟨(), g', ⟨rfl, rfl, rfl, trivial⟩, ⟨rfl, rfl, trivial⟩⟩
  intro _ hc
  rw [if_neg hc] at hgd
  refine CW.go T_ok ?_
  refine condP.split (fun k1 => ?_) (fun k1 => ?_)
  · have k1' : k = 1 := eq_of_beq k1
    exact fin { Obj.ofKind k with data := t } (by rw [hgd, guessB, if_pos k1'])
  · have k1' : k ≠ 1 := by have h : (k == 1) = false := k1; simpa using h
    refine condP.split (fun k2 => ?_) (fun k2 => ?_)
    · have k2' : k = 2 := eq_of_beq k2
      refine LoopW.tok0 64 rfl rfl (env' := [(2, .ptr 2 0), (3, .ptr 3 0), (4, .i (.str t)), (6, .i (.int .i64 0))]) (m' := gM k []) ⟨⟨_, rfl, .refl _⟩, ⟨_, rfl, .refl _⟩, ⟨_, rfl, .refl _⟩, ⟨_, rfl, .refl _⟩, trivial⟩
        ⟨.inr ⟨by decide, _, rfl, .refl _⟩, .inr ⟨by decide, _, rfl, .var _ _ (gE_tok (k := k))⟩, .inl ⟨rfl, .tip⟩, trivial⟩ ?_
      refine guess_loop1 (t0 := t) (k := k) htl' ⟨rfl, rfl, rfl, rfl, trivial⟩ ⟨rfl, rfl, rfl, trivial⟩ ?_
      refine fin { Obj.ofKind k with entries := gEnts 65 t } (by rw [hgd, guessB, if_neg k1', if_pos k2'])
    · have k2' : k ≠ 2 := by have h : (k == 2) = false := k2; simpa using h
      refine condP.split (fun k3 => ?_) (fun k3 => ?_)
      · have k3' : k = 3 := eq_of_beq k3
        refine ⟨_, _, _, pureCall (ref04_id_ok t (by omega)) rfl, ?_⟩
        refine ⟨_, _, _, pureCall (ref04_behind_ok t 32) rfl, ?_⟩
        have hl1 : (t.drop 32).length < 1000000 := by simp; omega
        refine ⟨_, _, _, pureCall (ref01_Get_ok (t.drop 32) (by omega)) rfl, ?_⟩
        refine ⟨_, _, _, pureCall (ref04_behind_ok (t.drop 32) (getR (t.drop 32)).2) rfl, ?_⟩
        have hgr := (getR_le (t.drop 32)).2
        have hl2 : ((t.drop 32).drop (getR (t.drop 32)).2).length < 1000000 := by rw [List.length_drop]; omega
        refine LoopW.tok0 97 rfl rfl (env' := [(2, .ptr 2 0), (3, .ptr 3 0), (4, .i (.str ((t.drop 32).drop (getR (t.drop 32)).2))), (10, .i (.int .u64 ((getR (t.drop 32)).1 : Int))), (12, .i (.int .u64 0))]) (m' := gM3 (idOf t) k [])
          ⟨⟨_, rfl, .refl _⟩, ⟨_, rfl, .refl _⟩, ⟨_, rfl, .refl _⟩, ⟨_, rfl, .refl _⟩, ⟨_, rfl, .refl _⟩, trivial⟩
          ⟨.inr ⟨by decide, _, rfl, .refl _⟩, .inr ⟨by decide, _, rfl, .var _ _ (g3_tok (k := k) (x := idOf t))⟩, .inl ⟨rfl, .tip⟩, trivial⟩ ?_
        refine guess_loop2 (t0 := (t.drop 32).drop (getR (t.drop 32)).2) (k := k) (x := idOf t) (n := (getR (t.drop 32)).1) hgr hl2 ⟨rfl, rfl, rfl, rfl, rfl, trivial⟩ ⟨rfl, rfl, rfl, trivial⟩ ?_
        have hl3 := (gIds_len (min (getR (t.drop 32)).1 9) ((t.drop 32).drop (getR (t.drop 32)).2)).1
        have hcom : gCom t = { Obj.ofKind 3 with tree := idOf t, parents := (gIds (min (getR (t.drop 32)).1 9) ((t.drop 32).drop (getR (t.drop 32)).2)).1, time := (getR (gIds (min (getR (t.drop 32)).1 9) ((t.drop 32).drop (getR (t.drop 32)).2)).2).1 % 4294967296, text := (takeR ((gIds (min (getR (t.drop 32)).1 9) ((t.drop 32).drop (getR (t.drop 32)).2)).2.drop (getR (gIds (min (getR (t.drop 32)).1 9) ((t.drop 32).drop (getR (t.drop 32)).2)).2).2)).1 } := rfl
        generalize gIds (min (getR (t.drop 32)).1 9) ((t.drop 32).drop (getR (t.drop 32)).2) = q at *
        obtain ⟨ps, u⟩ := q
        simp only at hl3 hcom
        have hlu : u.length < 1000000 := by omega
        refine ⟨_, _, _, pureCall (ref01_Get_ok u (by omega)) rfl, ?_⟩
        refine ⟨by decide, ?_⟩
        refine ⟨_, _, _, pureCall (ref04_behind_ok u (getR u).2) rfl, ?_⟩
        refine ⟨_, _, _, pureCall (ref01_Take_ok (u.drop (getR u).2) (by rw [List.length_drop]; omega)) rfl, ?_⟩
        have hw : IntKind.u32.wrap (((getR u).1 : Int).tmod 4294967296) = (((getR u).1 % 4294967296 : Nat) : Int) := by
          rw [Int.tmod_eq_emod_of_nonneg (by omega), wrap_u32_mod]; omega
        have he : some (IV.agg (.int .i64 k :: .str [] :: .slice [] :: (idC (idOf t) ++ .slice (ps.map encId) :: .int .u32 (IntKind.u32.wrap (((getR u).1 : Int).tmod 4294967296)) :: .str (takeR (u.drop (getR u).2)).1 :: (idC Id.none ++ [.int .i64 0, .str []])))) = some (encObj (guessR s)) := by
          rw [hw, hgd, guessB, if_neg k1', if_neg k2', if_pos k3', hcom, k3']; rfl
        exact he
      · have k3' : k ≠ 3 := by have h : (k == 3) = false := k3; simpa using h
        refine condP.split (fun k4 => ?_) (fun k4 => ?_)
        · have k4' : k = 4 := eq_of_beq k4
          have hfin : ∀ (b : Int), b = ((t.getD 0 0).toNat : Int) → some (IV.agg (.int .i64 k :: .str [] :: .slice [] :: (idC Id.none ++ .slice [] :: .int .u32 0 :: .str [] :: (idC (idOf (t.drop 1)) ++ [.int .i64 b, .str (takeR ((t.drop 1).drop 32)).1])))) = some (encObj (guessR s)) := fun b hb => by
            rw [hgd, guessB, if_neg k1', if_neg k2', if_neg k3', if_pos k4', gTag, k4', hb]; rfl
          refine condP.split (fun g => ?_) (fun g => ?_)
          · have g' : t ≠ [] := by simpa using g
            have hp : 0 < t.length := List.length_pos_iff.2 g'
            have hlt2 := (t.getD 0 0).toNat_lt
            refine ⟨⟨by decide, by show (0 : Int) < t.length; omega⟩, ?_⟩
            refine ⟨_, _, _, pureCall (ref04_behind_ok t 1) rfl, ?_⟩
            refine ⟨_, _, _, pureCall (ref04_id_ok (t.drop 1) (by rw [List.length_drop]; omega)) rfl, ?_⟩
            refine ⟨_, _, _, pureCall (ref04_behind_ok (t.drop 1) 32) rfl, ?_⟩
            refine ⟨_, _, _, pureCall (ref01_Take_ok ((t.drop 1).drop 32) (by rw [List.length_drop, List.length_drop]; omega)) rfl, ?_⟩
            exact hfin (IntKind.i64.wrap ((t.getD 0 0).toNat : Int)) (wrap_i64 (by omega) (by omega))
          · have g' : t = [] := by simpa using g
            refine ⟨_, _, _, pureCall (ref04_behind_ok t 1) rfl, ?_⟩
            refine ⟨_, _, _, pureCall (ref04_id_ok (t.drop 1) (by rw [List.length_drop]; omega)) rfl, ?_⟩
            refine ⟨_, _, _, pureCall (ref04_behind_ok (t.drop 1) 32) rfl, ?_⟩
            refine ⟨_, _, _, pureCall (ref01_Take_ok ((t.drop 1).drop 32) (by rw [List.length_drop, List.length_drop]; omega)) rfl, ?_⟩
            exact hfin 0 (by rw [g']; rfl)
        · have k4' : k ≠ 4 := by have h : (k == 4) = false := k4; simpa using h
          exact fin (Obj.ofKind k) (by rw [hgd, guessB, if_neg k1', if_neg k2', if_neg k3', if_neg k4'])
end Go.Kn
set_option maxRecDepth 100000
namespace Go.Kn
open Go Go.Proofs
variable {G : Gl}
theorem gEnts_small : ∀ (m : Nat) (t : List UInt8), (gEnts m t).length ≤ m ∧ ∀ e ∈ gEnts m t, e.name.length ≤ t.length
  | 0, t => by simp [gEnts]
  | m + 1, t => by
    simp only [gEnts]
    split
    · simp
    · obtain ⟨h1, h2⟩ := gEnts_small m ((t.drop (1 + (takeR (t.drop 1)).2)).drop 32)
      refine ⟨by rw [List.length_cons]; omega, fun e he => ?_⟩
      rcases List.mem_cons.1 he with rfl | he
      · have := (takeR_len (t.drop 1)).1
        simp only [List.length_drop] at this
        show (takeR (t.drop 1)).1.length ≤ _
        omega
      · have := h2 e he
        simp only [List.length_drop] at this
        omega
theorem guessR_small {s : List UInt8} (hs : s.length < 1000000) : Small (guessR s) := by
  have htl := (takeR_len (s.drop 1)).1
  rw [List.length_drop] at htl
  unfold guessR
  split
  · constructor <;> simp [Obj.ofKind]
  · generalize (takeR (s.drop 1)).1 = t at *
    have ht : t.length < 1000000 := by omega
    unfold guessB
    split
    · constructor <;> simp [Obj.ofKind]; omega
    · split
      · obtain ⟨h1, h2⟩ := gEnts_small 65 t
        constructor <;> simp [Obj.ofKind]
        · omega
        · intro e he; have := h2 e he; omega
      · split
        · have h3 := (gIds_len (min (getR (t.drop 32)).1 9) ((t.drop 32).drop (getR (t.drop 32)).2))
          have h4 := (takeR_len ((gIds (min (getR (t.drop 32)).1 9) ((t.drop 32).drop (getR (t.drop 32)).2)).2.drop (getR (gIds (min (getR (t.drop 32)).1 9) ((t.drop 32).drop (getR (t.drop 32)).2)).2).2)).1
          simp only [List.length_drop] at h3 h4
          constructor
          · simp [gCom, Obj.ofKind]
          · simp [gCom, Obj.ofKind]
          · show (gIds _ _).1.length < 1000
            rw [h3.2]; omega
          · simp [gCom, Obj.ofKind]
          · show (takeR _).1.length < _
            omega
          · simp [gCom, Obj.ofKind]
          · show _ % 4294967296 < _
            exact Nat.mod_lt _ (by decide)
        · split
          · have h4 := (takeR_len ((t.drop 1).drop 32)).1
            simp only [List.length_drop] at h4
            constructor
            · simp [gTag, Obj.ofKind]
            · simp [gTag, Obj.ofKind]
            · simp [gTag, Obj.ofKind]
            · simp [gTag, Obj.ofKind]
            · simp [gTag, Obj.ofKind]
            · show (takeR _).1.length < _
              omega
            · simp [gTag, Obj.ofKind]
          · constructor <;> simp [Obj.ofKind]
def decodeR (s : List UInt8) : Option Obj := if s = [] then none else if encodeR (guessR s) = some s then some (guessR s) else none
def decVR : Option Obj → IV
  | some o => .tup [encObj o, .bool true]
  | none => .tup [encObj (Obj.ofKind 0), .bool false]
set_option maxRecDepth 100000 in
theorem ref04_Decode_ok (s : List UInt8) (hs : s.length < 1000000) : PureC Pg G Fn.ref04_Decode [.str s] (decVR (decodeR s)) := by
  have fin : ∀ o, o = decodeR s → some (decVR o) = some (decVR (decodeR s)) := fun o h => by rw [h]
  refine pureC_of T_ok Fd.ref04_Decode rfl (by kernel_rfl) ?_
  refine condP.split (fun g => ?_) (fun g => ?_)
  · have g' : s = [] := by simpa using g
    exact fin none (by simp [decodeR, g'])
  · have g' : s ≠ [] := by simpa using g
    refine ⟨_, _, _, pureCall (ref04_guess_ok s g' hs) rfl, ?_⟩
    have hsm := guessR_small hs
    have hd : decodeR s = if encodeR (guessR s) = some s then some (guessR s) else none := by simp [decodeR, g']
    generalize guessR s = o at *
    refine ⟨_, _, _, pureCall (ref04_Encode_ok o hsm) rfl, ?_⟩
    cases he : encodeR o with
    | none => exact fin none (by rw [hd, he]; simp)
    | some u =>
      refine condP.split (fun g2 => ?_) (fun g2 => ?_)
      · have g2' : u ≠ s := by simpa using g2
        exact fin none (by rw [hd, he]; simp [g2'])
      · have g2' : u = s := by simpa using g2
        exact fin (some o) (by rw [hd, he]; simp [g2'])
theorem cellsEq_entry (a b : Entry) : cellsEq (.str a.name :: .int .i64 a.kind :: idC a.id) (.str b.name :: .int .i64 b.kind :: idC b.id) = decide (a = b) := by
  simp only [cellsEq, scEq, cellsEq_id]
  rw [Bool.eq_iff_iff]
  simp only [Bool.and_eq_true, beq_iff_eq, decide_eq_true_eq]
  constructor
  · rintro ⟨h1, h2, h3⟩
    cases a; cases b; simp at h1 h2 h3; simp [h1, h2, h3]
  · rintro rfl; exact ⟨rfl, rfl, rfl⟩
theorem eqEntry (a b : Entry) : EqOK Pg Tn.api_Entry (.i (encEntry a)) (.i (encEntry b)) (decide (a = b)) :=
  eqAgg T_ok (d := 4) rfl rfl (by decide) (by kernel_rfl) (by kernel_rfl) (by kernel_rfl) (by kernel_rfl) (by kernel_rfl) (by kernel_rfl) (cellsEq_entry a b)
def hdEq (a b : Obj) : Prop := a.kind = b.kind ∧ a.data = b.data ∧ a.tree = b.tree ∧ (a.time : Int) = b.time ∧ a.text = b.text ∧ a.target = b.target ∧ a.of = b.of ∧ a.name = b.name
theorem objEq_iff (a b : Obj) : a = b ↔ hdEq a b ∧ a.entries = b.entries ∧ a.parents = b.parents := by
  constructor
  · rintro rfl; exact ⟨⟨rfl, rfl, rfl, rfl, rfl, rfl, rfl, rfl⟩, rfl, rfl⟩
  · rintro ⟨⟨h1, h2, h3, h4, h5, h6, h7, h8⟩, h9, h10⟩
    cases a; cases b
    simp only at h1 h2 h3 h4 h5 h6 h7 h8 h9 h10
    have h4 : _ = _ := Int.ofNat_inj.1 h4
    subst h1; subst h2; subst h3; subst h4; subst h5; subst h6; subst h7; subst h8; subst h9; subst h10; rfl
end Go.Kn
set_option maxRecDepth 100000
namespace Go.Kn
open Go Go.Proofs
variable {G : Gl}
structure RItem where
  id : Id
  text : List UInt8
  o : Obj
def encRItem (x : RItem) : IV := .agg (idC x.id ++ .str x.text :: (encObj x.o).cells)
def encSt (l : List RItem) : IV := .agg [.slice (l.map encRItem)]
theorem encRItem_len (x : RItem) : (encRItem x).cells.length = 105 := by simp [encRItem, encObj, IV.cells, idC, u8c]
theorem hasSize_rit (l : List RItem) : hasSize 105 (l.map encRItem) := by
  intro x hx
  obtain ⟨e, _, rfl⟩ := List.mem_map.1 hx
  exact encRItem_len e
def atR (l : List RItem) (y : Id) : Option Nat := l.findIdx? fun a => decide (a.id = y)
def atV : Option Nat → Int
  | some i => (i : Int)
  | none => -1
theorem lenR (l : List RItem) : ((l.map encRItem).length : Int) = (l.length : Int) := by simp
def atM (l : List RItem) (y : Id) : Mem := [(2, .var [.i (.slice (l.map encRItem))]), (3, .var ((idC y).map .i))]
theorem ref11_At_ok (l : List RItem) (y : Id) (hl : l.length < 1000000) : PureC Pg G Fn.ref11_Store_At [encSt l, encId y] (.int .i64 (atV (atR l y))) := by
  refine pureC_of T_ok Fd.ref11_Store_At rfl (by kernel_rfl) ?_
  refine loopX T_ok 0 (S := Nat) (S' := Unit) (fun i => [(2, .ptr 2 0), (3, .ptr 3 0), (5, .i (.int .i64 (i : Int)))]) (fun _ => atM l y) (fun i => l.length - i)
    (fun i => i ≤ l.length ∧ ∀ j (h : j < l.length), j < i → l[j].id ≠ y) (fun _ => []) (fun _ => []) (fun _ => atR l y = none) 0 ⟨rfl, rfl, rfl, trivial⟩ ⟨rfl, rfl, trivial⟩ ⟨by omega, by intro j _ h; omega⟩ ?_ ?_
  · rintro i ⟨h1, h2⟩
    refine condP.split (fun g => ?_) (fun g => ?_)
    · have g' : i < l.length := by have h : (i : Int) < ((l.map encRItem).length : Int) := of_decide_eq_true g; rw [lenR] at h; omega
      refine drawW T_ok (by decide +kernel) ?_
      refine ⟨encRItem l[i], ⟨by omega, by simp [g']⟩, ?_⟩
      refine ⟨_, eqId l[i].id y, ?_⟩
      refine ⟨by kernel_rfl, ?_⟩
      refine condP.split (fun g2 => ?_) (fun g2 => ?_)
      · have g2' : l[i].id = y := of_decide_eq_true g2
        have : atR l y = some i := by
          rw [atR, List.findIdx?_eq_some_iff_getElem]
          exact ⟨g', decide_eq_true g2', fun j hj => by simpa using h2 j (by omega) hj⟩
        rw [this]; rfl
      · have g2' : l[i].id ≠ y := of_decide_eq_false g2
        refine ⟨i + 1, ⟨by omega, by omega, fun j q hj => ?_⟩, ⟨rfl, rfl, congrArg (fun n => some (PV.i (IV.int .i64 n))) (int_succ (by omega)), trivial⟩, ⟨rfl, rfl, trivial⟩⟩
        by_cases hji : j = i
        · subst hji; exact g2'
        · exact h2 j q (by omega)
    · have g' : i = l.length := by have h : ¬ (i : Int) < ((l.map encRItem).length : Int) := of_decide_eq_false g; rw [lenR] at h; omega
      subst g'
      refine ⟨(), ?_, trivial, trivial⟩
      rw [atR, List.findIdx?_eq_none_iff]
      intro x hx
      obtain ⟨j, hj, rfl⟩ := List.getElem_of_mem hx
      simpa using h2 j hj hj
  · intro _ h
    rw [h]; rfl
theorem ref11_Has_ok (l : List RItem) (y : Id) (hl : l.length < 1000000) : PureC Pg G Fn.ref11_Store_Has [encSt l, encId y] (.bool (atR l y).isSome) := by
  refine pureC_of T_ok Fd.ref11_Store_Has rfl (by kernel_rfl) ?_
  refine ⟨_, _, _, pureCall (ref11_At_ok l y hl) rfl, ?_⟩
  show some (IV.bool (decide (atV (atR l y) ≥ 0))) = _
  cases atR l y <;> simp [atV]
def getR11 (l : List RItem) (y : Id) : Option RItem := l.find? fun a => decide (a.id = y)
theorem at_get {l : List RItem} {y : Id} : (atR l y = none ∧ getR11 l y = none) ∨ ∃ i x, atR l y = some i ∧ l[i]? = some x ∧ getR11 l y = some x ∧ i < l.length := by
  cases h : atR l y with
  | none =>
    left
    refine ⟨rfl, ?_⟩
    rw [atR, List.findIdx?_eq_none_iff] at h
    rw [getR11, List.find?_eq_none]
    intro x hx; simpa using h x hx
  | some i =>
    right
    rw [atR, List.findIdx?_eq_some_iff_getElem] at h
    obtain ⟨hi, h1, h2⟩ := h
    refine ⟨i, l[i], rfl, List.getElem?_eq_getElem hi, ?_, hi⟩
    rw [getR11, List.find?_eq_some_iff_getElem]
    exact ⟨h1, i, hi, rfl, fun j hj => by simpa using h2 j hj⟩
def kindR (l : List RItem) (y : Id) : Int := match getR11 l y with | some x => x.o.kind | none => 0
def objR (l : List RItem) (y : Id) : Obj := match getR11 l y with | some x => x.o | none => Obj.ofKind 0
theorem ref11_Kind_ok (l : List RItem) (y : Id) (hl : l.length < 1000000) : PureC Pg G Fn.ref11_Store_Kind [encSt l, encId y] (.int .i64 (kindR l y)) := by
  refine pureC_of T_ok Fd.ref11_Store_Kind rfl (by kernel_rfl) ?_
  refine ⟨_, _, _, pureCall (ref11_At_ok l y hl) rfl, ?_⟩
  rcases at_get (l := l) (y := y) with ⟨h1, h2⟩ | ⟨i, x, h1, h2, h3, h4⟩
  · rw [h1, kindR, h2]; rfl
  · rw [h1, kindR, h3]
    refine ⟨encRItem x, ⟨by show (0 : Int) ≤ ((i : Nat) : Int); omega, by show (l.map encRItem)[((i : Nat) : Int).toNat]? = _; simp [h2]⟩, ?_⟩
    rfl
set_option maxRecDepth 100000 in
theorem ref11_Object_ok (l : List RItem) (y : Id) (hl : l.length < 1000000) : PureC Pg G Fn.ref11_Store_Object [encSt l, encId y] (encObj (objR l y)) := by
  refine pureC_of T_ok Fd.ref11_Store_Object rfl (by kernel_rfl) ?_
  refine ⟨_, _, _, pureCall (ref11_At_ok l y hl) rfl, ?_⟩
  rcases at_get (l := l) (y := y) with ⟨h1, h2⟩ | ⟨i, x, h1, h2, h3, h4⟩
  · rw [h1, objR, h2]; rfl
  · rw [h1, objR, h3]
    refine ⟨encRItem x, ⟨by show (0 : Int) ≤ ((i : Nat) : Int); omega, by show (l.map encRItem)[((i : Nat) : Int).toNat]? = _; simp [h2]⟩, ?_⟩
    rfl
def idsR (l : List RItem) : List IV := l.map fun x => encId x.id
theorem idsR_size (l : List RItem) : hasSize 32 (idsR l) := by
  intro x hx
  obtain ⟨e, _, rfl⟩ := List.mem_map.1 hx
  exact encId_len e.id
theorem ref11_Ids_ok (l : List RItem) (hl : l.length < 1000000) : PureC Pg G Fn.ref11_Store_Ids [encSt l] (.slice (idsR l)) := by
  refine pureC_of T_ok Fd.ref11_Store_Ids rfl (by kernel_rfl) ?_
  refine LoopW.tok0 20 rfl rfl (env' := [(1, .ptr 1 0), (3, .tok 20 32 []), (4, .i (.int .i64 0))]) (m' := [(1, .var [.i (.slice (l.map encRItem))]), (20, .tip)])
    ⟨⟨_, rfl, .refl _⟩, ⟨_, rfl, .tok 32⟩, ⟨_, rfl, .refl _⟩, trivial⟩ ⟨.inr ⟨by decide, _, rfl, .refl _⟩, .inl ⟨rfl, .tip⟩, trivial⟩ ?_
  refine loopX T_ok 0 (S := Nat) (S' := Unit) (fun i => [(1, .ptr 1 0), (3, .tok 20 32 (idsR (l.take i))), (4, .i (.int .i64 (i : Int)))]) (fun _ => [(1, .var [.i (.slice (l.map encRItem))]), (20, .tip)]) (fun i => l.length - i) (fun i => i ≤ l.length)
    (fun _ => [(3, .tok 20 32 (idsR l))]) (fun _ => [(20, .tip)]) (fun _ => True) 0 ⟨rfl, rfl, rfl, trivial⟩ ⟨rfl, rfl, trivial⟩ (by omega) ?_ ?_
  · intro i hi
    refine condP.split (fun g => ?_) (fun g => ?_)
    · have g' : i < l.length := by have h : (i : Int) < ((l.map encRItem).length : Int) := of_decide_eq_true g; rw [lenR] at h; omega
      refine ⟨encRItem l[i], ⟨by omega, by simp [g']⟩, ?_⟩
      refine ⟨⟨⟨idsR_size _, fun x hx => by have := List.mem_singleton.1 hx; subst this; rfl⟩, szOK (by simp [idsR]; omega) (by kernel_rfl)⟩, ?_⟩
      refine ⟨i + 1, ⟨by omega, by omega⟩, ⟨rfl, ?_, congrArg (fun n => some (PV.i (IV.int .i64 n))) (int_succ (by omega)), trivial⟩, ⟨rfl, rfl, trivial⟩⟩
      have : idsR (l.take (i + 1)) = idsR (l.take i) ++ [encId l[i].id] := by
        rw [idsR, idsR, List.take_succ_eq_append_getElem g', List.map_append]; rfl
      rw [this]; rfl
    · have g' : i = l.length := by have h : ¬ (i : Int) < ((l.map encRItem).length : Int) := of_decide_eq_false g; rw [lenR] at h; omega
      refine ⟨(), trivial, ⟨?_, trivial⟩, ⟨rfl, trivial⟩⟩
      rw [g', List.take_length]; rfl
  · intro _ _
    rfl
end Go.Kn
set_option maxRecDepth 100000
namespace Go.Kn
open Go Go.Proofs
variable {G : Gl}
structure Lnk where
  id : Id
  kind : Int
  deriving DecidableEq
def encLnk (x : Lnk) : IV := .agg (idC x.id ++ [.int .i64 x.kind])
theorem encLnk_len (x : Lnk) : (encLnk x).cells.length = 33 := by simp [encLnk, IV.cells, idC, u8c]
theorem hasSize_lnk (l : List Lnk) : hasSize 33 (l.map encLnk) := by
  intro x hx
  obtain ⟨e, _, rfl⟩ := List.mem_map.1 hx
  exact encLnk_len e
def linksO (o : Obj) : List Lnk :=
  if o.kind = 2 then o.entries.map fun e => ⟨e.id, e.kind⟩
  else if o.kind = 3 then ⟨o.tree, 2⟩ :: o.parents.map fun p => ⟨p, 3⟩
  else if o.kind = 4 then [⟨o.target, o.of⟩] else []
theorem map_snoc {α : Type} {l : List α} {i : Nat} (h : i < l.length) (f : α → IV) : (l.take (i + 1)).map f = (l.take i).map f ++ [f l[i]] := by
  rw [List.take_succ_eq_append_getElem h, List.map_append]; rfl
def obM (o : Obj) : MO := .var ((encObj o).cells.map .i)
theorem linksO2 {o : Obj} (h : o.kind = 2) : (linksO o).map encLnk = o.entries.map fun e => encLnk ⟨e.id, e.kind⟩ := by rw [linksO, if_pos h, List.map_map]; rfl
theorem linksO3 {o : Obj} (h : o.kind = 3) : (linksO o).map encLnk = encLnk ⟨o.tree, 2⟩ :: o.parents.map fun p => encLnk ⟨p, 3⟩ := by
  rw [linksO, if_neg (by omega), if_pos h, List.map_cons, List.map_map]; rfl
theorem linksO4 {o : Obj} (h : o.kind = 4) : (linksO o).map encLnk = [encLnk ⟨o.target, o.of⟩] := by rw [linksO, if_neg (by omega), if_neg (by omega), if_pos h]; rfl
theorem linksO0 {o : Obj} (h2 : o.kind ≠ 2) (h3 : o.kind ≠ 3) (h4 : o.kind ≠ 4) : (linksO o).map encLnk = [] := by rw [linksO, if_neg h2, if_neg h3, if_neg h4]; rfl
theorem hasSize_map {α : Type} {k : Nat} (l : List α) (f : α → IV) (h : ∀ x, (f x).cells.length = k) : hasSize k (l.map f) := by
  intro x hx
  obtain ⟨e, _, rfl⟩ := List.mem_map.1 hx
  exact h e
theorem hasSize_cons {k : Nat} {x : IV} {l : List IV} (h : x.cells.length = k) (hl : hasSize k l) : hasSize k (x :: l) := by
  intro y hy
  rcases List.mem_cons.1 hy with rfl | hy
  · exact h
  · exact hl y hy
theorem lenM {α : Type} (l : List α) (f : α → IV) : some (PV.i (IV.int .i64 ((l.map f).length : Int))) = some (PV.i (IV.int .i64 (l.length : Int))) := by rw [List.length_map]
theorem kind_eq {o : Obj} {k : Int} (g : (o.kind == k) = true) : o.kind = k := eq_of_beq g
theorem kind_ne {o : Obj} {k : Int} (g : (o.kind == k) = false) : o.kind ≠ k := by simpa using g
set_option maxHeartbeats 1000000 in
theorem object_Links_ok (o : Obj) (he : o.entries.length < 1000000) (hp : o.parents.length < 1000000) : PureC Pg G Fn.object_Links [encObj o] (.slice ((linksO o).map encLnk)) := by
  refine pureC_of T_ok Fd.object_Links rfl (by kernel_rfl) ?_
  refine condP.split (fun g => ?_) (fun g => ?_)
  · have g' := kind_eq g
    rw [linksO2 g']
    refine LoopW.tok0 900 rfl rfl (env' := [(1, .ptr 1 0), (3, .tok 900 33 []), (13, .i (.slice (o.entries.map encEntry))), (14, .i (.int .i64 (o.entries.length : Int))), (15, .i (.int .i64 0))]) (m' := [(1, obM o), (900, .tip)])
      ⟨⟨_, rfl, .refl _⟩, ⟨_, rfl, .tok 33⟩, ⟨_, rfl, .refl _⟩, ⟨_, lenM _ _, .refl _⟩, ⟨_, rfl, .refl _⟩, trivial⟩ ⟨.inr ⟨by decide, _, rfl, .refl _⟩, .inl ⟨rfl, .tip⟩, trivial⟩ ?_
    refine loopX T_ok 1 (S := Nat) (S' := Unit) (fun i => [(1, .ptr 1 0), (3, .tok 900 33 ((o.entries.take i).map fun e => encLnk ⟨e.id, e.kind⟩)), (13, .i (.slice (o.entries.map encEntry))), (14, .i (.int .i64 (o.entries.length : Int))), (15, .i (.int .i64 (i : Int)))])
      (fun _ => [(1, obM o), (900, .tip)]) (fun i => o.entries.length - i) (fun i => i ≤ o.entries.length) (fun _ => [(3, .tok 900 33 (o.entries.map fun e => encLnk ⟨e.id, e.kind⟩))]) (fun _ => [(900, .tip)]) (fun _ => True) 0 ⟨rfl, rfl, rfl, rfl, rfl, trivial⟩ ⟨rfl, rfl, trivial⟩ (by omega) ?_ ?_
    · intro i hi
      refine condP.split (fun g => ?_) (fun g => ?_)
      · have g2 : i < o.entries.length := by have h : (i : Int) < (o.entries.length : Int) := of_decide_eq_true g; omega
        refine ⟨encEntry o.entries[i], idx_get encEntry g2, ?_⟩
        refine ⟨⟨⟨hasSize_map _ _ fun e => encLnk_len _, hasSize_one (encLnk_len ⟨o.entries[i].id, o.entries[i].kind⟩)⟩, szOK (by simp; omega) (by kernel_rfl)⟩, ?_⟩
        refine ⟨i + 1, ⟨by omega, by omega⟩, ⟨rfl, ?_, rfl, rfl, i_succ (by omega), trivial⟩, ⟨rfl, rfl, trivial⟩⟩
        rw [map_snoc g2]; rfl
      · have g2 : i = o.entries.length := by have h : ¬ (i : Int) < (o.entries.length : Int) := of_decide_eq_false g; omega
        subst g2
        rw [List.take_length]
        exact ⟨(), trivial, ⟨rfl, trivial⟩, ⟨rfl, trivial⟩⟩
    · intro _ _
      rfl
  · have g' := kind_ne g
    refine condP.split (fun g3 => ?_) (fun g3 => ?_)
    · have g3' := kind_eq g3
      rw [linksO3 g3']
      refine ⟨⟨⟨fun x hx => (by cases hx), hasSize_one (encLnk_len ⟨o.tree, 2⟩)⟩, szOK (by simp) (by kernel_rfl)⟩, ?_⟩
      refine loopX T_ok 3 (S := Nat) (S' := Unit) (fun i => [(1, .ptr 1 0), (3, .tok 35 33 (encLnk ⟨o.tree, 2⟩ :: (o.parents.take i).map fun p => encLnk ⟨p, 3⟩)), (37, .i (.slice (o.parents.map encId))), (38, .i (.int .i64 (o.parents.length : Int))), (39, .i (.int .i64 (i : Int)))])
        (fun _ => [(1, obM o), (35, .tip)]) (fun i => o.parents.length - i) (fun i => i ≤ o.parents.length) (fun _ => [(3, .tok 35 33 (encLnk ⟨o.tree, 2⟩ :: o.parents.map fun p => encLnk ⟨p, 3⟩))]) (fun _ => [(35, .tip)]) (fun _ => True) 0 ⟨rfl, rfl, rfl, lenM _ _, rfl, trivial⟩ ⟨rfl, rfl, trivial⟩ (by omega) ?_ ?_
      · intro i hi
        refine condP.split (fun g => ?_) (fun g => ?_)
        · have g2 : i < o.parents.length := by have h : (i : Int) < (o.parents.length : Int) := of_decide_eq_true g; omega
          refine ⟨encId o.parents[i], idx_get encId g2, ?_⟩
          refine ⟨⟨⟨hasSize_cons (encLnk_len _) (hasSize_map _ _ fun e => encLnk_len _), hasSize_one (encLnk_len ⟨o.parents[i], 3⟩)⟩, szOK (by simp; omega) (by kernel_rfl)⟩, ?_⟩
          refine ⟨i + 1, ⟨by omega, by omega⟩, ⟨rfl, ?_, rfl, rfl, i_succ (by omega), trivial⟩, ⟨rfl, rfl, trivial⟩⟩
          rw [map_snoc g2]; rfl
        · have g2 : i = o.parents.length := by have h : ¬ (i : Int) < (o.parents.length : Int) := of_decide_eq_false g; omega
          subst g2
          rw [List.take_length]
          exact ⟨(), trivial, ⟨rfl, trivial⟩, ⟨rfl, trivial⟩⟩
      · intro _ _
        rfl
    · have g3' := kind_ne g3
      refine condP.split (fun g4 => ?_) (fun g4 => ?_)
      · have g4' := kind_eq g4
        rw [linksO4 g4']
        refine ⟨⟨⟨fun x hx => (by cases hx), hasSize_one (encLnk_len ⟨o.target, o.of⟩)⟩, szOK (by simp) (by kernel_rfl)⟩, ?_⟩
        rfl
      · rw [linksO0 g' g3' (kind_ne g4)]
        rfl
set_option maxHeartbeats 1000000 in
theorem ref04_Links_ok (o : Obj) (he : o.entries.length < 1000000) (hp : o.parents.length < 1000000) : PureC Pg G Fn.ref04_Links [encObj o] (.slice ((linksO o).map encLnk)) := by
  refine pureC_of T_ok Fd.ref04_Links rfl (by kernel_rfl) ?_
  refine condP.split (fun g => ?_) (fun g => ?_)
  · have g' := kind_eq g
    have n3 : (o.kind == 3) = false := by rw [g']; rfl
    have n4 : (o.kind == 4) = false := by rw [g']; rfl
    rw [linksO2 g']
    refine LoopW.tok0 900 rfl rfl (env' := [(1, .ptr 1 0), (3, .tok 900 33 []), (4, .i (.int .i64 0))]) (m' := [(1, obM o), (900, .tip)])
      ⟨⟨_, rfl, .refl _⟩, ⟨_, rfl, .tok 33⟩, ⟨_, rfl, .refl _⟩, trivial⟩ ⟨.inr ⟨by decide, _, rfl, .refl _⟩, .inl ⟨rfl, .tip⟩, trivial⟩ ?_
    refine loopX T_ok 0 (S := Nat) (S' := Unit) (fun i => [(1, .ptr 1 0), (3, .tok 900 33 ((o.entries.take i).map fun e => encLnk ⟨e.id, e.kind⟩)), (4, .i (.int .i64 (i : Int)))])
      (fun _ => [(1, obM o), (900, .tip)]) (fun i => o.entries.length - i) (fun i => i ≤ o.entries.length) (fun _ => [(1, .ptr 1 0), (3, .tok 900 33 (o.entries.map fun e => encLnk ⟨e.id, e.kind⟩))]) (fun _ => [(1, obM o), (900, .tip)]) (fun _ => True) 0 ⟨rfl, rfl, rfl, trivial⟩ ⟨rfl, rfl, trivial⟩ (by omega) ?_ ?_
    · intro i hi
      refine condP.split (fun g => ?_) (fun g => ?_)
      · have g2 := idx_lt g
        refine drawW T_ok (by decide +kernel) ?_
        refine ⟨encEntry o.entries[i], idx_get encEntry g2, ?_⟩
        refine ⟨encEntry o.entries[i], idx_get encEntry g2, ?_⟩
        refine ⟨⟨⟨hasSize_map _ _ fun e => encLnk_len _, hasSize_one (encLnk_len ⟨o.entries[i].id, o.entries[i].kind⟩)⟩, szOK (by simp; omega) (by kernel_rfl)⟩, ?_⟩
        refine ⟨by kernel_rfl, ?_⟩
        refine ⟨i + 1, ⟨by omega, by omega⟩, ⟨rfl, ?_, i_succ (by omega), trivial⟩, ⟨rfl, rfl, trivial⟩⟩
        rw [map_snoc g2]; rfl
      · have g2 := idx_ge g hi
        subst g2
        rw [List.take_length]
        exact ⟨(), trivial, ⟨rfl, rfl, trivial⟩, ⟨rfl, rfl, trivial⟩⟩
    · intro _ _
      refine condP.split (fun g => absurd g (by show ¬ (o.kind == 3) = true; rw [n3]; decide)) (fun _ => ?_)
      refine condP.split (fun g => absurd g (by show ¬ (o.kind == 4) = true; rw [n4]; decide)) (fun _ => ?_)
      rfl
  · have g' := kind_ne g
    refine condP.split (fun g3 => ?_) (fun g3 => ?_)
    · have g3' := kind_eq g3
      have n4 : (o.kind == 4) = false := by rw [g3']; rfl
      rw [linksO3 g3']
      refine ⟨⟨⟨fun x hx => (by cases hx), hasSize_one (encLnk_len ⟨o.tree, 2⟩)⟩, szOK (by simp) (by kernel_rfl)⟩, ?_⟩
      refine loopX T_ok 2 (S := Nat) (S' := Unit) (fun i => [(1, .ptr 1 0), (3, .tok 40 33 (encLnk ⟨o.tree, 2⟩ :: (o.parents.take i).map fun p => encLnk ⟨p, 3⟩)), (5, .i (.int .i64 (i : Int)))])
        (fun _ => [(1, obM o), (40, .tip)]) (fun i => o.parents.length - i) (fun i => i ≤ o.parents.length) (fun _ => [(1, .ptr 1 0), (3, .tok 40 33 (encLnk ⟨o.tree, 2⟩ :: o.parents.map fun p => encLnk ⟨p, 3⟩))]) (fun _ => [(1, obM o), (40, .tip)]) (fun _ => True) 0 ⟨rfl, rfl, rfl, trivial⟩ ⟨rfl, rfl, trivial⟩ (by omega) ?_ ?_
      · intro i hi
        refine condP.split (fun g => ?_) (fun g => ?_)
        · have g2 := idx_lt g
          refine ⟨encId o.parents[i], idx_get encId g2, ?_⟩
          refine ⟨⟨⟨hasSize_cons (encLnk_len _) (hasSize_map _ _ fun e => encLnk_len _), hasSize_one (encLnk_len ⟨o.parents[i], 3⟩)⟩, szOK (by simp; omega) (by kernel_rfl)⟩, ?_⟩
          refine ⟨i + 1, ⟨by omega, by omega⟩, ⟨rfl, ?_, i_succ (by omega), trivial⟩, ⟨rfl, rfl, trivial⟩⟩
          rw [map_snoc g2]; rfl
        · have g2 := idx_ge g hi
          subst g2
          rw [List.take_length]
          exact ⟨(), trivial, ⟨rfl, rfl, trivial⟩, ⟨rfl, rfl, trivial⟩⟩
      · intro _ _
        refine condP.split (fun g => absurd g (by show ¬ (o.kind == 4) = true; rw [n4]; decide)) (fun _ => ?_)
        rfl
    · have g3' := kind_ne g3
      refine condP.split (fun g4 => ?_) (fun g4 => ?_)
      · have g4' := kind_eq g4
        rw [linksO4 g4']
        refine ⟨⟨⟨fun x hx => (by cases hx), hasSize_one (encLnk_len ⟨o.target, o.of⟩)⟩, szOK (by simp) (by kernel_rfl)⟩, ?_⟩
        rfl
      · rw [linksO0 g' g3' (kind_ne g4)]
        rfl
theorem ref11_Links_ok (l : List RItem) (y : Id) (hl : l.length < 1000000) (he : (objR l y).entries.length < 1000000) (hp : (objR l y).parents.length < 1000000) :
    PureC Pg G Fn.ref11_Store_Links [encSt l, encId y] (.slice ((linksO (objR l y)).map encLnk)) := by
  refine pureC_of T_ok Fd.ref11_Store_Links rfl (by kernel_rfl) ?_
  refine ⟨_, _, _, pureCall (ref11_Object_ok l y hl) rfl, ?_⟩
  refine ⟨_, _, _, pureCall (ref04_Links_ok (objR l y) he hp) rfl, ?_⟩
  rfl
end Go.Kn
set_option maxRecDepth 100000
namespace Go.Kn
open Go Go.Proofs
variable {G : Gl}
def bodyR (k : Int) (r : Rd) : Obj × Rd :=
  if k = 2 then ({ Obj.ofKind k with entries := r.tree.1 }, r.tree.2) else if k = 3 then r.commit k else if k = 4 then r.tag k
  else ({ Obj.ofKind k with data := (r.bytes r.s.length).1 }, (r.bytes r.s.length).2)
def decodeB (k : Int) (b : List UInt8) : Option Obj :=
  if (bodyR k ⟨b, false⟩).2.bad = false ∧ (bodyR k ⟨b, false⟩).2.s = [] ∧ mayB (bodyR k ⟨b, false⟩).1 = true then some (bodyR k ⟨b, false⟩).1 else none
def decodeP (s : List UInt8) : Option Obj :=
  if s = [] ∨ 4096 < s.length then none else match takeO (s.drop 1) with
    | none => none
    | some (b, rest) => if rest = [] then decodeB ((s.getD 0 0).toNat : Int) b else none
def decV : Option Obj → IV
  | some o => .tup [encObj o, .int .i64 0]
  | none => .tup [encObj (Obj.ofKind 0), .int .i64 2]
theorem tree_len (r : Rd) : r.tree.1.length + r.tree.2.s.length ≤ r.s.length := by
  rw [Rd.tree]
  split
  · rename_i h
    have := entry_len h.1 h.2
    have := tree_len r.entry.2
    simp; omega
  · simp
  termination_by r.s.length
  decreasing_by exact entry_len (by assumption : _ ∧ _).1 (by assumption : _ ∧ _).2
theorem takeO_len {s b rest : List UInt8} (h : takeO s = some (b, rest)) : b.length ≤ s.length := by
  unfold takeO at h
  split at h
  · cases h; simp; omega
  · cases h
theorem bodyR_ents (k : Int) (r : Rd) : (bodyR k r).1.entries.length ≤ r.s.length := by
  unfold bodyR
  split
  · have := tree_len r; simp only; omega
  · split
    · simp [Rd.commit, Obj.ofKind]
    · split
      · simp [Rd.tag, Obj.ofKind]
      · simp [Obj.ofKind]
def decM (o : Obj) (r : Rd) : Mem :=
  [(2, .var (objCells (Obj.ofKind 0) (.full []) (.full []))), (7, .var (objCells o (.i (.slice (o.entries.map encEntry))) (.i (.slice (o.parents.map encId))))), (38, .var [.i (.str r.s), .i (.bool r.bad)])]
set_option maxRecDepth 100000 in
theorem object_Decode_ok (s : List UInt8) (hs : s.length < 1000000) : PureC Pg G Fn.object_Decode [.str s] (decV (decodeP s)) := by
  refine pureW_of T_ok Fd.object_Decode rfl (by kernel_rfl) ?_
  refine CW.next T_ok ?_
  have hno : ∀ (x : Option Obj), x = decodeP s → some (decV x) = some (decV (decodeP s)) := fun x h => by rw [h]
  refine CW.cut T_ok (S := Unit) (fun _ => [(0, .i (.str s)), (2, .ptr 2 0), (3, .i (.int .i64 0))]) (fun _ => [(2, .var (objCells (Obj.ofKind 0) (.full []) (.full [])))]) (fun _ => s ≠ [] ∧ s.length ≤ 4096) ?_ ?_
  · refine condP.split (fun g1 => ?_) (fun g1 => ?_)
    · exact hno none (by have : s = [] := by simpa using g1
                         simp [decodeP, this])
    · have g1' : s ≠ [] := by simpa using g1
      refine condP.split (fun g2 => ?_) (fun g2 => ?_)
      · exact hno none (by have : (s.length : Int) > 4096 := of_decide_eq_true g2
                           have h : 4096 < s.length := by omega
                           simp [decodeP, h])
      · have : ¬ (s.length : Int) > 4096 := of_decide_eq_false g2
        exact ⟨(), ⟨g1', by omega⟩, ⟨rfl, rfl, rfl, trivial⟩, ⟨rfl, trivial⟩⟩
  rintro _ ⟨g1, g2⟩
  have hpos : 0 < s.length := List.length_pos_iff.2 g1
  have hd : decodeP s = match takeO (s.drop 1) with
    | none => none
    | some (b, rest) => if rest = [] then decodeB ((s.getD 0 0).toNat : Int) b else none := by
    have h : ¬ (s = [] ∨ 4096 < s.length) := by simp [g1]; omega
    rw [decodeP, if_neg h]
  refine CW.next T_ok ?_
  refine ⟨⟨by decide, by simp; omega, by simp⟩, ?_⟩
  have hdr : (s.take (s.length : Int).toNat).drop (1 : Int).toNat = s.drop 1 := by simp
  have ht := varint_Take_ok (G := G) (s.drop 1) (by simp; omega)
  rw [← hdr] at ht
  refine ⟨_, _, _, pureCall ht rfl, ?_⟩
  rw [hdr]
  unfold takeP
  cases hto : takeO (s.drop 1) with
  | none =>
    rw [hto] at hd
    refine CW.go T_ok ?_
    exact hno none hd.symm
  | some p =>
    obtain ⟨b, rest⟩ := p
    rw [hto] at hd
    have hb := takeO_len hto
    simp only at hd
    refine CW.next T_ok ?_
    refine condP.split (fun g3 => ?_) (fun g3 => ?_)
    · have g3' : rest ≠ [] := by simpa using g3
      rw [if_neg g3'] at hd
      exact hno none hd.symm
    · have g3' : rest = [] := by simpa using g3
      rw [if_pos g3'] at hd
      have hlt := (s.getD 0 0).toNat_lt
      have hk : IntKind.i64.wrap (((s.getD (0 : Int).toNat 0).toNat : Nat) : Int) = ((s.getD 0 0).toNat : Int) := wrap_i64 (by omega) (by show ((s.getD 0 0).toNat : Int) < _; omega)
      refine CW.cut T_ok (S := Unit) (fun _ => [(0, .i (.str s)), (2, .ptr 2 0), (3, .i (.int .i64 0)), (4, .i (.str b)), (7, .ptr 7 0)])
        (fun _ => [(2, .var (objCells (Obj.ofKind 0) (.full []) (.full []))), (7, .var (objCells (Obj.ofKind ((s.getD 0 0).toNat : Int)) (.full []) (.full [])))]) (fun _ => True) ?_ ?_
      · refine ⟨⟨by decide, by omega⟩, ?_⟩
        refine ⟨(), trivial, ⟨rfl, rfl, rfl, rfl, rfl, trivial⟩, ⟨rfl, ?_, trivial⟩⟩
        rw [← hk]; rfl
      intro _ _
      generalize ((s.getD 0 0).toNat : Int) = k at *
      have hbl : b.length < 1000000 := by simp at hb; omega
      have hbl' : b.length < 4611686018427387904 := by omega
      refine CW.next T_ok ?_
      refine CW.next T_ok ?_
      refine CW.cut T_ok (S := Nat) (fun f => [(2, .ptr 2 0), (3, .i (.int .i64 0)), (7, .ptr 7 0), (8, .ptr 38 0), (9, .i (.func (.func f) []))])
        (fun _ => [(2, .var (objCells (Obj.ofKind 0) (.full []) (.full []))), (7, .var (objCells (Obj.ofKind k) (.full []) (.full []))), (38, .var [.i (.str b), .i (.bool false)])])
        (fun f => Body Pg f ∧ AC Pg G f [.ptr 1000 0, .ptr 1001 0] (rdo ⟨b, false⟩ k) (.tup []) (rdo' (bodyR k ⟨b, false⟩).2 (bodyR k ⟨b, false⟩).1)) ?_ ?_
      · refine condP.split (fun k1 => ?_) (fun k1 => ?_)
        · have k1' : k = 2 := eq_of_beq k1
          have hbr : bodyR k ⟨b, false⟩ = ({ Obj.ofKind k with entries := (Rd.tree ⟨b, false⟩).1 }, (Rd.tree ⟨b, false⟩).2) := by rw [bodyR, if_pos k1']
          rw [hbr]
          exact ⟨_, reader_tree_ok (G := G) ⟨b, false⟩ k hbl, ⟨rfl, rfl, rfl, rfl, rfl, trivial⟩, ⟨rfl, rfl, rfl, trivial⟩⟩
        · have k1' : k ≠ 2 := by have h : (k == 2) = false := k1; simpa using h
          refine condP.split (fun k2 => ?_) (fun k2 => ?_)
          · have k2' : k = 3 := eq_of_beq k2
            have hbr : bodyR k ⟨b, false⟩ = (Rd.commit ⟨b, false⟩ k) := by rw [bodyR, if_neg k1', if_pos k2']
            rw [hbr]
            exact ⟨_, reader_commit_ok (G := G) ⟨b, false⟩ k hbl, ⟨rfl, rfl, rfl, rfl, rfl, trivial⟩, ⟨rfl, rfl, rfl, trivial⟩⟩
          · have k2' : k ≠ 3 := by have h : (k == 3) = false := k2; simpa using h
            refine condP.split (fun k3 => ?_) (fun k3 => ?_)
            · have k3' : k = 4 := eq_of_beq k3
              have hbr : bodyR k ⟨b, false⟩ = (Rd.tag ⟨b, false⟩ k) := by rw [bodyR, if_neg k1', if_neg k2', if_pos k3']
              rw [hbr]
              exact ⟨_, reader_tag_ok (G := G) ⟨b, false⟩ k hbl', ⟨rfl, rfl, rfl, rfl, rfl, trivial⟩, ⟨rfl, rfl, rfl, trivial⟩⟩
            · have k3' : k ≠ 4 := by have h : (k == 4) = false := k3; simpa using h
              have hbr : bodyR k ⟨b, false⟩ = ({ Obj.ofKind k with data := (Rd.bytes ⟨b, false⟩ b.length).1 }, (Rd.bytes ⟨b, false⟩ b.length).2) := by rw [bodyR, if_neg k1', if_neg k2', if_neg k3']
              rw [hbr]
              exact ⟨_, reader_blob_ok (G := G) ⟨b, false⟩ k hbl', ⟨rfl, rfl, rfl, rfl, rfl, trivial⟩, ⟨rfl, rfl, rfl, trivial⟩⟩
      intro f hf
      have hents := bodyR_ents k ⟨b, false⟩
      rw [decodeB] at hd
      generalize bodyR k ⟨b, false⟩ = x at *
      obtain ⟨o, r⟩ := x
      simp only at hd hf hents
      refine CW.cut T_ok (S := Unit) (fun _ => [(2, .ptr 2 0), (3, .i (.int .i64 0)), (7, .ptr 7 0), (8, .ptr 38 0)]) (fun _ => decM o r) (fun _ => True) ?_ ?_
      · refine ⟨_, _, _, lendCall (ρ := [(1000, 38), (1001, 7)]) hf.1 hf.2 ⟨rfl, rfl, rfl⟩ (MemL.as ⟨⟨_, rfl, MLe.refl _⟩, ⟨_, rfl, MLe.refl _⟩, trivial⟩ rfl) rfl, ?_⟩
        exact ⟨(), trivial, ⟨rfl, rfl, rfl, rfl, trivial⟩, ⟨rfl, rfl, rfl, trivial⟩⟩
      intro _ _
      have hm := object_may_ok (G := G) o (by omega)
      refine CW.cut T_ok (S := Unit) (fun _ => [(2, .ptr 2 0), (3, .i (.int .i64 0)), (7, .ptr 7 0), (8, .ptr 38 0)]) (fun _ => decM o r) (fun _ => decodeP s = some o) ?_ ?_
      · obtain ⟨rs, bad⟩ := r
        cases bad with
        | true => exact hno none (by rw [hd]; simp)
        | false =>
          refine condP.split (fun g4 => ?_) (fun g4 => ?_)
          · have g4' : rs ≠ [] := by simpa using g4
            exact hno none (by rw [hd]; simp [g4'])
          · have g4' : rs = [] := by simpa using g4
            refine ⟨_, _, _, pureCall hm rfl, ?_⟩
            cases h : mayB o with
            | false => exact hno none (by rw [hd]; simp [h])
            | true => exact ⟨(), by rw [hd]; simp [g4', h], ⟨rfl, rfl, rfl, rfl, trivial⟩, ⟨rfl, rfl, rfl, trivial⟩⟩
      intro _ h
      refine CW.go T_ok ?_
      exact hno (some o) h.symm
end Go.Kn
