/- The program's package sha256: the sum. -/
import Derived.Test.YtadcjononmlofaaDoorKnSha
import Derived.Test.YtadcjononmlofaaDoorKnBelow
import Derived.Test.YtadcjononmlofaaDoorKnPlain
set_option autoImplicit false
namespace Go.Kn
open Go Go.Proofs

theorem strings_Join_ok {G : Gl} (s : List UInt8) (hs : s.length < 1000000) : PureC Pg G Fn.strings_Join [.slice [.str s], .str []] (.str s) := by
  refine pureC_below ⟨_, _, Fd.strings_Join, rfl, by kernel_rfl⟩ fun σ w vs hr hh => ?_
  obtain ⟨hl, hr⟩ := hr
  match vs, hl with
  | [v1, v2], _ =>
    have r2 := rel_str (hr 1 _ v2 rfl rfl)
    subst r2
    have r1 := hr 0 _ v1 rfl rfl
    cases r1 with
    | i _ _ r1 =>
      cases r1 with
      | slice b o cap sz l f hcap hsz h1 hc hrr =>
        have q := hrr 0 (.str s) 0 (.str s) rfl rfl
        have hcell := hh _ _ _ (hc 0 (.str s) 0 (.str s) rfl rfl)
        generalize hv : f 0 0 = u at q hcell
        cases q
        simp only [Nat.zero_mul, Nat.add_zero] at hcell
        refine ⟨.string ⟨s.toArray⟩, .str s, ?_⟩
        have := Tryd.strings_Join b o cap [⟨s.toArray⟩] ⟨#[]⟩ w (fun j x hj => by
          cases j with
          | zero => cases hj; exact hcell
          | succ j => cases hj) (cell_lt hcell) (by simp) (by simpa using hcap) (by simp [Lib.join_one]; omega)
        simpa [Lib.join_one] using this

theorem strings_Repeat_ok {G : Gl} (c : Nat) (hc : c < 1000000) : PureC Pg G Fn.strings_Repeat [.str [0], .int .i64 (c : Int)] (.str (List.replicate c 0)) := by
  refine pureC_below ⟨_, _, Fd.strings_Repeat, rfl, by kernel_rfl⟩ fun σ w vs hr hh => ?_
  obtain ⟨hl, hr⟩ := hr
  match vs, hl with
  | [v1, v2], _ =>
    have r1 := rel_str (hr 0 _ v1 rfl rfl)
    have r2 := rel_int (hr 1 _ v2 rfl rfl)
    subst r1; subst r2
    refine ⟨.string ⟨(List.replicate c 0).toArray⟩, .str _, ?_⟩
    have h := Tryd.strings_Repeat ⟨#[0]⟩ c w (by omega) (by show 1 * c ≤ _; omega)
    have e : Lib.repeatL (ByteArray.mk #[0]).data.toList c = List.replicate c 0 := by
      have := Lib.repeatL_replicate 0 1 c
      simpa using this
    rw [e] at h
    exact h

def tail8 (n : Nat) : List UInt8 := (List.range 8).map fun i => UInt8.ofNat (n / 2 ^ (56 - 8 * i) % 256)
def padS (s : List UInt8) : List UInt8 := s ++ [128] ++ List.replicate ((120 - (s.length + 1) % 64) % 64) 0 ++ tail8 (s.length * 8)

def foldB (s : Nat → UInt32) (t : List UInt8) : Nat → UInt32 :=
  if h : 64 ≤ t.length then foldB (blk s (t.take 64)) (t.drop 64) else s
  termination_by t.length
  decreasing_by simp; omega

def h0L : List UInt32 := [1779033703, 3144134277, 1013904242, 2773480762, 1359893119, 2600822924, 528734635, 1541459225]
def H0 (i : Nat) : UInt32 := h0L.getD i 0

def outB (f : Nat → UInt32) (i : Nat) : UInt8 := (f (i / 4) >>> UInt32.ofNat (24 - 8 * (i % 4))).toUInt8

/-- The sum of a text. -/
def sha (s : List UInt8) : Id := ⟨(List.range 32).map (outB (foldB H0 (padS s))), by simp⟩

theorem padS_len (s : List UInt8) : (padS s).length % 64 = 0 ∧ 0 < (padS s).length := by
  simp [padS, tail8]; omega

theorem sum_loop1 {b : List UInt8} {n : Nat} (hb : b.length < 2000000) {env : Env} {m : Mem} {Q : EQ} {z : MO}
    (hE : LkE env [(2, .ptr 2 0), (3, .i (.str b)), (4, .i (.int .u64 (n : Int))), (25, .i (.int .i64 0))]) (hM : LkM m [(2, z)])
    (hQ : Q (.exit 0) [(2, .ptr 2 0), (3, .i (.str (b ++ tail8 n)))] [(2, z)]) :
    LoopW Pg G0 Fb.sha256_Sum.ntmps (nthLoop Fb.sha256_Sum 0) env m Q := by
  refine loopX T_ok 0 (S := Nat) (S' := Unit) (fun i => [(2, .ptr 2 0), (3, .i (.str (b ++ (tail8 n).take i))), (4, .i (.int .u64 (n : Int))), (25, .i (.int .i64 (i : Int)))]) (fun _ => [(2, z)]) (fun i => 8 - i) (fun i => i ≤ 8)
    (fun _ => [(2, .ptr 2 0), (3, .i (.str (b ++ tail8 n)))]) (fun _ => [(2, z)]) (fun _ => True) 0 ⟨hE.1, by rw [hE.2.1]; simp, hE.2.2.1, hE.2.2.2.1, trivial⟩ hM (by omega) ?_ (fun _ _ => hQ)
  intro i hi
  have hlb : (tail8 n).length = 8 := by simp [tail8]
  refine condP.split (fun g => ?_) (fun g => ?_)
  · have g' : i < 8 := by have : (i : Int) < 8 := of_decide_eq_true g; omega
    have hw : IntKind.i64.wrap (56 - IntKind.i64.wrap (8 * (i : Int))) = ((56 - 8 * i : Nat) : Int) := by
      rw [wrap_i64 (a := 8 * (i : Int)) (by omega) (by omega), wrap_i64 (by omega) (by omega)]; omega
    refine ⟨by show 0 ≤ IntKind.i64.wrap (56 - IntKind.i64.wrap (8 * (i : Int))); rw [hw]; omega, ?_⟩
    refine ⟨_, u8s_one _, ?_⟩
    refine ⟨by simp [hlb]; omega, ?_⟩
    refine ⟨i + 1, ⟨by omega, by omega⟩, ⟨rfl, ?_, rfl, congrArg (fun n => some (PV.i (IV.int .i64 n))) (int_succ (by omega)), trivial⟩, ⟨rfl, trivial⟩⟩
    show some (PV.i (IV.str (b ++ (tail8 n).take i ++ [UInt8.ofNat (((n : Int).fdiv (2 ^ (min (IntKind.i64.wrap (56 - IntKind.i64.wrap (8 * (i : Int)))).toNat 64)) % 256)).toNat]))) = _
    have e1 : (tail8 n).take (i + 1) = (tail8 n).take i ++ [UInt8.ofNat (n / 2 ^ (56 - 8 * i) % 256)] := by
      rw [List.take_succ_eq_append_getElem (by omega)]
      simp [tail8]
    have e2 : (((n : Int).fdiv (2 ^ (min (IntKind.i64.wrap (56 - IntKind.i64.wrap (8 * (i : Int)))).toNat 64)) % 256)).toNat = n / 2 ^ (56 - 8 * i) % 256 := by
      rw [hw, Int.toNat_natCast, Nat.min_eq_left (by omega), pow_cast, Int.fdiv_eq_ediv_of_nonneg _ (Int.natCast_nonneg _), ← Int.natCast_ediv]
      omega
    rw [e1, e2, List.append_assoc]
  · have g' : i = 8 := by have : ¬ (i : Int) < 8 := of_decide_eq_false g; omega
    subst g'
    exact ⟨(), trivial, ⟨rfl, by rw [← List.take_of_length_le (l := tail8 n) (i := 8) (by omega)]; rfl, trivial⟩, ⟨rfl, trivial⟩⟩

theorem sum_loop2 {t0 : List UInt8} (ht0 : t0.length % 64 = 0) {env : Env} {m : Mem} {Q : EQ} {z : MO}
    (hE : LkE env [(2, .ptr 2 0), (3, .i (.str t0)), (6, .ptr 6 0)]) (hM : LkM m [(2, z), (6, .var ((w32 8 H0).map .i))])
    (hQ : Q (.exit 2) [(2, .ptr 2 0), (6, .ptr 6 0)] [(2, z), (6, .var ((w32 8 (foldB H0 t0)).map .i))]) :
    LoopW Pg G0 Fb.sha256_Sum.ntmps (nthLoop Fb.sha256_Sum 1) env m Q := by
  refine loopX T_ok 2 (S := List UInt8 × (Nat → UInt32)) (S' := Unit) (fun s => [(2, .ptr 2 0), (3, .i (.str s.1)), (6, .ptr 6 0)]) (fun s => [(2, z), (6, .var ((w32 8 s.2).map .i))]) (fun s => s.1.length) (fun s => s.1.length % 64 = 0 ∧ foldB s.2 s.1 = foldB H0 t0)
    (fun _ => [(2, .ptr 2 0), (6, .ptr 6 0)]) (fun _ => [(2, z), (6, .var ((w32 8 (foldB H0 t0)).map .i))]) (fun _ => True) (t0, H0) hE hM ⟨ht0, rfl⟩ ?_ (fun _ _ => hQ)
  rintro ⟨t, f⟩ ⟨h1, h2⟩
  simp only at h1 h2
  refine condP.split (fun g => ?_) (fun g => ?_)
  · have g' : t ≠ [] := by simpa using g
    have hpos : 0 < t.length := List.length_pos_iff.2 g'
    have hl : 64 ≤ t.length := by omega
    have ht : (t.take (64 : Int).toNat).drop (0 : Int).toNat = t.take 64 := by simp
    refine drawW T_ok (by decide +kernel) ?_
    refine ⟨⟨by decide, by show (0 : Int) ≤ 64; decide, by show (64 : Int) ≤ t.length; omega⟩, ?_⟩
    have hb := sha256_block_ok f (t := t.take 64) (by simp; omega)
    rw [← ht] at hb
    refine ⟨_, _, ⟨rfl, hb⟩, ?_⟩
    refine ⟨by kernel_rfl, ?_⟩
    refine ⟨⟨by decide, by show (64 : Int) ≤ t.length; omega, by simp⟩, ?_⟩
    refine ⟨(t.drop 64, blk f (t.take 64)), ⟨by simp; omega, by simp; omega, ?_⟩, ⟨rfl, ?_, rfl, trivial⟩, ⟨rfl, ?_, trivial⟩⟩
    · rw [← h2]
      conv => rhs; rw [foldB, dif_pos hl]
    · show some (PV.i (IV.str ((t.take (t.length : Int).toNat).drop (64 : Int).toNat))) = _
      simp
    · rw [ht]; rfl
  · have g' : t = [] := by simpa using g
    subst g'
    rw [foldB, dif_neg (by simp)] at h2
    rw [h2]
    exact ⟨(), trivial, ⟨rfl, rfl, trivial⟩, ⟨rfl, rfl, trivial⟩⟩
theorem u8c_store (f : Nat → UInt8) {n i k : Nat} {x : IV} {v : UInt8} {g : Nat → UInt8} (hk : k = i) (hx : x = .int .u8 (v.toNat : Int)) (h : i < n) (hg : ∀ j, j < n → g j = if j = i then v else f j) :
    some (MO.var (((u8c n f).map .i).take k ++ [PV.i x] ++ ((u8c n f).map .i).drop (k + 1))) = some (.var ((u8c n g).map .i)) := by
  subst hk; subst hx
  rw [list_set _ (by simp [u8c]; exact h)]
  congr 2
  apply List.ext_getElem?
  intro j
  rw [List.getElem?_set]
  by_cases hj : k = j
  · subst hj
    rw [if_pos rfl, if_pos (by simp [u8c]; exact h), u8c_get g h, hg k h, if_pos rfl]
  · rw [if_neg hj]
    by_cases hjn : j < n
    · rw [u8c_get f hjn, u8c_get g hjn, hg j hjn, if_neg (Ne.symm hj)]
    · rw [List.getElem?_eq_none (by simp [u8c]; omega), List.getElem?_eq_none (by simp [u8c]; omega)]

theorem u8c_len (n : Nat) (f : Nat → UInt8) : (u8c n f).length = n := by simp [u8c]

def oB (f : Nat → UInt32) (i j : Nat) : UInt8 := if j < i then outB f j else 0

theorem u32_u8 (a : UInt32) : IntKind.u8.wrap (a.toNat : Int) = (a.toUInt8.toNat : Int) := by
  rw [wrap_u8_mod, UInt32.toNat_toUInt8]
  have : (2 : Nat) ^ 8 = 256 := by decide
  omega

theorem sum_loop3 {f : Nat → UInt32} {env : Env} {m : Mem} {Q : EQ} {z : MO}
    (hE : LkE env [(2, .ptr 2 0), (6, .ptr 6 0), (7, .ptr 7 0), (48, .i (.int .i64 0))]) (hM : LkM m [(2, z), (6, .var ((w32 8 f).map .i)), (7, .var ((u8c 32 (oB f 0)).map .i))])
    (hQ : Q (.exit 4) [(2, .ptr 2 0), (7, .ptr 7 0)] [(2, z), (7, .var ((u8c 32 (oB f 32)).map .i))]) :
    LoopW Pg G0 Fb.sha256_Sum.ntmps (nthLoop Fb.sha256_Sum 2) env m Q := by
  refine loopX T_ok 4 (S := Nat) (S' := Unit) (fun i => [(2, .ptr 2 0), (6, .ptr 6 0), (7, .ptr 7 0), (48, .i (.int .i64 (i : Int)))]) (fun i => [(2, z), (6, .var ((w32 8 f).map .i)), (7, .var ((u8c 32 (oB f i)).map .i))]) (fun i => 32 - i) (fun i => i ≤ 32)
    (fun _ => [(2, .ptr 2 0), (7, .ptr 7 0)]) (fun _ => [(2, z), (7, .var ((u8c 32 (oB f 32)).map .i))]) (fun _ => True) 0 hE hM (by omega) ?_ (fun _ _ => hQ)
  intro i hi
  refine condP.split (fun g => ?_) (fun g => ?_)
  · have g' : i < 32 := by have : (i : Int) < 32 := of_decide_eq_true g; omega
    have h4 := div4 (i := i) (by omega)
    have hsh : IntKind.i64.wrap (24 - IntKind.i64.wrap (8 * ((i : Int).tmod 4))) = ((24 - 8 * (i % 4) : Nat) : Int) := by
      rw [Int.tmod_eq_emod_of_nonneg (by omega), wrap_i64 (a := 8 * ((i : Int) % 4)) (by omega) (by omega), wrap_i64 (by omega) (by omega)]; omega
    refine ⟨by decide, ?_⟩
    refine ⟨⟨?_, ?_⟩, ?_⟩
    · show 0 ≤ IntKind.i64.wrap ((i : Int).tdiv 4)
      rw [h4]; omega
    · show IntKind.i64.wrap ((i : Int).tdiv 4) < 8
      rw [h4]; omega
    refine withO.intro (q := .i (u32 (f (i / 4)))) ?_ ?_
    · show ((w32 8 f).map PV.i)[(IntKind.i64.wrap ((i : Int).tdiv 4)).toNat]? = _
      rw [h4]; exact w32_get _ (by omega)
    refine ⟨by decide, ?_⟩
    refine ⟨by show 0 ≤ IntKind.i64.wrap (24 - IntKind.i64.wrap (8 * ((i : Int).tmod 4))); rw [hsh]; omega, ?_⟩
    refine ⟨⟨by omega, by omega⟩, ?_⟩
    refine bifI ?_ ?_
    · show (true && Nat.ble ((i : Int).toNat + 1) ((u8c 32 (oB f i)).map PV.i).length) = true
      rw [List.length_map, u8c_len]; simp; omega
    refine ⟨i + 1, ⟨by omega, by omega⟩, ⟨rfl, rfl, rfl, congrArg (fun n => some (PV.i (IV.int .i64 n))) (int_succ (by omega)), trivial⟩, ⟨rfl, rfl, ?_, trivial⟩⟩
    refine u8c_store (oB f i) (i := i) (v := outB f i) rfl ?_ (by omega) ?_
    · show IV.int .u8 (IntKind.u8.wrap (((f (i / 4)).toNat : Int).fdiv (2 ^ (min (IntKind.i64.wrap (24 - IntKind.i64.wrap (8 * ((i : Int).tmod 4)))).toNat 32)))) = _
      rw [hsh, Int.toNat_natCast, u32_shr _ _ (by omega), u32_u8]
      rfl
    · intro j _
      unfold oB
      by_cases hj : j = i
      · subst hj; simp
      · rw [if_neg hj]
        by_cases h1 : j < i
        · rw [if_pos h1, if_pos (by omega)]
        · rw [if_neg h1, if_neg (by omega)]
  · have g' : i = 32 := by have : ¬ (i : Int) < 32 := of_decide_eq_false g; omega
    subst g'
    exact ⟨(), trivial, ⟨rfl, rfl, trivial⟩, ⟨rfl, rfl, trivial⟩⟩

theorem sha_b (s : List UInt8) {i : Nat} (h : i < 32) : (sha s).b i = outB (foldB H0 (padS s)) i := by
  simp [sha, Id.b, List.getD_eq_getElem?_getD, h]

theorem u8c_congr {n : Nat} {f g : Nat → UInt8} (h : ∀ i, i < n → f i = g i) : u8c n f = u8c n g := by
  apply List.map_congr_left
  intro i hi
  rw [h i (by simpa using hi)]

set_option maxRecDepth 100000 in
theorem sha256_Sum_ok (s : List UInt8) (hs : s.length < 1000000) : PureC Pg G0 Fn.sha256_Sum [.slice [.str s]] (encId (sha s)) := by
  refine pureW_of T_ok Fd.sha256_Sum rfl (by kernel_rfl) ?_
  refine CW.next T_ok ?_
  refine CW.next T_ok ?_
  refine ⟨_, _, _, pureCall (strings_Join_ok s hs) rfl, ?_⟩
  have e1 : IntKind.u64.wrap (IntKind.u64.wrap (s.length : Int) * 8) = ((s.length * 8 : Nat) : Int) := by
    rw [wrap_u64 (a := (s.length : Int)) (by omega) (by omega), wrap_u64 (by omega) (by omega)]; omega
  refine CW.cut T_ok (S := Unit) (fun _ => [(2, .ptr 2 0), (3, .i (.str s)), (4, .i (.int .u64 ((s.length * 8 : Nat) : Int)))]) (fun _ => [(2, .var ((u8c 32 fun _ => 0).map .i))]) (fun _ => True) ?_ ?_
  · refine ⟨(), trivial, ⟨rfl, rfl, ?_, trivial⟩, ⟨rfl, trivial⟩⟩
    rw [← e1]; rfl
  intro _ _
  refine CW.next T_ok ?_
  refine ⟨by show s.length + 1 ≤ _; omega, ?_⟩
  have e2 : (IntKind.i64.wrap (120 - (((s ++ [128]).length : Nat) : Int).tmod 64)).tmod 64 = (((120 - (s.length + 1) % 64) % 64 : Nat) : Int) := by
    have h : (((s ++ [128]).length : Nat) : Int).tmod 64 = (((s.length + 1) % 64 : Nat) : Int) := by
      rw [Int.tmod_eq_emod_of_nonneg (by omega)]; simp
    rw [h, wrap_i64 (a := 120 - _) (by omega) (by omega), Int.tmod_eq_emod_of_nonneg (by omega)]; omega
  refine CW.cut T_ok (S := Unit) (fun _ => [(2, .ptr 2 0), (3, .i (.str (s ++ [128] ++ List.replicate ((120 - (s.length + 1) % 64) % 64) 0))), (4, .i (.int .u64 ((s.length * 8 : Nat) : Int)))]) (fun _ => [(2, .var ((u8c 32 fun _ => 0).map .i))]) (fun _ => True) ?_ ?_
  · refine ⟨by decide, ?_⟩
    refine ⟨by decide, ?_⟩
    refine ⟨_, _, _, pureCall (strings_Repeat_ok ((120 - (s.length + 1) % 64) % 64) (by omega)) ?_, ?_⟩
    · show some [IV.str [0], IV.int .i64 ((IntKind.i64.wrap (120 - (((s ++ [128]).length : Nat) : Int).tmod 64)).tmod 64)] = _
      rw [e2]
    refine ⟨?_, ?_⟩
    · show (s ++ [128]).length + (List.replicate _ _).length ≤ _
      simp; omega
    exact ⟨(), trivial, ⟨rfl, rfl, rfl, trivial⟩, ⟨rfl, trivial⟩⟩
  intro _ _
  refine CW.go T_ok ?_
  refine sum_loop1 (b := s ++ [128] ++ List.replicate ((120 - (s.length + 1) % 64) % 64) 0) (n := s.length * 8) (by simp; omega) ⟨rfl, rfl, rfl, rfl, trivial⟩ ⟨rfl, trivial⟩ ?_
  refine sum_loop2 (t0 := padS s) (padS_len s).1 ⟨rfl, rfl, rfl, trivial⟩ ⟨rfl, rfl, trivial⟩ ?_
  refine sum_loop3 (f := foldB H0 (padS s)) ⟨rfl, rfl, rfl, rfl, trivial⟩ ⟨rfl, rfl, rfl, trivial⟩ ?_
  show some _ = some (encId (sha s))
  have : encId (sha s) = .agg (u8c 32 (oB (foldB H0 (padS s)) 32)) := by
    rw [encId, idC, u8c_congr (f := (sha s).b) (g := oB (foldB H0 (padS s)) 32) fun i hi => ?_]
    rw [sha_b s hi, oB, if_pos hi]
  rw [this]
  generalize oB (foldB H0 (padS s)) 32 = h
  rfl

set_option maxRecDepth 100000 in
theorem object_Id_ok (s : List UInt8) (hs : s.length < 1000000) : PureC Pg G0 Fn.object_Id [.str s] (encId (sha s)) := by
  refine pureC_of T_ok Fd.object_Id rfl (by kernel_rfl) ?_
  refine ⟨_, _, _, pureCall (sha256_Sum_ok s hs) rfl, ?_⟩
  show some _ = some (encId (sha s))
  generalize sha s = x
  rfl
end Go.Kn
