/- The law's package of layer 12: Few, Named. -/
import Derived.Test.YtiibdlpfgmeifaaGreatDoorKn12
import Derived.Test.YtiibdlpfgmeifaaGreatDoorKn10
import Derived.Test.YtiibdlpfgmeifaaGreatDoorKn06
import Derived.Test.YtiibdlpfgmeifaaGreatDoorKn11
set_option autoImplicit false
set_option maxRecDepth 100000
namespace Go.Kn
open Go Go.Proofs
variable {G : Gl}
def fewH (h : Hist) : Bool := fewB 24 h.seeds && decide (h.out.length ≤ 10) && decide (h.frm.length ≤ 10) && decide (h.cut.length ≤ 10)
def keptH (m : List RItem) (gone : List Id) : List RItem := m.filter fun x => !inB gone x.id
def leftH (h : Hist) : List RItem := if (growR h.seeds).2 = [] then (growR h.seeds).1 else keptH (growR h.seeds).1 (idsL (growR h.seeds).2 h.out)
def fewV (h : Hist) : IV := if fewH h then .tup [encSt (leftH h), .bool true] else .tup [encSt [], .bool false]
theorem Corr.filter {m : List RItem} (h : Corr m) (p : RItem → Bool) : Corr (m.filter p) := by
  refine ⟨?_, fun x hx => h.ok x (List.mem_filter.1 hx).1⟩
  have h1 := h.rising
  unfold Rising at h1 ⊢
  rw [List.pairwise_map] at h1 ⊢
  exact h1.sublist List.filter_sublist
theorem leftH_corr (H : SameDec) (h : Hist) : Corr (leftH h) := by
  unfold leftH
  split
  · exact growR_corr H _
  · exact (growR_corr H _).filter _
theorem growR_len1 (l : List Seed) : (growR l).1.length ≤ l.length ∧ (growR l).2.length ≤ l.length := by
  have := growR_len l l.length (Nat.le_refl _)
  rwa [List.take_length] at this
theorem leftH_len (h : Hist) : (leftH h).length ≤ h.seeds.length := by
  have h1 := (growR_len1 h.seeds).1
  unfold leftH
  split
  · exact h1
  · have := List.length_filter_le (fun x : RItem => !inB (idsL (growR h.seeds).2 h.out) x.id) (growR h.seeds).1
    unfold keptH
    omega
def hiM (h : Hist) : MO := .var [.i (.slice (h.seeds.map encSeed)), .i (.slice (u8s h.out)), .i (.slice (u8s h.frm)), .i (.slice (u8s h.cut))]
def fwE (gone : List Id) (i : Nat) : Env := [(2, .ptr 2 0), (5, .ptr 5 0), (7, .i (.slice (gone.map encId))), (8, .ptr 8 0), (9, .i (.int .i64 (i : Int)))]
def fwM (m l : List RItem) : Mem := [(2, .var [.full []]), (5, mS m), (8, .var [.tok 900 105 (l.map encRItem)]), (900, .tip)]
theorem kept_succ {m : List RItem} {gone : List Id} {i : Nat} (h : i < m.length) : keptH (m.take (i + 1)) gone = if inB gone m[i].id then keptH (m.take i) gone else keptH (m.take i) gone ++ [m[i]] := by
  unfold keptH
  rw [List.take_succ_eq_append_getElem h, List.filter_append]
  cases hp : inB gone m[i].id <;> simp [hp]
set_option maxHeartbeats 1000000 in
theorem law12_Few_ok (h : Hist) : PureC Pg G Fn.law12_Few [encHist h] (fewV h) := by
  refine pureW_of T_ok Fd.law12_Few rfl (by kernel_rfl) ?_
  refine CW.next T_ok ?_
  refine CW.next T_ok ?_
  refine ⟨_, _, _, pureCall (ref11_Few_ok 24 (by decide) h.seeds) rfl, ?_⟩
  refine CW.next T_ok ?_
  have no : fewH h = false → some (IV.tup [.agg [.slice []], .bool false]) = some (fewV h) := fun e => by rw [fewV, e]; rfl
  cases hf : fewB 24 h.seeds with
  | false => exact no (by rw [fewH, hf]; rfl)
  | true =>
    obtain ⟨hl, ht⟩ := fewB_ok hf
    refine condP.split (fun g => ?_) (fun g => ?_)
    · refine no ?_
      have h1 : ((u8s h.out).length : Int) > 10 := of_decide_eq_true g
      rw [lenU] at h1
      rw [fewH, hf, decide_eq_false (show ¬ h.out.length ≤ 10 by omega)]; rfl
    have e1 : h.out.length ≤ 10 := by
      have h1 : ¬ ((u8s h.out).length : Int) > 10 := of_decide_eq_false g
      rw [lenU] at h1; omega
    refine condP.split (fun g => ?_) (fun g => ?_)
    · refine no ?_
      have h1 : ((u8s h.frm).length : Int) > 10 := of_decide_eq_true g
      rw [lenU] at h1
      rw [fewH, hf, decide_eq_true e1, decide_eq_false (show ¬ h.frm.length ≤ 10 by omega)]; rfl
    have e2 : h.frm.length ≤ 10 := by
      have h1 : ¬ ((u8s h.frm).length : Int) > 10 := of_decide_eq_false g
      rw [lenU] at h1; omega
    refine condP.split (fun g => ?_) (fun g => ?_)
    · refine no ?_
      have h1 : ((u8s h.cut).length : Int) > 10 := of_decide_eq_true g
      rw [lenU] at h1
      rw [fewH, hf, decide_eq_true e1, decide_eq_true e2, decide_eq_false (show ¬ h.cut.length ≤ 10 by omega)]; rfl
    have e3 : h.cut.length ≤ 10 := by
      have h1 : ¬ ((u8s h.cut).length : Int) > 10 := of_decide_eq_false g
      rw [lenU] at h1; omega
    have hfw : fewH h = true := by rw [fewH, hf, decide_eq_true e1, decide_eq_true e2, decide_eq_true e3]; rfl
    have yes : some (IV.tup [encSt (leftH h), .bool true]) = some (fewV h) := by rw [fewV, if_pos hfw]
    have hgr := ref11_Grow_ok (G := G) h.seeds (by omega) ht
    obtain ⟨l1, l2⟩ := growR_len1 h.seeds
    have hlf : leftH h = if (growR h.seeds).2 = [] then (growR h.seeds).1 else keptH (growR h.seeds).1 (idsL (growR h.seeds).2 h.out) := rfl
    refine CW.next T_ok ?_
    refine ⟨_, _, _, pureCall hgr rfl, ?_⟩
    generalize (growR h.seeds).2 = ids at *
    generalize (growR h.seeds).1 = m at *
    refine CW.next T_ok ?_
    refine condP.split (fun g => ?_) (fun g => ?_)
    · have g' : ids = [] := by
        have h1 : (((ids.map encId).length : Int) == 0) = true := g
        have := eq_of_beq h1
        rw [List.length_map] at this
        exact List.eq_nil_of_length_eq_zero (by omega)
      rw [if_pos g'] at hlf
      rw [hlf] at yes
      exact yes
    · have g' : ids ≠ [] := by
        have h1 : (((ids.map encId).length : Int) == 0) = false := g
        intro e; subst e; exact absurd h1 (by decide)
      rw [if_neg g'] at hlf
      have hids := law12_Ids_ok (G := G) ids h.out (by omega) (by omega)
      refine CW.next T_ok ?_
      refine ⟨_, _, _, pureCall hids rfl, ?_⟩
      have hgl : (idsL ids h.out).length ≤ 10 := by rw [idsL, List.length_map]; exact e1
      generalize idsL ids h.out = gone at *
      refine CW.next T_ok ?_
      refine CW.tok0 900 rfl rfl (env' := [(2, .ptr 2 0), (5, .ptr 5 0), (7, .i (.slice (gone.map encId))), (8, .ptr 8 0)]) (m' := fwM m []) ⟨⟨_, rfl, .refl _⟩, ⟨_, rfl, .refl _⟩, ⟨_, rfl, .refl _⟩, ⟨_, rfl, .refl _⟩, trivial⟩
        ⟨.inr ⟨by decide, _, rfl, .refl _⟩, .inr ⟨by decide, _, rfl, .refl _⟩, .inr ⟨by decide, _, rfl, .var _ _ ⟨.tok 105, rfl⟩⟩, .inl ⟨rfl, .tip⟩, trivial⟩ ?_
      refine CW.go T_ok ?_
      refine loopX T_ok 0 (S := Nat) (S' := Unit) (fun i => fwE gone i) (fun i => fwM m (keptH (m.take i) gone)) (fun i => m.length - i) (fun i => i ≤ m.length) (fun _ => [(2, .ptr 2 0), (8, .ptr 8 0)]) (fun _ => [(2, .var [.full []]), (8, .var [.tok 900 105 ((keptH m gone).map encRItem)]), (900, .tip)]) (fun _ => True) 0
        ⟨rfl, rfl, rfl, rfl, rfl, trivial⟩ ⟨rfl, rfl, rfl, rfl, trivial⟩ (by omega) ?_ ?_
      · intro i hi
        refine condP.split (fun g => ?_) (fun g => ?_)
        · have g' := idx_lt g
          have hs := kept_succ (gone := gone) g'
          have hkl : (keptH (m.take i) gone).length ≤ i := by
            have := List.length_filter_le (fun x : RItem => !inB gone x.id) (m.take i)
            unfold keptH
            simp at this ⊢; omega
          generalize keptH (m.take i) gone = kl at *
          refine ⟨encRItem m[i], idx_get encRItem g', ?_⟩
          refine ⟨_, _, _, pureCall (ref02_In_ok gone m[i].id (by omega)) rfl, ?_⟩
          cases hin : inB gone m[i].id with
          | true =>
            rw [hin] at hs
            simp only [if_true] at hs
            refine ⟨i + 1, ⟨by omega, by omega⟩, ⟨rfl, rfl, rfl, rfl, i_succ (by omega), trivial⟩, ?_⟩
            rw [hs]
            exact ⟨rfl, rfl, rfl, rfl, trivial⟩
          | false =>
            rw [hin] at hs
            simp only [Bool.false_eq_true, if_false] at hs
            refine drawW T_ok (by decide +kernel) ?_
            refine ⟨encRItem m[i], idx_get encRItem g', ?_⟩
            refine ⟨⟨⟨hasSize_rit _, hasSize_one (encRItem_len m[i])⟩, szOK (by simp; omega) (by kernel_rfl)⟩, ?_⟩
            refine ⟨by kernel_rfl, ?_⟩
            refine ⟨i + 1, ⟨by omega, by omega⟩, ⟨rfl, rfl, rfl, rfl, i_succ (by omega), trivial⟩, ?_⟩
            rw [hs]
            refine ⟨rfl, rfl, ?_, rfl, trivial⟩
            rw [List.map_append]; rfl
        · have g' := idx_ge g hi
          subst g'
          rw [List.take_length]
          exact ⟨(), trivial, ⟨rfl, rfl, trivial⟩, ⟨rfl, rfl, rfl, trivial⟩⟩
      · intro _ _
        rw [hlf] at yes
        exact yes
theorem law12_Named_ok (h : Hist) (hf : fewH h = true) : PureC Pg G Fn.law12_Named [encHist h] (.slice ((growR h.seeds).2.map encId)) := by
  have hfb : fewB 24 h.seeds = true := by
    simp only [fewH, Bool.and_eq_true] at hf
    exact hf.1.1.1
  obtain ⟨hl, ht⟩ := fewB_ok hfb
  refine pureC_of T_ok Fd.law12_Named rfl (by kernel_rfl) ?_
  refine ⟨_, _, _, pureCall (ref11_Grow_ok (G := G) h.seeds (by omega) ht) rfl, ?_⟩
  rfl
end Go.Kn
set_option maxRecDepth 100000
namespace Go.Kn
open Go Go.Proofs
theorem law11_Of_frz (H : SameDec) (m : List RItem) (h : Corr m) (hm : m.length < 10000) : Body Pg Fn.law11_Of ∧ AC Pg G0 Fn.law11_Of ([encSt m].map .i) [] (.i (stR m)) [] := by
  have h1 := law11_Of_ok H m h hm
  have e : (m.map toItem).length = ((m.map toItem).map encItem).length := by simp
  have h2 : Body Pg Fn.law11_Of ∧ AC Pg G0 Fn.law11_Of [.i (encSt m)] [] (.ptr 1000 0) [(1000, .var [.vec 1001 33 0 ((m.map toItem).map encItem).length]), (1001, .vec 33 (((m.map toItem).map encItem).map .i) none)] := by
    rw [← e]; exact h1
  exact AC.froze1 h2 (by decide)
end Go.Kn
set_option maxRecDepth 100000
namespace Go.Kn
open Go Go.Proofs
section
variable {α : Type}
def fw (x : UInt32) (k : UInt32 → α) : α := frc x.toNat fun n => k (UInt32.ofNat n)
theorem fw_eq (x : UInt32) (k : UInt32 → α) : fw x k = k x := by rw [fw, frc_eq, UInt32.ofNat_toNat]
def ini (t : List UInt8) : Nat → List UInt32 → (List UInt32 → α) → α
  | 0, l, k => k l
  | n + 1, l, k => fw (fB t 64 l.length) fun w => ini t n (w :: l) k
def sch : Nat → List UInt32 → (List UInt32 → α) → α
  | 0, l, k => k l
  | n + 1, l, k => fw (l.getD 15 0 + l.getD 6 0 + sig0 (l.getD 14 0) + sig1 (l.getD 1 0)) fun w => sch n (w :: l) k
def rn : List UInt32 → List UInt32 → UInt32 → UInt32 → UInt32 → UInt32 → UInt32 → UInt32 → UInt32 → UInt32 → (UInt32 → UInt32 → UInt32 → UInt32 → UInt32 → UInt32 → UInt32 → UInt32 → α) → α
  | K :: ks, W :: ws, a, b, c, d, e, f, g, h, k =>
    fw (h + ((rotl e 26 ^^^ rotl e 21) ^^^ rotl e 7) + ((e &&& f) ^^^ (~~~e &&& g)) + K + W) fun x =>
    fw (x + (((rotl a 30 ^^^ rotl a 19) ^^^ rotl a 10) + (((a &&& b) ^^^ (a &&& c)) ^^^ (b &&& c)))) fun a' => fw (d + x) fun e' => rn ks ws a' a b c e' e f g k
  | _, _, a, b, c, d, e, f, g, h, k => k a b c d e f g h
def f8 (a b c d e f g h : UInt32) : Nat → UInt32
  | 0 => a | 1 => b | 2 => c | 3 => d | 4 => e | 5 => f | 6 => g | _ => h
def blkE (t : List UInt8) (a b c d e f g h : UInt32) (k : UInt32 → UInt32 → UInt32 → UInt32 → UInt32 → UInt32 → UInt32 → UInt32 → α) : α :=
  ini t 16 [] fun l => sch 48 l fun l => rn kL l.reverse a b c d e f g h fun a' b' c' d' e' f' g' h' =>
    fw (a' + a) fun a2 => fw (b' + b) fun b2 => fw (c' + c) fun c2 => fw (d' + d) fun d2 => fw (e' + e) fun e2 => fw (f' + f) fun f2 => fw (g' + g) fun g2 => fw (h' + h) fun h2 => k a2 b2 c2 d2 e2 f2 g2 h2
def foldE : Nat → List UInt8 → UInt32 → UInt32 → UInt32 → UInt32 → UInt32 → UInt32 → UInt32 → UInt32 → (UInt32 → UInt32 → UInt32 → UInt32 → UInt32 → UInt32 → UInt32 → UInt32 → α) → α
  | 0, _, a, b, c, d, e, f, g, h, k => k a b c d e f g h
  | n + 1, t, a, b, c, d, e, f, g, h, k => blkE (t.take 64) a b c d e f g h fun a b c d e f g h => foldE n (t.drop 64) a b c d e f g h k
def revW (t : List UInt8) (i : Nat) : List UInt32 := ((List.range i).map (wd t)).reverse
theorem revW_succ (t : List UInt8) (i : Nat) : revW t (i + 1) = wd t i :: revW t i := by simp [revW, List.range_succ]
theorem revW_len (t : List UInt8) (i : Nat) : (revW t i).length = i := by simp [revW]
theorem revW_get (t : List UInt8) {i j : Nat} (h : j < i) : (revW t i).getD j 0 = wd t (i - 1 - j) := by
  rw [List.getD_eq_getElem?_getD, revW, List.getElem?_reverse (by simpa using h)]
  simp [show i - 1 - j < i by omega]
theorem wd_lo (t : List UInt8) {i : Nat} (h : i < 16) : wd t i = fB t 64 i := by rw [wd, if_pos h]
theorem wd_hi (t : List UInt8) {i : Nat} (h : ¬ i < 16) : wd t i = wd t (i - 16) + wd t (i - 7) + sig0 (wd t (i - 15)) + sig1 (wd t (i - 2)) := by rw [wd, if_neg h]
theorem ini_eq (t : List UInt8) (k : List UInt32 → α) : ∀ n i : Nat, i + n ≤ 16 → ini t n (revW t i) k = k (revW t (i + n))
  | 0, i, _ => rfl
  | n + 1, i, h => by
    rw [ini, fw_eq, revW_len, ← wd_lo t (show i < 16 by omega), ← revW_succ, ini_eq t k n (i + 1) (by omega), show i + 1 + n = i + (n + 1) by omega]
theorem sch_eq (t : List UInt8) (k : List UInt32 → α) : ∀ n i : Nat, 16 ≤ i → sch n (revW t i) k = k (revW t (i + n))
  | 0, i, _ => rfl
  | n + 1, i, h => by
    rw [sch, fw_eq, revW_get t (show 15 < i by omega), revW_get t (show 6 < i by omega), revW_get t (show 14 < i by omega), revW_get t (show 1 < i by omega)]
    rw [show i - 1 - 15 = i - 16 by omega, show i - 1 - 6 = i - 7 by omega, show i - 1 - 14 = i - 15 by omega, show i - 1 - 1 = i - 2 by omega, ← wd_hi t (show ¬ i < 16 by omega), ← revW_succ, sch_eq t k n (i + 1) (by omega), show i + 1 + n = i + (n + 1) by omega]
theorem rnd_f8 (a b c d e f g h K W : UInt32) : rnd (f8 a b c d e f g h) K W = f8 (h + ((rotl e 26 ^^^ rotl e 21) ^^^ rotl e 7) + ((e &&& f) ^^^ (~~~e &&& g)) + K + W + (((rotl a 30 ^^^ rotl a 19) ^^^ rotl a 10) + (((a &&& b) ^^^ (a &&& c)) ^^^ (b &&& c)))) a b c
    (d + (h + ((rotl e 26 ^^^ rotl e 21) ^^^ rotl e 7) + ((e &&& f) ^^^ (~~~e &&& g)) + K + W)) e f g := by
  funext i
  match i with
  | 0 | 1 | 2 | 3 | 4 | 5 | 6 => rfl
  | _ + 7 => rfl
def rndsF (f : Nat → UInt32) (W : Nat → UInt32) (i : Nat) : Nat → Nat → UInt32
  | 0 => f
  | n + 1 => rndsF (rnd f (kF i) (W i)) W (i + 1) n
theorem rndsF_eq (f W : Nat → UInt32) : ∀ n i : Nat, rndsF (rnds f W i) W i n = rnds f W (i + n)
  | 0, i => rfl
  | n + 1, i => by
    rw [rndsF, show rnd (rnds f W i) (kF i) (W i) = rnds f W (i + 1) from rfl, rndsF_eq f W n (i + 1), show i + 1 + n = i + (n + 1) by omega]
theorem rn_eq (W : Nat → UInt32) (k : UInt32 → UInt32 → UInt32 → UInt32 → UInt32 → UInt32 → UInt32 → UInt32 → α) : ∀ (n i : Nat) (a b c d e f g h : UInt32),
    rn ((List.range n).map fun j => kF (i + j)) ((List.range n).map fun j => W (i + j)) a b c d e f g h k =
      (fun F : Nat → UInt32 => k (F 0) (F 1) (F 2) (F 3) (F 4) (F 5) (F 6) (F 7)) (rndsF (f8 a b c d e f g h) W i n)
  | 0, i, a, b, c, d, e, f, g, h => rfl
  | n + 1, i, a, b, c, d, e, f, g, h => by
    rw [List.range_succ_eq_map, List.map_cons, List.map_cons, List.map_map, List.map_map, rn, fw_eq, fw_eq, fw_eq]
    have e1 : ((fun j => kF (i + j)) ∘ Nat.succ) = fun j => kF (i + 1 + j) := by funext j; simp only [Function.comp]; rw [show i + j.succ = i + 1 + j by omega]
    have e2 : ((fun j => W (i + j)) ∘ Nat.succ) = fun j => W (i + 1 + j) := by funext j; simp only [Function.comp]; rw [show i + j.succ = i + 1 + j by omega]
    rw [e1, e2, rn_eq W k n (i + 1)]
    simp only [rndsF, Nat.add_zero, rnd_f8]
theorem blkE_eq (t : List UInt8) (a b c d e f g h : UInt32) (k : UInt32 → UInt32 → UInt32 → UInt32 → UInt32 → UInt32 → UInt32 → UInt32 → α) :
    blkE t a b c d e f g h k = (fun F : Nat → UInt32 => k (F 0) (F 1) (F 2) (F 3) (F 4) (F 5) (F 6) (F 7)) (blk (f8 a b c d e f g h) t) := by
  unfold blkE
  have h0 : ([] : List UInt32) = revW t 0 := rfl
  rw [h0, ini_eq t _ 16 0 (by omega), sch_eq t _ 48 (0 + 16) (by omega)]
  have hk : kL = (List.range 64).map fun j => kF (0 + j) := by decide +kernel
  have hw : (revW t (0 + 16 + 48)).reverse = (List.range 64).map fun j => wd t (0 + j) := by
    rw [revW, List.reverse_reverse]
    simp
  rw [hw, hk, rn_eq]
  simp only [fw_eq]
  have := rndsF_eq (f8 a b c d e f g h) (wd t) 64 0
  rw [show rnds (f8 a b c d e f g h) (wd t) 0 = f8 a b c d e f g h from rfl] at this
  rw [this]
  rfl
theorem rnds_congr {f g W : Nat → UInt32} (h : ∀ i, i < 8 → f i = g i) : ∀ n i, i < 8 → rnds f W n i = rnds g W n i
  | 0, i, hi => h i hi
  | n + 1, i, hi => by
    have ih := rnds_congr (W := W) h n
    match i, hi with
    | 0, _ => simp only [rnds, rnd, X1, Y1, ih 0 (by omega), ih 1 (by omega), ih 2 (by omega), ih 4 (by omega), ih 5 (by omega), ih 6 (by omega), ih 7 (by omega)]
    | 1, _ => simp only [rnds, rnd, ih 0 (by omega)]
    | 2, _ => simp only [rnds, rnd, ih 1 (by omega)]
    | 3, _ => simp only [rnds, rnd, ih 2 (by omega)]
    | 4, _ => simp only [rnds, rnd, X1, ih 3 (by omega), ih 4 (by omega), ih 5 (by omega), ih 6 (by omega), ih 7 (by omega)]
    | 5, _ => simp only [rnds, rnd, ih 4 (by omega)]
    | 6, _ => simp only [rnds, rnd, ih 5 (by omega)]
    | 7, _ => simp only [rnds, rnd, ih 6 (by omega)]
    | _ + 8, h => omega
theorem blk_congr {f g : Nat → UInt32} (t : List UInt8) (h : ∀ i, i < 8 → f i = g i) (i : Nat) (hi : i < 8) : blk f t i = blk g t i := by
  rw [blk, blk, rnds_congr h 64 i hi, h i hi]
theorem foldB_congr : ∀ (n : Nat) (f g : Nat → UInt32) (t : List UInt8), t.length ≤ n → (∀ i, i < 8 → f i = g i) → ∀ i, i < 8 → foldB f t i = foldB g t i
  | 0, f, g, t, hn, h, i, hi => by rw [foldB, dif_neg (by omega), foldB, dif_neg (by omega)]; exact h i hi
  | n + 1, f, g, t, hn, h, i, hi => by
    rw [foldB]
    conv => rhs; rw [foldB]
    by_cases hl : 64 ≤ t.length
    · rw [dif_pos hl, dif_pos hl]
      exact foldB_congr n _ _ _ (by simp; omega) (blk_congr _ h) i hi
    · rw [dif_neg hl, dif_neg hl]; exact h i hi
theorem foldE_eq (k : UInt32 → UInt32 → UInt32 → UInt32 → UInt32 → UInt32 → UInt32 → UInt32 → α) : ∀ (n : Nat) (t : List UInt8) (a b c d e f g h : UInt32), t.length = 64 * n →
    foldE n t a b c d e f g h k = (fun F : Nat → UInt32 => k (F 0) (F 1) (F 2) (F 3) (F 4) (F 5) (F 6) (F 7)) (foldB (f8 a b c d e f g h) t)
  | 0, t, a, b, c, d, e, f, g, h, hl => by rw [foldE, foldB, dif_neg (by omega)]; rfl
  | n + 1, t, a, b, c, d, e, f, g, h, hl => by
    rw [foldE, blkE_eq]
    simp only
    rw [foldE_eq k n _ _ _ _ _ _ _ _ _ (by simp; omega)]
    have key : ∀ i, i < 8 → foldB (f8 (blk (f8 a b c d e f g h) (t.take 64) 0) (blk (f8 a b c d e f g h) (t.take 64) 1) (blk (f8 a b c d e f g h) (t.take 64) 2) (blk (f8 a b c d e f g h) (t.take 64) 3) (blk (f8 a b c d e f g h) (t.take 64) 4) (blk (f8 a b c d e f g h) (t.take 64) 5) (blk (f8 a b c d e f g h) (t.take 64) 6) (blk (f8 a b c d e f g h) (t.take 64) 7)) (t.drop 64) i = foldB (f8 a b c d e f g h) t i := by
      intro i hi
      conv => rhs; rw [foldB, dif_pos (show 64 ≤ t.length by omega)]
      refine foldB_congr _ _ _ _ (Nat.le_refl _) (fun j hj => ?_) i hi
      match j, hj with
      | 0, _ | 1, _ | 2, _ | 3, _ | 4, _ | 5, _ | 6, _ | 7, _ => rfl
      | _ + 8, h => omega
    simp only [key 0 (by omega), key 1 (by omega), key 2 (by omega), key 3 (by omega), key 4 (by omega), key 5 (by omega), key 6 (by omega), key 7 (by omega)]
end
def idW (l : List UInt32) : Id := ⟨(List.range 32).map (outB fun i => l.getD i 0), by simp⟩
def shaChk (n : Nat) (s t : List UInt8) (l : List UInt32) : Bool :=
  decide (padS s = t) && decide (t.length = 64 * n) && foldE n t 1779033703 3144134277 1013904242 2773480762 1359893119 2600822924 528734635 1541459225 fun a b c d e f g h => decide (l = [a, b, c, d, e, f, g, h])
theorem sha_of {n : Nat} {s t : List UInt8} {l : List UInt32} (h : shaChk n s t l = true) : sha s = idW l := by
  simp only [shaChk, Bool.and_eq_true, decide_eq_true_eq] at h
  obtain ⟨⟨rfl, h1⟩, h2⟩ := h
  rw [foldE_eq _ _ _ _ _ _ _ _ _ _ _ h1] at h2
  have h2 := of_decide_eq_true h2
  have h3 : ∀ i, i < 8 → foldB H0 (padS s) i = l.getD i 0 := by
    intro i hi
    rw [foldB_congr _ H0 (f8 1779033703 3144134277 1013904242 2773480762 1359893119 2600822924 528734635 1541459225) _ (Nat.le_refl _) (fun j hj => by
      match j, hj with
      | 0, _ | 1, _ | 2, _ | 3, _ | 4, _ | 5, _ | 6, _ | 7, _ => rfl
      | _ + 8, h => omega) i hi, h2]
    match i, hi with
    | 0, _ | 1, _ | 2, _ | 3, _ | 4, _ | 5, _ | 6, _ | 7, _ => rfl
    | _ + 8, h => omega
  apply Id.ext
  simp only [sha, idW]
  refine List.map_congr_left fun i hi => ?_
  have : i < 32 := by simpa using hi
  simp only [outB]
  rw [h3 _ (by omega)]
def exT1 : List UInt8 := [2, 0]
def exI1 : Id := ⟨[153, 190, 94, 251, 136, 202, 32, 19, 189, 142, 78, 176, 53, 253, 66, 213, 36, 84, 104, 254, 154, 250, 112, 216, 186, 156, 28, 65, 154, 72, 196, 232], rfl⟩
def exT2 : List UInt8 := [3, 35] ++ exI1.bytes ++ [0, 9, 0]
def exI2 : Id := ⟨[229, 55, 53, 241, 166, 141, 183, 27, 128, 163, 185, 184, 144, 142, 67, 6, 32, 134, 214, 232, 240, 32, 105, 86, 98, 145, 120, 77, 154, 115, 197, 227], rfl⟩
def exT3 : List UInt8 := [3, 67] ++ exI1.bytes ++ [1] ++ exI2.bytes ++ [5, 0]
def exI3 : Id := ⟨[119, 171, 47, 108, 15, 145, 145, 101, 26, 5, 196, 87, 239, 97, 118, 126, 110, 199, 103, 16, 127, 245, 234, 75, 141, 88, 214, 253, 243, 196, 181, 144], rfl⟩
theorem ex_sha1 : sha exT1 = exI1 := by
  rw [sha_of (n := 1) (t := [2, 0, 128, 0, 0, 0, 0, 0, 0, 0, 0, 0, 0, 0, 0, 0, 0, 0, 0, 0, 0, 0, 0, 0, 0, 0, 0, 0, 0, 0, 0, 0, 0, 0, 0, 0, 0, 0, 0, 0, 0, 0, 0, 0, 0, 0, 0, 0, 0, 0, 0, 0, 0, 0, 0, 0, 0, 0, 0, 0, 0, 0, 0, 16]) (l := [2579390203, 2294947859, 3180220080, 905790165, 609511678, 2600104152, 3130793025, 2588460264]) (by decide +kernel)]
  apply Id.ext
  decide +kernel
theorem ex_sha2 : sha exT2 = exI2 := by
  rw [sha_of (n := 1) (t := [3, 35, 153, 190, 94, 251, 136, 202, 32, 19, 189, 142, 78, 176, 53, 253, 66, 213, 36, 84, 104, 254, 154, 250, 112, 216, 186, 156, 28, 65, 154, 72, 196, 232, 0, 9, 0, 128, 0, 0, 0, 0, 0, 0, 0, 0, 0, 0, 0, 0, 0, 0, 0, 0, 0, 0, 0, 0, 0, 0, 0, 0, 1, 40]) (l := [3845600753, 2794305307, 2158213560, 2425242374, 545707752, 4028655958, 1653700685, 2591278563]) (by decide +kernel)]
  apply Id.ext
  decide +kernel
theorem ex_sha3 : sha exT3 = exI3 := by
  rw [sha_of (n := 2) (t := [3, 67, 153, 190, 94, 251, 136, 202, 32, 19, 189, 142, 78, 176, 53, 253, 66, 213, 36, 84, 104, 254, 154, 250, 112, 216, 186, 156, 28, 65, 154, 72, 196, 232, 1, 229, 55, 53, 241, 166, 141, 183, 27, 128, 163, 185, 184, 144, 142, 67, 6, 32, 134, 214, 232, 240, 32, 105, 86, 98, 145, 120, 77, 154, 115, 197, 227, 5, 0, 128, 0, 0, 0, 0, 0, 0, 0, 0, 0, 0, 0, 0, 0, 0, 0, 0, 0, 0, 0, 0, 0, 0, 0, 0, 0, 0, 0, 0, 0, 0, 0, 0, 0, 0, 0, 0, 0, 0, 0, 0, 0, 0, 0, 0, 0, 0, 0, 0, 0, 0, 0, 0, 0, 0, 0, 0, 2, 40]) (l := [2007707500, 261198181, 436585559, 4016141950, 1858561808, 2146822731, 2371409661, 4089755024]) (by decide +kernel)]
  apply Id.ext
  decide +kernel
end Go.Kn
namespace Go.Kn
open Go Go.Proofs
def canT : List UInt8 → Prop
  | [] => False
  | [c] => 0 < c.toNat ∧ c.toNat < 128
  | c :: d :: r => 128 ≤ c.toNat ∧ canT (d :: r)
theorem canT_cons {c : UInt8} {r : List UInt8} (h : 128 ≤ c.toNat) (hr : canT r) : canT (c :: r) := by
  cases r with
  | nil => exact hr.elim
  | cons d r => exact ⟨h, hr⟩
theorem canT_val : ∀ {l : List UInt8}, canT l → 0 < valS l ∧ putS (valS l) = l
  | [], h => h.elim
  | [c], h => by
    have hv : valS [c] = c.toNat := by simp [valS]; have := h.2; omega
    rw [hv]
    refine ⟨h.1, ?_⟩
    rw [putS_small h.2]
    simp
  | c :: d :: r, h => by
    obtain ⟨h1, h2⟩ := canT_val h.2
    have hv : valS (c :: d :: r) = c.toNat % 128 + 128 * valS (d :: r) := rfl
    rw [hv]
    refine ⟨by omega, ?_⟩
    have hc := c.toNat_lt
    have hc1 := h.1
    rw [putS_big (by omega)]
    rw [show (c.toNat % 128 + 128 * valS (d :: r)) / 128 = valS (d :: r) by omega, h2, show 128 + (c.toNat % 128 + 128 * valS (d :: r)) % 128 = c.toNat by omega]
    simp
theorem putS_can : ∀ (n : Nat), 0 < n → canT (putS n) ∧ valS (putS n) = n := by
  intro n
  induction n using Nat.strongRecOn with
  | _ n ih =>
    intro h
    by_cases hn : n < 128
    · rw [putS_small hn]
      have : (UInt8.ofNat n).toNat = n := by simp; omega
      refine ⟨⟨by rw [this]; exact h, by rw [this]; exact hn⟩, ?_⟩
      simp only [valS, this]; omega
    · rw [putS_big hn]
      obtain ⟨h1, h2⟩ := ih (n / 128) (by omega) (by omega)
      have : (UInt8.ofNat (128 + n % 128)).toNat = 128 + n % 128 := by simp; omega
      refine ⟨canT_cons (by rw [this]; omega) h1, ?_⟩
      simp only [valS, this, h2]; omega
theorem endOf_can : ∀ {l : List UInt8} (_ : canT l) (rest : List UInt8) (k : Nat), l.length ≤ k → endOf k (l ++ rest) + 1 = l.length ∧ 0 < ((l ++ rest).getD (endOf k (l ++ rest)) 0).toNat
  | [], h, _, _, _ => h.elim
  | [c], h, rest, k, hk => by
    cases k with
    | zero => simp at hk
    | succ k =>
      have hc : ¬ 128 ≤ c.toNat := by have := h.2; omega
      have he : endOf (k + 1) ([c] ++ rest) = 0 := by simp only [List.cons_append, List.nil_append, endOf, if_neg hc]
      rw [he]
      exact ⟨rfl, h.1⟩
  | c :: d :: r, h, rest, k, hk => by
    cases k with
    | zero => simp at hk
    | succ k =>
      obtain ⟨h1, h2⟩ := endOf_can h.2 rest k (by simpa using hk)
      have he : endOf (k + 1) (c :: d :: r ++ rest) = endOf k (d :: r ++ rest) + 1 := by simp only [List.cons_append, endOf, if_pos h.1]
      rw [he]
      exact ⟨by rw [h1]; rfl, h2⟩
theorem end_can : ∀ (k : Nat) (s : List UInt8), endOf k s < k → endOf k s < s.length → 0 < (s.getD (endOf k s) 0).toNat → canT (s.take (endOf k s + 1))
  | 0, _, h, _, _ => by simp at h
  | k + 1, [], _, h, _ => by simp at h
  | k + 1, c :: r, h1, h2, h3 => by
    by_cases hc : 128 ≤ c.toNat
    · have he : endOf (k + 1) (c :: r) = endOf k r + 1 := by simp only [endOf, if_pos hc]
      rw [he] at h1 h2 h3 ⊢
      exact canT_cons hc (end_can k r (by omega) (by simpa using h2) h3)
    · have he : endOf (k + 1) (c :: r) = 0 := by simp only [endOf, if_neg hc]
      rw [he] at h3 ⊢
      exact ⟨h3, by omega⟩
theorem can_last : ∀ {l : List UInt8}, canT l → (l.getD (l.length - 1) 0).toNat < 128
  | [], h => h.elim
  | [c], h => h.2
  | c :: d :: r, h => by
    have := can_last h.2
    simpa using this
theorem putS_zero : putS 0 = [0] := putS_small (by decide)
theorem getO_put {n : Nat} (hn : n < 18446744073709551616) (rest : List UInt8) : getO (putS n ++ rest) = some (n, rest) ∧ numOK (putS n ++ rest) (endOf 10 (putS n ++ rest)) ∧ endOf 10 (putS n ++ rest) + 1 = (putS n).length := by
  by_cases h0 : n = 0
  · subst h0
    rw [putS_zero]
    have he : endOf 10 ([0] ++ rest) = 0 := rfl
    have hk : numOK ([0] ++ rest) (endOf 10 ([0] ++ rest)) := by
      rw [he]; exact ⟨⟨by simp, by decide⟩, by simp, by simp⟩
    refine ⟨?_, hk, rfl⟩
    rw [getO, if_pos hk, he]
    rfl
  · obtain ⟨h1, h2⟩ := putS_can n (by omega)
    have hl := putS_len hn
    obtain ⟨h3, h4⟩ := endOf_can h1 rest 10 hl
    have hk : numOK (putS n ++ rest) (endOf 10 (putS n ++ rest)) := by
      refine ⟨⟨by simp; omega, by omega⟩, ?_, fun h => by omega⟩
      rintro ⟨h5, h6⟩
      have hlen : (putS n).length = 10 := by omega
      have hs : valS (putS n) = valS ((putS n).take 9) + 128 ^ 9 * valS ((putS n).drop 9) := by
        have := valS_append ((putS n).take 9) ((putS n).drop 9)
        rw [List.take_append_drop] at this
        rw [this]; simp [hlen]
      have hd : (putS n).drop 9 = [(putS n).getD 9 0] := by
        rw [List.drop_eq_getElem_cons (by omega), List.drop_of_length_le (by omega), List.getD_eq_getElem?_getD, List.getElem?_eq_getElem (by omega)]
        rfl
      have hg : (putS n ++ rest).getD 9 0 = (putS n).getD 9 0 := by
        rw [List.getD_eq_getElem?_getD, List.getD_eq_getElem?_getD, List.getElem?_append_left (by omega)]
      have hlt : ((putS n).getD 9 0).toNat < 128 := by
        have := can_last h1
        rw [hlen] at this
        exact this
      rw [hg] at h6
      rw [hd] at hs
      simp only [valS] at hs
      have h128 : (128 : Nat) ^ 9 = 9223372036854775808 := by decide
      rw [h128] at hs
      omega
    refine ⟨?_, hk, h3⟩
    rw [getO, if_pos hk, h3]
    simp [h2]
theorem getO_out {s rest : List UInt8} {n : Nat} (h : getO s = some (n, rest)) : s = putS n ++ rest ∧ n < 18446744073709551616 := by
  unfold getO at h
  split at h
  · rename_i hk
    cases h
    refine ⟨?_, numOK_lt hk⟩
    by_cases h0 : 0 < (s.getD (endOf 10 s) 0).toNat
    · have hc := end_can 10 s hk.1.2 hk.1.1 h0
      rw [(canT_val hc).2, List.take_append_drop]
    · have he : endOf 10 s = 0 := by
        have := hk.2.2
        omega
      rw [he] at h0 ⊢
      cases s with
      | nil => have := hk.1.1; simp at this
      | cons c r =>
        have hc : c.toNat = 0 := by simp at h0; omega
        have hc' : c = 0 := UInt8.toNat_inj.1 hc
        subst hc'
        show _ = putS (valS [0]) ++ r
        rw [show valS [0] = 0 from rfl, putS_zero]
        rfl
  · cases h
end Go.Kn
namespace Go.Kn
open Go Go.Proofs
theorem takeO_getO (s : List UInt8) : takeO s = match getO s with
    | some (n, u) => if n ≤ u.length then some (u.take n, u.drop n) else none
    | none => none := by
  unfold takeO getO
  by_cases h : numOK s (endOf 10 s)
  · rw [if_pos h]
    simp only
    by_cases h2 : valS (s.take (endOf 10 s + 1)) ≤ (s.drop (endOf 10 s + 1)).length
    · rw [if_pos ⟨h, h2⟩, if_pos h2]
    · rw [if_neg fun e => h2 e.2, if_neg h2]
  · rw [if_neg h, if_neg fun e => h e.1]
theorem takeO_text {t : List UInt8} (ht : t.length < 18446744073709551616) (rest : List UInt8) : takeO (textS t ++ rest) = some (t, rest) := by
  rw [takeO_getO, textS, List.append_assoc, (getO_put ht (t ++ rest)).1]
  simp
theorem takeO_out {s t rest : List UInt8} (h : takeO s = some (t, rest)) : s = textS t ++ rest := by
  rw [takeO_getO] at h
  cases hg : getO s with
  | none => rw [hg] at h; cases h
  | some p =>
    obtain ⟨n, u⟩ := p
    rw [hg] at h
    simp only at h
    split at h
    · rename_i hn
      cases h
      obtain ⟨h1, _⟩ := getO_out hg
      rw [h1, textS, List.append_assoc, List.take_append_drop]
      simp [hn]
    · cases h
theorem getR_put {n : Nat} (hn : n < 18446744073709551616) (rest : List UInt8) : getR (putS n ++ rest) = (n, (putS n).length) := by
  obtain ⟨h1, h2, h3⟩ := getO_put hn rest
  rw [getR, if_pos h2, h3]
  rw [getO, if_pos h2, h3] at h1
  simp only [Option.some.injEq, Prod.mk.injEq] at h1
  rw [h1.1]
theorem takeR_text {t : List UInt8} (ht : t.length < 18446744073709551616) (rest : List UInt8) : takeR (textS t ++ rest) = (t, (textS t).length) := by
  have hp := putS_pos t.length
  have hg := getR_put ht (t ++ rest)
  rw [takeR, textS, List.append_assoc, hg]
  simp only
  rw [if_neg (by rintro (h | h); · omega
                 · simp only [List.length_append] at h; omega)]
  simp
theorem idOf_bytes (x : Id) (rest : List UInt8) : idOf (x.bytes ++ rest) = x := by
  apply Id.ext
  simp [idOf, x.len]
theorem bytes_idOf {s : List UInt8} (h : 32 ≤ s.length) : (idOf s).bytes = s.take 32 := by
  simp only [idOf]
  rw [List.take_append_of_le_length (by omega)]
theorem Rd.bytes_of {n : Nat} {a rest : List UInt8} (h : a.length = n) : Rd.bytes ⟨a ++ rest, false⟩ n = (a, ⟨rest, false⟩) := by
  rw [Rd.bytes, if_neg (by simp; omega)]
  simp [← h]
theorem Rd.bytes_out {r : Rd} {n : Nat} (h : (r.bytes n).2.bad = false) : r.bad = false ∧ n ≤ r.s.length ∧ r.bytes n = (r.s.take n, ⟨r.s.drop n, false⟩) := by
  unfold Rd.bytes at h ⊢
  split at h
  · cases h
  · rename_i hn
    rw [if_neg hn]
    simp only [not_or, Bool.not_eq_true] at hn
    exact ⟨hn.1, by omega, rfl⟩
theorem Rd.id_of (x : Id) (rest : List UInt8) : Rd.id ⟨x.bytes ++ rest, false⟩ = (x, ⟨rest, false⟩) := by
  rw [Rd.id, Rd.bytes_of x.len]
  have := idOf_bytes x []
  rw [List.append_nil] at this
  rw [this]
theorem Rd.id_out {r : Rd} (h : r.id.2.bad = false) : r.bad = false ∧ r.s = r.id.1.bytes ++ r.id.2.s ∧ r.id.2 = ⟨r.id.2.s, false⟩ := by
  obtain ⟨h1, h2, h3⟩ := Rd.bytes_out (r := r) (n := 32) h
  refine ⟨h1, ?_, ?_⟩
  · simp only [Rd.id, h3]
    have : (idOf (r.s.take 32)).bytes = r.s.take 32 := by
      rw [bytes_idOf (by rw [List.length_take]; omega), List.take_take]; rfl
    rw [this, List.take_append_drop]
  · simp only [Rd.id, h3]
theorem Rd.kind_of (c : UInt8) (rest : List UInt8) : Rd.kind ⟨c :: rest, false⟩ = (c.toNat, ⟨rest, false⟩) := by
  have := Rd.bytes_of (n := 1) (a := [c]) (rest := rest) rfl
  rw [Rd.kind, show (c :: rest) = [c] ++ rest from rfl, this]
  rfl
theorem Rd.kind_out {r : Rd} (h : r.kind.2.bad = false) : r.bad = false ∧ ∃ c rest, r.s = c :: rest ∧ r.kind = (c.toNat, ⟨rest, false⟩) := by
  have hb : (r.bytes 1).2.bad = false := by
    unfold Rd.kind at h
    split at h
    · rename_i h2; simp only at h; exact h
    · exact h
  obtain ⟨h1, h2, h3⟩ := Rd.bytes_out hb
  refine ⟨h1, ?_⟩
  cases hs : r.s with
  | nil => rw [hs] at h2; simp at h2
  | cons c rest =>
    refine ⟨c, rest, rfl, ?_⟩
    have : r = ⟨c :: rest, false⟩ := by cases r; simp only at hs h1; rw [hs, h1]
    rw [this, Rd.kind_of]
theorem Rd.text_of {t : List UInt8} (ht : t.length < 18446744073709551616) (rest : List UInt8) : Rd.text ⟨textS t ++ rest, false⟩ = (t, ⟨rest, false⟩) := by
  simp only [Rd.text, takeO_text ht rest]
theorem Rd.text_out {r : Rd} (h : r.text.2.bad = false) : r.bad = false ∧ r.s = textS r.text.1 ++ r.text.2.s ∧ r.text.2 = ⟨r.text.2.s, false⟩ := by
  obtain ⟨s, bad⟩ := r
  cases bad with
  | true => simp [Rd.text] at h
  | false =>
    cases ht : takeO s with
    | none => simp [Rd.text, ht] at h
    | some p =>
      obtain ⟨t, rest⟩ := p
      have hx : Rd.text ⟨s, false⟩ = (t, ⟨rest, false⟩) := by simp [Rd.text, ht]
      rw [hx]
      exact ⟨rfl, takeO_out ht, rfl⟩
theorem Rd.number_of {n : Nat} (hn : n < 18446744073709551616) (rest : List UInt8) : Rd.number ⟨putS n ++ rest, false⟩ = (n, ⟨rest, false⟩) := by
  simp only [Rd.number, (getO_put hn rest).1]
theorem Rd.number_out {r : Rd} (h : r.number.2.bad = false) : r.bad = false ∧ r.s = putS r.number.1 ++ r.number.2.s ∧ r.number.2 = ⟨r.number.2.s, false⟩ := by
  obtain ⟨s, bad⟩ := r
  cases bad with
  | true => simp [Rd.number] at h
  | false =>
    cases ht : getO s with
    | none => simp [Rd.number, ht] at h
    | some p =>
      obtain ⟨t, rest⟩ := p
      have hx : Rd.number ⟨s, false⟩ = (t, ⟨rest, false⟩) := by simp [Rd.number, ht]
      rw [hx]
      exact ⟨rfl, (getO_out ht).1, rfl⟩
end Go.Kn
namespace Go.Kn
open Go Go.Proofs
theorem oneB_nat {k : Int} (h0 : 0 ≤ k) (h1 : k < 256) : ((oneB k).toNat : Int) = k := by
  unfold oneB
  simp
  omega
theorem oneB_u8 (c : UInt8) : oneB (c.toNat : Int) = c := by
  unfold oneB
  have := c.toNat_lt
  rw [show ((c.toNat : Int) % 256).toNat = c.toNat by omega]
  simp
structure EntP (e : Entry) : Prop where
  k0 : 0 ≤ e.kind
  k1 : e.kind < 256
  n : e.name.length < 18446744073709551616
theorem entry_of {e : Entry} (h : EntP e) (rest : List UInt8) : Rd.entry ⟨entS e ++ rest, false⟩ = (e, ⟨rest, false⟩) := by
  have h1 := Rd.kind_of (oneB e.kind) (textS e.name ++ (e.id.bytes ++ rest))
  have h2 := Rd.text_of h.n (e.id.bytes ++ rest)
  have h3 := Rd.id_of e.id rest
  have hs : entS e ++ rest = oneB e.kind :: (textS e.name ++ (e.id.bytes ++ rest)) := by simp [entS]
  rw [hs]
  simp only [Rd.entry, h1, h2, h3]
  rw [oneB_nat h.k0 h.k1]
theorem tree_of : ∀ (es : List Entry), (∀ e ∈ es, EntP e) → Rd.tree ⟨entsS es, false⟩ = (es, ⟨[], false⟩)
  | [], _ => tree_end (by simp [entsS])
  | e :: es, h => by
    have he := entry_of (h e List.mem_cons_self) (entsS es)
    have ht := tree_of es fun x hx => h x (List.mem_cons_of_mem _ hx)
    rw [tree_go rfl (by simp [entsS, entS])]
    have hs : (⟨entsS (e :: es), false⟩ : Rd) = ⟨entS e ++ entsS es, false⟩ := rfl
    rw [hs, he]
    simp only [ht]
theorem gEnts_of : ∀ (es : List Entry) (m : Nat), es.length ≤ m → (∀ e ∈ es, EntP e) → gEnts m (entsS es) = es
  | [], 0, _, _ => rfl
  | [], m + 1, _, _ => by simp [gEnts, entsS]
  | e :: es, 0, h, _ => by simp at h
  | e :: es, m + 1, h, hp => by
    have he := hp e List.mem_cons_self
    have ih := gEnts_of es m (by simpa using h) fun x hx => hp x (List.mem_cons_of_mem _ hx)
    have hs : entsS (e :: es) = oneB e.kind :: (textS e.name ++ (e.id.bytes ++ entsS es)) := by simp [entsS, entS]
    rw [hs, gEnts, if_neg (by simp)]
    simp only [List.drop_succ_cons, List.drop_zero, takeR_text he.n]
    have hd : (oneB e.kind :: (textS e.name ++ (e.id.bytes ++ entsS es))).drop (1 + (textS e.name).length) = e.id.bytes ++ entsS es := by
      rw [Nat.add_comm, List.drop_succ_cons, List.drop_left]
    rw [hd, idOf_bytes, show (e.id.bytes ++ entsS es).drop 32 = entsS es by rw [← e.id.len, List.drop_left], ih]
    congr 1
    cases e
    simp only [Entry.mk.injEq, true_and, and_true]
    exact oneB_nat he.k0 he.k1
theorem entry_out {r : Rd} (h : r.entry.2.bad = false) : r.bad = false ∧ r.s = entS r.entry.1 ++ r.entry.2.s ∧ 0 ≤ r.entry.1.kind ∧ r.entry.1.kind < 256 := by
  obtain ⟨h1, h2, h3⟩ := Rd.id_out (r := r.kind.2.text.2) h
  obtain ⟨h4, h5, h6⟩ := Rd.text_out (r := r.kind.2) h1
  obtain ⟨h7, c, rest, h8, h9⟩ := Rd.kind_out h4
  refine ⟨h7, ?_, ?_, ?_⟩
  · have hk : r.kind.1 = c.toNat := by rw [h9]
    have hk2 : r.kind.2 = ⟨rest, false⟩ := by rw [h9]
    simp only [Rd.entry, entS]
    rw [h8, hk, hk2, oneB_u8]
    rw [hk2] at h2 h5
    have := h5.trans (congrArg (textS (Rd.text ⟨rest, false⟩).1 ++ ·) h2)
    exact (congrArg (c :: ·) this).trans (by simp)
  · simp only [Rd.entry]; omega
  · simp only [Rd.entry]; rw [h9]; have := c.toNat_lt; simp only; omega
theorem tree_bad {r : Rd} (h : r.bad = true) : r.tree = ([], r) := tree_end (by simp [h])
theorem tree_out : ∀ (n : Nat) (r : Rd), r.s.length ≤ n → r.tree.2.bad = false → r.tree.2.s = [] → r.bad = false ∧ entsS r.tree.1 = r.s ∧ r.tree.2 = ⟨[], false⟩ := by
  intro n
  induction n with
  | zero =>
    intro r hl h1 h2
    have hs : r.s = [] := List.eq_nil_of_length_eq_zero (by omega)
    have ht := tree_end (r := r) (by simp [hs])
    rw [ht] at h1 ⊢
    refine ⟨h1, by rw [hs]; rfl, ?_⟩
    cases r; simp only at hs h1; rw [hs, h1]
  | succ n ih =>
    intro r hl h1 h2
    by_cases hb : r.bad = false ∧ r.s ≠ []
    · have ht := tree_go hb.1 hb.2
      rw [ht] at h1 h2 ⊢
      simp only at h1 h2 ⊢
      have hlt := entry_len hb.1 hb.2
      obtain ⟨g1, g2, g3⟩ := ih r.entry.2 (by omega) h1 h2
      obtain ⟨e1, e2, _⟩ := entry_out g1
      refine ⟨hb.1, ?_, g3⟩
      rw [entsS, g2]; exact e2.symm
    · have ht := tree_end hb
      rw [ht] at h1 h2 ⊢
      refine ⟨h1, by rw [h2]; rfl, ?_⟩
      cases r; simp only at h1 h2; rw [h1, h2]
theorem nameB_len {s : List UInt8} (h : nameB s = true) : s.length ≤ 40 := by
  simp only [nameB, Bool.and_eq_true, decide_eq_true_eq] at h
  exact h.1.1.2
theorem entB_all : ∀ {l : List Entry} {p : Option (List UInt8)}, entB p l = true → ∀ e ∈ l, EntP e
  | [], _, _, _, he => by cases he
  | a :: l, p, h, e, he => by
    simp only [entB, Bool.and_eq_true] at h
    rcases List.mem_cons.1 he with rfl | he
    · have h1 := h.1
      simp only [entOK, Bool.and_eq_true, Bool.or_eq_true, decide_eq_true_eq] at h1
      have := nameB_len h1.1.1
      exact ⟨by omega, by omega, by omega⟩
    · exact entB_all h.2 e he
theorem ids_bad : ∀ (n : Nat) {r : Rd}, r.bad = true → Rd.ids n r = ([], r)
  | 0, _, _ => rfl
  | n + 1, r, h => by simp [Rd.ids, h]
theorem ids_of : ∀ (l : List Id) (rest : List UInt8), Rd.ids l.length ⟨idsS l ++ rest, false⟩ = (l, ⟨rest, false⟩)
  | [], rest => rfl
  | x :: l, rest => by
    have h1 := Rd.id_of x (idsS l ++ rest)
    have h2 := ids_of l rest
    have hs : idsS (x :: l) ++ rest = x.bytes ++ (idsS l ++ rest) := by simp [idsS]
    rw [hs, List.length_cons, Rd.ids]
    simp only [cond_false, h1, h2]
theorem ids_out : ∀ (n : Nat) (r : Rd), (Rd.ids n r).2.bad = false → r.bad = false ∧ (Rd.ids n r).1.length = n ∧ r.s = idsS (Rd.ids n r).1 ++ (Rd.ids n r).2.s ∧ (Rd.ids n r).2 = ⟨(Rd.ids n r).2.s, false⟩
  | 0, r, h => by
    simp only [Rd.ids] at h ⊢
    exact ⟨h, rfl, rfl, by cases r; simp only at h; rw [h]⟩
  | n + 1, r, h => by
    cases hb : r.bad with
    | true => rw [ids_bad _ hb] at h; rw [hb] at h; cases h
    | false =>
      have hx : Rd.ids (n + 1) r = (r.id.1 :: (Rd.ids n r.id.2).1, (Rd.ids n r.id.2).2) := by simp [Rd.ids, hb]
      rw [hx] at h ⊢
      simp only at h ⊢
      obtain ⟨h1, h2, h3, h4⟩ := ids_out n r.id.2 h
      obtain ⟨g1, g2, g3⟩ := Rd.id_out h1
      refine ⟨trivial, by simp [h2], ?_, h4⟩
      have := g2.trans (congrArg (r.id.1.bytes ++ ·) h3)
      exact this.trans (by simp [idsS])
theorem gIds_of : ∀ (l : List Id) (rest : List UInt8), gIds l.length (idsS l ++ rest) = (l, rest)
  | [], rest => rfl
  | x :: l, rest => by
    have h2 := gIds_of l rest
    have hs : idsS (x :: l) ++ rest = x.bytes ++ (idsS l ++ rest) := by simp [idsS]
    rw [hs, List.length_cons, gIds, idOf_bytes, show (x.bytes ++ (idsS l ++ rest)).drop 32 = idsS l ++ rest by rw [← x.len, List.drop_left], h2]
theorem worse_false (r : Rd) : r.worse false = r := by cases r; simp [Rd.worse]
theorem worse_out {r : Rd} {b : Bool} (h : (r.worse b).bad = false) : r.bad = false ∧ b = false ∧ r.worse b = r := by
  simp only [Rd.worse, Bool.or_eq_false_iff] at h
  refine ⟨h.1, h.2, ?_⟩
  rw [h.2, worse_false]
theorem commit_of {o : Obj} (hp : o.parents.length ≤ 8) (ht : o.time < 4294967296) (hx : o.text.length < 18446744073709551616) :
    Rd.commit ⟨comS o, false⟩ 3 = ({ Obj.ofKind 3 with tree := o.tree, parents := o.parents, time := o.time, text := o.text }, ⟨[], false⟩) := by
  have hs : comS o = o.tree.bytes ++ (putS o.parents.length ++ (idsS o.parents ++ (putS o.time ++ (textS o.text ++ [])))) := by simp [comS]
  rw [hs]
  have h1 := Rd.id_of o.tree (putS o.parents.length ++ (idsS o.parents ++ (putS o.time ++ (textS o.text ++ []))))
  have h2 := Rd.number_of (n := o.parents.length) (by omega) (idsS o.parents ++ (putS o.time ++ (textS o.text ++ [])))
  have h3 := ids_of o.parents (putS o.time ++ (textS o.text ++ []))
  have h4 := Rd.number_of (n := o.time) (by omega) (textS o.text ++ [])
  have h5 := Rd.text_of hx []
  simp only [Rd.commit, h1, h2]
  rw [decide_eq_false (by omega : ¬ 8 < o.parents.length), worse_false, h3]
  simp only [h4]
  rw [decide_eq_false (by omega : ¬ 4294967295 < o.time), worse_false, h5]
  simp only [Nat.mod_eq_of_lt ht]
theorem commit_out {r : Rd} (h : (r.commit 3).2.bad = false) (hs : (r.commit 3).2.s = []) : comS (r.commit 3).1 = r.s ∧ (r.commit 3).1.parents.length ≤ 8 := by
  simp only [Rd.commit] at h hs ⊢
  obtain ⟨a1, a2, a3⟩ := Rd.text_out h
  obtain ⟨b1, b2, b3⟩ := worse_out a1
  rw [b3] at a2 hs
  obtain ⟨c1, c2, c3⟩ := Rd.number_out b1
  obtain ⟨d1, d2, d3, d4⟩ := ids_out _ _ c1
  obtain ⟨e1, e2, e3⟩ := worse_out d1
  rw [e3] at d2 d3 c2 a2 hs b2
  obtain ⟨f1, f2, f3⟩ := Rd.number_out e1
  obtain ⟨g1, g2, g3⟩ := Rd.id_out f1
  rw [b3, e3]
  have hn := of_decide_eq_false e2
  have ht := of_decide_eq_false b2
  refine ⟨?_, by show (Rd.ids _ _).1.length ≤ 8; rw [d2]; omega⟩
  simp only [comS]
  rw [d2, Nat.mod_eq_of_lt (by omega), g2, f2, d3, c2, a2, hs]
  simp
theorem gCom_of {o : Obj} (hp : o.parents.length ≤ 8) (ht : o.time < 4294967296) (hx : o.text.length < 18446744073709551616) :
    gCom (comS o) = { Obj.ofKind 3 with tree := o.tree, parents := o.parents, time := o.time, text := o.text } := by
  have hs : comS o = o.tree.bytes ++ (putS o.parents.length ++ (idsS o.parents ++ (putS o.time ++ (textS o.text ++ [])))) := by simp [comS]
  rw [hs]
  have h1 := idOf_bytes o.tree (putS o.parents.length ++ (idsS o.parents ++ (putS o.time ++ (textS o.text ++ []))))
  have hd : (o.tree.bytes ++ (putS o.parents.length ++ (idsS o.parents ++ (putS o.time ++ (textS o.text ++ []))))).drop 32 = putS o.parents.length ++ (idsS o.parents ++ (putS o.time ++ (textS o.text ++ []))) := by
    rw [← o.tree.len, List.drop_left]
  have h2 := getR_put (n := o.parents.length) (by omega) (idsS o.parents ++ (putS o.time ++ (textS o.text ++ [])))
  have h3 := gIds_of o.parents (putS o.time ++ (textS o.text ++ []))
  have h4 := getR_put (n := o.time) (by omega) (textS o.text ++ [])
  have h5 := takeR_text hx []
  simp only [gCom, h1, hd, h2, List.drop_left]
  rw [Nat.min_eq_left (by omega), h3]
  simp only [h4, List.drop_left, h5, Nat.mod_eq_of_lt ht]
theorem tag_of {o : Obj} (h0 : 0 ≤ o.of) (h1 : o.of < 256) (hx : o.name.length < 18446744073709551616) :
    Rd.tag ⟨tagS o, false⟩ 4 = ({ Obj.ofKind 4 with of := o.of, target := o.target, name := o.name }, ⟨[], false⟩) := by
  have hs : tagS o = oneB o.of :: (o.target.bytes ++ (textS o.name ++ [])) := by simp [tagS]
  rw [hs]
  have h2 := Rd.kind_of (oneB o.of) (o.target.bytes ++ (textS o.name ++ []))
  have h3 := Rd.id_of o.target (textS o.name ++ [])
  have h4 := Rd.text_of hx []
  simp only [Rd.tag, h2, h3, h4]
  rw [oneB_nat h0 h1]
theorem tag_out {r : Rd} (h : (r.tag 4).2.bad = false) (hs : (r.tag 4).2.s = []) : tagS (r.tag 4).1 = r.s := by
  simp only [Rd.tag] at h hs ⊢
  obtain ⟨a1, a2, _⟩ := Rd.text_out h
  obtain ⟨b1, b2, _⟩ := Rd.id_out a1
  obtain ⟨c1, c, rest, c2, c3⟩ := Rd.kind_out b1
  simp only [tagS]
  have hk : r.kind.1 = c.toNat := by rw [c3]
  have hk2 : r.kind.2.s = rest := by rw [c3]
  rw [hk, oneB_u8, c2, ← hk2, b2, a2, hs]
  simp
theorem gTag_of {o : Obj} (h0 : 0 ≤ o.of) (h1 : o.of < 256) (hx : o.name.length < 18446744073709551616) :
    gTag (tagS o) = { Obj.ofKind 4 with of := o.of, target := o.target, name := o.name } := by
  have hs : tagS o = oneB o.of :: (o.target.bytes ++ (textS o.name ++ [])) := by simp [tagS]
  rw [hs]
  have h3 := idOf_bytes o.target (textS o.name ++ [])
  have h5 := takeR_text hx []
  have hd : (o.target.bytes ++ (textS o.name ++ [])).drop 32 = textS o.name ++ [] := by rw [← o.target.len, List.drop_left]
  simp only [gTag, List.drop_succ_cons, List.drop_zero, h3, hd, h5]
  rw [show (oneB o.of :: (o.target.bytes ++ (textS o.name ++ []))).getD 0 0 = oneB o.of from rfl, oneB_nat h0 h1]
end Go.Kn
namespace Go.Kn
open Go Go.Proofs
theorem may2 {o : Obj} (h : o.kind = 2) (hm : mayB o = true) : entB none o.entries = true ∧ o.entries.length ≤ 64 := by
  rw [mayB, if_pos h] at hm
  simp only [Bool.and_eq_true, entriesB, decide_eq_true_eq] at hm
  exact hm.2
theorem may3 {o : Obj} (h : o.kind = 3) (hm : mayB o = true) : o.parents.length ≤ 8 := by
  rw [mayB, if_neg (by rw [h]; decide), if_pos h] at hm
  simp only [Bool.and_eq_true, decide_eq_true_eq] at hm
  exact hm.2
theorem may4 {o : Obj} (h : o.kind = 4) (hm : mayB o = true) : (1 ≤ o.of ∧ o.of ≤ 4) ∧ nameB o.name = true := by
  rw [mayB, if_neg (by rw [h]; decide), if_neg (by rw [h]; decide), if_pos h] at hm
  simp only [Bool.and_eq_true, kindB, decide_eq_true_eq] at hm
  exact ⟨hm.1.2, hm.2⟩
theorem may1 {o : Obj} (h2 : o.kind ≠ 2) (h3 : o.kind ≠ 3) (h4 : o.kind ≠ 4) (hm : mayB o = true) : o.kind = 1 := by
  rw [mayB, if_neg h2, if_neg h3, if_neg h4] at hm
  simp only [Bool.and_eq_true, decide_eq_true_eq] at hm
  exact hm.1
theorem body2 {o : Obj} (h : o.kind = 2) : bodyS o = o.data ++ entsS o.entries := by simp [bodyS, h]
theorem body3 {o : Obj} (h : o.kind = 3) : bodyS o = o.data ++ entsS o.entries ++ comS o := by simp [bodyS, h]
theorem body4 {o : Obj} (h : o.kind = 4) : bodyS o = o.data ++ entsS o.entries ++ tagS o := by simp [bodyS, h]
theorem decodeB_out {k : Int} {b : List UInt8} {o : Obj} (hb : b.length < 1000000) (h : decodeB k b = some o) : bodyS o = b ∧ guessB k b = o ∧ o.kind = k ∧ mayB o = true := by
  unfold decodeB at h
  split at h
  · rename_i hc
    obtain ⟨h1, h2, h3⟩ := hc
    cases h
    have hk := bodyR_kind k ⟨b, false⟩
    by_cases k2 : k = 2
    · subst k2
      have hx : bodyR 2 ⟨b, false⟩ = ({ Obj.ofKind 2 with entries := (Rd.tree ⟨b, false⟩).1 }, (Rd.tree ⟨b, false⟩).2) := rfl
      rw [hx] at h1 h2 h3 ⊢
      obtain ⟨_, g2, _⟩ := tree_out _ ⟨b, false⟩ (Nat.le_refl _) h1 h2
      simp only at g2
      generalize (Rd.tree ⟨b, false⟩).1 = es at *
      subst g2
      refine ⟨by rw [body2 rfl]; rfl, ?_, rfl, h3⟩
      obtain ⟨m1, m2⟩ := may2 (o := { Obj.ofKind 2 with entries := es }) rfl h3
      have he := gEnts_of es 65 (Nat.le_trans m2 (by decide)) (entB_all m1)
      show ({ Obj.ofKind 2 with entries := gEnts 65 (entsS es) } : Obj) = _
      rw [he]
    · by_cases k3 : k = 3
      · subst k3
        have hx : bodyR 3 ⟨b, false⟩ = Rd.commit ⟨b, false⟩ 3 := rfl
        rw [hx] at h1 h2 h3 hk ⊢
        obtain ⟨g1, g2⟩ := commit_out h1 h2
        simp only at g1
        have hsh : (Rd.commit ⟨b, false⟩ 3).1 = { Obj.ofKind 3 with tree := (Rd.commit ⟨b, false⟩ 3).1.tree, parents := (Rd.commit ⟨b, false⟩ 3).1.parents, time := (Rd.commit ⟨b, false⟩ 3).1.time, text := (Rd.commit ⟨b, false⟩ 3).1.text } := rfl
        have ht : (Rd.commit ⟨b, false⟩ 3).1.time < 4294967296 := Nat.mod_lt _ (by decide)
        generalize (Rd.commit ⟨b, false⟩ 3).1 = o at *
        have hl : o.text.length < 18446744073709551616 := by
          have := congrArg List.length g1
          simp only [comS, textS, List.length_append] at this
          omega
        have hg := gCom_of g2 ht hl
        rw [g1] at hg
        refine ⟨?_, ?_, hk, h3⟩
        · rw [body3 hk, show o.data = [] by rw [hsh]; rfl, show o.entries = [] by rw [hsh]; rfl]
          exact g1
        · show gCom b = o
          rw [hg, ← hsh]
      · by_cases k4 : k = 4
        · subst k4
          have hx : bodyR 4 ⟨b, false⟩ = Rd.tag ⟨b, false⟩ 4 := rfl
          rw [hx] at h1 h2 h3 hk ⊢
          have g1 := tag_out h1 h2
          simp only at g1
          have hsh : (Rd.tag ⟨b, false⟩ 4).1 = { Obj.ofKind 4 with of := (Rd.tag ⟨b, false⟩ 4).1.of, target := (Rd.tag ⟨b, false⟩ 4).1.target, name := (Rd.tag ⟨b, false⟩ 4).1.name } := rfl
          generalize (Rd.tag ⟨b, false⟩ 4).1 = o at *
          have hm := may4 hk h3
          have hl := nameB_len hm.2
          have hg := gTag_of (o := o) (by omega) (by omega) (by omega)
          rw [g1] at hg
          refine ⟨?_, ?_, hk, h3⟩
          · rw [body4 hk, show o.data = [] by rw [hsh]; rfl, show o.entries = [] by rw [hsh]; rfl]
            exact g1
          · show gTag b = o
            rw [hg, ← hsh]
        · have hx : bodyR k ⟨b, false⟩ = ({ Obj.ofKind k with data := b }, ⟨[], false⟩) := by
            have := Rd.bytes_of (n := b.length) (a := b) (rest := []) rfl
            rw [List.append_nil] at this
            rw [bodyR, if_neg k2, if_neg k3, if_neg k4]
            show (({ Obj.ofKind k with data := (Rd.bytes ⟨b, false⟩ b.length).1 } : Obj), (Rd.bytes ⟨b, false⟩ b.length).2) = _
            rw [this]
          rw [hx] at h3 ⊢
          have hk1 : k = 1 := may1 (o := { Obj.ofKind k with data := b }) k2 k3 k4 h3
          subst hk1
          exact ⟨by simp [bodyS, Obj.ofKind, entsS], by simp [guessB], rfl, h3⟩
  · cases h
theorem decodeB_of {k : Int} {b : List UInt8} (hb : b.length < 1000000) (h1 : bodyS (guessB k b) = b) (h2 : mayB (guessB k b) = true) (h3 : Small (guessB k b)) : decodeB k b = some (guessB k b) := by
  have key : ∀ o, bodyR k ⟨b, false⟩ = (o, ⟨[], false⟩) → mayB o = true → decodeB k b = some o := by
    intro o hx hm
    unfold decodeB
    rw [hx, if_pos ⟨rfl, rfl, hm⟩]
  by_cases k2 : k = 2
  · subst k2
    have hg : guessB 2 b = { Obj.ofKind 2 with entries := gEnts 65 b } := rfl
    rw [hg] at h1 h2 h3 ⊢
    refine key _ ?_ h2
    generalize gEnts 65 b = es at *
    have hbs : entsS es = b := by rw [body2 rfl] at h1; exact h1
    obtain ⟨m1, m2⟩ := may2 (o := { Obj.ofKind 2 with entries := es }) rfl h2
    have ht := tree_of es (entB_all m1)
    rw [hbs] at ht
    show (({ Obj.ofKind 2 with entries := (Rd.tree ⟨b, false⟩).1 } : Obj), (Rd.tree ⟨b, false⟩).2) = _
    rw [ht]
  · by_cases k3 : k = 3
    · subst k3
      have hg : guessB 3 b = gCom b := rfl
      rw [hg] at h1 h2 h3 ⊢
      refine key _ ?_ h2
      have hsh : gCom b = { Obj.ofKind 3 with tree := (gCom b).tree, parents := (gCom b).parents, time := (gCom b).time, text := (gCom b).text } := rfl
      generalize gCom b = o at *
      have hk : o.kind = 3 := by rw [hsh]; rfl
      have hbs : comS o = b := by
        rw [body3 hk, show o.data = [] by rw [hsh]; rfl, show o.entries = [] by rw [hsh]; rfl] at h1
        exact h1
      have hc := commit_of (o := o) (may3 hk h2) h3.i (by have := h3.t; omega)
      rw [hbs] at hc
      show Rd.commit ⟨b, false⟩ 3 = _
      rw [hc, ← hsh]
    · by_cases k4 : k = 4
      · subst k4
        have hg : guessB 4 b = gTag b := rfl
        rw [hg] at h1 h2 h3 ⊢
        refine key _ ?_ h2
        have hsh : gTag b = { Obj.ofKind 4 with of := (gTag b).of, target := (gTag b).target, name := (gTag b).name } := rfl
        generalize gTag b = o at *
        have hk : o.kind = 4 := by rw [hsh]; rfl
        have hbs : tagS o = b := by
          rw [body4 hk, show o.data = [] by rw [hsh]; rfl, show o.entries = [] by rw [hsh]; rfl] at h1
          exact h1
        have hm := may4 hk h2
        have hl := nameB_len hm.2
        have hc := tag_of (o := o) (by omega) (by omega) (by omega)
        rw [hbs] at hc
        show Rd.tag ⟨b, false⟩ 4 = _
        rw [hc, ← hsh]
      · by_cases k1 : k = 1
        · subst k1
          have hg : guessB 1 b = { Obj.ofKind 1 with data := b } := rfl
          rw [hg] at h2 ⊢
          refine key _ ?_ h2
          have := Rd.bytes_of (n := b.length) (a := b) (rest := []) rfl
          rw [List.append_nil] at this
          show (({ Obj.ofKind 1 with data := (Rd.bytes ⟨b, false⟩ b.length).1 } : Obj), (Rd.bytes ⟨b, false⟩ b.length).2) = _
          rw [this]
        · exfalso
          have hg : guessB k b = Obj.ofKind k := by rw [guessB, if_neg k1, if_neg k2, if_neg k3, if_neg k4]
          rw [hg] at h2
          exact k1 (may1 (o := Obj.ofKind k) k2 k3 k4 h2)
theorem same_dec : SameDec := by
  intro s hs
  by_cases h0 : s = []
  · subst h0; rfl
  · obtain ⟨c, u, rfl⟩ : ∃ c u, s = c :: u := by cases s with
      | nil => exact absurd rfl h0
      | cons c u => exact ⟨c, u, rfl⟩
    have hu : u.length < 1000000 := by simp at hs; omega
    have hg : guessR (c :: u) = if (takeR u).2 = 0 then Obj.ofKind 0 else guessB (c.toNat : Int) (takeR u).1 := rfl
    have hd : decodeR (c :: u) = if encodeR (guessR (c :: u)) = some (c :: u) then some (guessR (c :: u)) else none := by rw [decodeR, if_neg h0]
    cases hp : decodeP (c :: u) with
    | some o =>
      unfold decodeP at hp
      split at hp
      · cases hp
      · rename_i hl
        simp only [not_or, Nat.not_lt] at hl
        split at hp
        · cases hp
        · rename_i b rest ht
          split at hp
          · rename_i hr
            subst hr
            have hb := takeO_len ht
            have ht' := takeO_out ht
            simp only [List.drop_succ_cons, List.drop_zero, List.append_nil] at ht' hb
            obtain ⟨g1, g2, g3, g4⟩ := decodeB_out (by omega) hp
            have htr := takeR_text (t := b) (by omega) []
            rw [List.append_nil, ← ht'] at htr
            have hpos : 0 < u.length := by
              have := putS_pos b.length
              rw [ht', textS, List.length_append]; omega
            rw [htr] at hg
            simp only at hg
            rw [if_neg (by omega)] at hg
            have g2' : guessB (c.toNat : Int) b = o := g2
            rw [g2'] at hg
            have hes : encS o = c :: u := by
              rw [encS, g1, g3, ← ht']
              show [oneB (c.toNat : Int)] ++ u = _
              rw [oneB_u8]; rfl
            have hen : encodeR o = some (c :: u) := by
              rw [encodeR, if_neg (by rw [g4]; decide), hes, if_neg (by have := hl.2; omega)]
            rw [hd, hg, if_pos hen]
          · cases hp
    | none =>
      rw [hd]
      split
      · rename_i he
        exfalso
        have hsm := guessR_small hs
        generalize hgo : guessR (c :: u) = o at *
        unfold encodeR at he
        split at he
        · cases he
        · rename_i hm
          have hm : mayB o = true := by simpa using hm
          split at he
          · cases he
          · rename_i hlen
            have he := Option.some.inj he
            rw [encS] at he
            have hc : oneB o.kind = c := (List.cons.inj he).1
            have hut : u = textS (bodyS o) := (List.cons.inj he).2.symm
            have hbl : (bodyS o).length ≤ u.length := by rw [hut, textS, List.length_append]; omega
            have htr := takeR_text (t := bodyS o) (by omega) []
            have hto := takeO_text (t := bodyS o) (by omega) []
            rw [List.append_nil, ← hut] at htr hto
            have hpos : 0 < u.length := by
              have := putS_pos (bodyS o).length
              rw [hut, textS, List.length_append]; omega
            rw [htr] at hg
            simp only at hg
            rw [if_neg (by omega)] at hg
            have hx := decodeB_of (k := (c.toNat : Int)) (b := bodyS o) (by omega) (by rw [← hg]) (by rw [← hg]; exact hm) (by rw [← hg]; exact hsm)
            have : decodeP (c :: u) = some o := by
              rw [decodeP, if_neg (by rintro (h | h); · exact h0 h
                                      · have : (encS o).length = (c :: u).length := by rw [encS, he]
                                        omega)]
              simp only [List.drop_succ_cons, List.drop_zero, hto, if_true]
              show decodeB (c.toNat : Int) (bodyS o) = _
              rw [hx, ← hg]
            rw [this] at hp
            cases hp
      · rfl
end Go.Kn
set_option maxRecDepth 100000
namespace Go.Kn
open Go Go.Proofs
def exO1 : Obj := Obj.ofKind 2
def exO2 : Obj := { Obj.ofKind 3 with tree := exI1, time := 9 }
def exO3 : Obj := { Obj.ofKind 3 with tree := exI1, parents := [exI2], time := 5 }
theorem ex_enc1 : encodeR exO1 = some exT1 := by decide +kernel
theorem ex_enc2 : encodeR exO2 = some exT2 := by decide +kernel
theorem ex_enc3 : encodeR exO3 = some exT3 := by decide +kernel
theorem ex_dec1 : decodeR exT1 = some exO1 := by decide +kernel
theorem ex_dec2 : decodeR exT2 = some exO2 := by decide +kernel
theorem ex_dec3 : decodeR exT3 = some exO3 := by decide +kernel
def exX1 : RItem := ⟨exI1, exT1, exO1⟩
def exX2 : RItem := ⟨exI2, exT2, exO2⟩
def exX3 : RItem := ⟨exI3, exT3, exO3⟩
theorem with_new {m : List RItem} {t : List UInt8} {i : Id} {o : Obj} (hd : decodeR t = some o) (hs : sha t = i) (hn : atR m i = none) : (withR m t).1 = insR m ⟨i, t, o⟩ := by
  rw [withR, hd]
  simp only [hs, hn, Option.isSome_none, Bool.false_eq_true, if_false]
theorem allR_cons (m : List RItem) (t : List UInt8) (ts : List (List UInt8)) : allR m (t :: ts) = allR (withR m t).1 ts := rfl
theorem allR_nil (m : List RItem) : allR m [] = m := rfl
theorem ins_at {m : List RItem} {x : RItem} {k : Nat} (h : wAt m x.id = k) : insR m x = m.take k ++ x :: m.drop k := by rw [insR, h]
theorem ex_w1 : (withR [] exT1).1 = [exX1] := by rw [with_new ex_dec1 ex_sha1 (m := []) rfl, ins_at (k := 0) rfl]; rfl
theorem ex_w3 : (withR [exX1] exT3).1 = [exX3, exX1] := by rw [with_new ex_dec3 ex_sha3 (by decide +kernel), ins_at (k := 0) (by decide +kernel)]; rfl
theorem ex_w2 : (withR [exX1] exT2).1 = [exX1, exX2] := by rw [with_new ex_dec2 ex_sha2 (by decide +kernel), ins_at (k := 1) (by decide +kernel)]; rfl
theorem ex_w4 : (withR [exX1, exX2] exT3).1 = [exX3, exX1, exX2] := by rw [with_new ex_dec3 ex_sha3 (by decide +kernel), ins_at (k := 0) (by decide +kernel)]; rfl
theorem ex_mA : allR [] [exT1, exT3] = [exX3, exX1] := by rw [allR_cons, ex_w1, allR_cons, ex_w3, allR_nil]
theorem ex_mB : allR [] [exT1, exT2, exT3] = [exX3, exX1, exX2] := by rw [allR_cons, ex_w1, allR_cons, ex_w2, allR_cons, ex_w4, allR_nil]
theorem ex_len : exT1.length ≤ 5000 ∧ exT2.length ≤ 5000 ∧ exT3.length ≤ 5000 := by decide +kernel
theorem ex_corrA (H : SameDec) : Corr [exX3, exX1] := by
  rw [← ex_mA]
  refine allR_corr H _ (fun t ht => ?_) _ Corr.nil
  simp only [List.mem_cons, List.not_mem_nil, or_false] at ht
  rcases ht with rfl | rfl
  · exact ex_len.1
  · exact ex_len.2.2
theorem ex_corrB (H : SameDec) : Corr [exX3, exX1, exX2] := by
  rw [← ex_mB]
  refine allR_corr H _ (fun t ht => ?_) _ Corr.nil
  simp only [List.mem_cons, List.not_mem_nil, or_false] at ht
  rcases ht with rfl | rfl | rfl
  · exact ex_len.1
  · exact ex_len.2.1
  · exact ex_len.2.2
theorem rch_list {m : List RItem} {cut frm l : List Id} (h1 : ∀ x ∈ frm, x ∈ l) (h2 : ∀ x ∈ l, ∀ y ∈ nextR m cut x, y ∈ l) {x : Id} (h : Rch m cut frm x) : x ∈ l := by
  induction h with
  | base x h => exact h1 x h
  | step x y _ hy ih => exact h2 x ih y hy
theorem ex_next : nextR [exX3, exX1] [] exI3 = [exI1, exI2] ∧ nextR [exX3, exX1] [] exI1 = [] ∧ nextR [exX3, exX1] [] exI2 = [] := by decide +kernel
theorem ex_has : hasM [exX3, exX1] exI3 = true ∧ hasM [exX3, exX1] exI1 = true ∧ hasM [exX3, exX1] exI2 = false := by decide +kernel
theorem ex_rise : RiseK [exI3, exI1] := by decide +kernel
theorem ex_rch {x : Id} : Rch [exX3, exX1] [] [exI3] x ↔ x = exI3 ∨ x = exI1 ∨ x = exI2 := by
  constructor
  · intro h
    have := rch_list (l := [exI3, exI1, exI2]) (by simp) (fun x hx y hy => by
      simp only [List.mem_cons, List.not_mem_nil, or_false] at hx
      rcases hx with rfl | rfl | rfl
      · rw [ex_next.1] at hy
        simp only [List.mem_cons, List.not_mem_nil, or_false] at hy ⊢
        exact .inr hy
      · rw [ex_next.2.1] at hy; cases hy
      · rw [ex_next.2.2] at hy; cases hy) h
    simpa using this
  · have b : Rch [exX3, exX1] [] [exI3] exI3 := .base _ (by simp)
    rintro (rfl | rfl | rfl)
    · exact b
    · exact .step _ _ b (by rw [ex_next.1]; simp)
    · exact .step _ _ b (by rw [ex_next.1]; simp)
theorem ex_there : reachR [exX3, exX1] [] [exI3] true = [exI3, exI1] := by
  refine rise_ext (reachR_rise ..) ex_rise fun x => ?_
  rw [mem_reachR, ex_rch]
  simp only [List.mem_cons, List.not_mem_nil, or_false]
  constructor
  · rintro ⟨rfl | rfl | rfl, h⟩
    · exact .inl rfl
    · exact .inr rfl
    · rw [ex_has.2.2] at h; cases h
  · rintro (rfl | rfl)
    · exact ⟨.inl rfl, ex_has.1⟩
    · exact ⟨.inr (.inl rfl), ex_has.2.1⟩
theorem ex_missing : reachR [exX3, exX1] [] [exI3] false = [exI2] := by
  refine rise_ext (reachR_rise ..) (List.pairwise_singleton _ _) fun x => ?_
  rw [mem_reachR, ex_rch]
  simp only [List.mem_cons, List.not_mem_nil, or_false]
  constructor
  · rintro ⟨rfl | rfl | rfl, h⟩
    · rw [ex_has.1] at h; cases h
    · rw [ex_has.2.1] at h; cases h
    · rfl
  · rintro rfl
    exact ⟨.inr (.inr rfl), ex_has.2.2⟩
theorem ex_walk : walkR [exX3, exX1, exX2] [] [exI3] = [exI3, exI2] := by decide +kernel
theorem ex_sum1 : PureC Pg G0 Fn.ref02_Sum [.str exT1] (encId exI1) := by
  have := ref02_Sum_ok (G := G0) exT1 (by decide +kernel)
  rwa [ex_sha1] at this
theorem ex_sum2 : PureC Pg G0 Fn.ref02_Sum [.str exT2] (encId exI2) := by
  have := ref02_Sum_ok (G := G0) exT2 (by decide +kernel)
  rwa [ex_sha2] at this
theorem ex_sum3 : PureC Pg G0 Fn.ref02_Sum [.str exT3] (encId exI3) := by
  have := ref02_Sum_ok (G := G0) exT3 (by decide +kernel)
  rwa [ex_sha3] at this
theorem ex_small : Small exO1 ∧ Small exO2 ∧ Small exO3 := by
  refine ⟨⟨?_, ?_, ?_, ?_, ?_, ?_, ?_⟩, ⟨?_, ?_, ?_, ?_, ?_, ?_, ?_⟩, ⟨?_, ?_, ?_, ?_, ?_, ?_, ?_⟩⟩ <;> first | (decide +kernel) | (intro e he; cases he)
theorem ex_encode1 : PureC Pg G0 Fn.ref04_Encode [encObj exO1] (.tup [.str exT1, .bool true]) := by
  have := ref04_Encode_ok (G := G0) exO1 ex_small.1
  rwa [ex_enc1] at this
theorem ex_encode2 : PureC Pg G0 Fn.ref04_Encode [encObj exO2] (.tup [.str exT2, .bool true]) := by
  have := ref04_Encode_ok (G := G0) exO2 ex_small.2.1
  rwa [ex_enc2] at this
theorem ex_encode3 : PureC Pg G0 Fn.ref04_Encode [encObj exO3] (.tup [.str exT3, .bool true]) := by
  have := ref04_Encode_ok (G := G0) exO3 ex_small.2.2
  rwa [ex_enc3] at this
theorem ex_all (H : SameDec) (ts : List (List UInt8)) (hl : ts.length ≤ 10) (ht : ∀ t ∈ ts, t.length ≤ 5000) : PureC Pg G0 Fn.ref11_Store_All [encSt [], .slice (ts.map .str)] (encSt (allR [] ts)) :=
  ref11_All_ok [] ts (by decide) (by omega) fun t h => by have := ht t h; omega
set_option maxHeartbeats 4000000 in
theorem law12_knows_ok (H : SameDec) : PureC Pg G0 Fn.law12_knows [] (.bool true) := by
  refine pureW_of T_ok Fd.law12_knows rfl (by kernel_rfl) ?_
  refine CW.next T_ok ?_
  refine CW.cut T_ok (S := Unit) (fun _ => [(1, .i (.str exT1))]) (fun _ => []) (fun _ => True) ?_ ?_
  · refine ⟨_, _, _, pureCall ex_encode1 rfl, ?_⟩
    exact ⟨(), trivial, ⟨rfl, trivial⟩, trivial⟩
  intro _ _
  refine CW.cut T_ok (S := Unit) (fun _ => [(1, .i (.str exT1)), (3, .i (.str exT2))]) (fun _ => []) (fun _ => True) ?_ ?_
  · refine ⟨_, _, _, pureCall ex_sum1 rfl, ?_⟩
    refine ⟨_, _, _, pureCall ex_encode2 rfl, ?_⟩
    exact ⟨(), trivial, ⟨rfl, rfl, trivial⟩, trivial⟩
  intro _ _
  refine CW.cut T_ok (S := Unit) (fun _ => [(1, .i (.str exT1)), (3, .i (.str exT2)), (5, .i (.str exT3))]) (fun _ => []) (fun _ => True) ?_ ?_
  · refine ⟨_, _, _, pureCall ex_sum1 rfl, ?_⟩
    refine ⟨_, _, _, pureCall ex_sum2 rfl, ?_⟩
    refine ⟨_, _, _, pureCall ex_encode3 rfl, ?_⟩
    exact ⟨(), trivial, ⟨rfl, rfl, rfl, trivial⟩, trivial⟩
  intro _ _
  have hA := ex_all H [exT1, exT3] (by decide) (fun t ht => by
    simp only [List.mem_cons, List.not_mem_nil, or_false] at ht
    rcases ht with rfl | rfl
    · exact ex_len.1
    · exact ex_len.2.2)
  have hB := ex_all H [exT1, exT2, exT3] (by decide) (fun t ht => by
    simp only [List.mem_cons, List.not_mem_nil, or_false] at ht
    rcases ht with rfl | rfl | rfl
    · exact ex_len.1
    · exact ex_len.2.1
    · exact ex_len.2.2)
  rw [ex_mA] at hA
  rw [ex_mB] at hB
  have oA := law11_Of_frz H [exX3, exX1] (ex_corrA H) (by decide)
  have oB := law11_Of_frz H [exX3, exX1, exX2] (ex_corrB H) (by decide)
  refine CW.next T_ok ?_
  refine CW.next T_ok ?_
  refine ⟨_, _, _, pureCall hA rfl, ?_⟩
  refine ⟨_, _, _, pureCall (.inl oA) rfl, ?_⟩
  refine CW.cut T_ok (S := Unit) (fun _ => [(3, .i (.str exT2)), (5, .i (.str exT3)), (8, .i (stR [exX3, exX1])), (9, .i (stR [exX3, exX1, exX2]))]) (fun _ => []) (fun _ => True) ?_ ?_
  · refine ⟨_, _, _, pureCall hB rfl, ?_⟩
    refine ⟨_, _, _, pureCall (.inl oB) rfl, ?_⟩
    exact ⟨(), trivial, ⟨rfl, rfl, rfl, rfl, trivial⟩, trivial⟩
  intro _ _
  refine CW.next T_ok ?_
  refine ⟨_, eqRptrNil _, ?_⟩
  refine ⟨_, eqRptrNil _, ?_⟩
  refine CW.cut T_ok (S := Unit) (fun _ => [(3, .i (.str exT2)), (8, .i (stR [exX3, exX1])), (9, .i (stR [exX3, exX1, exX2])), (10, .full [encId exI3])]) (fun _ => []) (fun _ => True) ?_ ?_
  · refine ⟨_, _, _, pureCall ex_sum3 rfl, ?_⟩
    exact ⟨(), trivial, ⟨rfl, rfl, rfl, rfl, trivial⟩, trivial⟩
  intro _ _
  have hR := graph_Reach_ok (G := G0) H [exX3, exX1] (ex_corrA H) (by decide) [exI3] [] (by decide) (by decide)
  have hW := graph_Walk_ok (G := G0) H [exX3, exX1, exX2] (ex_corrB H) (by decide) [exI3] [] (by decide) (by decide)
  rw [ex_there, ex_missing] at hR
  rw [ex_walk] at hW
  refine CW.cut T_ok (S := Unit) (fun _ => [(3, .i (.str exT2)), (9, .i (stR [exX3, exX1, exX2])), (10, .full [encId exI3]), (11, .i (.slice ([exI3, exI1].map encId))), (12, .i (.slice ([exI2].map encId)))]) (fun _ => []) (fun _ => True) ?_ ?_
  · refine ⟨_, _, _, pureCall hR rfl, ?_⟩
    exact ⟨(), trivial, ⟨rfl, rfl, rfl, rfl, rfl, trivial⟩, trivial⟩
  intro _ _
  refine CW.cut T_ok (S := Unit) (fun _ => [(3, .i (.str exT2)), (10, .full [encId exI3]), (11, .i (.slice ([exI3, exI1].map encId))), (12, .i (.slice ([exI2].map encId))), (13, .i (.slice ([exI3, exI2].map encId)))]) (fun _ => []) (fun _ => True) ?_ ?_
  · refine ⟨_, _, _, pureCall hW rfl, ?_⟩
    exact ⟨(), trivial, ⟨rfl, rfl, rfl, rfl, rfl, trivial⟩, trivial⟩
  intro _ _
  refine CW.go T_ok ?_
  refine drawW T_ok (by decide +kernel) ?_
  refine ⟨encId exI2, ⟨by decide, rfl⟩, ?_⟩
  refine ⟨_, _, ⟨rfl, ex_sum2⟩, ?_⟩
  refine ⟨_, eqId exI2 exI2, ?_⟩
  rw [decide_eq_true (rfl : exI2 = exI2)]
  refine ⟨encId exI3, ⟨by decide, rfl⟩, ?_⟩
  refine ⟨encId exI3, ⟨by decide, rfl⟩, ?_⟩
  refine ⟨_, eqId exI3 exI3, ?_⟩
  refine ⟨by kernel_rfl, ?_⟩
  rw [decide_eq_true (rfl : exI3 = exI3)]
  rfl
end Go.Kn
set_option maxRecDepth 100000
namespace Go.Kn
open Go Go.Proofs
theorem fewH_len {h : Hist} (hf : fewH h = true) : h.seeds.length ≤ 24 ∧ h.out.length ≤ 10 ∧ h.frm.length ≤ 10 ∧ h.cut.length ≤ 10 := by
  simp only [fewH, Bool.and_eq_true, decide_eq_true_eq] at hf
  exact ⟨(fewB_ok hf.1.1.1).1, hf.1.1.2, hf.1.2, hf.2⟩
theorem idsL_len (all : List Id) (l : List UInt8) : (idsL all l).length = l.length := by simp [idsL]
theorem ref02_Same_refl (a : List Id) (hl : a.length < 1000000) : PureC Pg G0 Fn.ref02_Same [.slice (a.map encId), .slice (a.map encId)] (.bool true) := by
  have := ref02_Same_ok (G := G0) a a hl
  rwa [decide_eq_true rfl] at this
theorem reachR_len {m : List RItem} (h : Corr m) (cut frm : List Id) (b : Bool) : (reachR m cut frm b).length ≤ frm.length + m.length * 1001 := by
  have := nodup_len_le (reachR_rise m cut frm b).nodup fun x hx => (mem_reachR.1 hx).1.uni
  have := uni_len h frm
  omega
def gqE (h : Hist) (m : List RItem) (frm cut : List Id) : Env := [(1, .ptr 1 0), (3, .ptr 3 0), (5, .i (stR m)), (7, .i (.slice (frm.map encId))), (8, .i (.slice (cut.map encId)))]
def gqM (h : Hist) (m : List RItem) : Mem := [(1, hiM h), (3, mS m)]
def gqE2 (m : List RItem) (frm : List Id) : Env := [(3, .ptr 3 0), (5, .i (stR m)), (7, .i (.slice (frm.map encId))), (13, .i (.bool true)), (14, .i (.bool true))]
def gqE3 (m : List RItem) (frm : List Id) (i : Nat) : Env := [(3, .ptr 3 0), (5, .i (stR m)), (7, .i (.slice (frm.map encId))), (13, .i (.bool true)), (14, .i (.bool true)), (15, .i (.int .i64 (i : Int)))]
set_option maxHeartbeats 4000000 in
theorem law12_GraphReaches_ok (H : SameDec) (h : Hist) : Body Pg Fn.law12_GraphReaches ∧ AC Pg G0 Fn.law12_GraphReaches ([encHist h].map .i) [] (.i (.bool true)) [] := by
  refine pureB_of T_ok Fd.law12_GraphReaches rfl (by kernel_rfl) ?_
  have hF := law12_Few_ok (G := G0) h
  refine CW.next T_ok ?_
  refine CW.next T_ok ?_
  refine ⟨_, _, _, pureCall hF rfl, ?_⟩
  cases hf : fewH h with
  | false =>
    rw [show fewV h = .tup [encSt [], .bool false] by rw [fewV, hf]; rfl]
    refine CW.next T_ok ?_
    refine ⟨_, _, _, pureCall (law12_knows_ok H) rfl, ?_⟩
    rfl
  | true =>
    obtain ⟨l1, l2, l3, l4⟩ := fewH_len hf
    have hN := law12_Named_ok (G := G0) h hf
    have hll := leftH_len h
    have hgl := (growR_len1 h.seeds).2
    have hcorr := leftH_corr H h
    rw [show fewV h = .tup [encSt (leftH h), .bool true] by rw [fewV, hf]; rfl]
    generalize leftH h = m at *
    generalize (growR h.seeds).2 = ids at *
    have hI1 := law12_Ids_ok (G := G0) ids h.frm (by omega) (by omega)
    have hI2 := law12_Ids_ok (G := G0) ids h.cut (by omega) (by omega)
    have hfl := idsL_len ids h.frm
    have hcl := idsL_len ids h.cut
    generalize idsL ids h.frm = frm at *
    generalize idsL ids h.cut = cut at *
    have hO := law11_Of_frz H m hcorr (by omega)
    refine CW.next T_ok ?_
    refine CW.next T_ok ?_
    refine ⟨_, _, _, pureCall (.inl hO) rfl, ?_⟩
    refine CW.next T_ok ?_
    refine ⟨_, _, _, pureCall hN rfl, ?_⟩
    refine CW.next T_ok ?_
    refine ⟨_, _, _, pureCall hI1 rfl, ?_⟩
    refine CW.cut T_ok (S := Unit) (fun _ => gqE h m frm cut) (fun _ => gqM h m) (fun _ => True) ?_ ?_
    · refine ⟨_, _, _, pureCall hI2 rfl, ?_⟩
      exact ⟨(), trivial, ⟨rfl, rfl, rfl, rfl, rfl, trivial⟩, ⟨rfl, rfl, trivial⟩⟩
    intro _ _
    have hR := graph_Reach_ok (G := G0) H m hcorr (by omega) frm cut (by omega) (by omega)
    have hR2 := ref12_Reach_ok (G := G0) m hcorr (by omega) frm cut (by omega) (by omega)
    have rl1 := reachR_len hcorr cut frm true
    have rl2 := reachR_len hcorr cut frm false
    have rl3 : m.length * 1001 ≤ 24 * 1001 := Nat.mul_le_mul_right _ (by omega)
    refine CW.next T_ok ?_
    refine ⟨_, eqRptrNil _, ?_⟩
    refine CW.next T_ok ?_
    refine ⟨_, _, _, pureCall hR rfl, ?_⟩
    refine CW.next T_ok ?_
    refine ⟨_, _, _, pureCall hR2 rfl, ?_⟩
    refine CW.next T_ok ?_
    refine ⟨_, _, _, pureCall (ref02_Same_refl _ (by omega)) rfl, ?_⟩
    refine CW.cut T_ok (S := Unit) (fun _ => gqE2 m frm) (fun _ => [(3, mS m)]) (fun _ => True) ?_ ?_
    · refine ⟨_, _, _, pureCall (ref02_Same_refl _ (by omega)) rfl, ?_⟩
      exact ⟨(), trivial, ⟨rfl, rfl, rfl, rfl, rfl, trivial⟩, ⟨rfl, trivial⟩⟩
    intro _ _
    refine CW.go T_ok ?_
    refine loopX T_ok 0 (S := Nat) (S' := Unit) (fun i => gqE3 m frm i) (fun _ => [(3, mS m)]) (fun i => frm.length - i) (fun i => i ≤ frm.length) (fun _ => [(13, .i (.bool true)), (14, .i (.bool true))]) (fun _ => []) (fun _ => True) 0
      ⟨rfl, rfl, rfl, rfl, rfl, rfl, trivial⟩ ⟨rfl, trivial⟩ (by omega) ?_ ?_
    · intro i hi
      refine condP.split (fun g => ?_) (fun g => ?_)
      · have g' := idx_lt g
        have hE1 := graph_End_ok (G := G0) H m hcorr (by omega) frm[i]
        have hE2 := ref12_End_ok (G := G0) m hcorr (by omega) frm[i]
        refine ⟨encId frm[i], idx_get encId g', ?_⟩
        obtain ⟨e, b, he⟩ : ∃ (e : Id) (b : Bool), endV (endR m frm[i]) = .tup [encId e, .bool b] := by
          cases endR m frm[i] with
          | none => exact ⟨_, _, rfl⟩
          | some y => exact ⟨_, _, rfl⟩
        rw [he] at hE1 hE2
        refine ⟨_, _, _, pureCall hE1 rfl, ?_⟩
        refine drawW T_ok (by decide +kernel) ?_
        refine ⟨encId frm[i], idx_get encId g', ?_⟩
        refine ⟨_, _, ⟨rfl, hE2⟩, ?_⟩
        refine ⟨by kernel_rfl, ?_⟩
        refine ⟨_, eqId e e, ?_⟩
        rw [decide_eq_true rfl]
        refine ⟨_, eqBool b b, ?_⟩
        rw [show (b == b) = true by cases b <;> rfl]
        exact ⟨i + 1, ⟨by omega, by omega⟩, ⟨rfl, rfl, rfl, rfl, rfl, i_succ (by omega), trivial⟩, ⟨rfl, trivial⟩⟩
      · exact ⟨(), trivial, ⟨rfl, rfl, trivial⟩, trivial⟩
    · intro _ _
      refine ⟨_, _, _, pureCall (law12_knows_ok H) rfl, ?_⟩
      rfl
end Go.Kn
set_option maxRecDepth 100000
namespace Go.Kn
open Go Go.Proofs
theorem walkF_len {m : List RItem} {cut : List Id} : ∀ (f : Nat) (seen out : List Id), SInv m seen out → (walkF m cut f seen out).length ≤ m.length
  | 0, seen, out, h => h.olen
  | f + 1, seen, out, h => by
    rw [walkF]
    have hb := bestO_spec m (seen.filter fun x => !inB out x)
    cases e : bestO m (seen.filter fun x => !inB out x) with
    | none => exact h.olen
    | some y =>
      rw [e] at hb
      obtain ⟨h1, h2⟩ := left_mem.1 hb.1
      have h3 := h.tell h1 h2
      simp only
      cases inB cut y with
      | true => exact walkF_len f _ _ h3
      | false => exact walkF_len f _ _ (h3.offs _)
theorem walkR_len (m : List RItem) (cut frm : List Id) : (walkR m cut frm).length ≤ m.length := walkF_len _ _ _ (ends_sinv m frm)
set_option maxHeartbeats 4000000 in
theorem law12_GraphWalks_ok (H : SameDec) (h : Hist) : Body Pg Fn.law12_GraphWalks ∧ AC Pg G0 Fn.law12_GraphWalks ([encHist h].map .i) [] (.i (.bool true)) [] := by
  refine pureB_of T_ok Fd.law12_GraphWalks rfl (by kernel_rfl) ?_
  have hF := law12_Few_ok (G := G0) h
  refine CW.next T_ok ?_
  refine CW.next T_ok ?_
  refine ⟨_, _, _, pureCall hF rfl, ?_⟩
  cases hf : fewH h with
  | false =>
    rw [show fewV h = .tup [encSt [], .bool false] by rw [fewV, hf]; rfl]
    refine CW.next T_ok ?_
    refine ⟨_, _, _, pureCall (law12_knows_ok H) rfl, ?_⟩
    rfl
  | true =>
    obtain ⟨l1, l2, l3, l4⟩ := fewH_len hf
    have hN := law12_Named_ok (G := G0) h hf
    have hll := leftH_len h
    have hgl := (growR_len1 h.seeds).2
    have hcorr := leftH_corr H h
    rw [show fewV h = .tup [encSt (leftH h), .bool true] by rw [fewV, hf]; rfl]
    generalize leftH h = m at *
    generalize (growR h.seeds).2 = ids at *
    have hI1 := law12_Ids_ok (G := G0) ids h.frm (by omega) (by omega)
    have hI2 := law12_Ids_ok (G := G0) ids h.cut (by omega) (by omega)
    have hfl := idsL_len ids h.frm
    have hcl := idsL_len ids h.cut
    generalize idsL ids h.frm = frm at *
    generalize idsL ids h.cut = cut at *
    have hO := law11_Of_frz H m hcorr (by omega)
    refine CW.next T_ok ?_
    refine CW.next T_ok ?_
    refine ⟨_, _, _, pureCall (.inl hO) rfl, ?_⟩
    refine CW.next T_ok ?_
    refine ⟨_, _, _, pureCall hN rfl, ?_⟩
    refine CW.next T_ok ?_
    refine ⟨_, _, _, pureCall hI1 rfl, ?_⟩
    refine CW.cut T_ok (S := Unit) (fun _ => gqE h m frm cut) (fun _ => gqM h m) (fun _ => True) ?_ ?_
    · refine ⟨_, _, _, pureCall hI2 rfl, ?_⟩
      exact ⟨(), trivial, ⟨rfl, rfl, rfl, rfl, rfl, trivial⟩, ⟨rfl, rfl, trivial⟩⟩
    intro _ _
    have hW := graph_Walk_ok (G := G0) H m hcorr (by omega) frm cut (by omega) (by omega)
    have hW2 := ref12_Walk_ok (G := G0) m hcorr (by omega) frm cut (by omega) (by omega)
    have wl := walkR_len m cut frm
    refine CW.next T_ok ?_
    refine ⟨_, eqRptrNil _, ?_⟩
    refine CW.go T_ok ?_
    refine drawW T_ok (by decide +kernel) ?_
    refine ⟨_, _, ⟨rfl, hW⟩, ?_⟩
    refine ⟨_, _, ⟨rfl, hW2⟩, ?_⟩
    refine ⟨_, _, ⟨rfl, ref02_Same_refl _ (by omega)⟩, ?_⟩
    refine ⟨by kernel_rfl, ?_⟩
    refine ⟨_, _, _, pureCall (law12_knows_ok H) rfl, ?_⟩
    rfl
end Go.Kn
