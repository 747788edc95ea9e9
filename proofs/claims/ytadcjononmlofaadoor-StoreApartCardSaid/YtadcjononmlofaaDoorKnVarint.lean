/- The program's package varint: what its functions return. -/
import Derived.Test.YtadcjononmlofaaDoorKnRef2
set_option autoImplicit false
namespace Go.Kn
open Go Go.Proofs

variable {G : Gl}

theorem and127 (c : UInt8) : Go.bits .and .u8 (c.toNat : Int) 127 = ((c.toNat % 128 : Nat) : Int) := by
  have h := c.toNat_lt
  have := bits_mask .u8 8 (by decide) wraps_u8 7 (by decide) (c.toNat : Int) (by omega) (by omega)
  rw [show ((2 : Int) ^ 7 - 1) = 127 by decide] at this
  rw [this]; omega

theorem wraps_u64 (n : Int) (h0 : 0 ≤ n) (h1 : n < 2 ^ 64) : IntKind.u64.wrap n = n := by
  rw [wrap_u64_mod]
  have : (2 : Int) ^ 64 = 18446744073709551616 := by decide
  omega

theorem pow7 (i : Nat) : 2 ^ (7 * i) = 128 ^ i := by rw [Nat.pow_mul]

/-- A figure is set ahead of those below it. -/
theorem orStep (i v d : Nat) (hv : v < 128 ^ i) (hs : v + 128 ^ i * d < 18446744073709551616) : Go.bits .or .u64 (v : Int) ((128 ^ i * d : Nat) : Int) = ((v + 128 ^ i * d : Nat) : Int) := by
  have e64 : (2 : Nat) ^ 64 = 18446744073709551616 := by decide
  rw [(bits_nat .u64 64 (by decide) wraps_u64 v (128 ^ i * d) (by omega) (by omega)).2]
  rw [← pow7] at hv ⊢
  rw [Nat.or_comm, ← Nat.two_pow_add_eq_or_of_lt hv d, Nat.add_comm]

/-- The number that bytes begin with, and what stands behind it. -/
def getP (s : List UInt8) : IV :=
  if numOK s (endOf 10 s) then .tup [.int .u64 (valS (s.take (endOf 10 s + 1)) : Int), .str (s.drop (endOf 10 s + 1)), .int .i64 0] else .tup [.int .u64 0, .str [], .int .i64 2]

theorem varint_Get_ok (s : List UInt8) (hs : s.length < 4611686018427387904) : PureC Pg G Fn.varint_Get [.str s] (getP s) := by
  refine pureC_of T_ok Fd.varint_Get rfl (by kernel_rfl) ?_
  refine loopX T_ok 0 (S := Nat) (S' := Unit)
    (fun i => [(0, .i (.str s)), (10, .i (.int .i64 ((min s.length 10 : Nat) : Int))), (11, .i (.int .i64 (i : Int))), (5, .i (.int .u64 (valS (s.take i) : Int)))]) (fun _ => []) (fun i => 10 - i)
    (fun i => i ≤ 10 ∧ i ≤ s.length ∧ ∀ j, j < i → 128 ≤ (s.getD j 0).toNat) (fun _ => []) (fun _ => []) (fun _ => ¬ numOK s (endOf 10 s)) 0
    ⟨rfl, ?_, rfl, rfl, trivial⟩ trivial ⟨by omega, by omega, by omega⟩ ?_ ?_
  · show some (PV.i (IV.int .i64 (if (10 : Int) < (s.length : Int) then 10 else (s.length : Int)))) = _
    congr 3
    split <;> omega
  · rintro i ⟨h1, h2, h3⟩
    have hend : (i = 10 ∨ i = s.length ∨ (s.getD i 0).toNat < 128) → endOf 10 s = i := fun h => endOf_eq 10 s i h1 h3 h2 h
    refine condP.split (fun g1 => ?_) (fun g1 => ?_)
    · have g1' : i < s.length ∧ i < 10 := by have := of_decide_eq_true g1; omega
      have hlt := (s.getD i 0).toNat_lt
      have htk : s.take (i + 1) = s.take i ++ [s.getD i 0] := by
        rw [List.take_succ_eq_append_getElem g1'.1]
        simp [List.getD_eq_getElem?_getD, g1'.1]
      have hv1 := valS_lt (s.take i)
      have hl1 : (s.take i).length = i := by simp; omega
      rw [hl1] at hv1
      have hval : valS (s.take (i + 1)) = valS (s.take i) + 128 ^ i * ((s.getD i 0).toNat % 128) := by
        rw [htk, valS_append, hl1]; simp [valS]
      refine ⟨⟨by omega, by omega⟩, ?_⟩
      -- the rest of the round, where the tenth byte is no more than 1
      have hrest : (i = 9 → (s.getD i 0).toNat ≤ 1) → valS (s.take (i + 1)) < 18446744073709551616 := fun h9 => by
        rw [hval]
        by_cases hi9 : i = 9
        · have := h9 hi9
          subst hi9
          have e9 : 128 ^ 9 = 9223372036854775808 := by decide
          rw [e9] at hv1 ⊢
          have h2' : (s.getD 9 0).toNat % 128 ≤ 1 := by omega
          have := Nat.mul_le_mul_left 9223372036854775808 h2'
          omega
        · have hm : 128 ^ i * ((s.getD i 0).toNat % 128) ≤ 128 ^ i * 127 := Nat.mul_le_mul_left _ (by omega)
          have h8 : 128 ^ i * 128 ≤ 128 ^ 8 * 128 := Nat.mul_le_mul_right _ (Nat.pow_le_pow_right (by decide) (by omega))
          have e8 : 128 ^ 8 * 128 = 9223372036854775808 := by decide
          omega
      have hor : (i = 9 → (s.getD i 0).toNat ≤ 1) →
          Go.bits .or .u64 (valS (s.take i) : Int) (IntKind.u64.wrap (IntKind.u64.wrap (Go.bits .and .u8 ((s.getD i 0).toNat : Int) 127) * 2 ^ (min (IntKind.i64.wrap (7 * (i : Int))).toNat 64))) = ((valS (s.take (i + 1)) : Nat) : Int) := fun h9 => by
        have h64 := hrest h9
        rw [and127, wrap_u64 (a := (((s.getD i 0).toNat % 128 : Nat) : Int)) (by omega) (by omega), wrap_i64 (by omega) (by omega)]
        rw [show (7 * (i : Int)).toNat = 7 * i by omega, Nat.min_eq_left (by omega : 7 * i ≤ 64)]
        have e2 : (((s.getD i 0).toNat % 128 : Nat) : Int) * 2 ^ (7 * i) = ((128 ^ i * ((s.getD i 0).toNat % 128) : Nat) : Int) := by
          rw [← pow7, Nat.mul_comm]
          push_cast
          exact Int.mul_comm _ _
        rw [e2]
        rw [hval] at h64 ⊢
        rw [wrap_u64 (by omega) (by omega)]
        exact orStep i _ _ hv1 h64
      refine condP.split (fun g2 => ?_) (fun g2 => ?_)
      · have g2' : i = 9 := by have : ((i : Int) == 9) = true := g2; have := beq_iff_eq.1 this; omega
        refine condP.split (fun g3 => ?_) (fun g3 => ?_)
        · refine ⟨(), ?_, trivial, trivial⟩
          have g3' : 1 < (s.getD i 0).toNat := by have : (((s.getD i 0).toNat : Nat) : Int) > 1 := of_decide_eq_true g3; omega
          intro hk
          by_cases hc : 128 ≤ (s.getD i 0).toNat
          · have he : endOf 10 s = 10 := by
              refine endOf_eq 10 s 10 (Nat.le_refl _) (fun j hj => ?_) (by omega) (.inl rfl)
              by_cases hje : j = i
              · subst hje; exact hc
              · exact h3 j (by omega)
            rw [he] at hk
            have := hk.1
            omega
          · have he := hend (.inr (.inr (by omega)))
            rw [he] at hk
            subst g2'
            exact hk.2.1 ⟨rfl, g3'⟩
        · have g3' : (s.getD i 0).toNat ≤ 1 := by have : ¬ (((s.getD i 0).toNat : Nat) : Int) > 1 := of_decide_eq_false g3; omega
          have h9 : i = 9 → (s.getD i 0).toNat ≤ 1 := fun _ => g3'
          refine ⟨by show 0 ≤ IntKind.i64.wrap (7 * (i : Int)); rw [wrap_i64 (by omega) (by omega)]; omega, ?_⟩
          refine condP.split (fun g5 => ?_) (fun g5 => ?_)
          · have g5' : 128 ≤ (s.getD i 0).toNat := by have : (((s.getD i 0).toNat : Nat) : Int) ≥ 128 := of_decide_eq_true g5; omega
            refine ⟨i + 1, ⟨by omega, by omega, by omega, fun j hj => ?_⟩, ⟨rfl, rfl, ?_, ?_, trivial⟩, trivial⟩
            · by_cases hje : j = i
              · subst hje; exact g5'
              · exact h3 j (by omega)
            · exact congrArg (fun n => some (PV.i (IV.int .i64 n))) (int_succ (by omega))
            · exact congrArg (fun n => some (PV.i (IV.int .u64 n))) (hor h9)
          · have g5' : (s.getD i 0).toNat < 128 := by have : ¬ (((s.getD i 0).toNat : Nat) : Int) ≥ 128 := of_decide_eq_false g5; omega
            have he := hend (.inr (.inr g5'))
            have hok : (0 < i → (s.getD i 0).toNat ≠ 0) → numOK s (endOf 10 s) := fun hz => by
              rw [he]; exact ⟨g1', fun h => by have := h9 h.1; rw [← h.1] at h; omega, fun h => hz h.1 h.2⟩
            have hret : numOK s (endOf 10 s) → some (IV.tup [.int .u64 (Go.bits .or .u64 (valS (s.take i) : Int) (IntKind.u64.wrap (IntKind.u64.wrap (Go.bits .and .u8 ((s.getD i 0).toNat : Int) 127) * 2 ^ (min (IntKind.i64.wrap (7 * (i : Int))).toNat 64)))), .str ((s.take ((s.length : Int)).toNat).drop (IntKind.i64.wrap ((i : Int) + 1)).toNat), .int .i64 0]) = some (getP s) := fun hk => by
              rw [getP, if_pos hk, hor h9, he, int_succ (by omega)]
              simp
            refine condP.split (fun g6 => ?_) (fun g6 => ?_)
            · have g6' : (s.getD i 0).toNat = 0 := by have : (((s.getD i 0).toNat : Nat) : Int) = 0 := beq_iff_eq.1 g6; omega
              refine condP.split (fun g7 => ?_) (fun g7 => ?_)
              · refine ⟨(), ?_, trivial, trivial⟩
                have g7' : 0 < i := by have := of_decide_eq_true g7; omega
                intro hk
                rw [he] at hk
                exact hk.2.2 ⟨g7', g6'⟩
              · have g7' : ¬ 0 < i := by have := of_decide_eq_false g7; omega
                refine drawW T_ok (by decide +kernel) ?_
                refine ⟨⟨?_, ?_, Int.le_refl _⟩, ?_⟩
                · show 0 ≤ IntKind.i64.wrap ((i : Int) + 1); rw [int_succ (by omega)]; omega
                · show IntKind.i64.wrap ((i : Int) + 1) ≤ (s.length : Int); rw [int_succ (by omega)]; omega
                refine ⟨by kernel_rfl, ?_⟩
                exact hret (hok fun h => absurd h g7')
            · have g6' : (s.getD i 0).toNat ≠ 0 := by have : (((s.getD i 0).toNat : Nat) : Int) ≠ 0 := beq_eq_false_iff_ne.1 g6; omega
              refine drawW T_ok (by decide +kernel) ?_
              refine ⟨⟨?_, ?_, Int.le_refl _⟩, ?_⟩
              · show 0 ≤ IntKind.i64.wrap ((i : Int) + 1); rw [int_succ (by omega)]; omega
              · show IntKind.i64.wrap ((i : Int) + 1) ≤ (s.length : Int); rw [int_succ (by omega)]; omega
              refine ⟨by kernel_rfl, ?_⟩
              exact hret (hok fun _ => g6')
      · have g2' : i ≠ 9 := by have : ((i : Int) == 9) = false := g2; have := beq_eq_false_iff_ne.1 this; omega
        have h9 : i = 9 → (s.getD i 0).toNat ≤ 1 := fun h => absurd h g2'
        refine ⟨by show 0 ≤ IntKind.i64.wrap (7 * (i : Int)); rw [wrap_i64 (by omega) (by omega)]; omega, ?_⟩
        refine condP.split (fun g5 => ?_) (fun g5 => ?_)
        · have g5' : 128 ≤ (s.getD i 0).toNat := by have : (((s.getD i 0).toNat : Nat) : Int) ≥ 128 := of_decide_eq_true g5; omega
          refine ⟨i + 1, ⟨by omega, by omega, by omega, fun j hj => ?_⟩, ⟨rfl, rfl, ?_, ?_, trivial⟩, trivial⟩
          · by_cases hje : j = i
            · subst hje; exact g5'
            · exact h3 j (by omega)
          · exact congrArg (fun n => some (PV.i (IV.int .i64 n))) (int_succ (by omega))
          · exact congrArg (fun n => some (PV.i (IV.int .u64 n))) (hor h9)
        · have g5' : (s.getD i 0).toNat < 128 := by have : ¬ (((s.getD i 0).toNat : Nat) : Int) ≥ 128 := of_decide_eq_false g5; omega
          have he := hend (.inr (.inr g5'))
          have hok : (0 < i → (s.getD i 0).toNat ≠ 0) → numOK s (endOf 10 s) := fun hz => by
            rw [he]; exact ⟨g1', fun h => by have := h9 h.1; rw [← h.1] at h; omega, fun h => hz h.1 h.2⟩
          have hret : numOK s (endOf 10 s) → some (IV.tup [.int .u64 (Go.bits .or .u64 (valS (s.take i) : Int) (IntKind.u64.wrap (IntKind.u64.wrap (Go.bits .and .u8 ((s.getD i 0).toNat : Int) 127) * 2 ^ (min (IntKind.i64.wrap (7 * (i : Int))).toNat 64)))), .str ((s.take ((s.length : Int)).toNat).drop (IntKind.i64.wrap ((i : Int) + 1)).toNat), .int .i64 0]) = some (getP s) := fun hk => by
            rw [getP, if_pos hk, hor h9, he, int_succ (by omega)]
            simp
          refine condP.split (fun g6 => ?_) (fun g6 => ?_)
          · have g6' : (s.getD i 0).toNat = 0 := by have : (((s.getD i 0).toNat : Nat) : Int) = 0 := beq_iff_eq.1 g6; omega
            refine condP.split (fun g7 => ?_) (fun g7 => ?_)
            · refine ⟨(), ?_, trivial, trivial⟩
              have g7' : 0 < i := by have := of_decide_eq_true g7; omega
              intro hk
              rw [he] at hk
              exact hk.2.2 ⟨g7', g6'⟩
            · have g7' : ¬ 0 < i := by have := of_decide_eq_false g7; omega
              refine drawW T_ok (by decide +kernel) ?_
              refine ⟨⟨?_, ?_, Int.le_refl _⟩, ?_⟩
              · show 0 ≤ IntKind.i64.wrap ((i : Int) + 1); rw [int_succ (by omega)]; omega
              · show IntKind.i64.wrap ((i : Int) + 1) ≤ (s.length : Int); rw [int_succ (by omega)]; omega
              refine ⟨by kernel_rfl, ?_⟩
              exact hret (hok fun h => absurd h g7')
          · have g6' : (s.getD i 0).toNat ≠ 0 := by have : (((s.getD i 0).toNat : Nat) : Int) ≠ 0 := beq_eq_false_iff_ne.1 g6; omega
            refine drawW T_ok (by decide +kernel) ?_
            refine ⟨⟨?_, ?_, Int.le_refl _⟩, ?_⟩
            · show 0 ≤ IntKind.i64.wrap ((i : Int) + 1); rw [int_succ (by omega)]; omega
            · show IntKind.i64.wrap ((i : Int) + 1) ≤ (s.length : Int); rw [int_succ (by omega)]; omega
            refine ⟨by kernel_rfl, ?_⟩
            exact hret (hok fun _ => g6')
    · refine ⟨(), ?_, trivial, trivial⟩
      have g1' : ¬ (i : Int) < ((min s.length 10 : Nat) : Int) := of_decide_eq_false g1
      have he := hend (by omega)
      intro hok
      rw [he] at hok
      have := hok.1
      omega
  · rintro _ h
    show some (IV.tup [.int .u64 0, .str [], .int .i64 2]) = some (getP s)
    rw [getP, if_neg h]
/-- The text that bytes begin with, what stands behind it; none: there is none. -/
def takeO (s : List UInt8) : Option (List UInt8 × List UInt8) :=
  if numOK s (endOf 10 s) ∧ valS (s.take (endOf 10 s + 1)) ≤ (s.drop (endOf 10 s + 1)).length then
    some ((s.drop (endOf 10 s + 1)).take (valS (s.take (endOf 10 s + 1))), (s.drop (endOf 10 s + 1)).drop (valS (s.take (endOf 10 s + 1)))) else none

def takeP (s : List UInt8) : IV :=
  match takeO s with
  | some (t, r) => .tup [.str t, .str r, .int .i64 0]
  | none => .tup [.str [], .str [], .int .i64 2]

theorem varint_Take_ok (s : List UInt8) (hs : s.length < 4611686018427387904) : PureC Pg G Fn.varint_Take [.str s] (takeP s) := by
  by_cases hok : numOK s (endOf 10 s)
  · have hv := numOK_lt hok
    have hg := varint_Get_ok (G := G) s hs
    simp only [getP, if_pos hok] at hg
    generalize hn : valS (s.take (endOf 10 s + 1)) = n at *
    generalize hr : s.drop (endOf 10 s + 1) = r at *
    have hrl : r.length < 4611686018427387904 := by rw [← hr]; simp; omega
    refine pureC_of T_ok Fd.varint_Take rfl (by kernel_rfl) ?_
    refine ⟨_, _, _, pureCall hg rfl, ?_⟩
    refine condP.split (fun g => ?_) (fun g => ?_)
    · have g' : r.length < n := by
        have : (n : Int) > IntKind.u64.wrap (r.length : Int) := of_decide_eq_true g
        rw [wrap_u64 (by omega) (by omega)] at this; omega
      show some (IV.tup [.str [], .str [], .int .i64 2]) = some (takeP s)
      rw [takeP, takeO, if_neg]
      rintro ⟨_, h⟩
      rw [hn, hr] at h; omega
    · have g' : n ≤ r.length := by
        have : ¬ (n : Int) > IntKind.u64.wrap (r.length : Int) := of_decide_eq_false g
        rw [wrap_u64 (by omega) (by omega)] at this; omega
      refine drawW T_ok (by decide +kernel) ?_
      refine ⟨⟨by simp, by simp, by simp; omega⟩, ?_⟩
      refine ⟨⟨by simp, by simp; omega, by simp⟩, ?_⟩
      refine ⟨by kernel_rfl, ?_⟩
      show some (IV.tup [.str ((r.take ((n : Int)).toNat).drop (0 : Int).toNat), .str ((r.take ((r.length : Int)).toNat).drop ((n : Int)).toNat), .int .i64 0]) = some (takeP s)
      rw [takeP, takeO, if_pos ⟨hok, by rw [hn, hr]; exact g'⟩]
      simp [hn, hr]
  · have hg := varint_Get_ok (G := G) s hs
    simp only [getP, if_neg hok] at hg
    refine pureC_of T_ok Fd.varint_Take rfl (by kernel_rfl) ?_
    refine ⟨_, _, _, pureCall hg rfl, ?_⟩
    show some (IV.tup [.str [], .str [], .int .i64 2]) = some (takeP s)
    rw [takeP, takeO, if_neg (fun h => hok h.1)]
end Go.Kn
