/- The references' functions of layer 1 that read numbers; small ones of layer 4: what each returns. -/
import Derived.Test.YtadcjononmlofaaDoorKnRef1
set_option autoImplicit false
namespace Go.Kn
open Go Go.Proofs

variable {G : Gl}

/-- How many bytes of 128 or more stand ahead, of at most k. -/
def endOf : Nat → List UInt8 → Nat
  | 0, _ => 0
  | _ + 1, [] => 0
  | k + 1, c :: r => if 128 ≤ c.toNat then endOf k r + 1 else 0

/-- Base 128, the lowest figure first. -/
def valS : List UInt8 → Nat
  | [] => 0
  | c :: r => c.toNat % 128 + 128 * valS r

def numOK (s : List UInt8) (e : Nat) : Prop := (e < s.length ∧ e < 10) ∧ ¬ (e = 9 ∧ 1 < (s.getD 9 0).toNat) ∧ ¬ (0 < e ∧ (s.getD e 0).toNat = 0)

instance (s : List UInt8) (e : Nat) : Decidable (numOK s e) := by unfold numOK; infer_instance

/-- The number that bytes begin with, and how many bytes it has; 0: there is none. -/
def getR (s : List UInt8) : Nat × Nat := if numOK s (endOf 10 s) then (valS (s.take (endOf 10 s + 1)), endOf 10 s + 1) else (0, 0)

theorem endOf_le : ∀ (k : Nat) (s : List UInt8), endOf k s ≤ k ∧ endOf k s ≤ s.length
  | 0, s => by simp [endOf]
  | k + 1, [] => by simp [endOf]
  | k + 1, c :: r => by
    have := endOf_le k r
    simp only [endOf, List.length_cons]
    split <;> omega

/-- The count is where the first byte below 128 stands. -/
theorem endOf_eq : ∀ (k : Nat) (s : List UInt8) (e : Nat), e ≤ k → (∀ j, j < e → 128 ≤ (s.getD j 0).toNat) → e ≤ s.length → (e = k ∨ e = s.length ∨ (s.getD e 0).toNat < 128) → endOf k s = e
  | 0, s, e, h, _, _, _ => by simp [endOf]; omega
  | k + 1, [], e, h, _, h2, _ => by simp at h2; simp [endOf, h2]
  | k + 1, c :: r, 0, h, h1, h2, h3 => by
    simp only [endOf]
    rw [if_neg]
    rcases h3 with h3 | h3 | h3
    · omega
    · simp at h3
    · simp at h3; omega
  | k + 1, c :: r, e + 1, h, h1, h2, h3 => by
    have hc := h1 0 (by omega)
    simp at hc
    simp only [endOf, if_pos hc]
    rw [endOf_eq k r e (by omega) (fun j hj => by have := h1 (j + 1) (by omega); simpa using this) (by simpa using h2) (by rcases h3 with h3 | h3 | h3; left; omega; right; left; simpa using h3; right; right; simpa using h3)]

theorem valS_lt : ∀ (l : List UInt8), valS l < 128 ^ l.length
  | [] => by simp [valS]
  | c :: r => by
    have := valS_lt r
    simp only [valS, List.length_cons, Nat.pow_succ]
    have h1 : c.toNat % 128 < 128 := Nat.mod_lt _ (by omega)
    omega

theorem valS_append : ∀ (l r : List UInt8), valS (l ++ r) = valS l + 128 ^ l.length * valS r
  | [], r => by simp [valS]
  | c :: l, r => by
    simp only [List.cons_append, valS, valS_append l r, List.length_cons, Nat.pow_succ, Nat.mul_add]
    rw [show 128 * (128 ^ l.length * valS r) = 128 ^ l.length * 128 * valS r by
      rw [Nat.mul_comm (128 ^ l.length) 128, Nat.mul_assoc]]
    omega

theorem numOK_lt {s : List UInt8} {e : Nat} (h : numOK s e) : valS (s.take (e + 1)) < 18446744073709551616 := by
  obtain ⟨⟨h1, h2⟩, h3, h4⟩ := h
  by_cases h9 : e = 9
  · subst h9
    have h5 : (s.getD 9 0).toNat ≤ 1 := by omega
    have hs : s.take (9 + 1) = s.take 9 ++ [s.getD 9 0] := by
      rw [List.take_succ_eq_append_getElem h1]
      simp [List.getD_eq_getElem?_getD, h1]
    rw [hs, valS_append]
    have h6 := valS_lt (s.take 9)
    have h7 : (s.take 9).length = 9 := by simp; omega
    rw [h7] at h6 ⊢
    simp only [valS]
    omega
  · have h6 := valS_lt (s.take (e + 1))
    have h7 : (s.take (e + 1)).length ≤ 9 := by simp; omega
    have h8 : 128 ^ (s.take (e + 1)).length ≤ 128 ^ 9 := Nat.pow_le_pow_right (by omega) h7
    omega

theorem valS_drop_le : ∀ (l : List UInt8) (i : Nat), valS (l.drop i) ≤ valS l
  | l, 0 => by simp
  | [], i + 1 => by simp
  | c :: r, i + 1 => by
    have := valS_drop_le r i
    simp only [List.drop_succ_cons, valS]
    omega

theorem ge_u8 (c : UInt8) : decide (((c.toNat : Nat) : Int) ≥ 128) = decide (128 ≤ c.toNat) := by
  congr 1; exact propext (by omega)

theorem get_loop2 {s : List UInt8} {e : Nat} (hs : s.length < 4611686018427387904) (hok : numOK s e) {env : Env} {m : Mem} {Q : EQ}
    (hE : LkE env [(0, .i (.str s)), (4, .i (.int .i64 (e : Int))), (5, .i (.int .u64 0)), (6, .i (.int .i64 (e : Int)))])
    (hQ : Q (.exit 2) [(4, .i (.int .i64 (e : Int))), (5, .i (.int .u64 (valS (s.take (e + 1)) : Int)))] []) : LoopW Pg G Fb.ref01_Get.ntmps (nthLoop Fb.ref01_Get 1) env m Q := by
  have hlt := numOK_lt hok
  obtain ⟨⟨h1, h2⟩, _, _⟩ := hok
  refine loopX T_ok 2 (S := Nat) (S' := Unit)
    (fun i => [(0, .i (.str s)), (4, .i (.int .i64 (e : Int))), (5, .i (.int .u64 (valS ((s.take (e + 1)).drop i) : Int))), (6, .i (.int .i64 ((i : Int) - 1)))]) (fun _ => []) (fun i => i) (fun i => i ≤ e + 1)
    (fun _ => [(4, .i (.int .i64 (e : Int))), (5, .i (.int .u64 (valS (s.take (e + 1)) : Int)))]) (fun _ => []) (fun _ => True) (e + 1) ?_ trivial (Nat.le_refl _) ?_ (fun _ _ => hQ)
  · refine ⟨hE.1, hE.2.1, ?_, ?_, trivial⟩
    · rw [hE.2.2.1, List.drop_of_length_le (by simp; omega)]; rfl
    · rw [hE.2.2.2.1]; congr 3; omega
  · intro i hi
    refine condP.split (fun g1 => ?_) (fun g1 => ?_)
    · have g1' : 0 < i := by have := of_decide_eq_true g1; omega
      refine ⟨⟨by omega, by omega⟩, ?_⟩
      refine ⟨by decide, ?_⟩
      refine ⟨i - 1, ⟨by omega, by omega⟩, ⟨rfl, rfl, ?_, ?_, trivial⟩, trivial⟩
      · have hd : (s.take (e + 1)).drop (i - 1) = s.getD (i - 1) 0 :: (s.take (e + 1)).drop i := by
          have hl : i - 1 < (s.take (e + 1)).length := by simp; omega
          rw [List.drop_eq_getElem_cons hl, show i - 1 + 1 = i by omega]
          congr 1
          simp [List.getD_eq_getElem?_getD, show i - 1 < s.length by omega]
        have hv := valS_drop_le (s.take (e + 1)) (i - 1)
        rw [hd] at hv ⊢
        simp only [valS] at hv ⊢
        show some (PV.i (IV.int .u64 (IntKind.u64.wrap (IntKind.u64.wrap (128 * (valS ((s.take (e + 1)).drop i) : Int)) + IntKind.u64.wrap ((((s.getD ((i : Int) - 1).toNat 0).toNat : Nat) : Int).tmod 128))))) = _
        rw [show ((i : Int) - 1).toNat = i - 1 by omega, Int.tmod_eq_emod_of_nonneg (by omega), wrap_u64 (a := 128 * _) (by omega) (by omega), wrap_u64 (a := _ % 128) (by omega) (by omega), wrap_u64 (by omega) (by omega)]
        congr 3
        omega
      · show some (PV.i (IV.int .i64 (IntKind.i64.wrap ((i : Int) - 1 - 1)))) = some (PV.i (IV.int .i64 (((i - 1 : Nat) : Int) - 1)))
        rw [wrap_i64 (by omega) (by omega)]
        congr 3
        omega
    · have g1' : i = 0 := by have := of_decide_eq_false g1; omega
      subst g1'
      exact ⟨(), trivial, ⟨rfl, rfl, trivial⟩, trivial⟩

theorem ref01_Get_ok (s : List UInt8) (hs : s.length < 4611686018427387904) : PureC Pg G Fn.ref01_Get [.str s] (.tup [.int .u64 ((getR s).1 : Int), .int .i64 ((getR s).2 : Int)]) := by
  refine pureC_of T_ok Fd.ref01_Get rfl (by kernel_rfl) ?_
  refine loopX T_ok 0 (S := Nat) (S' := Nat) (fun e => [(0, .i (.str s)), (4, .i (.int .i64 (e : Int)))]) (fun _ => []) (fun e => 10 - e) (fun e => e ≤ 10 ∧ e ≤ s.length ∧ ∀ j, j < e → 128 ≤ (s.getD j 0).toNat)
    (fun e => [(0, .i (.str s)), (4, .i (.int .i64 (e : Int)))]) (fun _ => []) (fun e => e ≤ 10 ∧ e ≤ s.length ∧ endOf 10 s = e) 0
    ⟨rfl, rfl, trivial⟩ trivial ⟨by omega, by omega, by omega⟩ ?_ ?_
  · rintro e ⟨h1, h2, h3⟩
    have hout : (e = 10 ∨ e = s.length ∨ (s.getD e 0).toNat < 128) → endOf 10 s = e := fun h => endOf_eq 10 s e h1 h3 h2 h
    refine condP.split (fun g1 => ?_) (fun g1 => ?_)
    · have g1' : e < s.length := by have := of_decide_eq_true g1; omega
      refine condP.split (fun g2 => ?_) (fun g2 => ?_)
      · have g2' : e < 10 := by have := of_decide_eq_true g2; omega
        refine ⟨⟨by omega, by omega⟩, ?_⟩
        refine condP.split (fun g3 => ?_) (fun g3 => ?_)
        · have g3' : 128 ≤ (s.getD e 0).toNat := by have := of_decide_eq_true g3; simp at this ⊢; omega
          refine ⟨e + 1, ⟨by omega, by omega, by omega, fun j hj => ?_⟩, ⟨rfl, ?_, trivial⟩, trivial⟩
          · by_cases hje : j = e
            · subst hje; exact g3'
            · exact h3 j (by omega)
          · exact congrArg (fun n => some (PV.i (IV.int .i64 n))) (int_succ (by omega))
        · exact ⟨e, ⟨h1, h2, hout (.inr (.inr (by have := of_decide_eq_false g3; simp at this ⊢; omega)))⟩, ⟨rfl, rfl, trivial⟩, trivial⟩
      · exact ⟨e, ⟨h1, h2, hout (.inl (by have := of_decide_eq_false g2; omega))⟩, ⟨rfl, rfl, trivial⟩, trivial⟩
    · exact ⟨e, ⟨h1, h2, hout (.inr (.inl (by have := of_decide_eq_false g1; omega)))⟩, ⟨rfl, rfl, trivial⟩, trivial⟩
  · rintro e ⟨h1, h2, he⟩
    have hno : ¬ numOK s e → retI T [.tmp 2, .tmp 3] (.tup [.int .u64 ((getR s).1 : Int), .int .i64 ((getR s).2 : Int)]) .ret [(2, .i (.int .u64 0)), (3, .i (.int .i64 0))] [] := fun h => by
      show some (IV.tup [.int .u64 0, .int .i64 0]) = _
      simp [getR, he, h]
    refine condP.split (fun g1 => ?_) (fun g1 => ?_)
    · exact hno fun h => by have := of_decide_eq_true g1; have := h.1.1; omega
    · refine condP.split (fun g2 => ?_) (fun g2 => ?_)
      · exact hno fun h => by have := of_decide_eq_true g2; have := h.1.2; omega
      · have g1' : e < s.length := by have := of_decide_eq_false g1; omega
        have g2' : e < 10 := by have := of_decide_eq_false g2; omega
        have hfin : numOK s e → ∀ (env : Env) (m : Mem), True := fun _ _ _ => trivial
        clear hfin
        have hyes : numOK s e → getR s = (valS (s.take (e + 1)), e + 1) := fun h => by simp [getR, he, h]
        have hend : numOK s e → retI T [.tmp 2, .tmp 3] (.tup [.int .u64 ((getR s).1 : Int), .int .i64 ((getR s).2 : Int)]) .ret
            [(3, .i (.int .i64 (IntKind.i64.wrap ((e : Int) + 1)))), (2, .i (.int .u64 (valS (s.take (e + 1)) : Int)))] [] := fun h => by
          show some (IV.tup [.int .u64 (valS (s.take (e + 1)) : Int), .int .i64 (IntKind.i64.wrap ((e : Int) + 1))]) = _
          rw [hyes h, int_succ (by omega)]
        refine condP.split (fun g3 => ?_) (fun g3 => ?_)
        · have g3' : e = 9 := by have := of_decide_eq_true g3; omega
          refine ⟨⟨by omega, by omega⟩, ?_⟩
          refine condP.split (fun g4 => ?_) (fun g4 => ?_)
          · exact hno fun h => h.2.1 ⟨g3', by have := of_decide_eq_true g4; simp at this ⊢; omega⟩
          · refine condP.split (fun g5 => ?_) (fun g5 => ?_)
            · refine ⟨⟨by omega, by omega⟩, ?_⟩
              refine condP.split (fun g6 => ?_) (fun g6 => ?_)
              · exact hno fun h => h.2.2 ⟨by omega, by have := beq_iff_eq.1 g6; simp at this ⊢; omega⟩
              · have hok : numOK s e := ⟨⟨g1', g2'⟩, fun h => by have := of_decide_eq_false g4; change ¬ ((((s.getD 9 0).toNat : Nat) : Int) > 1) at this; omega, fun h => by have := beq_eq_false_iff_ne.1 g6; change (((s.getD e 0).toNat : Nat) : Int) ≠ 0 at this; omega⟩
                exact get_loop2 hs hok ⟨rfl, rfl, rfl, rfl, trivial⟩ (hend hok)
            · have := of_decide_eq_false g5; omega
        · refine condP.split (fun g5 => ?_) (fun g5 => ?_)
          · refine ⟨⟨by omega, by omega⟩, ?_⟩
            refine condP.split (fun g6 => ?_) (fun g6 => ?_)
            · exact hno fun h => h.2.2 ⟨by have := of_decide_eq_true g5; omega, by have := beq_iff_eq.1 g6; simp at this ⊢; omega⟩
            · have hok : numOK s e := ⟨⟨g1', g2'⟩, fun h => by have := of_decide_eq_false g3; omega, fun h => by have := beq_eq_false_iff_ne.1 g6; change (((s.getD e 0).toNat : Nat) : Int) ≠ 0 at this; omega⟩
              exact get_loop2 hs hok ⟨rfl, rfl, rfl, rfl, trivial⟩ (hend hok)
          · have hok : numOK s e := ⟨⟨g1', g2'⟩, fun h => by have := of_decide_eq_false g3; omega, fun h => by have := of_decide_eq_false g5; omega⟩
            exact get_loop2 hs hok ⟨rfl, rfl, rfl, rfl, trivial⟩ (hend hok)

/-- The text that bytes begin with, and how many bytes there are in all; 0: there is none. -/
def takeR (s : List UInt8) : List UInt8 × Nat :=
  if (getR s).2 = 0 ∨ s.length - (getR s).2 < (getR s).1 then ([], 0) else ((s.drop (getR s).2).take (getR s).1, (getR s).2 + (getR s).1)

theorem getR_le (s : List UInt8) : (getR s).2 ≤ s.length ∧ (getR s).1 < 18446744073709551616 := by
  unfold getR
  split
  · rename_i h
    exact ⟨by have := h.1.1; simp only; omega, numOK_lt h⟩
  · simp

theorem ref01_Take_ok (s : List UInt8) (hs : s.length < 4611686018427387904) : PureC Pg G Fn.ref01_Take [.str s] (.tup [.str (takeR s).1, .int .i64 ((takeR s).2 : Int)]) := by
  refine pureC_of T_ok Fd.ref01_Take rfl (by kernel_rfl) ?_
  refine ⟨_, _, _, pureCall (ref01_Get_ok s hs) rfl, ?_⟩
  obtain ⟨hle, hlt⟩ := getR_le s
  generalize hn : (getR s).1 = n at *
  generalize hk : (getR s).2 = k at *
  have e1 : IntKind.u64.wrap (IntKind.i64.wrap ((s.length : Int) - (k : Int))) = ((s.length - k : Nat) : Int) := by
    rw [wrap_i64 (by omega) (by omega), wrap_u64 (by omega) (by omega)]; omega
  refine condP.split (fun g1 => ?_) (fun g1 => ?_)
  · have : k = 0 := by have := beq_iff_eq.1 g1; omega
    show some (IV.tup [.str [], .int .i64 0]) = _
    simp [takeR, hn, hk, this]
  · have hk0 : k ≠ 0 := by have := beq_eq_false_iff_ne.1 g1; omega
    refine condP.split (fun g2 => ?_) (fun g2 => ?_)
    · have g2' : s.length - k < n := by
        rw [e1] at g2
        have := of_decide_eq_true g2; omega
      show some (IV.tup [.str [], .int .i64 0]) = _
      simp [takeR, hn, hk, g2']
    · have g2' : n ≤ s.length - k := by
        rw [e1] at g2
        have := of_decide_eq_false g2; omega
      have e2 : IntKind.i64.wrap (n : Int) = n := wrap_nat (by omega)
      have e3 : IntKind.i64.wrap ((k : Int) + (n : Int)) = ((k + n : Nat) : Int) := by rw [wrap_i64 (by omega) (by omega)]; omega
      have e4 : IntKind.i64.wrap ((k : Int) + IntKind.i64.wrap (n : Int)) = ((k + n : Nat) : Int) := by rw [e2, e3]
      refine ⟨⟨by simp, ?_, ?_⟩, ?_⟩
      · show (k : Int) ≤ IntKind.i64.wrap ((k : Int) + IntKind.i64.wrap (n : Int)); rw [e4]; omega
      · show IntKind.i64.wrap ((k : Int) + IntKind.i64.wrap (n : Int)) ≤ (s.length : Int); rw [e4]; omega
      · show some (IV.tup [.str ((s.take (IntKind.i64.wrap ((k : Int) + IntKind.i64.wrap (n : Int))).toNat).drop (k : Int).toNat), .int .i64 (IntKind.i64.wrap ((k : Int) + IntKind.i64.wrap (n : Int)))]) = _
        rw [e4]
        have hno : ¬ (k = 0 ∨ s.length - k < n) := by omega
        simp only [takeR, hn, hk, if_neg hno, Int.toNat_natCast]
        congr 4
        rw [List.take_drop]

theorem ref04_one_ok (n : Int) : PureC Pg G Fn.ref04_one [.int .i64 n] (.str [UInt8.ofNat (n % 256).toNat]) := by
  refine pureC_of T_ok Fd.ref04_one rfl (by kernel_rfl) ?_
  exact ⟨_, u8s_one _, rfl⟩

theorem idC_u8s (x : Id) : idC x = u8s x.bytes := by
  rw [u8s, x.bytes_eq, idC, u8c, List.map_map]
  rfl

theorem ref04_bytes_ok (x : Id) : PureC Pg G Fn.ref04_bytes [encId x] (.str x.bytes) := by
  refine pureC_of T_ok Fd.ref04_bytes rfl (by kernel_rfl) ?_
  refine ⟨⟨by decide, by decide, by decide, by decide⟩, ?_⟩
  refine ⟨x.bytes, ⟨?_, x.len⟩, rfl⟩
  show (((idC x).map PV.i).drop 0).take 32 = _
  rw [List.drop_zero, List.take_of_length_le (by simp [idC, u8c]), idC_u8s]

def behindS (s : List UInt8) (n : Nat) : List UInt8 := s.drop n

theorem ref04_behind_ok (s : List UInt8) (n : Nat) : PureC Pg G Fn.ref04_behind [.str s, .int .i64 (n : Int)] (.str (s.drop n)) := by
  refine pureC_of T_ok Fd.ref04_behind rfl (by kernel_rfl) ?_
  refine condP.split (fun g => ?_) (fun g => ?_)
  · have : s.length ≤ n := by have := of_decide_eq_true g; omega
    show some (IV.str []) = _
    rw [List.drop_of_length_le this]
  · have hlt : n < s.length := by have := of_decide_eq_false g; omega
    refine ⟨⟨by simp, by simp; omega, by simp⟩, ?_⟩
    show some (IV.str ((s.take ((s.length : Int)).toNat).drop (n : Int).toNat)) = _
    simp

end Go.Kn
