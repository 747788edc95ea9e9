/- The references' functions of layer 1, and small ones of layers 2 and 4: what each returns. -/
import Derived.Test.YtadcjononmlofaaDoorKnF
import Derived.Test.YtadcjononmlofaaDoorKnLib
set_option autoImplicit false
namespace Go.Kn
open Go Go.Proofs

variable {G : Gl}

/-- A number's bytes. -/
def putS (n : Nat) : List UInt8 :=
  if h : n < 128 then [UInt8.ofNat n] else UInt8.ofNat (128 + n % 128) :: putS (n / 128)
  termination_by n
  decreasing_by omega

theorem putS_small {n : Nat} (h : n < 128) : putS n = [UInt8.ofNat n] := by rw [putS, dif_pos h]
theorem putS_big {n : Nat} (h : ¬ n < 128) : putS n = UInt8.ofNat (128 + n % 128) :: putS (n / 128) := by rw [putS, dif_neg h]

theorem u8s_one (a : Int) : [IV.int .u8 (IntKind.u8.wrap a)] = u8s [UInt8.ofNat (a % 256).toNat] := by
  rw [wrap_u8_mod]
  simp only [u8s, List.map_cons, List.map_nil, List.cons.injEq, IV.int.injEq, true_and, and_true]
  rw [UInt8.toNat_ofNat']
  omega

theorem putS_len_pow : ∀ (k n : Nat), n < 128 ^ (k + 1) → (putS n).length ≤ k + 1
  | 0, n, h => by rw [putS_small (by simpa using h)]; simp
  | k + 1, n, h => by
    by_cases hn : n < 128
    · rw [putS_small hn]; simp
    · rw [putS_big hn]
      have := putS_len_pow k (n / 128) (by rw [Nat.div_lt_iff_lt_mul (by omega)]; rw [Nat.pow_succ] at h; exact h)
      simp; omega

theorem putS_len {n : Nat} (hn : n < 18446744073709551616) : (putS n).length ≤ 10 :=
  putS_len_pow 9 n (Nat.lt_of_lt_of_le hn (by decide))

theorem putS_pos (n : Nat) : 0 < (putS n).length := by
  by_cases hn : n < 128
  · rw [putS_small hn]; simp
  · rw [putS_big hn]; simp

theorem ref01_Put_ok (n : Nat) (hn : n < 18446744073709551616) : PureC Pg G Fn.ref01_Put [.int .u64 n] (.str (putS n)) := by
  refine pureC_of T_ok Fd.ref01_Put rfl (by kernel_rfl) ?_
  refine loopS T_ok (S := List UInt8 × Nat) (fun s => [(3, .i (.str s.1)), (0, .i (.int .u64 s.2))]) (fun _ => []) (fun s => s.2) (fun s => s.2 < 18446744073709551616 ∧ s.1 ++ putS s.2 = putS n) ([], n)
    ⟨rfl, rfl, trivial⟩ trivial ⟨hn, rfl⟩ ?_
  rintro ⟨s, n'⟩ ⟨h1, h2⟩
  have hlen := putS_len hn
  rw [← h2, List.length_append] at hlen
  have hpos := putS_pos n'
  simp only at h1 h2 hlen
  refine condP.split (fun h => ?_) (fun h => ?_)
  · have hb : ¬ n' < 128 := by have := of_decide_eq_true h; omega
    have e1 : IntKind.u64.wrap (128 + (n' : Int).tmod 128) = ((128 + n' % 128 : Nat) : Int) := by
      rw [Int.tmod_eq_emod_of_nonneg (by omega), wrap_u64 (by omega) (by omega)]; omega
    have e2 : IntKind.u64.wrap ((n' : Int).tdiv 128) = ((n' / 128 : Nat) : Int) := by
      rw [Int.tdiv_eq_ediv_of_nonneg (by omega), wrap_u64 (by omega) (by omega)]; omega
    refine ⟨by decide, ?_⟩
    refine ⟨_, u8s_one _, ?_⟩
    refine ⟨by simp; omega, ?_⟩
    refine ⟨by decide, ?_⟩
    refine ⟨(s ++ [UInt8.ofNat (128 + n' % 128)], n' / 128), ⟨by simp only; omega, by simp only; omega, ?_⟩, ⟨?_, ?_, trivial⟩, trivial⟩
    · rw [putS_big hb] at h2
      simpa using h2
    · show some (PV.i (IV.str (s ++ [UInt8.ofNat (IntKind.u64.wrap (128 + (n' : Int).tmod 128) % 256).toNat]))) = some (PV.i (IV.str (s ++ [UInt8.ofNat (128 + n' % 128)])))
      rw [e1, show (((128 + n' % 128 : Nat) : Int) % 256).toNat = 128 + n' % 128 by omega]
    · show some (PV.i (IV.int .u64 (IntKind.u64.wrap ((n' : Int).tdiv 128)))) = _
      rw [e2]
  · have hb : n' < 128 := by have := of_decide_eq_false h; omega
    refine ⟨_, u8s_one _, ?_⟩
    refine ⟨by simp; omega, ?_⟩
    show some (IV.str (s ++ [UInt8.ofNat ((n' : Int) % 256).toNat])) = some (.str (putS n))
    rw [← h2, putS_small hb, show ((n' : Int) % 256).toNat = n' by omega]

def textS (t : List UInt8) : List UInt8 := putS t.length ++ t

theorem ref01_Text_ok (t : List UInt8) (ht : t.length < 4611686018427387904) : PureC Pg G Fn.ref01_Text [.str t] (.str (textS t)) := by
  refine pureC_of T_ok Fd.ref01_Text rfl (by kernel_rfl) ?_
  refine ⟨_, _, _, pureCall (ref01_Put_ok t.length (by omega)) ?_, ?_⟩
  · show some [IV.int .u64 (IntKind.u64.wrap (t.length : Int))] = _
    rw [wrap_u64 (by omega) (by omega)]
  · have := putS_len (n := t.length) (by omega)
    exact ⟨by omega, rfl⟩
end Go.Kn
