/- Seeds: Few, name, pick. -/
import Derived.Test.YtadcjononmlofaaDoorKnCorr
set_option autoImplicit false
namespace Go.Kn
open Go Go.Proofs

variable {G : Gl}

structure Seed where
  kind : UInt8
  refs : List UInt8
  time : Nat
  text : List UInt8
  tlt : time < 65536

def encSeed (x : Seed) : IV := .agg [.int .u8 (x.kind.toNat : Int), .slice (u8s x.refs), .int .u16 (x.time : Int), .str x.text]

def seedOK (x : Seed) : Bool := decide (x.refs.length ≤ 10 ∧ x.text.length ≤ 300)
def fewB (l : List Seed) : Bool := (l.take 20).all seedOK && decide (l.length ≤ 20)

theorem lenS (l : List Seed) : ((l.map encSeed).length : Int) = (l.length : Int) := by simp
theorem lenU (l : List UInt8) : ((u8s l).length : Int) = (l.length : Int) := by simp [u8s]

theorem ref11_Few_ok (l : List Seed) : PureC Pg G Fn.ref11_Few [.slice (l.map encSeed), .int .i64 20] (.bool (fewB l)) := by
  refine pureC_of T_ok Fd.ref11_Few rfl (by kernel_rfl) ?_
  refine loopX T_ok 0 (S := Nat) (S' := Unit) (fun i => [(0, .i (.slice (l.map encSeed))), (1, .i (.int .i64 20)), (5, .i (.int .i64 (i : Int)))]) (fun _ => []) (fun i => 20 - i)
    (fun i => i ≤ l.length ∧ i ≤ 20 ∧ (l.take i).all seedOK = true) (fun _ => [(0, .i (.slice (l.map encSeed))), (1, .i (.int .i64 20))]) (fun _ => []) (fun _ => (l.take 20).all seedOK = true) 0 ⟨rfl, rfl, rfl, trivial⟩ trivial ⟨by omega, by omega, rfl⟩ ?_ ?_
  · rintro i ⟨h1, h2, h3⟩
    have hex : ¬ (i < l.length ∧ i < 20) → (l.take 20).all seedOK = true := by
      intro q
      by_cases hi : i = 20
      · subst hi; exact h3
      · have : l.take 20 = l.take i := by rw [List.take_of_length_le (by omega), List.take_of_length_le (by omega)]
        rw [this]; exact h3
    refine condP.split (fun g => ?_) (fun g => ?_)
    · have g1 : i < l.length := by have := of_decide_eq_true g; rw [lenS] at this; omega
      refine condP.split (fun g2 => ?_) (fun g2 => ?_)
      · have g2' : i < 20 := by have : (i : Int) < 20 := of_decide_eq_true g2; omega
        refine ⟨encSeed l[i], ⟨by omega, by simp [g1]⟩, ?_⟩
        have hno : ¬ (l[i].refs.length ≤ 10 ∧ l[i].text.length ≤ 300) → some (IV.bool false) = some (.bool (fewB l)) := by
          intro q
          have : (l.take 20).all seedOK = false := by
            rw [List.all_eq_false]
            exact ⟨l[i], by rw [List.mem_take_iff_getElem]; exact ⟨i, by omega, rfl⟩, by simp only [seedOK, decide_eq_true_eq]; exact q⟩
          rw [fewB, this]; rfl
        refine condP.split (fun g3 => ?_) (fun g3 => ?_)
        · have g3' : ((u8s l[i].refs).length : Int) > 10 := of_decide_eq_true g3
          rw [lenU] at g3'
          exact hno (by omega)
        · have g3' : ¬ ((u8s l[i].refs).length : Int) > 10 := of_decide_eq_false g3
          rw [lenU] at g3'
          refine ⟨encSeed l[i], ⟨by omega, by simp [g1]⟩, ?_⟩
          refine condP.split (fun g4 => ?_) (fun g4 => ?_)
          · have g4' : (l[i].text.length : Int) > 300 := of_decide_eq_true g4
            exact hno (by omega)
          · have g4' : ¬ (l[i].text.length : Int) > 300 := of_decide_eq_false g4
            refine ⟨i + 1, ⟨by omega, by omega, by omega, ?_⟩, ⟨rfl, rfl, congrArg (fun n => some (PV.i (IV.int .i64 n))) (int_succ (by omega)), trivial⟩, trivial⟩
            rw [List.take_succ_eq_append_getElem g1, List.all_append, h3]
            simp only [Bool.true_and, List.all_cons, List.all_nil, Bool.and_true, seedOK, decide_eq_true_eq]
            omega
      · refine ⟨(), ?_, ⟨rfl, rfl, trivial⟩, trivial⟩
        have : ¬ (i : Int) < 20 := of_decide_eq_false g2
        exact hex (by omega)
    · refine ⟨(), ?_, ⟨rfl, rfl, trivial⟩, trivial⟩
      have : ¬ (i : Int) < ((l.map encSeed).length : Int) := of_decide_eq_false g
      rw [lenS] at this
      exact hex (by omega)
  · intro _ h
    show some (IV.bool (decide (((l.map encSeed).length : Int) ≤ 20))) = _
    rw [fewB, h, lenS]
    congr 2
    simp only [Bool.true_and, decide_eq_decide]
    omega

theorem tmod_nat (a b : Nat) : Int.tmod (a : Int) (b : Int) = ((a % b : Nat) : Int) := (Int.ofNat_tmod a b).symm

def nameR (n : Nat) : List UInt8 := [UInt8.ofNat (97 + n % 20)]

theorem ref11_name_ok (n : Nat) (hn : n < 1000) : PureC Pg G Fn.ref11_name [.int .i64 (n : Int)] (.str (nameR n)) := by
  refine pureC_of T_ok Fd.ref11_name rfl (by kernel_rfl) ?_
  refine ⟨by decide, ?_⟩
  refine ⟨_, u8s_one _, ?_⟩
  show some (IV.str [UInt8.ofNat _]) = _
  have h : (n : Int).tmod 20 = ((n % 20 : Nat) : Int) := tmod_nat n 20
  have h2 : n % 20 < 20 := Nat.mod_lt _ (by decide)
  rw [h, wrap_i64 (by omega) (by omega), nameR]
  congr 4
  omega

def pickB (m : List RItem) (k : Int) (y : Id) : Bool := decide (kindR m y = k) || decide (k = 0) || decide (k = 9) && decide (kindR m y < 3)
def pickL (m : List RItem) (ids : List Id) (k : Int) : List Id := ids.filter (pickB m k)

theorem pickL_yes {m : List RItem} {ids : List Id} {k : Int} {i : Nat} (h : i < ids.length) (e : pickB m k ids[i] = true) : pickL m (ids.take (i + 1)) k = pickL m (ids.take i) k ++ [ids[i]] := by
  rw [pickL, pickL, List.take_succ_eq_append_getElem h, List.filter_append]; simp [e]

theorem pickL_no {m : List RItem} {ids : List Id} {k : Int} {i : Nat} (h : i < ids.length) (e : pickB m k ids[i] = false) : pickL m (ids.take (i + 1)) k = pickL m (ids.take i) k := by
  rw [pickL, pickL, List.take_succ_eq_append_getElem h, List.filter_append]; simp [e]

theorem pickL_len (m : List RItem) (ids : List Id) (k : Int) : (pickL m ids k).length ≤ ids.length := List.length_filter_le _ _

def pickR (m : List RItem) (ids : List Id) (n : Nat) (k : Int) : Option Id := (pickL m ids k)[(pickL m ids k).length - 1 - n % (pickL m ids k).length]?

def pickV : Option Id → IV
  | some y => .tup [encId y, .bool true]
  | none => .tup [encId Id.none, .bool false]

def pickE (m : List RItem) (ids : List Id) (n : Nat) (k : Int) (i : Nat) : Env :=
  [(1, .i (.slice (ids.map encId))), (2, .i (.int .i64 (n : Int))), (3, .i (.int .i64 k)), (4, .ptr 4 0), (8, .ptr 8 0), (10, .tok 66 32 ((pickL m (ids.take i) k).map encId)), (11, .i (.int .i64 (i : Int)))]
def pickM (m : List RItem) : Mem := [(4, .var [.i (.slice (m.map encRItem))]), (8, .var ((idC Id.none).map .i)), (66, .tip)]

theorem ref11_pick_ok (m : List RItem) (ids : List Id) (n : Nat) (k : Int) (hm : m.length < 1000000) (hi : ids.length < 1000000) :
    PureC Pg G Fn.ref11_pick [encSt m, .slice (ids.map encId), .int .i64 (n : Int), .int .i64 k] (pickV (pickR m ids n k)) := by
  refine pureC_of T_ok Fd.ref11_pick rfl (by kernel_rfl) ?_
  refine LoopW.tok0 66 rfl rfl (env' := pickE m ids n k 0) (m' := pickM m)
    ⟨⟨_, rfl, .refl _⟩, ⟨_, rfl, .refl _⟩, ⟨_, rfl, .refl _⟩, ⟨_, rfl, .refl _⟩, ⟨_, rfl, .refl _⟩, ⟨_, rfl, .tok 32⟩, ⟨_, rfl, .refl _⟩, trivial⟩
    ⟨.inr ⟨by decide, _, rfl, .refl _⟩, .inr ⟨by decide, _, rfl, .refl _⟩, .inl ⟨rfl, .tip⟩, trivial⟩ ?_
  refine loopX T_ok 0 (S := Nat) (S' := Unit) (fun i => pickE m ids n k i) (fun _ => pickM m) (fun i => ids.length - i) (fun i => i ≤ ids.length)
    (fun _ => pickE m ids n k ids.length) (fun _ => pickM m) (fun _ => True) 0 ⟨rfl, rfl, rfl, rfl, rfl, rfl, rfl, trivial⟩ ⟨rfl, rfl, rfl, trivial⟩ (by omega) ?_ ?_
  · intro i h
    refine condP.split (fun g => ?_) (fun g => ?_)
    · have g' : i < ids.length := by have h : (i : Int) < ((ids.map encId).length : Int) := of_decide_eq_true g; rw [lenI] at h; omega
      refine drawW T_ok (by decide +kernel) ?_
      refine ⟨encId ids[i], ⟨by omega, by simp [g']⟩, ?_⟩
      refine ⟨_, _, ⟨rfl, ref11_Kind_ok m ids[i] hm⟩, ?_⟩
      refine ⟨by kernel_rfl, ?_⟩
      refine condP.split (fun q1 => ?_) (fun q1 => ?_)
      · have q1' : kindR m ids[i] = k := by simpa using q1
        refine ⟨encId ids[i], ⟨by omega, by simp [g']⟩, ?_⟩
        refine ⟨⟨⟨hasSize_id _, fun x hx => by have := List.mem_singleton.1 hx; subst this; exact encId_len _⟩, szOK (by have := pickL_len m (ids.take i) k; simp at *; omega) (by kernel_rfl)⟩, ?_⟩
        refine ⟨i + 1, ⟨by omega, by omega⟩, ⟨rfl, rfl, rfl, rfl, rfl, ?_, congrArg (fun n => some (PV.i (IV.int .i64 n))) (int_succ (by omega)), trivial⟩, ⟨rfl, rfl, rfl, trivial⟩⟩
        rw [pickL_yes g' (by simp [pickB, q1']), List.map_append]; rfl
      · have q1' : ¬ kindR m ids[i] = k := by simpa using q1
        refine condP.split (fun q2 => ?_) (fun q2 => ?_)
        · have q2' : k = 0 := by simpa using q2
          refine ⟨encId ids[i], ⟨by omega, by simp [g']⟩, ?_⟩
          refine ⟨⟨⟨hasSize_id _, fun x hx => by have := List.mem_singleton.1 hx; subst this; exact encId_len _⟩, szOK (by have := pickL_len m (ids.take i) k; simp at *; omega) (by kernel_rfl)⟩, ?_⟩
          refine ⟨i + 1, ⟨by omega, by omega⟩, ⟨rfl, rfl, rfl, rfl, rfl, ?_, congrArg (fun n => some (PV.i (IV.int .i64 n))) (int_succ (by omega)), trivial⟩, ⟨rfl, rfl, rfl, trivial⟩⟩
          rw [pickL_yes g' (by simp [pickB, q2']), List.map_append]; rfl
        · have q2' : ¬ k = 0 := by simpa using q2
          refine condP.split (fun q3 => ?_) (fun q3 => ?_)
          · have q3' : k = 9 := by simpa using q3
            refine condP.split (fun q4 => ?_) (fun q4 => ?_)
            · have q4' : kindR m ids[i] < 3 := by simpa using q4
              refine ⟨encId ids[i], ⟨by omega, by simp [g']⟩, ?_⟩
              refine ⟨⟨⟨hasSize_id _, fun x hx => by have := List.mem_singleton.1 hx; subst this; exact encId_len _⟩, szOK (by have := pickL_len m (ids.take i) k; simp at *; omega) (by kernel_rfl)⟩, ?_⟩
              refine ⟨i + 1, ⟨by omega, by omega⟩, ⟨rfl, rfl, rfl, rfl, rfl, ?_, congrArg (fun n => some (PV.i (IV.int .i64 n))) (int_succ (by omega)), trivial⟩, ⟨rfl, rfl, rfl, trivial⟩⟩
              rw [pickL_yes g' (by simp [pickB, q3', q4']), List.map_append]; rfl
            · have q4' : ¬ kindR m ids[i] < 3 := of_decide_eq_false q4
              refine ⟨i + 1, ⟨by omega, by omega⟩, ⟨rfl, rfl, rfl, rfl, rfl, ?_, congrArg (fun n => some (PV.i (IV.int .i64 n))) (int_succ (by omega)), trivial⟩, ⟨rfl, rfl, rfl, trivial⟩⟩
              rw [pickL_no g' (by simp [pickB, q1', q2', q4'])]; rfl
          · have q3' : ¬ k = 9 := by simpa using q3
            refine ⟨i + 1, ⟨by omega, by omega⟩, ⟨rfl, rfl, rfl, rfl, rfl, ?_, congrArg (fun n => some (PV.i (IV.int .i64 n))) (int_succ (by omega)), trivial⟩, ⟨rfl, rfl, rfl, trivial⟩⟩
            rw [pickL_no g' (by simp [pickB, q1', q2', q3'])]; rfl
    · have g' : i = ids.length := by have h : ¬ (i : Int) < ((ids.map encId).length : Int) := of_decide_eq_false g; rw [lenI] at h; omega
      subst g'
      exact ⟨(), trivial, ⟨rfl, rfl, rfl, rfl, rfl, rfl, rfl, trivial⟩, ⟨rfl, rfl, rfl, trivial⟩⟩
  · intro _ _
    have hlen := pickL_len m ids k
    have hp : pickR m ids n k = (pickL m ids k)[(pickL m ids k).length - 1 - n % (pickL m ids k).length]? := rfl
    have htk : ids.take ids.length = ids := List.take_length
    rw [pickE, htk]
    rw [hp]
    generalize pickL m ids k = L at *
    have hL : ((L.map encId).length : Int) = (L.length : Int) := by simp
    refine condP.split (fun g => ?_) (fun g => ?_)
    · have g' : L = [] := by simpa using g
      subst g'
      rfl
    · have g' : L ≠ [] := by simpa using g
      have hpos : 0 < L.length := List.length_pos_iff.2 g'
      refine ⟨by show ¬ ((L.map encId).length : Int) = 0; omega, ?_⟩
      have hmod : n % L.length < L.length := Nat.mod_lt _ hpos
      have hx : IntKind.i64.wrap (IntKind.i64.wrap (((L.map encId).length : Int) - 1) - (n : Int).tmod ((L.map encId).length : Int)) = ((L.length - 1 - n % L.length : Nat) : Int) := by
        rw [hL, tmod_nat, wrap_i64 (a := (L.length : Int) - 1) (by omega) (by omega), wrap_i64 (by omega) (by omega)]
        omega
      have hlt : L.length - 1 - n % L.length < L.length := by omega
      rw [List.getElem?_eq_getElem hlt]
      refine ⟨encId L[L.length - 1 - n % L.length], ⟨?_, ?_⟩, ?_⟩
      · show (0 : Int) ≤ IntKind.i64.wrap (IntKind.i64.wrap (((L.map encId).length : Int) - 1) - (n : Int).tmod ((L.map encId).length : Int))
        rw [hx]; omega
      · show (L.map encId)[(IntKind.i64.wrap (IntKind.i64.wrap (((L.map encId).length : Int) - 1) - (n : Int).tmod ((L.map encId).length : Int))).toNat]? = _
        rw [hx]; simp [hlt]
      · rfl
end Go.Kn
