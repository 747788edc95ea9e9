/- The reference's package of layer 4: encodings. -/
import Derived.Test.YtadcjononmlofaaDoorKnR04a
set_option autoImplicit false
namespace Go.Kn
open Go Go.Proofs

variable {G : Gl}

def oneB (n : Int) : UInt8 := UInt8.ofNat (n % 256).toNat
def entS (e : Entry) : List UInt8 := [oneB e.kind] ++ textS e.name ++ e.id.bytes
def entsS : List Entry → List UInt8
  | [] => []
  | e :: r => entS e ++ entsS r
def idsS : List Id → List UInt8
  | [] => []
  | x :: r => x.bytes ++ idsS r

theorem entsS_append (a b : List Entry) : entsS (a ++ b) = entsS a ++ entsS b := by
  induction a with
  | nil => rfl
  | cons x r ih => simp [entsS, ih]
theorem idsS_append (a b : List Id) : idsS (a ++ b) = idsS a ++ idsS b := by
  induction a with
  | nil => rfl
  | cons x r ih => simp [idsS, ih]

theorem textS_len {t : List UInt8} (h : t.length < 1000000) : (textS t).length ≤ t.length + 10 := by
  have := putS_len (n := t.length) (by omega)
  simp [textS]; omega

theorem entS_len {e : Entry} (h : e.name.length < 1000000) : (entS e).length ≤ 1000100 := by
  have := textS_len h
  have := e.id.len
  simp [entS]; omega

theorem entsS_len : ∀ (l : List Entry), (∀ e ∈ l, e.name.length < 1000000) → (entsS l).length ≤ l.length * 1000100
  | [], _ => by simp [entsS]
  | e :: r, h => by
    have h1 := entS_len (h e (by simp))
    have h2 := entsS_len r fun e he => h e (by simp [he])
    simp only [entsS, List.length_append, List.length_cons]; omega
theorem idsS_len : ∀ (l : List Id), (idsS l).length = l.length * 32
  | [] => rfl
  | x :: r => by simp only [idsS, List.length_append, List.length_cons, idsS_len r, x.len]; omega

def comS (o : Obj) : List UInt8 := o.tree.bytes ++ putS o.parents.length ++ idsS o.parents ++ putS o.time ++ textS o.text
def tagS (o : Obj) : List UInt8 := [oneB o.of] ++ o.target.bytes ++ textS o.name

/-- What stands in an encoding behind the kind, and the length. -/
def bodyS (o : Obj) : List UInt8 := o.data ++ entsS o.entries ++ (if o.kind = 3 then comS o else []) ++ (if o.kind = 4 then tagS o else [])

/-- Of a size that is gone through. -/
structure Small (o : Obj) : Prop where
  e : o.entries.length < 1000
  n : ∀ e ∈ o.entries, e.name.length < 1000000
  p : o.parents.length < 1000
  d : o.data.length < 1000000
  t : o.text.length < 1000000
  m : o.name.length < 1000000
  i : o.time < 4294967296

theorem body_loop1 {o : Obj} (hs : Small o) {env : Env} {m : Mem} {Q : EQ}
    (hE : LkE env [(1, .ptr 1 0), (3, .i (.str o.data)), (4, .i (.int .i64 0))]) (hM : LkM m (oM o))
    (hQ : Q (.exit 0) [(1, .ptr 1 0), (3, .i (.str (o.data ++ entsS o.entries)))] (oM o)) :
    LoopW Pg G Fb.ref04_body.ntmps (nthLoop Fb.ref04_body 0) env m Q := by
  refine loopX T_ok 0 (S := Nat) (S' := Unit) (fun i => [(1, .ptr 1 0), (3, .i (.str (o.data ++ entsS (o.entries.take i)))), (4, .i (.int .i64 (i : Int)))]) (fun _ => oM o) (fun i => o.entries.length - i) (fun i => i ≤ o.entries.length)
    (fun _ => [(1, .ptr 1 0), (3, .i (.str (o.data ++ entsS o.entries)))]) (fun _ => oM o) (fun _ => True) 0 ⟨hE.1, by rw [hE.2.1]; simp [entsS], hE.2.2.1, trivial⟩ hM (by omega) ?_ (fun _ _ => hQ)
  intro i hi
  have hq := hs.e
  have hd := hs.d
  have hpl := entsS_len (o.entries.take i) fun e he => hs.n e (List.mem_of_mem_take he)
  have hpl' : (entsS (o.entries.take i)).length ≤ 1000 * 1000100 := by
    refine Nat.le_trans hpl (Nat.mul_le_mul_right _ ?_)
    simp; omega
  refine condP.split (fun g => ?_) (fun g => ?_)
  · have g' : i < o.entries.length := by have h : (i : Int) < ((o.entries.map encEntry).length : Int) := of_decide_eq_true g; rw [lenE] at h; omega
    have hget : o.entries[i]? = some o.entries[i] := List.getElem?_eq_getElem g'
    have hn := hs.n _ (List.getElem_mem g')
    have hx : (o.entries.map encEntry)[(i : Int).toNat]? = some (encEntry o.entries[i]) := by simp [hget]
    have htl := textS_len hn
    refine drawW T_ok (by decide +kernel) ?_
    refine ⟨encEntry o.entries[i], ⟨by omega, hx⟩, ?_⟩
    refine ⟨_, _, ⟨rfl, ref04_one_ok o.entries[i].kind⟩, ?_⟩
    refine ⟨by simp; omega, ?_⟩
    refine ⟨encEntry o.entries[i], ⟨by omega, hx⟩, ?_⟩
    refine ⟨_, _, ⟨rfl, ref01_Text_ok o.entries[i].name (by omega)⟩, ?_⟩
    refine ⟨by simp; omega, ?_⟩
    refine ⟨encEntry o.entries[i], ⟨by omega, hx⟩, ?_⟩
    refine ⟨_, _, ⟨rfl, ref04_bytes_ok o.entries[i].id⟩, ?_⟩
    refine ⟨by have := o.entries[i].id.len; simp; omega, ?_⟩
    refine ⟨by kernel_rfl, ?_⟩
    refine ⟨i + 1, ⟨by omega, by omega⟩, ⟨rfl, ?_, congrArg (fun n => some (PV.i (IV.int .i64 n))) (int_succ (by omega)), trivial⟩, ⟨rfl, trivial⟩⟩
    show some (PV.i (IV.str (o.data ++ entsS (o.entries.take i) ++ [oneB o.entries[i].kind] ++ textS o.entries[i].name ++ o.entries[i].id.bytes))) = _
    rw [List.take_succ_eq_append_getElem g', entsS_append]
    simp [entsS, entS]
  · have g' : i = o.entries.length := by have h : ¬ (i : Int) < ((o.entries.map encEntry).length : Int) := of_decide_eq_false g; rw [lenE] at h; omega
    refine ⟨(), trivial, ⟨rfl, ?_, trivial⟩, ⟨rfl, trivial⟩⟩
    rw [g', List.take_length]; rfl

theorem body_loop2 {o : Obj} (hs : Small o) {b : List UInt8} (hb : b.length < 3000000000) {env : Env} {m : Mem} {Q : EQ}
    (hE : LkE env [(1, .ptr 1 0), (3, .i (.str b)), (5, .i (.int .i64 0))]) (hM : LkM m (oM o))
    (hQ : Q (.exit 2) [(1, .ptr 1 0), (3, .i (.str (b ++ idsS o.parents)))] (oM o)) :
    LoopW Pg G Fb.ref04_body.ntmps (nthLoop Fb.ref04_body 1) env m Q := by
  refine loopX T_ok 2 (S := Nat) (S' := Unit) (fun i => [(1, .ptr 1 0), (3, .i (.str (b ++ idsS (o.parents.take i)))), (5, .i (.int .i64 (i : Int)))]) (fun _ => oM o) (fun i => o.parents.length - i) (fun i => i ≤ o.parents.length)
    (fun _ => [(1, .ptr 1 0), (3, .i (.str (b ++ idsS o.parents)))]) (fun _ => oM o) (fun _ => True) 0 ⟨hE.1, by rw [hE.2.1]; simp [idsS], hE.2.2.1, trivial⟩ hM (by omega) ?_ (fun _ _ => hQ)
  intro i hi
  have hp := hs.p
  have hl := idsS_len (o.parents.take i)
  have hl2 : (o.parents.take i).length ≤ 1000 := by simp; omega
  refine condP.split (fun g => ?_) (fun g => ?_)
  · have g' : i < o.parents.length := by have h : (i : Int) < ((o.parents.map encId).length : Int) := of_decide_eq_true g; rw [lenI] at h; omega
    have hget : o.parents[i]? = some o.parents[i] := List.getElem?_eq_getElem g'
    refine ⟨encId o.parents[i], ⟨by omega, by simp [hget]⟩, ?_⟩
    refine ⟨_, _, _, pureCall (ref04_bytes_ok o.parents[i]) rfl, ?_⟩
    refine ⟨by have := o.parents[i].len; simp; omega, ?_⟩
    refine ⟨i + 1, ⟨by omega, by omega⟩, ⟨rfl, ?_, congrArg (fun n => some (PV.i (IV.int .i64 n))) (int_succ (by omega)), trivial⟩, ⟨rfl, trivial⟩⟩
    show some (PV.i (IV.str (b ++ idsS (o.parents.take i) ++ o.parents[i].bytes))) = _
    rw [List.take_succ_eq_append_getElem g', idsS_append]
    simp [idsS]
  · have g' : i = o.parents.length := by have h : ¬ (i : Int) < ((o.parents.map encId).length : Int) := of_decide_eq_false g; rw [lenI] at h; omega
    refine ⟨(), trivial, ⟨rfl, ?_, trivial⟩, ⟨rfl, trivial⟩⟩
    rw [g', List.take_length]; rfl

theorem ref04_body_ok (o : Obj) (hs : Small o) : PureC Pg G Fn.ref04_body [encObj o] (.str (bodyS o)) := by
  have hel := entsS_len o.entries hs.n
  have hel' : (entsS o.entries).length ≤ 1000 * 1000100 := Nat.le_trans hel (Nat.mul_le_mul_right _ (by have := hs.e; omega))
  have hd := hs.d
  have hp := hs.p
  have ht := hs.t
  have htx := textS_len hs.t
  have htm := textS_len hs.m
  have hnm := hs.m
  have hti := hs.i
  have hpl := idsS_len o.parents
  have hput1 := putS_len (n := o.parents.length) (by omega)
  have hput2 := putS_len (n := o.time) (by omega)
  refine pureW_of T_ok Fd.ref04_body rfl (by kernel_rfl) ?_
  refine CW.next T_ok ?_
  refine CW.next T_ok ?_
  refine CW.cut T_ok (S := Unit) (fun _ => [(1, .ptr 1 0), (3, .i (.str (o.data ++ entsS o.entries)))]) (fun _ => oM o) (fun _ => True) ?_ ?_
  · exact body_loop1 hs ⟨rfl, rfl, rfl, trivial⟩ ⟨rfl, trivial⟩ ⟨(), trivial, ⟨rfl, rfl, trivial⟩, ⟨rfl, trivial⟩⟩
  intro _ _
  refine CW.cut T_ok (S := Unit) (fun _ => [(1, .ptr 1 0), (3, .i (.str (o.data ++ entsS o.entries ++ (if o.kind = 3 then comS o else []))))]) (fun _ => oM o) (fun _ => True) ?_ ?_
  · refine condP.split (fun g => ?_) (fun g => ?_)
    · have g' : o.kind = 3 := eq_of_beq g
      rw [if_pos g']
      refine drawW T_ok (by decide +kernel) ?_
      refine ⟨_, _, ⟨rfl, ref04_bytes_ok o.tree⟩, ?_⟩
      refine ⟨by have := o.tree.len; simp; omega, ?_⟩
      have hw : IntKind.u64.wrap (((o.parents.map encId).length : Nat) : Int) = ((o.parents.length : Nat) : Int) := by rw [lenI, wrap_u64 (by omega) (by omega)]
      refine ⟨[.int .u64 (o.parents.length : Int)], _, ⟨congrArg (fun n => [IV.int .u64 n]) hw, ref01_Put_ok o.parents.length (by omega)⟩, ?_⟩
      refine ⟨by have := o.tree.len; simp; omega, ?_⟩
      refine ⟨by kernel_rfl, ?_⟩
      refine body_loop2 hs (b := o.data ++ entsS o.entries ++ o.tree.bytes ++ putS o.parents.length) (by have := o.tree.len; simp; omega) ⟨rfl, rfl, rfl, trivial⟩ ⟨rfl, trivial⟩ ?_
      refine drawW T_ok (by decide +kernel) ?_
      have hw2 : IntKind.u64.wrap (o.time : Int) = (o.time : Int) := wrap_u64 (by omega) (by omega)
      refine ⟨[.int .u64 (o.time : Int)], _, ⟨congrArg (fun n => [IV.int .u64 n]) hw2, ref01_Put_ok o.time (by omega)⟩, ?_⟩
      refine ⟨by have := o.tree.len; simp; omega, ?_⟩
      refine ⟨_, _, ⟨rfl, ref01_Text_ok o.text (by omega)⟩, ?_⟩
      refine ⟨by have := o.tree.len; simp; omega, ?_⟩
      refine ⟨by kernel_rfl, ?_⟩
      refine ⟨(), trivial, ⟨rfl, ?_, trivial⟩, ⟨rfl, trivial⟩⟩
      show some (PV.i (IV.str (o.data ++ entsS o.entries ++ o.tree.bytes ++ putS o.parents.length ++ idsS o.parents ++ putS o.time ++ textS o.text))) = _
      simp [comS]
    · have g' : ¬ o.kind = 3 := by have h : (o.kind == 3) = false := g; simpa using h
      rw [if_neg g', List.append_nil]
      exact ⟨(), trivial, ⟨rfl, rfl, trivial⟩, ⟨rfl, trivial⟩⟩
  intro _ _
  have hcl : (if o.kind = 3 then comS o else []).length ≤ 1100000 := by
    split
    · have := o.tree.len
      simp only [comS, List.length_append]; omega
    · simp
  refine CW.go T_ok ?_
  refine condP.split (fun g => ?_) (fun g => ?_)
  · have g' : o.kind = 4 := eq_of_beq g
    refine drawW T_ok (by decide +kernel) ?_
    refine ⟨_, _, ⟨rfl, ref04_one_ok o.of⟩, ?_⟩
    refine ⟨by simp only [List.length_append, List.length_singleton]; omega, ?_⟩
    refine ⟨_, _, ⟨rfl, ref04_bytes_ok o.target⟩, ?_⟩
    refine ⟨by have := o.target.len; simp only [List.length_append, List.length_singleton]; omega, ?_⟩
    refine ⟨_, _, ⟨rfl, ref01_Text_ok o.name (by omega)⟩, ?_⟩
    refine ⟨by have := o.target.len; simp only [List.length_append, List.length_singleton]; omega, ?_⟩
    refine ⟨by kernel_rfl, ?_⟩
    show some (IV.str (o.data ++ entsS o.entries ++ (if o.kind = 3 then comS o else []) ++ [oneB o.of] ++ o.target.bytes ++ textS o.name)) = some (.str (bodyS o))
    simp [bodyS, g', tagS]
  · have g' : ¬ o.kind = 4 := by have h : (o.kind == 4) = false := g; simpa using h
    show some (IV.str (o.data ++ entsS o.entries ++ (if o.kind = 3 then comS o else []))) = some (.str (bodyS o))
    simp [bodyS, g']
def encS (o : Obj) : List UInt8 := [oneB o.kind] ++ textS (bodyS o)

/-- The encoding of an object, if it may be. -/
def encodeR (o : Obj) : Option (List UInt8) := if mayB o = false then none else if 4096 < (encS o).length then none else some (encS o)

def encV : Option (List UInt8) → IV
  | some s => .tup [.str s, .bool true]
  | none => .tup [.str [], .bool false]

theorem bodyS_len {o : Obj} (hs : Small o) : (bodyS o).length ≤ 1010000000 := by
  have hel := entsS_len o.entries hs.n
  have hel' : (entsS o.entries).length ≤ 1000 * 1000100 := Nat.le_trans hel (Nat.mul_le_mul_right _ (by have := hs.e; omega))
  have hd := hs.d
  have hp := hs.p
  have htx := textS_len hs.t
  have htm := textS_len hs.m
  have ht := hs.t
  have hn := hs.m
  have hi := hs.i
  have hpl := idsS_len o.parents
  have hput1 := putS_len (n := o.parents.length) (by omega)
  have hput2 := putS_len (n := o.time) (by omega)
  have h1 : (if o.kind = 3 then comS o else []).length ≤ 1100000 := by
    split
    · have := o.tree.len
      simp only [comS, List.length_append]; omega
    · simp
  have h2 : (if o.kind = 4 then tagS o else []).length ≤ 1100000 := by
    split
    · have := o.target.len
      simp only [tagS, List.length_append, List.length_singleton]; omega
    · simp
  simp only [bodyS, List.length_append]
  omega

set_option maxRecDepth 100000 in
theorem ref04_Encode_ok (o : Obj) (hs : Small o) : PureC Pg G Fn.ref04_Encode [encObj o] (encV (encodeR o)) := by
  have hbl := bodyS_len hs
  have htl : (textS (bodyS o)).length ≤ 1010000010 := by
    have := putS_len (n := (bodyS o).length) (by omega)
    simp [textS]; omega
  refine pureC_of T_ok Fd.ref04_Encode rfl (by kernel_rfl) ?_
  refine ⟨_, _, _, pureCall (ref04_May_ok o (by have := hs.e; omega) hs.m hs.n) rfl, ?_⟩
  cases hm : mayB o with
  | false =>
    show some (IV.tup [.str [], .bool false]) = some (encV (encodeR o))
    simp [encodeR, hm, encV]
  | true =>
    refine drawW T_ok (by decide +kernel) ?_
    refine ⟨_, _, ⟨rfl, ref04_one_ok o.kind⟩, ?_⟩
    refine ⟨_, _, ⟨rfl, ref04_body_ok o hs⟩, ?_⟩
    refine ⟨_, _, ⟨rfl, ref01_Text_ok (bodyS o) (by omega)⟩, ?_⟩
    refine ⟨by simp only [List.length_singleton]; omega, ?_⟩
    refine ⟨by kernel_rfl, ?_⟩
    have he : (encS o).length = (textS (bodyS o)).length + 1 := by simp [encS]
    refine condP.split (fun g => ?_) (fun g => ?_)
    · have h : (((encS o).length : Nat) : Int) > 4096 := of_decide_eq_true g
      show some (IV.tup [.str [], .bool false]) = some (encV (encodeR o))
      have h' : 4096 < (encS o).length := by omega
      simp [encodeR, hm, h', encV]
    · have h : ¬ (((encS o).length : Nat) : Int) > 4096 := of_decide_eq_false g
      show some (IV.tup [.str (encS o), .bool true]) = some (encV (encodeR o))
      have h' : ¬ 4096 < (encS o).length := by omega
      simp [encodeR, hm, h', encV]

theorem u8c_len' (n : Nat) (f : Nat → UInt8) : (u8c n f).length = n := by simp [u8c]

theorem u8c_store' (f : Nat → UInt8) {n i k : Nat} {x : IV} {v : UInt8} {g : Nat → UInt8} (hk : k = i) (hx : x = .int .u8 (v.toNat : Int)) (h : i < n) (hg : ∀ j, j < n → g j = if j = i then v else f j) :
    some (MO.var (((u8c n f).map .i).take k ++ [PV.i x] ++ ((u8c n f).map .i).drop (k + 1))) = some (.var ((u8c n g).map .i)) := by
  subst hk; subst hx
  have hset : ∀ (l : List PV) (y : PV), k < l.length → l.take k ++ [y] ++ l.drop (k + 1) = l.set k y := fun l y h => by
    rw [List.set_eq_take_append_cons_drop, if_pos h]; simp
  rw [hset _ _ (by simp [u8c]; exact h)]
  congr 2
  apply List.ext_getElem?
  intro j
  rw [List.getElem?_set]
  by_cases hj : k = j
  · subst hj
    rw [if_pos rfl, if_pos (by simp [u8c]; exact h), u8c_get g h, hg k h, if_pos rfl]
  · rw [if_neg hj]
    by_cases hjn : j < n
    · rw [u8c_get f hjn, u8c_get g hjn, hg j hjn, if_neg (Ne.symm hj)]
    · rw [List.getElem?_eq_none (by simp [u8c]; omega), List.getElem?_eq_none (by simp [u8c]; omega)]

theorem ref04_id_ok (s : List UInt8) (hs : s.length < 4000000000) : PureC Pg G Fn.ref04_id [.str s] (encId (idOf s)) := by
  let iB : Nat → Nat → UInt8 := fun i j => if j < i then (idOf s).b j else 0
  have hget : ∀ i, i < 32 → i < s.length → (idOf s).b i = s.getD i 0 := fun i h1 h2 => by
    simp only [idOf, Id.b, List.getD_eq_getElem?_getD, List.getElem?_take, if_pos h1, List.getElem?_append_left h2]
  have hzero : ∀ i, i < 32 → s.length ≤ i → (idOf s).b i = 0 := fun i h1 h2 => by
    simp only [idOf, Id.b, List.getD_eq_getElem?_getD, List.getElem?_take, if_pos h1, List.getElem?_append_right h2]
    rw [List.getElem?_replicate, if_pos (by omega)]; rfl
  refine pureC_of T_ok Fd.ref04_id rfl (by kernel_rfl) ?_
  refine loopX T_ok 0 (S := Nat) (S' := Unit) (fun i => [(0, .i (.str s)), (2, .ptr 2 0), (3, .ptr 3 0), (4, .i (.int .i64 (i : Int)))]) (fun i => [(2, .var ((u8c 32 fun _ => 0).map .i)), (3, .var ((u8c 32 (iB i)).map .i))]) (fun i => 32 - i) (fun i => i ≤ 32)
    (fun _ => [(2, .ptr 2 0), (3, .ptr 3 0)]) (fun _ => [(2, .var ((u8c 32 fun _ => 0).map .i)), (3, .var ((idC (idOf s)).map .i))]) (fun _ => True) 0 ⟨rfl, rfl, rfl, rfl, trivial⟩ ⟨rfl, rfl, trivial⟩ (by omega) ?_ ?_
  · intro i hi
    refine condP.split (fun g => ?_) (fun g => ?_)
    · have g' : i < 32 := by have : (i : Int) < 32 := of_decide_eq_true g; omega
      refine condP.split (fun g2 => ?_) (fun g2 => ?_)
      · have g2' : i < s.length := by have : (i : Int) < s.length := of_decide_eq_true g2; omega
        refine ⟨⟨by omega, by omega⟩, ?_⟩
        refine ⟨⟨by omega, by omega⟩, ?_⟩
        refine bifI ?_ ?_
        · show (true && Nat.ble ((i : Int).toNat + 1) ((u8c 32 (iB i)).map PV.i).length) = true
          rw [List.length_map, u8c_len']; simp; omega
        refine ⟨i + 1, ⟨by omega, by omega⟩, ⟨rfl, rfl, rfl, congrArg (fun n => some (PV.i (IV.int .i64 n))) (int_succ (by omega)), trivial⟩, ⟨rfl, ?_, trivial⟩⟩
        refine u8c_store' (iB i) (i := i) (v := s.getD i 0) rfl rfl (by omega) ?_
        intro j _
        simp only [iB]
        by_cases hj : j = i
        · subst hj; simp [hget j g' g2']
        · rw [if_neg hj]
          by_cases h1 : j < i
          · rw [if_pos h1, if_pos (by omega)]
          · rw [if_neg h1, if_neg (by omega)]
      · have g2' : s.length ≤ i := by have : ¬ (i : Int) < s.length := of_decide_eq_false g2; omega
        refine ⟨(), trivial, ⟨rfl, rfl, trivial⟩, ⟨rfl, ?_, trivial⟩⟩
        show some (MO.var ((u8c 32 (iB i)).map .i)) = some (.var ((u8c 32 (idOf s).b).map .i))
        congr 2
        refine congrArg (List.map PV.i) (List.map_congr_left ?_)
        intro j hj
        have hj : j < 32 := by simpa using hj
        simp only [iB]
        by_cases h1 : j < i
        · rw [if_pos h1]
        · rw [if_neg h1, hzero j hj (by omega)]
    · have g' : i = 32 := by have : ¬ (i : Int) < 32 := of_decide_eq_false g; omega
      subst g'
      refine ⟨(), trivial, ⟨rfl, rfl, trivial⟩, ⟨rfl, ?_, trivial⟩⟩
      show some (MO.var ((u8c 32 (iB 32)).map .i)) = some (.var ((u8c 32 (idOf s).b).map .i))
      congr 2
  · intro _ _
    show some _ = some (encId (idOf s))
    generalize idOf s = x
    rfl
end Go.Kn
