/- The reference's package of layer 4: Decode, Same. -/
import Derived.Test.YtadcjononmlofaaDoorKnR04c
set_option autoImplicit false
namespace Go.Kn
open Go Go.Proofs

variable {G : Gl}

theorem gEnts_small : ∀ (m : Nat) (t : List UInt8), (gEnts m t).length ≤ m ∧ ∀ e ∈ gEnts m t, e.name.length ≤ t.length
  | 0, t => by simp [gEnts]
  | m + 1, t => by
    simp only [gEnts]
    split
    · simp
    · obtain ⟨h1, h2⟩ := gEnts_small m ((t.drop (1 + (takeR (t.drop 1)).2)).drop 32)
      refine ⟨by rw [List.length_cons]; omega, fun e he => ?_⟩
      rcases List.mem_cons.1 he with rfl | he
      · have := (takeR_len (t.drop 1)).1
        simp only [List.length_drop] at this
        show (takeR (t.drop 1)).1.length ≤ _
        omega
      · have := h2 e he
        simp only [List.length_drop] at this
        omega

theorem guessR_small {s : List UInt8} (hs : s.length < 1000000) : Small (guessR s) := by
  have htl := (takeR_len (s.drop 1)).1
  rw [List.length_drop] at htl
  unfold guessR
  split
  · constructor <;> simp [Obj.ofKind]
  · generalize (takeR (s.drop 1)).1 = t at *
    have ht : t.length < 1000000 := by omega
    unfold guessB
    split
    · constructor <;> simp [Obj.ofKind]; omega
    · split
      · obtain ⟨h1, h2⟩ := gEnts_small 65 t
        constructor <;> simp [Obj.ofKind]
        · omega
        · intro e he; have := h2 e he; omega
      · split
        · have h3 := (gIds_len (min (getR (t.drop 32)).1 9) ((t.drop 32).drop (getR (t.drop 32)).2))
          have h4 := (takeR_len ((gIds (min (getR (t.drop 32)).1 9) ((t.drop 32).drop (getR (t.drop 32)).2)).2.drop (getR (gIds (min (getR (t.drop 32)).1 9) ((t.drop 32).drop (getR (t.drop 32)).2)).2).2)).1
          simp only [List.length_drop] at h3 h4
          constructor
          · simp [gCom, Obj.ofKind]
          · simp [gCom, Obj.ofKind]
          · show (gIds _ _).1.length < 1000
            rw [h3.2]; omega
          · simp [gCom, Obj.ofKind]
          · show (takeR _).1.length < _
            omega
          · simp [gCom, Obj.ofKind]
          · show _ % 4294967296 < _
            exact Nat.mod_lt _ (by decide)
        · split
          · have h4 := (takeR_len ((t.drop 1).drop 32)).1
            simp only [List.length_drop] at h4
            constructor
            · simp [gTag, Obj.ofKind]
            · simp [gTag, Obj.ofKind]
            · simp [gTag, Obj.ofKind]
            · simp [gTag, Obj.ofKind]
            · simp [gTag, Obj.ofKind]
            · show (takeR _).1.length < _
              omega
            · simp [gTag, Obj.ofKind]
          · constructor <;> simp [Obj.ofKind]

/-- The object of an encoding, by the reference. -/
def decodeR (s : List UInt8) : Option Obj := if s = [] then none else if encodeR (guessR s) = some s then some (guessR s) else none

def decVR : Option Obj → IV
  | some o => .tup [encObj o, .bool true]
  | none => .tup [encObj (Obj.ofKind 0), .bool false]

set_option maxRecDepth 100000 in
theorem ref04_Decode_ok (s : List UInt8) (hs : s.length < 1000000) : PureC Pg G Fn.ref04_Decode [.str s] (decVR (decodeR s)) := by
  have fin : ∀ o, o = decodeR s → some (decVR o) = some (decVR (decodeR s)) := fun o h => by rw [h]
  refine pureC_of T_ok Fd.ref04_Decode rfl (by kernel_rfl) ?_
  refine condP.split (fun g => ?_) (fun g => ?_)
  · have g' : s = [] := by simpa using g
    exact fin none (by simp [decodeR, g'])
  · have g' : s ≠ [] := by simpa using g
    refine ⟨_, _, _, pureCall (ref04_guess_ok s g' hs) rfl, ?_⟩
    have hsm := guessR_small hs
    have hd : decodeR s = if encodeR (guessR s) = some s then some (guessR s) else none := by simp [decodeR, g']
    generalize guessR s = o at *
    refine ⟨_, _, _, pureCall (ref04_Encode_ok o hsm) rfl, ?_⟩
    cases he : encodeR o with
    | none => exact fin none (by rw [hd, he]; simp)
    | some u =>
      refine condP.split (fun g2 => ?_) (fun g2 => ?_)
      · have g2' : u ≠ s := by simpa using g2
        exact fin none (by rw [hd, he]; simp [g2'])
      · have g2' : u = s := by simpa using g2
        exact fin (some o) (by rw [hd, he]; simp [g2'])

theorem cellsEq_entry (a b : Entry) : cellsEq (.str a.name :: .int .i64 a.kind :: idC a.id) (.str b.name :: .int .i64 b.kind :: idC b.id) = decide (a = b) := by
  simp only [cellsEq, scEq, cellsEq_id]
  rw [Bool.eq_iff_iff]
  simp only [Bool.and_eq_true, beq_iff_eq, decide_eq_true_eq]
  constructor
  · rintro ⟨h1, h2, h3⟩
    cases a; cases b; simp at h1 h2 h3; simp [h1, h2, h3]
  · rintro rfl; exact ⟨rfl, rfl, rfl⟩

theorem eqEntry (a b : Entry) : EqOK Pg Tn.api_Entry (.i (encEntry a)) (.i (encEntry b)) (decide (a = b)) :=
  eqAgg T_ok (d := 4) rfl rfl (by decide) (by kernel_rfl) (by kernel_rfl) (by kernel_rfl) (by kernel_rfl) (by kernel_rfl) (by kernel_rfl) (cellsEq_entry a b)

def hdEq (a b : Obj) : Prop := a.kind = b.kind ∧ a.data = b.data ∧ a.tree = b.tree ∧ (a.time : Int) = b.time ∧ a.text = b.text ∧ a.target = b.target ∧ a.of = b.of ∧ a.name = b.name

theorem objEq_iff (a b : Obj) : a = b ↔ hdEq a b ∧ a.entries = b.entries ∧ a.parents = b.parents := by
  constructor
  · rintro rfl; exact ⟨⟨rfl, rfl, rfl, rfl, rfl, rfl, rfl, rfl⟩, rfl, rfl⟩
  · rintro ⟨⟨h1, h2, h3, h4, h5, h6, h7, h8⟩, h9, h10⟩
    cases a; cases b
    simp only at h1 h2 h3 h4 h5 h6 h7 h8 h9 h10
    have h4 : _ = _ := Int.ofNat_inj.1 h4
    subst h1; subst h2; subst h3; subst h4; subst h5; subst h6; subst h7; subst h8; subst h9; subst h10; rfl

def sM2 (a b : Obj) : Mem := [(2, .var ((encObj a).cells.map .i)), (3, .var ((encObj b).cells.map .i))]

set_option maxHeartbeats 1000000 in
set_option maxRecDepth 100000 in
theorem ref04_Same_ok (a b : Obj) (hl : a.entries.length < 1000000) (hp : a.parents.length < 1000000) : PureC Pg G Fn.ref04_Same [encObj a, encObj b] (.bool (decide (a = b))) := by
  have no : a ≠ b → some (IV.bool false) = some (.bool (decide (a = b))) := fun h => by rw [decide_eq_false h]
  refine pureW_of T_ok Fd.ref04_Same rfl (by kernel_rfl) ?_
  refine CW.next T_ok ?_
  refine CW.cut T_ok (S := Unit) (fun _ => [(2, .ptr 2 0), (3, .ptr 3 0)]) (fun _ => sM2 a b) (fun _ => hdEq a b) ?_ ?_
  · refine condP.split (fun q1 => ?_) (fun q1 => ?_)
    · exact no fun e => by subst e; simp at q1
    · have h1 : a.kind = b.kind := by simpa using q1
      refine condP.split (fun q2 => ?_) (fun q2 => ?_)
      · exact no fun e => by subst e; simp at q2
      · have h2 : a.data = b.data := by simpa using q2
        refine ⟨_, eqId a.tree b.tree, ?_⟩
        refine condP.split (fun q3 => ?_) (fun q3 => ?_)
        · exact no fun e => by subst e; simp at q3
        · have h3 : a.tree = b.tree := by simpa using q3
          refine condP.split (fun q4 => ?_) (fun q4 => ?_)
          · exact no fun e => by subst e; simp at q4
          · have h4 : (a.time : Int) = b.time := by simpa using q4
            refine condP.split (fun q5 => ?_) (fun q5 => ?_)
            · exact no fun e => by subst e; simp at q5
            · have h5 : a.text = b.text := by simpa using q5
              refine ⟨_, eqId a.target b.target, ?_⟩
              refine condP.split (fun q6 => ?_) (fun q6 => ?_)
              · exact no fun e => by subst e; simp at q6
              · have h6 : a.target = b.target := by simpa using q6
                refine condP.split (fun q7 => ?_) (fun q7 => ?_)
                · exact no fun e => by subst e; simp at q7
                · have h7 : a.of = b.of := by simpa using q7
                  refine condP.split (fun q8 => ?_) (fun q8 => ?_)
                  · exact no fun e => by subst e; simp at q8
                  · have h8 : a.name = b.name := by simpa using q8
                    exact ⟨(), ⟨h1, h2, h3, h4, h5, h6, h7, h8⟩, ⟨rfl, rfl, trivial⟩, ⟨rfl, rfl, trivial⟩⟩
  intro _ hh
  refine CW.cut T_ok (S := Unit) (fun _ => [(2, .ptr 2 0), (3, .ptr 3 0)]) (fun _ => sM2 a b) (fun _ => a.entries.length = b.entries.length ∧ a.parents.length = b.parents.length) ?_ ?_
  · have le : ∀ {l m : List Entry} {c : Bool}, (((l.map encEntry).length : Int) != ((m.map encEntry).length : Int)) = c → (c = false ↔ l.length = m.length) := fun {l m c} h => by
      rw [lenE, lenE] at h; rw [← h]; simp; omega
    have li : ∀ {l m : List Id} {c : Bool}, (((l.map encId).length : Int) != ((m.map encId).length : Int)) = c → (c = false ↔ l.length = m.length) := fun {l m c} h => by
      rw [lenI, lenI] at h; rw [← h]; simp; omega
    refine condP.split (fun q1 => ?_) (fun q1 => ?_)
    · exact no fun e => by have := (le q1).2 (by rw [e]); cases this
    · have h1 := (le q1).1 rfl
      refine condP.split (fun q2 => ?_) (fun q2 => ?_)
      · exact no fun e => by have := (li q2).2 (by rw [e]); cases this
      · exact ⟨(), ⟨h1, (li q2).1 rfl⟩, ⟨rfl, rfl, trivial⟩, ⟨rfl, rfl, trivial⟩⟩
  rintro _ ⟨hle, hlp⟩
  refine CW.cut T_ok (S := Unit) (fun _ => [(2, .ptr 2 0), (3, .ptr 3 0)]) (fun _ => sM2 a b) (fun _ => a.entries = b.entries) ?_ ?_
  · refine loopX T_ok 0 (S := Nat) (S' := Unit) (fun i => [(2, .ptr 2 0), (3, .ptr 3 0), (5, .i (.int .i64 (i : Int)))]) (fun _ => sM2 a b) (fun i => a.entries.length - i)
      (fun i => i ≤ a.entries.length ∧ ∀ j (h1 : j < a.entries.length) (h2 : j < b.entries.length), j < i → a.entries[j] = b.entries[j]) (fun _ => [(2, .ptr 2 0), (3, .ptr 3 0)]) (fun _ => sM2 a b) (fun _ => a.entries = b.entries) 0 ⟨rfl, rfl, rfl, trivial⟩ ⟨rfl, rfl, trivial⟩ ⟨by omega, by intro j _ _ h; omega⟩ ?_ ?_
    · rintro i ⟨h1, h2⟩
      refine condP.split (fun g2 => ?_) (fun g2 => ?_)
      · have g2' : i < a.entries.length := by have h : (i : Int) < ((a.entries.map encEntry).length : Int) := of_decide_eq_true g2; rw [lenE] at h; omega
        have g3' : i < b.entries.length := by omega
        refine drawW T_ok (by decide +kernel) ?_
        refine ⟨encEntry a.entries[i], ⟨by omega, by simp [g2']⟩, ?_⟩
        refine ⟨encEntry b.entries[i], ⟨by omega, by simp [g3']⟩, ?_⟩
        refine ⟨_, eqEntry a.entries[i] b.entries[i], ?_⟩
        refine ⟨by kernel_rfl, ?_⟩
        refine condP.split (fun g4 => ?_) (fun g4 => ?_)
        · have g4' : a.entries[i] ≠ b.entries[i] := by simpa using g4
          exact no (fun e => g4' (by simp [e]))
        · have g4' : a.entries[i] = b.entries[i] := by simpa using g4
          refine ⟨i + 1, ⟨by omega, by omega, fun j q1 q2 hj => ?_⟩, ⟨rfl, rfl, congrArg (fun n => some (PV.i (IV.int .i64 n))) (int_succ (by omega)), trivial⟩, ⟨rfl, rfl, trivial⟩⟩
          by_cases hji : j = i
          · subst hji; exact g4'
          · exact h2 j q1 q2 (by omega)
      · have g2' : i = a.entries.length := by have h : ¬ (i : Int) < ((a.entries.map encEntry).length : Int) := of_decide_eq_false g2; rw [lenE] at h; omega
        subst g2'
        exact ⟨(), List.ext_getElem hle (fun j q1 q2 => h2 j q1 q2 q1), ⟨rfl, rfl, trivial⟩, ⟨rfl, rfl, trivial⟩⟩
    · intro _ h
      exact ⟨(), h, ⟨rfl, rfl, trivial⟩, ⟨rfl, rfl, trivial⟩⟩
  intro _ hee
  refine CW.go T_ok ?_
  refine loopX T_ok 2 (S := Nat) (S' := Unit) (fun i => [(2, .ptr 2 0), (3, .ptr 3 0), (6, .i (.int .i64 (i : Int)))]) (fun _ => sM2 a b) (fun i => a.parents.length - i)
    (fun i => i ≤ a.parents.length ∧ ∀ j (h1 : j < a.parents.length) (h2 : j < b.parents.length), j < i → a.parents[j] = b.parents[j]) (fun _ => []) (fun _ => []) (fun _ => a.parents = b.parents) 0 ⟨rfl, rfl, rfl, trivial⟩ ⟨rfl, rfl, trivial⟩ ⟨by omega, by intro j _ _ h; omega⟩ ?_ ?_
  · rintro i ⟨h1, h2⟩
    refine condP.split (fun g2 => ?_) (fun g2 => ?_)
    · have g2' : i < a.parents.length := by have h : (i : Int) < ((a.parents.map encId).length : Int) := of_decide_eq_true g2; rw [lenI] at h; omega
      have g3' : i < b.parents.length := by omega
      refine drawW T_ok (by decide +kernel) ?_
      refine ⟨encId a.parents[i], ⟨by omega, by simp [g2']⟩, ?_⟩
      refine ⟨encId b.parents[i], ⟨by omega, by simp [g3']⟩, ?_⟩
      refine ⟨_, eqId a.parents[i] b.parents[i], ?_⟩
      refine ⟨by kernel_rfl, ?_⟩
      refine condP.split (fun g4 => ?_) (fun g4 => ?_)
      · have g4' : a.parents[i] ≠ b.parents[i] := by simpa using g4
        exact no (fun e => g4' (by simp [e]))
      · have g4' : a.parents[i] = b.parents[i] := by simpa using g4
        refine ⟨i + 1, ⟨by omega, by omega, fun j q1 q2 hj => ?_⟩, ⟨rfl, rfl, congrArg (fun n => some (PV.i (IV.int .i64 n))) (int_succ (by omega)), trivial⟩, ⟨rfl, rfl, trivial⟩⟩
        by_cases hji : j = i
        · subst hji; exact g4'
        · exact h2 j q1 q2 (by omega)
    · have g2' : i = a.parents.length := by have h : ¬ (i : Int) < ((a.parents.map encId).length : Int) := of_decide_eq_false g2; rw [lenI] at h; omega
      subst g2'
      exact ⟨(), List.ext_getElem hlp (fun j q1 q2 => h2 j q1 q2 q1), trivial, trivial⟩
  · intro _ h
    show some (IV.bool true) = _
    rw [decide_eq_true ((objEq_iff a b).2 ⟨hh, hee, h⟩)]
end Go.Kn
