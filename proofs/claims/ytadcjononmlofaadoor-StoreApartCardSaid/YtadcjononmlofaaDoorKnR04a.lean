/- The reference's package of layer 4: what may be. -/
import Derived.Test.YtadcjononmlofaaDoorKnAlone
import Derived.Test.YtadcjononmlofaaDoorKnCut
set_option autoImplicit false
namespace Go.Kn
open Go Go.Proofs

variable {G : Gl}

theorem ref04_Name_ok (s : List UInt8) (hs : s.length < 1000000) : PureC Pg G Fn.ref04_Name [.str s] (.bool (nameB s)) := by
  refine pureC_of T_ok Fd.ref04_Name rfl (by kernel_rfl) ?_
  refine loopX T_ok 0 (S := Nat) (S' := Unit) (fun i => [(0, .i (.str s)), (3, .i (.int .i64 (i : Int)))]) (fun _ => []) (fun i => s.length - i) (fun i => i ≤ s.length ∧ ∀ j, j < i → s.getD j 0 ≠ 0 ∧ s.getD j 0 ≠ 47)
    (fun _ => [(0, .i (.str s))]) (fun _ => []) (fun _ => (0 : UInt8) ∉ s ∧ (47 : UInt8) ∉ s) 0 ⟨rfl, rfl, trivial⟩ trivial ⟨by omega, by omega⟩ ?_ ?_
  · rintro i ⟨h1, h2⟩
    refine condP.split (fun g => ?_) (fun g => ?_)
    · have g' : i < s.length := by have : (i : Int) < s.length := of_decide_eq_true g; omega
      have hmem : s.getD i 0 ∈ s := by
        rw [List.getD_eq_getElem?_getD, List.getElem?_eq_getElem g']; simp
      refine ⟨⟨by omega, by omega⟩, ?_⟩
      refine condP.split (fun g2 => ?_) (fun g2 => ?_)
      · have g2' : s.getD i 0 = 0 := by
          have h : (((s.getD i 0).toNat : Int) == 0) = true := g2
          exact UInt8.toNat_inj.1 (by have := eq_of_beq h; show (s.getD i 0).toNat = 0; omega)
        show some (IV.bool false) = some (.bool (nameB s))
        rw [g2'] at hmem
        simp [nameB, hmem]
      · have g2' : s.getD i 0 ≠ 0 := by
          have h : (((s.getD i 0).toNat : Int) == 0) = false := g2
          intro e; rw [e] at h; simp at h
        refine ⟨⟨by omega, by omega⟩, ?_⟩
        refine condP.split (fun g3 => ?_) (fun g3 => ?_)
        · have g3' : s.getD i 0 = 47 := by
            have h : (((s.getD i 0).toNat : Int) == 47) = true := g3
            exact UInt8.toNat_inj.1 (by have := eq_of_beq h; show (s.getD i 0).toNat = 47; omega)
          show some (IV.bool false) = some (.bool (nameB s))
          rw [g3'] at hmem
          simp [nameB, hmem]
        · have g3' : s.getD i 0 ≠ 47 := by
            have h : (((s.getD i 0).toNat : Int) == 47) = false := g3
            intro e; rw [e] at h; simp at h
          refine ⟨i + 1, ⟨by omega, by omega, fun j hj => ?_⟩, ⟨rfl, congrArg (fun n => some (PV.i (IV.int .i64 n))) (int_succ (by omega)), trivial⟩, trivial⟩
          by_cases hji : j = i
          · subst hji; exact ⟨g2', g3'⟩
          · exact h2 j (by omega)
    · have g' : i = s.length := by have : ¬ (i : Int) < s.length := of_decide_eq_false g; omega
      subst g'
      have hno : ∀ c : UInt8, c ∈ s → c ≠ 0 ∧ c ≠ 47 := fun c hc => by
        obtain ⟨j, hj, rfl⟩ := List.getElem_of_mem hc
        have := h2 j hj
        simpa [List.getD_eq_getElem?_getD, hj] using this
      exact ⟨(), ⟨fun h => (hno 0 h).1 rfl, fun h => (hno 47 h).2 rfl⟩, ⟨rfl, trivial⟩, trivial⟩
  · rintro _ ⟨h1, h2⟩
    refine condP.split (fun g => ?_) (fun g => ?_)
    · have g' : s ≠ [] := by have : (s.length : Int) ≥ 1 := of_decide_eq_true g; intro e; subst e; simp at this
      show some (IV.bool (decide ((s.length : Int) ≤ 40))) = some (.bool (nameB s))
      simp only [nameB, g', h1, h2, ne_eq, not_false_eq_true, decide_true, Bool.true_and, Bool.and_true]
      congr 2
      exact decide_eq_decide.2 (by omega)
    · have g' : s = [] := by have : ¬ (s.length : Int) ≥ 1 := of_decide_eq_false g; exact List.eq_nil_of_length_eq_zero (by omega)
      show some (IV.bool false) = some (.bool (nameB s))
      simp [nameB, g']

/-- May an object be, by the reference? -/
def mayR (o : Obj) : Bool :=
  if o.kind < 1 ∨ 4 < o.kind then false
  else if (o.kind ≠ 1 ∧ o.data ≠ []) ∨ (o.kind ≠ 2 ∧ o.entries ≠ []) then false
  else if o.kind ≠ 3 ∧ commitE o = false then false
  else if (o.kind ≠ 4 ∧ tagE o = false) ∨ (o.kind = 4 ∧ (kindB o.of && nameB o.name) = false) then false
  else if 64 < o.entries.length ∨ 8 < o.parents.length then false
  else entB none o.entries

theorem mayR_eq (o : Obj) : mayR o = mayB o := by
  have hc : commitE o = true → o.parents = [] := by
    intro h
    simp only [commitE, Bool.and_eq_true] at h
    have h2 := eq_of_beq h.1.1.2
    exact List.eq_nil_of_length_eq_zero (by simpa using h2)
  have ht : treeE o = decide (o.entries = []) := by
    rw [Bool.eq_iff_iff, treeE, beq_iff_eq, decide_eq_true_iff]
    constructor
    · intro h; exact List.eq_nil_of_length_eq_zero (by simpa using h)
    · intro h; simp [h]
  have hb : blobE o = decide (o.data = []) := by
    rw [Bool.eq_iff_iff, blobE, beq_iff_eq, decide_eq_true_iff]
  unfold mayR mayB aloneB entriesB
  rw [ht, hb]
  by_cases k1 : o.kind = 1
  · simp only [k1]
    by_cases he : o.entries = [] <;> cases hce : commitE o <;> cases htg : tagE o <;> simp [he, entB]
    all_goals simp [hc hce]
  · by_cases k2 : o.kind = 2
    · simp only [k2]
      by_cases hd : o.data = [] <;> cases hce : commitE o <;> cases htg : tagE o <;> simp [hd]
      rw [hc hce]
      by_cases h64 : 64 < o.entries.length
      · have : ¬ o.entries.length ≤ 64 := by omega
        simp [h64, this]
      · have : o.entries.length ≤ 64 := by omega
        simp [h64, this]
    · by_cases k3 : o.kind = 3
      · simp only [k3]
        by_cases hd : o.data = [] <;> by_cases he : o.entries = [] <;> cases htg : tagE o <;> simp [hd, he, entB]
        by_cases h8 : 8 < o.parents.length
        · have : ¬ o.parents.length ≤ 8 := by omega
          simp [h8, this]
        · have : o.parents.length ≤ 8 := by omega
          simp [h8, this]
      · by_cases k4 : o.kind = 4
        · simp only [k4]
          by_cases hd : o.data = [] <;> by_cases he : o.entries = [] <;> cases hce : commitE o <;> cases hk : kindB o.of <;> cases hn : nameB o.name <;> simp [hd, he, entB]
          rw [hc hce]; simp
        · have : o.kind < 1 ∨ 4 < o.kind := by omega
          simp [k1, k2, k3, k4, this]
def oM (o : Obj) : Mem := [(1, .var ((encObj o).cells.map .i))]
def oM2 (o : Obj) : Mem := [(1, .var ((encObj o).cells.map .i)), (3, .var ((idC Id.none).map .i))]

theorem lenE (l : List Entry) : ((l.map encEntry).length : Int) = (l.length : Int) := by simp
theorem lenI (l : List Id) : ((l.map encId).length : Int) = (l.length : Int) := by simp

set_option maxHeartbeats 1000000 in
set_option maxRecDepth 100000 in
theorem ref04_May_ok (o : Obj) (hl : o.entries.length < 1000000) (hn : o.name.length < 1000000) (hen : ∀ e ∈ o.entries, e.name.length < 1000000) : PureC Pg G Fn.ref04_May [encObj o] (.bool (mayB o)) := by
  rw [← mayR_eq]
  have fin : ∀ b, b = mayR o → some (IV.bool b) = some (.bool (mayR o)) := fun b h => by rw [h]
  refine pureW_of T_ok Fd.ref04_May rfl (by kernel_rfl) ?_
  refine CW.next T_ok ?_
  refine CW.cut T_ok (S := Unit) (fun _ => [(1, .ptr 1 0)]) (fun _ => oM o) (fun _ => ¬ (o.kind < 1 ∨ 4 < o.kind)) ?_ ?_
  · refine condP.split (fun g => ?_) (fun g => ?_)
    · have g' : o.kind < 1 := of_decide_eq_true g
      exact fin false (by simp [mayR, g'])
    · have g' : ¬ o.kind < 1 := of_decide_eq_false g
      refine condP.split (fun g2 => ?_) (fun g2 => ?_)
      · have g2' : 4 < o.kind := of_decide_eq_true g2
        exact fin false (by simp [mayR, g2'])
      · have g2' : ¬ 4 < o.kind := of_decide_eq_false g2
        exact ⟨(), by simp [g', g2'], ⟨rfl, trivial⟩, ⟨rfl, trivial⟩⟩
  intro _ hk
  refine CW.next T_ok ?_
  refine CW.cut T_ok (S := Unit) (fun _ => [(1, .ptr 1 0), (3, .ptr 3 0)]) (fun _ => oM2 o) (fun _ => ¬ ((o.kind ≠ 1 ∧ o.data ≠ []) ∨ (o.kind ≠ 2 ∧ o.entries ≠ []))) ?_ ?_
  · have bad : (o.kind ≠ 1 ∧ o.data ≠ []) ∨ (o.kind ≠ 2 ∧ o.entries ≠ []) → false = mayR o := fun h => by rw [mayR, if_neg hk, if_pos h]
    have ent : ∀ {b : Bool}, decide (((o.entries.map encEntry).length : Int) > 0) = b → (b = true ↔ o.entries ≠ []) := fun {b} h => by
      rw [← h, lenE, decide_eq_true_iff]
      constructor
      · intro h1 h2; rw [h2] at h1; simp at h1
      · intro h1; have := List.length_pos_iff.2 h1; omega
    refine condP.split (fun g => ?_) (fun g => ?_)
    · have g' : o.kind ≠ 1 := by simpa using g
      refine condP.split (fun g2 => ?_) (fun g2 => ?_)
      · have g2' : o.data ≠ [] := by simpa using g2
        exact fin false (bad (.inl ⟨g', g2'⟩))
      · have g2' : o.data = [] := by simpa using g2
        refine condP.split (fun g3 => ?_) (fun g3 => ?_)
        · have g3' : o.kind ≠ 2 := by simpa using g3
          refine condP.split (fun g4 => ?_) (fun g4 => ?_)
          · exact fin false (bad (.inr ⟨g3', (ent g4).1 rfl⟩))
          · have g4' : o.entries = [] := Classical.byContradiction fun h => by have := (ent g4).2 h; cases this
            exact ⟨(), by simp [g2', g4'], ⟨rfl, rfl, trivial⟩, ⟨rfl, rfl, trivial⟩⟩
        · have g3' : o.kind = 2 := by simpa using g3
          exact ⟨(), by simp [g2', g3'], ⟨rfl, rfl, trivial⟩, ⟨rfl, rfl, trivial⟩⟩
    · have g' : o.kind = 1 := by simpa using g
      refine condP.split (fun g3 => ?_) (fun g3 => ?_)
      · have g3' : o.kind ≠ 2 := by simpa using g3
        refine condP.split (fun g4 => ?_) (fun g4 => ?_)
        · exact fin false (bad (.inr ⟨g3', (ent g4).1 rfl⟩))
        · have g4' : o.entries = [] := Classical.byContradiction fun h => by have := (ent g4).2 h; cases this
          exact ⟨(), by simp [g', g4'], ⟨rfl, rfl, trivial⟩, ⟨rfl, rfl, trivial⟩⟩
      · have g3' : o.kind = 2 := by simpa using g3
        exact absurd g3' (by omega)
  intro _ h2
  refine CW.cut T_ok (S := Unit) (fun _ => [(1, .ptr 1 0), (3, .ptr 3 0)]) (fun _ => oM2 o) (fun _ => ¬ (o.kind ≠ 3 ∧ commitE o = false)) ?_ ?_
  · have bad : o.kind ≠ 3 ∧ commitE o = false → false = mayR o := fun h => by rw [mayR, if_neg hk, if_neg h2, if_pos h]
    have par : ∀ {b : Bool}, decide (((o.parents.map encId).length : Int) > 0) = b → (((o.parents.map encId).length : Int) == 0) = !b := fun {b} h => by
      rw [← h, lenI]
      generalize o.parents.length = n
      by_cases hz : n = 0
      · subst hz; rfl
      · have h1 : ((n : Int) == 0) = false := by rw [beq_eq_false_iff_ne]; omega
        have h2 : decide ((n : Int) > 0) = true := decide_eq_true (by omega)
        rw [h1, h2]; rfl
    refine condP.split (fun g => ?_) (fun g => ?_)
    · have g' : o.kind ≠ 3 := by simpa using g
      refine ⟨_, eqId o.tree Id.none, ?_⟩
      refine condP.split (fun q1 => ?_) (fun q1 => ?_)
      · have q1' : decide (o.tree = Id.none) = false := by simpa using q1
        exact fin false (bad ⟨g', by simp only [commitE, q1', Bool.false_and]⟩)
      · have q1' : decide (o.tree = Id.none) = true := by simpa using q1
        refine condP.split (fun q2 => ?_) (fun q2 => ?_)
        · exact fin false (bad ⟨g', by simp only [commitE, q1', par q2, Bool.not_true, Bool.and_false, Bool.false_and]⟩)
        · refine condP.split (fun q3 => ?_) (fun q3 => ?_)
          · have q3' : ((o.time : Int) == 0) = false := by simpa using q3
            exact fin false (bad ⟨g', by simp only [commitE, q1', par q2, q3', Bool.and_false, Bool.false_and]⟩)
          · have q3' : ((o.time : Int) == 0) = true := by simpa using q3
            refine condP.split (fun q4 => ?_) (fun q4 => ?_)
            · have q4' : (o.text == []) = false := by simpa using q4
              exact fin false (bad ⟨g', by simp only [commitE, q4', Bool.and_false]⟩)
            · have q4' : (o.text == []) = true := by simpa using q4
              exact ⟨(), by simp only [commitE, q1', par q2, q3', q4']; simp, ⟨rfl, rfl, trivial⟩, ⟨rfl, rfl, trivial⟩⟩
    · have g' : o.kind = 3 := by simpa using g
      exact ⟨(), by simp [g'], ⟨rfl, rfl, trivial⟩, ⟨rfl, rfl, trivial⟩⟩
  intro _ h3
  refine CW.cut T_ok (S := Unit) (fun _ => [(1, .ptr 1 0)]) (fun _ => oM o) (fun _ => ¬ ((o.kind ≠ 4 ∧ tagE o = false) ∨ (o.kind = 4 ∧ (kindB o.of && nameB o.name) = false))) ?_ ?_
  · have bad : ((o.kind ≠ 4 ∧ tagE o = false) ∨ (o.kind = 4 ∧ (kindB o.of && nameB o.name) = false)) → false = mayR o := fun h => by rw [mayR, if_neg hk, if_neg h2, if_neg h3, if_pos h]
    refine condP.split (fun g => ?_) (fun g => ?_)
    · have g' : o.kind ≠ 4 := by simpa using g
      refine ⟨_, eqId o.target Id.none, ?_⟩
      refine condP.split (fun q1 => ?_) (fun q1 => ?_)
      · have q1' : decide (o.target = Id.none) = false := by simpa using q1
        exact fin false (bad (.inl ⟨g', by simp only [tagE, q1', Bool.false_and]⟩))
      · have q1' : decide (o.target = Id.none) = true := by simpa using q1
        refine condP.split (fun q2 => ?_) (fun q2 => ?_)
        · have q2' : (o.of == 0) = false := by simpa using q2
          exact fin false (bad (.inl ⟨g', by simp only [tagE, q2', Bool.and_false, Bool.false_and]⟩))
        · have q2' : (o.of == 0) = true := by simpa using q2
          refine condP.split (fun q3 => ?_) (fun q3 => ?_)
          · have q3' : (o.name == []) = false := by simpa using q3
            exact fin false (bad (.inl ⟨g', by simp only [tagE, q3', Bool.and_false]⟩))
          · have q3' : (o.name == []) = true := by simpa using q3
            exact ⟨(), by simp only [tagE, q1', q2', q3']; simp [g'], ⟨rfl, trivial⟩, ⟨rfl, trivial⟩⟩
    · have g' : o.kind = 4 := by simpa using g
      refine ⟨_, _, _, pureCall (ref04_Name_ok o.name hn) rfl, ?_⟩
      refine condP.split (fun q1 => ?_) (fun q1 => ?_)
      · have q1' : o.of < 1 := of_decide_eq_true q1
        have : kindB o.of = false := by simp only [kindB, Bool.and_eq_false_iff, decide_eq_false_iff_not]; left; omega
        exact fin false (bad (.inr ⟨g', by rw [this]; rfl⟩))
      · have q1' : ¬ o.of < 1 := of_decide_eq_false q1
        refine condP.split (fun q2 => ?_) (fun q2 => ?_)
        · have q2' : o.of > 4 := of_decide_eq_true q2
          have : kindB o.of = false := by simp only [kindB, Bool.and_eq_false_iff, decide_eq_false_iff_not]; right; omega
          exact fin false (bad (.inr ⟨g', by rw [this]; rfl⟩))
        · have q2' : ¬ o.of > 4 := of_decide_eq_false q2
          have hkb : kindB o.of = true := by simp only [kindB, Bool.and_eq_true, decide_eq_true_eq]; omega
          refine condP.split (fun q3 => ?_) (fun q3 => ?_)
          · have q3' : nameB o.name = false := by simpa using q3
            exact fin false (bad (.inr ⟨g', by rw [q3']; simp⟩))
          · have q3' : nameB o.name = true := by simpa using q3
            exact ⟨(), by simp [g', hkb, q3'], ⟨rfl, trivial⟩, ⟨rfl, trivial⟩⟩
  intro _ h4
  refine CW.cut T_ok (S := Unit) (fun _ => [(1, .ptr 1 0)]) (fun _ => oM o) (fun _ => ¬ (64 < o.entries.length ∨ 8 < o.parents.length)) ?_ ?_
  · have bad : (64 < o.entries.length ∨ 8 < o.parents.length) → false = mayR o := fun h => by rw [mayR, if_neg hk, if_neg h2, if_neg h3, if_neg h4, if_pos h]
    refine condP.split (fun g => ?_) (fun g => ?_)
    · have g' : ((o.entries.map encEntry).length : Int) > 64 := of_decide_eq_true g
      rw [lenE] at g'
      exact fin false (bad (.inl (by omega)))
    · have g' : ¬ ((o.entries.map encEntry).length : Int) > 64 := of_decide_eq_false g
      rw [lenE] at g'
      refine condP.split (fun q => ?_) (fun q => ?_)
      · have q' : ((o.parents.map encId).length : Int) > 8 := of_decide_eq_true q
        rw [lenI] at q'
        exact fin false (bad (.inr (by omega)))
      · have q' : ¬ ((o.parents.map encId).length : Int) > 8 := of_decide_eq_false q
        rw [lenI] at q'
        exact ⟨(), by omega, ⟨rfl, trivial⟩, ⟨rfl, trivial⟩⟩
  intro _ h5
  have hm : mayR o = entB none o.entries := by rw [mayR, if_neg hk, if_neg h2, if_neg h3, if_neg h4, if_neg h5]
  refine CW.go T_ok ?_
  refine loopX T_ok 0 (S := Nat) (S' := Unit) (fun i => [(1, .ptr 1 0), (5, .i (.int .i64 (i : Int)))]) (fun _ => oM o) (fun i => o.entries.length - i)
    (fun i => i ≤ o.entries.length ∧ entB (prevN o.entries i) (o.entries.drop i) = entB none o.entries) (fun _ => []) (fun _ => []) (fun _ => entB none o.entries = true) 0
    ⟨rfl, rfl, trivial⟩ ⟨rfl, trivial⟩ ⟨by omega, rfl⟩ ?_ ?_
  · rintro i ⟨i1, i2⟩
    refine condP.split (fun g1 => ?_) (fun g1 => ?_)
    · have g1' : i < o.entries.length := by have h : (i : Int) < ((o.entries.map encEntry).length : Int) := of_decide_eq_true g1; rw [lenE] at h; omega
      have hget : o.entries[i]? = some o.entries[i] := List.getElem?_eq_getElem g1'
      have hdr : o.entries.drop i = o.entries[i] :: o.entries.drop (i + 1) := List.drop_eq_getElem_cons g1'
      rw [hdr] at i2
      have hbad : entOK (prevN o.entries i) o.entries[i] = false → false = mayR o := fun h => by
        rw [hm, ← i2, entB, h]; rfl
      have hgo : entOK (prevN o.entries i) o.entries[i] = true → entB (prevN o.entries (i + 1)) (o.entries.drop (i + 1)) = entB none o.entries := fun h => by
        rw [← i2, entB, h, prevN, hget]; rfl
      refine ⟨encEntry o.entries[i], ⟨by omega, by simp [hget]⟩, ?_⟩
      refine ⟨_, _, _, pureCall (ref04_Name_ok o.entries[i].name (hen _ (List.getElem_mem _))) rfl, ?_⟩
      refine condP.split (fun g2 => ?_) (fun g2 => ?_)
      · have g2' : nameB o.entries[i].name = false := by simpa using g2
        exact fin false (hbad (by simp [entOK, g2']))
      · have g2' : nameB o.entries[i].name = true := by simpa using g2
        refine condP.split (fun g3 => ?_) (fun g3 => ?_)
        · have g3' : o.entries[i].kind < 1 := of_decide_eq_true g3
          have h1 : o.entries[i].kind ≠ 1 := by omega
          have h2 : o.entries[i].kind ≠ 2 := by omega
          exact fin false (hbad (by simp [entOK, h1, h2]))
        · have g3' : ¬ o.entries[i].kind < 1 := of_decide_eq_false g3
          refine condP.split (fun g4 => ?_) (fun g4 => ?_)
          · have g4' : o.entries[i].kind > 2 := of_decide_eq_true g4
            have h1 : o.entries[i].kind ≠ 1 := by omega
            have h2 : o.entries[i].kind ≠ 2 := by omega
            exact fin false (hbad (by simp [entOK, h1, h2]))
          · have g4' : ¬ o.entries[i].kind > 2 := of_decide_eq_false g4
            have hkk : (o.entries[i].kind = 1 ∨ o.entries[i].kind = 2) := by omega
            refine drawW T_ok (by decide +kernel) ?_
            refine condP.split (fun g5 => ?_) (fun g5 => ?_)
            · have g5' : 0 < i := by have : (i : Int) > 0 := of_decide_eq_true g5; omega
              obtain ⟨j, rfl⟩ : ∃ j, i = j + 1 := ⟨i - 1, by omega⟩
              have hw : IntKind.i64.wrap (((j + 1 : Nat) : Int) - 1) = (j : Int) := by rw [wrap_i64 (by omega) (by omega)]; omega
              have hj : o.entries[j]? = some o.entries[j] := List.getElem?_eq_getElem (by omega)
              refine ⟨encEntry o.entries[j], ⟨?_, ?_⟩, ?_⟩
              · show 0 ≤ IntKind.i64.wrap (((j + 1 : Nat) : Int) - 1)
                rw [hw]; omega
              · show (o.entries.map encEntry)[(IntKind.i64.wrap (((j + 1 : Nat) : Int) - 1)).toNat]? = _
                rw [hw]; simp [hj]
              refine ⟨by kernel_rfl, ?_⟩
              refine condP.split (fun g6 => ?_) (fun g6 => ?_)
              · have g6' : Op.bytesLess o.entries[j].name o.entries[j + 1].name = false := by simpa using g6
                exact fin false (hbad (by simp [entOK, prevN, hj, g6']))
              · have g6' : Op.bytesLess o.entries[j].name o.entries[j + 1].name = true := by simpa using g6
                exact ⟨j + 1 + 1, ⟨by omega, by omega, hgo (by simp [entOK, prevN, hj, g6', g2', hkk])⟩, ⟨rfl, congrArg (fun n => some (PV.i (IV.int .i64 n))) (int_succ (by omega)), trivial⟩, ⟨rfl, trivial⟩⟩
            · have g5' : i = 0 := by have : ¬ (i : Int) > 0 := of_decide_eq_false g5; omega
              subst g5'
              refine ⟨by kernel_rfl, ?_⟩
              exact ⟨0 + 1, ⟨by omega, by omega, hgo (by simp [entOK, prevN, g2', hkk])⟩, ⟨rfl, rfl, trivial⟩, ⟨rfl, trivial⟩⟩
    · have g1' : i = o.entries.length := by have h : ¬ (i : Int) < ((o.entries.map encEntry).length : Int) := of_decide_eq_false g1; rw [lenE] at h; omega
      subst g1'
      refine ⟨(), ?_, trivial, trivial⟩
      rw [← i2, List.drop_of_length_le (Nat.le_refl _)]; rfl
  · intro _ h
    exact fin true (by rw [hm, h])
end Go.Kn
