/- The two decoders agree: a plain law. -/
import Derived.Test.YtadcjononmlofaaDoorKnVar2
import Derived.Test.YtadcjononmlofaaDoorKnCorr
set_option autoImplicit false
namespace Go.Kn
open Go Go.Proofs

theorem oneB_nat {k : Int} (h0 : 0 ≤ k) (h1 : k < 256) : ((oneB k).toNat : Int) = k := by
  unfold oneB
  simp
  omega

theorem oneB_u8 (c : UInt8) : oneB (c.toNat : Int) = c := by
  unfold oneB
  have := c.toNat_lt
  rw [show ((c.toNat : Int) % 256).toNat = c.toNat by omega]
  simp

structure EntP (e : Entry) : Prop where
  k0 : 0 ≤ e.kind
  k1 : e.kind < 256
  n : e.name.length < 18446744073709551616

theorem entry_of {e : Entry} (h : EntP e) (rest : List UInt8) : Rd.entry ⟨entS e ++ rest, false⟩ = (e, ⟨rest, false⟩) := by
  have h1 := Rd.kind_of (oneB e.kind) (textS e.name ++ (e.id.bytes ++ rest))
  have h2 := Rd.text_of h.n (e.id.bytes ++ rest)
  have h3 := Rd.id_of e.id rest
  have hs : entS e ++ rest = oneB e.kind :: (textS e.name ++ (e.id.bytes ++ rest)) := by simp [entS]
  rw [hs]
  simp only [Rd.entry, h1, h2, h3]
  rw [oneB_nat h.k0 h.k1]

theorem tree_of : ∀ (es : List Entry), (∀ e ∈ es, EntP e) → Rd.tree ⟨entsS es, false⟩ = (es, ⟨[], false⟩)
  | [], _ => tree_end (by simp [entsS])
  | e :: es, h => by
    have he := entry_of (h e List.mem_cons_self) (entsS es)
    have ht := tree_of es fun x hx => h x (List.mem_cons_of_mem _ hx)
    rw [tree_go rfl (by simp [entsS, entS])]
    have hs : (⟨entsS (e :: es), false⟩ : Rd) = ⟨entS e ++ entsS es, false⟩ := rfl
    rw [hs, he]
    simp only [ht]

theorem gEnts_of : ∀ (es : List Entry) (m : Nat), es.length ≤ m → (∀ e ∈ es, EntP e) → gEnts m (entsS es) = es
  | [], 0, _, _ => rfl
  | [], m + 1, _, _ => by simp [gEnts, entsS]
  | e :: es, 0, h, _ => by simp at h
  | e :: es, m + 1, h, hp => by
    have he := hp e List.mem_cons_self
    have ih := gEnts_of es m (by simpa using h) fun x hx => hp x (List.mem_cons_of_mem _ hx)
    have hs : entsS (e :: es) = oneB e.kind :: (textS e.name ++ (e.id.bytes ++ entsS es)) := by simp [entsS, entS]
    rw [hs, gEnts, if_neg (by simp)]
    simp only [List.drop_succ_cons, List.drop_zero, takeR_text he.n]
    have hd : (oneB e.kind :: (textS e.name ++ (e.id.bytes ++ entsS es))).drop (1 + (textS e.name).length) = e.id.bytes ++ entsS es := by
      rw [Nat.add_comm, List.drop_succ_cons, List.drop_left]
    rw [hd, idOf_bytes, show (e.id.bytes ++ entsS es).drop 32 = entsS es by rw [← e.id.len, List.drop_left], ih]
    congr 1
    cases e
    simp only [Entry.mk.injEq, true_and, and_true]
    exact oneB_nat he.k0 he.k1

theorem entry_out {r : Rd} (h : r.entry.2.bad = false) : r.bad = false ∧ r.s = entS r.entry.1 ++ r.entry.2.s ∧ 0 ≤ r.entry.1.kind ∧ r.entry.1.kind < 256 := by
  obtain ⟨h1, h2, h3⟩ := Rd.id_out (r := r.kind.2.text.2) h
  obtain ⟨h4, h5, h6⟩ := Rd.text_out (r := r.kind.2) h1
  obtain ⟨h7, c, rest, h8, h9⟩ := Rd.kind_out h4
  refine ⟨h7, ?_, ?_, ?_⟩
  · have hk : r.kind.1 = c.toNat := by rw [h9]
    have hk2 : r.kind.2 = ⟨rest, false⟩ := by rw [h9]
    simp only [Rd.entry, entS]
    rw [h8, hk, hk2, oneB_u8]
    rw [hk2] at h2 h5
    have := h5.trans (congrArg (textS (Rd.text ⟨rest, false⟩).1 ++ ·) h2)
    exact (congrArg (c :: ·) this).trans (by simp)
  · simp only [Rd.entry]; omega
  · simp only [Rd.entry]; rw [h9]; have := c.toNat_lt; simp only; omega

theorem tree_bad {r : Rd} (h : r.bad = true) : r.tree = ([], r) := tree_end (by simp [h])

theorem tree_out : ∀ (n : Nat) (r : Rd), r.s.length ≤ n → r.tree.2.bad = false → r.tree.2.s = [] → r.bad = false ∧ entsS r.tree.1 = r.s ∧ r.tree.2 = ⟨[], false⟩ := by
  intro n
  induction n with
  | zero =>
    intro r hl h1 h2
    have hs : r.s = [] := List.eq_nil_of_length_eq_zero (by omega)
    have ht := tree_end (r := r) (by simp [hs])
    rw [ht] at h1 ⊢
    refine ⟨h1, by rw [hs]; rfl, ?_⟩
    cases r; simp only at hs h1; rw [hs, h1]
  | succ n ih =>
    intro r hl h1 h2
    by_cases hb : r.bad = false ∧ r.s ≠ []
    · have ht := tree_go hb.1 hb.2
      rw [ht] at h1 h2 ⊢
      simp only at h1 h2 ⊢
      have hlt := entry_len hb.1 hb.2
      obtain ⟨g1, g2, g3⟩ := ih r.entry.2 (by omega) h1 h2
      obtain ⟨e1, e2, _⟩ := entry_out g1
      refine ⟨hb.1, ?_, g3⟩
      rw [entsS, g2]; exact e2.symm
    · have ht := tree_end hb
      rw [ht] at h1 h2 ⊢
      refine ⟨h1, by rw [h2]; rfl, ?_⟩
      cases r; simp only at h1 h2; rw [h1, h2]

theorem nameB_len {s : List UInt8} (h : nameB s = true) : s.length ≤ 40 := by
  simp only [nameB, Bool.and_eq_true, decide_eq_true_eq] at h
  exact h.1.1.2

theorem entB_all : ∀ {l : List Entry} {p : Option (List UInt8)}, entB p l = true → ∀ e ∈ l, EntP e
  | [], _, _, _, he => by cases he
  | a :: l, p, h, e, he => by
    simp only [entB, Bool.and_eq_true] at h
    rcases List.mem_cons.1 he with rfl | he
    · have h1 := h.1
      simp only [entOK, Bool.and_eq_true, Bool.or_eq_true, decide_eq_true_eq] at h1
      have := nameB_len h1.1.1
      exact ⟨by omega, by omega, by omega⟩
    · exact entB_all h.2 e he

/-! ## Commits -/
theorem ids_bad : ∀ (n : Nat) {r : Rd}, r.bad = true → Rd.ids n r = ([], r)
  | 0, _, _ => rfl
  | n + 1, r, h => by simp [Rd.ids, h]

theorem ids_of : ∀ (l : List Id) (rest : List UInt8), Rd.ids l.length ⟨idsS l ++ rest, false⟩ = (l, ⟨rest, false⟩)
  | [], rest => rfl
  | x :: l, rest => by
    have h1 := Rd.id_of x (idsS l ++ rest)
    have h2 := ids_of l rest
    have hs : idsS (x :: l) ++ rest = x.bytes ++ (idsS l ++ rest) := by simp [idsS]
    rw [hs, List.length_cons, Rd.ids]
    simp only [cond_false, h1, h2]

theorem ids_out : ∀ (n : Nat) (r : Rd), (Rd.ids n r).2.bad = false → r.bad = false ∧ (Rd.ids n r).1.length = n ∧ r.s = idsS (Rd.ids n r).1 ++ (Rd.ids n r).2.s ∧ (Rd.ids n r).2 = ⟨(Rd.ids n r).2.s, false⟩
  | 0, r, h => by
    simp only [Rd.ids] at h ⊢
    exact ⟨h, rfl, rfl, by cases r; simp only at h; rw [h]⟩
  | n + 1, r, h => by
    cases hb : r.bad with
    | true => rw [ids_bad _ hb] at h; rw [hb] at h; cases h
    | false =>
      have hx : Rd.ids (n + 1) r = (r.id.1 :: (Rd.ids n r.id.2).1, (Rd.ids n r.id.2).2) := by simp [Rd.ids, hb]
      rw [hx] at h ⊢
      simp only at h ⊢
      obtain ⟨h1, h2, h3, h4⟩ := ids_out n r.id.2 h
      obtain ⟨g1, g2, g3⟩ := Rd.id_out h1
      refine ⟨trivial, by simp [h2], ?_, h4⟩
      have := g2.trans (congrArg (r.id.1.bytes ++ ·) h3)
      exact this.trans (by simp [idsS])

theorem gIds_of : ∀ (l : List Id) (rest : List UInt8), gIds l.length (idsS l ++ rest) = (l, rest)
  | [], rest => rfl
  | x :: l, rest => by
    have h2 := gIds_of l rest
    have hs : idsS (x :: l) ++ rest = x.bytes ++ (idsS l ++ rest) := by simp [idsS]
    rw [hs, List.length_cons, gIds, idOf_bytes, show (x.bytes ++ (idsS l ++ rest)).drop 32 = idsS l ++ rest by rw [← x.len, List.drop_left], h2]

theorem worse_false (r : Rd) : r.worse false = r := by cases r; simp [Rd.worse]

theorem worse_out {r : Rd} {b : Bool} (h : (r.worse b).bad = false) : r.bad = false ∧ b = false ∧ r.worse b = r := by
  simp only [Rd.worse, Bool.or_eq_false_iff] at h
  refine ⟨h.1, h.2, ?_⟩
  rw [h.2, worse_false]

theorem commit_of {o : Obj} (hp : o.parents.length ≤ 8) (ht : o.time < 4294967296) (hx : o.text.length < 18446744073709551616) :
    Rd.commit ⟨comS o, false⟩ 3 = ({ Obj.ofKind 3 with tree := o.tree, parents := o.parents, time := o.time, text := o.text }, ⟨[], false⟩) := by
  have hs : comS o = o.tree.bytes ++ (putS o.parents.length ++ (idsS o.parents ++ (putS o.time ++ (textS o.text ++ [])))) := by simp [comS]
  rw [hs]
  have h1 := Rd.id_of o.tree (putS o.parents.length ++ (idsS o.parents ++ (putS o.time ++ (textS o.text ++ []))))
  have h2 := Rd.number_of (n := o.parents.length) (by omega) (idsS o.parents ++ (putS o.time ++ (textS o.text ++ [])))
  have h3 := ids_of o.parents (putS o.time ++ (textS o.text ++ []))
  have h4 := Rd.number_of (n := o.time) (by omega) (textS o.text ++ [])
  have h5 := Rd.text_of hx []
  simp only [Rd.commit, h1, h2]
  rw [decide_eq_false (by omega : ¬ 8 < o.parents.length), worse_false, h3]
  simp only [h4]
  rw [decide_eq_false (by omega : ¬ 4294967295 < o.time), worse_false, h5]
  simp only [Nat.mod_eq_of_lt ht]

theorem commit_out {r : Rd} (h : (r.commit 3).2.bad = false) (hs : (r.commit 3).2.s = []) : comS (r.commit 3).1 = r.s ∧ (r.commit 3).1.parents.length ≤ 8 := by
  simp only [Rd.commit] at h hs ⊢
  obtain ⟨a1, a2, a3⟩ := Rd.text_out h
  obtain ⟨b1, b2, b3⟩ := worse_out a1
  rw [b3] at a2 hs
  obtain ⟨c1, c2, c3⟩ := Rd.number_out b1
  obtain ⟨d1, d2, d3, d4⟩ := ids_out _ _ c1
  obtain ⟨e1, e2, e3⟩ := worse_out d1
  rw [e3] at d2 d3 c2 a2 hs b2
  obtain ⟨f1, f2, f3⟩ := Rd.number_out e1
  obtain ⟨g1, g2, g3⟩ := Rd.id_out f1
  rw [b3, e3]
  have hn := of_decide_eq_false e2
  have ht := of_decide_eq_false b2
  refine ⟨?_, by show (Rd.ids _ _).1.length ≤ 8; rw [d2]; omega⟩
  simp only [comS]
  rw [d2, Nat.mod_eq_of_lt (by omega), g2, f2, d3, c2, a2, hs]
  simp

theorem gCom_of {o : Obj} (hp : o.parents.length ≤ 8) (ht : o.time < 4294967296) (hx : o.text.length < 18446744073709551616) :
    gCom (comS o) = { Obj.ofKind 3 with tree := o.tree, parents := o.parents, time := o.time, text := o.text } := by
  have hs : comS o = o.tree.bytes ++ (putS o.parents.length ++ (idsS o.parents ++ (putS o.time ++ (textS o.text ++ [])))) := by simp [comS]
  rw [hs]
  have h1 := idOf_bytes o.tree (putS o.parents.length ++ (idsS o.parents ++ (putS o.time ++ (textS o.text ++ []))))
  have hd : (o.tree.bytes ++ (putS o.parents.length ++ (idsS o.parents ++ (putS o.time ++ (textS o.text ++ []))))).drop 32 = putS o.parents.length ++ (idsS o.parents ++ (putS o.time ++ (textS o.text ++ []))) := by
    rw [← o.tree.len, List.drop_left]
  have h2 := getR_put (n := o.parents.length) (by omega) (idsS o.parents ++ (putS o.time ++ (textS o.text ++ [])))
  have h3 := gIds_of o.parents (putS o.time ++ (textS o.text ++ []))
  have h4 := getR_put (n := o.time) (by omega) (textS o.text ++ [])
  have h5 := takeR_text hx []
  simp only [gCom, h1, hd, h2, List.drop_left]
  rw [Nat.min_eq_left (by omega), h3]
  simp only [h4, List.drop_left, h5, Nat.mod_eq_of_lt ht]

/-! ## Tags -/
theorem tag_of {o : Obj} (h0 : 0 ≤ o.of) (h1 : o.of < 256) (hx : o.name.length < 18446744073709551616) :
    Rd.tag ⟨tagS o, false⟩ 4 = ({ Obj.ofKind 4 with of := o.of, target := o.target, name := o.name }, ⟨[], false⟩) := by
  have hs : tagS o = oneB o.of :: (o.target.bytes ++ (textS o.name ++ [])) := by simp [tagS]
  rw [hs]
  have h2 := Rd.kind_of (oneB o.of) (o.target.bytes ++ (textS o.name ++ []))
  have h3 := Rd.id_of o.target (textS o.name ++ [])
  have h4 := Rd.text_of hx []
  simp only [Rd.tag, h2, h3, h4]
  rw [oneB_nat h0 h1]

theorem tag_out {r : Rd} (h : (r.tag 4).2.bad = false) (hs : (r.tag 4).2.s = []) : tagS (r.tag 4).1 = r.s := by
  simp only [Rd.tag] at h hs ⊢
  obtain ⟨a1, a2, _⟩ := Rd.text_out h
  obtain ⟨b1, b2, _⟩ := Rd.id_out a1
  obtain ⟨c1, c, rest, c2, c3⟩ := Rd.kind_out b1
  simp only [tagS]
  have hk : r.kind.1 = c.toNat := by rw [c3]
  have hk2 : r.kind.2.s = rest := by rw [c3]
  rw [hk, oneB_u8, c2, ← hk2, b2, a2, hs]
  simp

theorem gTag_of {o : Obj} (h0 : 0 ≤ o.of) (h1 : o.of < 256) (hx : o.name.length < 18446744073709551616) :
    gTag (tagS o) = { Obj.ofKind 4 with of := o.of, target := o.target, name := o.name } := by
  have hs : tagS o = oneB o.of :: (o.target.bytes ++ (textS o.name ++ [])) := by simp [tagS]
  rw [hs]
  have h3 := idOf_bytes o.target (textS o.name ++ [])
  have h5 := takeR_text hx []
  have hd : (o.target.bytes ++ (textS o.name ++ [])).drop 32 = textS o.name ++ [] := by rw [← o.target.len, List.drop_left]
  simp only [gTag, List.drop_succ_cons, List.drop_zero, h3, hd, h5]
  rw [show (oneB o.of :: (o.target.bytes ++ (textS o.name ++ []))).getD 0 0 = oneB o.of from rfl, oneB_nat h0 h1]
end Go.Kn

namespace Go.Kn
open Go Go.Proofs

theorem may2 {o : Obj} (h : o.kind = 2) (hm : mayB o = true) : entB none o.entries = true ∧ o.entries.length ≤ 64 := by
  rw [mayB, if_pos h] at hm
  simp only [Bool.and_eq_true, entriesB, decide_eq_true_eq] at hm
  exact hm.2

theorem may3 {o : Obj} (h : o.kind = 3) (hm : mayB o = true) : o.parents.length ≤ 8 := by
  rw [mayB, if_neg (by rw [h]; decide), if_pos h] at hm
  simp only [Bool.and_eq_true, decide_eq_true_eq] at hm
  exact hm.2

theorem may4 {o : Obj} (h : o.kind = 4) (hm : mayB o = true) : (1 ≤ o.of ∧ o.of ≤ 4) ∧ nameB o.name = true := by
  rw [mayB, if_neg (by rw [h]; decide), if_neg (by rw [h]; decide), if_pos h] at hm
  simp only [Bool.and_eq_true, kindB, decide_eq_true_eq] at hm
  exact ⟨hm.1.2, hm.2⟩

theorem may1 {o : Obj} (h2 : o.kind ≠ 2) (h3 : o.kind ≠ 3) (h4 : o.kind ≠ 4) (hm : mayB o = true) : o.kind = 1 := by
  rw [mayB, if_neg h2, if_neg h3, if_neg h4] at hm
  simp only [Bool.and_eq_true, decide_eq_true_eq] at hm
  exact hm.1

theorem body2 {o : Obj} (h : o.kind = 2) : bodyS o = o.data ++ entsS o.entries := by simp [bodyS, h]
theorem body3 {o : Obj} (h : o.kind = 3) : bodyS o = o.data ++ entsS o.entries ++ comS o := by simp [bodyS, h]
theorem body4 {o : Obj} (h : o.kind = 4) : bodyS o = o.data ++ entsS o.entries ++ tagS o := by simp [bodyS, h]

theorem decodeB_out {k : Int} {b : List UInt8} {o : Obj} (hb : b.length < 1000000) (h : decodeB k b = some o) : bodyS o = b ∧ guessB k b = o ∧ o.kind = k ∧ mayB o = true := by
  unfold decodeB at h
  split at h
  · rename_i hc
    obtain ⟨h1, h2, h3⟩ := hc
    cases h
    have hk := bodyR_kind k ⟨b, false⟩
    by_cases k2 : k = 2
    · subst k2
      have hx : bodyR 2 ⟨b, false⟩ = ({ Obj.ofKind 2 with entries := (Rd.tree ⟨b, false⟩).1 }, (Rd.tree ⟨b, false⟩).2) := rfl
      rw [hx] at h1 h2 h3 ⊢
      obtain ⟨_, g2, _⟩ := tree_out _ ⟨b, false⟩ (Nat.le_refl _) h1 h2
      simp only at g2
      generalize (Rd.tree ⟨b, false⟩).1 = es at *
      subst g2
      refine ⟨by rw [body2 rfl]; rfl, ?_, rfl, h3⟩
      obtain ⟨m1, m2⟩ := may2 (o := { Obj.ofKind 2 with entries := es }) rfl h3
      have he := gEnts_of es 65 (Nat.le_trans m2 (by decide)) (entB_all m1)
      show ({ Obj.ofKind 2 with entries := gEnts 65 (entsS es) } : Obj) = _
      rw [he]
    · by_cases k3 : k = 3
      · subst k3
        have hx : bodyR 3 ⟨b, false⟩ = Rd.commit ⟨b, false⟩ 3 := rfl
        rw [hx] at h1 h2 h3 hk ⊢
        obtain ⟨g1, g2⟩ := commit_out h1 h2
        simp only at g1
        have hsh : (Rd.commit ⟨b, false⟩ 3).1 = { Obj.ofKind 3 with tree := (Rd.commit ⟨b, false⟩ 3).1.tree, parents := (Rd.commit ⟨b, false⟩ 3).1.parents, time := (Rd.commit ⟨b, false⟩ 3).1.time, text := (Rd.commit ⟨b, false⟩ 3).1.text } := rfl
        have ht : (Rd.commit ⟨b, false⟩ 3).1.time < 4294967296 := Nat.mod_lt _ (by decide)
        generalize (Rd.commit ⟨b, false⟩ 3).1 = o at *
        have hl : o.text.length < 18446744073709551616 := by
          have := congrArg List.length g1
          simp only [comS, textS, List.length_append] at this
          omega
        have hg := gCom_of g2 ht hl
        rw [g1] at hg
        refine ⟨?_, ?_, hk, h3⟩
        · rw [body3 hk, show o.data = [] by rw [hsh]; rfl, show o.entries = [] by rw [hsh]; rfl]
          exact g1
        · show gCom b = o
          rw [hg, ← hsh]
      · by_cases k4 : k = 4
        · subst k4
          have hx : bodyR 4 ⟨b, false⟩ = Rd.tag ⟨b, false⟩ 4 := rfl
          rw [hx] at h1 h2 h3 hk ⊢
          have g1 := tag_out h1 h2
          simp only at g1
          have hsh : (Rd.tag ⟨b, false⟩ 4).1 = { Obj.ofKind 4 with of := (Rd.tag ⟨b, false⟩ 4).1.of, target := (Rd.tag ⟨b, false⟩ 4).1.target, name := (Rd.tag ⟨b, false⟩ 4).1.name } := rfl
          generalize (Rd.tag ⟨b, false⟩ 4).1 = o at *
          have hm := may4 hk h3
          have hl := nameB_len hm.2
          have hg := gTag_of (o := o) (by omega) (by omega) (by omega)
          rw [g1] at hg
          refine ⟨?_, ?_, hk, h3⟩
          · rw [body4 hk, show o.data = [] by rw [hsh]; rfl, show o.entries = [] by rw [hsh]; rfl]
            exact g1
          · show gTag b = o
            rw [hg, ← hsh]
        · have hx : bodyR k ⟨b, false⟩ = ({ Obj.ofKind k with data := b }, ⟨[], false⟩) := by
            have := Rd.bytes_of (n := b.length) (a := b) (rest := []) rfl
            rw [List.append_nil] at this
            rw [bodyR, if_neg k2, if_neg k3, if_neg k4]
            show (({ Obj.ofKind k with data := (Rd.bytes ⟨b, false⟩ b.length).1 } : Obj), (Rd.bytes ⟨b, false⟩ b.length).2) = _
            rw [this]
          rw [hx] at h3 ⊢
          have hk1 : k = 1 := may1 (o := { Obj.ofKind k with data := b }) k2 k3 k4 h3
          subst hk1
          exact ⟨by simp [bodyS, Obj.ofKind, entsS], by simp [guessB], rfl, h3⟩
  · cases h

theorem decodeB_of {k : Int} {b : List UInt8} (hb : b.length < 1000000) (h1 : bodyS (guessB k b) = b) (h2 : mayB (guessB k b) = true) (h3 : Small (guessB k b)) : decodeB k b = some (guessB k b) := by
  have key : ∀ o, bodyR k ⟨b, false⟩ = (o, ⟨[], false⟩) → mayB o = true → decodeB k b = some o := by
    intro o hx hm
    unfold decodeB
    rw [hx, if_pos ⟨rfl, rfl, hm⟩]
  by_cases k2 : k = 2
  · subst k2
    have hg : guessB 2 b = { Obj.ofKind 2 with entries := gEnts 65 b } := rfl
    rw [hg] at h1 h2 h3 ⊢
    refine key _ ?_ h2
    generalize gEnts 65 b = es at *
    have hbs : entsS es = b := by rw [body2 rfl] at h1; exact h1
    obtain ⟨m1, m2⟩ := may2 (o := { Obj.ofKind 2 with entries := es }) rfl h2
    have ht := tree_of es (entB_all m1)
    rw [hbs] at ht
    show (({ Obj.ofKind 2 with entries := (Rd.tree ⟨b, false⟩).1 } : Obj), (Rd.tree ⟨b, false⟩).2) = _
    rw [ht]
  · by_cases k3 : k = 3
    · subst k3
      have hg : guessB 3 b = gCom b := rfl
      rw [hg] at h1 h2 h3 ⊢
      refine key _ ?_ h2
      have hsh : gCom b = { Obj.ofKind 3 with tree := (gCom b).tree, parents := (gCom b).parents, time := (gCom b).time, text := (gCom b).text } := rfl
      generalize gCom b = o at *
      have hk : o.kind = 3 := by rw [hsh]; rfl
      have hbs : comS o = b := by
        rw [body3 hk, show o.data = [] by rw [hsh]; rfl, show o.entries = [] by rw [hsh]; rfl] at h1
        exact h1
      have hc := commit_of (o := o) (may3 hk h2) h3.i (by have := h3.t; omega)
      rw [hbs] at hc
      show Rd.commit ⟨b, false⟩ 3 = _
      rw [hc, ← hsh]
    · by_cases k4 : k = 4
      · subst k4
        have hg : guessB 4 b = gTag b := rfl
        rw [hg] at h1 h2 h3 ⊢
        refine key _ ?_ h2
        have hsh : gTag b = { Obj.ofKind 4 with of := (gTag b).of, target := (gTag b).target, name := (gTag b).name } := rfl
        generalize gTag b = o at *
        have hk : o.kind = 4 := by rw [hsh]; rfl
        have hbs : tagS o = b := by
          rw [body4 hk, show o.data = [] by rw [hsh]; rfl, show o.entries = [] by rw [hsh]; rfl] at h1
          exact h1
        have hm := may4 hk h2
        have hl := nameB_len hm.2
        have hc := tag_of (o := o) (by omega) (by omega) (by omega)
        rw [hbs] at hc
        show Rd.tag ⟨b, false⟩ 4 = _
        rw [hc, ← hsh]
      · by_cases k1 : k = 1
        · subst k1
          have hg : guessB 1 b = { Obj.ofKind 1 with data := b } := rfl
          rw [hg] at h2 ⊢
          refine key _ ?_ h2
          have := Rd.bytes_of (n := b.length) (a := b) (rest := []) rfl
          rw [List.append_nil] at this
          show (({ Obj.ofKind 1 with data := (Rd.bytes ⟨b, false⟩ b.length).1 } : Obj), (Rd.bytes ⟨b, false⟩ b.length).2) = _
          rw [this]
        · exfalso
          have hg : guessB k b = Obj.ofKind k := by rw [guessB, if_neg k1, if_neg k2, if_neg k3, if_neg k4]
          rw [hg] at h2
          exact k1 (may1 (o := Obj.ofKind k) k2 k3 k4 h2)

theorem same_dec : SameDec := by
  intro s hs
  by_cases h0 : s = []
  · subst h0; rfl
  · obtain ⟨c, u, rfl⟩ : ∃ c u, s = c :: u := by cases s with
      | nil => exact absurd rfl h0
      | cons c u => exact ⟨c, u, rfl⟩
    have hu : u.length < 1000000 := by simp at hs; omega
    have hg : guessR (c :: u) = if (takeR u).2 = 0 then Obj.ofKind 0 else guessB (c.toNat : Int) (takeR u).1 := rfl
    have hd : decodeR (c :: u) = if encodeR (guessR (c :: u)) = some (c :: u) then some (guessR (c :: u)) else none := by rw [decodeR, if_neg h0]
    cases hp : decodeP (c :: u) with
    | some o =>
      unfold decodeP at hp
      split at hp
      · cases hp
      · rename_i hl
        simp only [not_or, Nat.not_lt] at hl
        split at hp
        · cases hp
        · rename_i b rest ht
          split at hp
          · rename_i hr
            subst hr
            have hb := takeO_len ht
            have ht' := takeO_out ht
            simp only [List.drop_succ_cons, List.drop_zero, List.append_nil] at ht' hb
            obtain ⟨g1, g2, g3, g4⟩ := decodeB_out (by omega) hp
            have htr := takeR_text (t := b) (by omega) []
            rw [List.append_nil, ← ht'] at htr
            have hpos : 0 < u.length := by
              have := putS_pos b.length
              rw [ht', textS, List.length_append]; omega
            rw [htr] at hg
            simp only at hg
            rw [if_neg (by omega)] at hg
            have g2' : guessB (c.toNat : Int) b = o := g2
            rw [g2'] at hg
            have hes : encS o = c :: u := by
              rw [encS, g1, g3, ← ht']
              show [oneB (c.toNat : Int)] ++ u = _
              rw [oneB_u8]; rfl
            have hen : encodeR o = some (c :: u) := by
              rw [encodeR, if_neg (by rw [g4]; decide), hes, if_neg (by have := hl.2; omega)]
            rw [hd, hg, if_pos hen]
          · cases hp
    | none =>
      rw [hd]
      split
      · rename_i he
        exfalso
        have hsm := guessR_small hs
        generalize hgo : guessR (c :: u) = o at *
        unfold encodeR at he
        split at he
        · cases he
        · rename_i hm
          have hm : mayB o = true := by simpa using hm
          split at he
          · cases he
          · rename_i hlen
            have he := Option.some.inj he
            rw [encS] at he
            have hc : oneB o.kind = c := (List.cons.inj he).1
            have hut : u = textS (bodyS o) := (List.cons.inj he).2.symm
            have hbl : (bodyS o).length ≤ u.length := by rw [hut, textS, List.length_append]; omega
            have htr := takeR_text (t := bodyS o) (by omega) []
            have hto := takeO_text (t := bodyS o) (by omega) []
            rw [List.append_nil, ← hut] at htr hto
            have hpos : 0 < u.length := by
              have := putS_pos (bodyS o).length
              rw [hut, textS, List.length_append]; omega
            rw [htr] at hg
            simp only at hg
            rw [if_neg (by omega)] at hg
            have hx := decodeB_of (k := (c.toNat : Int)) (b := bodyS o) (by omega) (by rw [← hg]) (by rw [← hg]; exact hm) (by rw [← hg]; exact hsm)
            have : decodeP (c :: u) = some o := by
              rw [decodeP, if_neg (by rintro (h | h); · exact h0 h
                                      · have : (encS o).length = (c :: u).length := by rw [encS, he]
                                        omega)]
              simp only [List.drop_succ_cons, List.drop_zero, hto, if_true]
              show decodeB (c.toNat : Int) (bodyS o) = _
              rw [hx, ← hg]
            rw [this] at hp
            cases hp
      · rfl
end Go.Kn
