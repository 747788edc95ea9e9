/- Objects: what they are, and how the program's reader makes them. -/
import Derived.Test.YtadcjononmlofaaDoorKnReader
import Derived.Test.YtadcjononmlofaaDoorKnLib
set_option autoImplicit false
namespace Go.Kn
open Go Go.Proofs

variable {G : Gl}

structure Entry where
  name : List UInt8
  kind : Int
  id : Id
  deriving DecidableEq

def encEntry (e : Entry) : IV := .agg (.str e.name :: .int .i64 e.kind :: idC e.id)

structure Obj where
  kind : Int
  data : List UInt8
  entries : List Entry
  tree : Id
  parents : List Id
  time : Nat
  text : List UInt8
  target : Id
  of : Int
  name : List UInt8
  deriving DecidableEq

def Id.none : Id := ⟨List.replicate 32 0, by simp⟩

/-- An object of a kind, with nothing else. -/
def Obj.ofKind (k : Int) : Obj := ⟨k, [], [], Id.none, [], 0, [], Id.none, 0, []⟩

/-- The cells of an object, its two lists given. -/
def objCells (o : Obj) (es ps : PV) : List PV :=
  .i (.int .i64 o.kind) :: .i (.str o.data) :: es :: ((idC o.tree).map .i ++ ps :: .i (.int .u32 (o.time : Int)) :: .i (.str o.text) :: ((idC o.target).map .i ++ [.i (.int .i64 o.of), .i (.str o.name)]))

def encObj (o : Obj) : IV :=
  .agg (.int .i64 o.kind :: .str o.data :: .slice (o.entries.map encEntry) :: (idC o.tree ++ .slice (o.parents.map encId) :: .int .u32 (o.time : Int) :: .str o.text :: (idC o.target ++ [.int .i64 o.of, .str o.name])))

/-- Cells that say no more. -/
def PLes : List PV → List PV → Prop
  | [], l => l = []
  | p :: r, l => match l with
    | q :: s => PLe p q ∧ PLes r s
    | [] => False

theorem PLes.get : ∀ {l l' : List PV}, PLes l l' → l.length = l'.length ∧ ∀ (i : Nat) (q : PV), l'[i]? = some q → ∃ p, l[i]? = some p ∧ PLe p q
  | [], l', h => by simp only [PLes] at h; subst h; exact ⟨rfl, fun i q e => by simp at e⟩
  | p :: r, l', h => by
    simp only [PLes] at h
    split at h
    · rename_i q s
      obtain ⟨g1, g2⟩ := PLes.get h.2
      refine ⟨by simp [g1], fun i q' e => ?_⟩
      cases i with
      | zero => simp at e; subst e; exact ⟨p, rfl, h.1⟩
      | succ i => exact g2 i q' (by simpa using e)
    · exact h.elim

theorem MLe.var {l l' : List PV} (h : PLes l l') : MLe (.var l) (.var l') := by
  obtain ⟨h1, h2⟩ := h.get
  refine ⟨rfl, fun σ w b lo hi hm => ⟨by rw [← h1]; exact hm.1, fun i q e => ?_⟩⟩
  obtain ⟨p, e1, hle⟩ := h2 i q e
  obtain ⟨v, r1, r2, r3⟩ := hm.2 i p e1
  exact ⟨v, r1, hle.rel r2, r3⟩

theorem PLes.refl : ∀ l : List PV, PLes l l
  | [] => rfl
  | p :: r => ⟨.refl p, PLes.refl r⟩

/-- A call of a reader's method in a region that draws its order. -/
theorem rdLend {f : FuncId} {r r' : Rd} {cs : List PV} {x : IV} {args : List PV} {m : Mem} (h : Body Pg f ∧ AC Pg G f cs (rd r) (.i x) (rd r'))
    (ha : argOK (rho [(1000, 1000)]) cs args) (hm : MemAs (rho [(1000, 1000)]) (rd r) m) : LendC Pg G f [(1000, 1000)] cs args (rd r) m (.i x) (rd r') := ⟨h.1, h.2, ha, hm, rfl⟩

theorem PLes.append {a a' b b' : List PV} (h1 : PLes a a') (h2 : PLes b b') : PLes (a ++ b) (a' ++ b') := by
  induction a generalizing a' with
  | nil => simp only [PLes] at h1; subst h1; exact h2
  | cons p r ih =>
    simp only [PLes] at h1
    split at h1
    · exact ⟨h1.1, ih h1.2⟩
    · exact h1.elim

theorem objLe (o : Obj) {es es' ps ps' : PV} (h1 : PLe es es') (h2 : PLe ps ps') : PLes (objCells o es ps) (objCells o es' ps') :=
  ⟨.refl _, .refl _, h1, (PLes.refl _).append ⟨h2, PLes.refl _⟩⟩

theorem ren_obj (o : Obj) (a b : IV) : renO (rho []) (.var (objCells o (.i a) (.i b))) = .var (objCells o (.i a) (.i b)) := rfl

theorem objMLe {o : Obj} {es ps : PV} {a b : IV} (h1 : PLe es (.i a)) (h2 : PLe ps (.i b)) : MLe (.var (objCells o es ps)) (renO (rho []) (.var (objCells o (.i a) (.i b)))) := by
  rw [ren_obj]; exact MLe.var (objLe o h1 h2)

/-- What a reader of an object's body is lent: itself, and the object, which has a kind alone. -/
def rdo (r : Rd) (k : Int) : Mem := [(1000, .var [.i (.str r.s), .i (.bool r.bad)]), (1001, .var (objCells (.ofKind k) (.full []) (.full [])))]

/-- What it leaves. -/
def rdo' (r : Rd) (o : Obj) : Mem := [(1000, .var [.i (.str r.s), .i (.bool r.bad)]), (1001, .var (objCells o (.i (.slice (o.entries.map encEntry))) (.i (.slice (o.parents.map encId)))))]

theorem retObj {m0 : Mem} {m : Mem} {m' : Mem} (hm : MemAs (rho []) m' m) : ∃ ρ F, RetOK m0 [] m (.tup []) m' ρ F := ⟨[], [], ⟨trivial, ⟨by decide, rfl⟩, hm, rfl⟩⟩

theorem reader_blob_ok (r : Rd) (k : Int) (hs : r.s.length < 4611686018427387904) :
    Body Pg Fn.object_reader_blob ∧ AC Pg G Fn.object_reader_blob [.ptr 1000 0, .ptr 1001 0] (rdo r k) (.tup []) (rdo' (r.bytes r.s.length).2 { Obj.ofKind k with data := (r.bytes r.s.length).1 }) := by
  have hb := reader_bytes_ok (G := G) r r.s.length hs
  refine acC_of T_ok Fd.object_reader_blob rfl (by kernel_rfl) ?_
  refine ⟨_, _, _, rdCall hb ⟨rfl, rfl, rfl⟩ (MemL.as ⟨⟨_, rfl, MLe.refl _⟩, trivial⟩ rfl), ?_⟩
  refine retObj (MemL.as ⟨⟨_, rfl, MLe.refl _⟩, ⟨_, rfl, ?_⟩, trivial⟩ rfl)
  exact objMLe (o := { Obj.ofKind k with data := (r.bytes r.s.length).1 }) (.full []) (.full [])
theorem bytes_len (r : Rd) (n : Nat) : (r.bytes n).2.s.length ≤ r.s.length := by
  unfold Rd.bytes
  split <;> simp

theorem kind_len (r : Rd) : r.kind.2.s.length ≤ r.s.length := by
  unfold Rd.kind
  split <;> exact bytes_len r 1

theorem id_len (r : Rd) : r.id.2.s.length ≤ r.s.length := bytes_len r 32

theorem text_len (r : Rd) : r.text.2.s.length ≤ r.s.length := by
  unfold Rd.text
  split
  · rename_i t rest h1 h2
    unfold takeO at h2
    split at h2
    · cases h2; simp
    · cases h2
  · simp

theorem number_len (r : Rd) : r.number.2.s.length ≤ r.s.length := by
  unfold Rd.number
  split
  · rename_i t rest h1 h2
    unfold getO at h2
    split at h2
    · cases h2; simp
    · cases h2
  · simp

def Rd.tag (r : Rd) (k : Int) : Obj × Rd :=
  ({ Obj.ofKind k with of := r.kind.1, target := r.kind.2.id.1, name := r.kind.2.id.2.text.1 }, r.kind.2.id.2.text.2)

theorem reader_tag_ok (r : Rd) (k : Int) (hs : r.s.length < 4611686018427387904) :
    Body Pg Fn.object_reader_tag ∧ AC Pg G Fn.object_reader_tag [.ptr 1000 0, .ptr 1001 0] (rdo r k) (.tup []) (rdo' (r.tag k).2 (r.tag k).1) := by
  have h1 := reader_kind_ok (G := G) r hs
  have h2 := reader_id_ok (G := G) r.kind.2 (Nat.lt_of_le_of_lt (kind_len r) hs)
  have h3 := reader_text_ok (G := G) r.kind.2.id.2 (Nat.lt_of_le_of_lt (Nat.le_trans (id_len _) (kind_len r)) hs)
  refine acC_of T_ok Fd.object_reader_tag rfl (by kernel_rfl) ?_
  refine ⟨_, _, _, rdCall h1 ⟨rfl, rfl⟩ (MemL.as ⟨⟨_, rfl, MLe.refl _⟩, trivial⟩ rfl), ?_⟩
  refine ⟨_, _, _, rdCall h2 ⟨rfl, rfl⟩ (MemL.as ⟨⟨_, rfl, MLe.refl _⟩, trivial⟩ rfl), ?_⟩
  refine ⟨_, _, _, rdCall h3 ⟨rfl, rfl⟩ (MemL.as ⟨⟨_, rfl, MLe.refl _⟩, trivial⟩ rfl), ?_⟩
  refine retObj (MemL.as ⟨⟨_, rfl, MLe.refl _⟩, ⟨_, rfl, ?_⟩, trivial⟩ rfl)
  exact objMLe (o := (r.tag k).1) (.full []) (.full [])
def Rd.entry (r : Rd) : Entry × Rd := (⟨r.kind.2.text.1, (r.kind.1 : Int), r.kind.2.text.2.id.1⟩, r.kind.2.text.2.id.2)

theorem entry_len {r : Rd} (h1 : r.bad = false) (h2 : r.s ≠ []) : r.entry.2.s.length < r.s.length := by
  have hpos : 0 < r.s.length := List.length_pos_iff.2 h2
  have hk : r.kind.2.s.length < r.s.length := by
    have hno : ¬ (r.bad = true ∨ r.s.length < 1) := by rw [h1]; simp; omega
    have hb : r.bytes 1 = (r.s.take 1, ⟨r.s.drop 1, false⟩) := by simp only [Rd.bytes, if_neg hno]
    simp [Rd.kind, hb]; omega
  have := text_len r.kind.2
  have := id_len r.kind.2.text.2
  show r.kind.2.text.2.id.2.s.length < _
  omega

def Rd.tree (r : Rd) : List Entry × Rd :=
  if h : r.bad = false ∧ r.s ≠ [] then (r.entry.1 :: r.entry.2.tree.1, r.entry.2.tree.2) else ([], r)
  termination_by r.s.length
  decreasing_by all_goals exact entry_len h.1 h.2

theorem tree_go {r : Rd} (h1 : r.bad = false) (h2 : r.s ≠ []) : r.tree = (r.entry.1 :: r.entry.2.tree.1, r.entry.2.tree.2) := by
  rw [Rd.tree, dif_pos ⟨h1, h2⟩]

theorem tree_end {r : Rd} (h : ¬ (r.bad = false ∧ r.s ≠ [])) : r.tree = ([], r) := by
  rw [Rd.tree, dif_neg h]

theorem encEntry_len (e : Entry) : (encEntry e).cells.length = 34 := by simp [encEntry, IV.cells, idC, u8c]

theorem hasSize_ent (l : List Entry) : hasSize 34 (l.map encEntry) := by
  intro x hx
  obtain ⟨e, _, rfl⟩ := List.mem_map.1 hx
  exact encEntry_len e

def treeM (r : Rd) (k : Int) : List IV → Mem
  | [] => rdo r k
  | x :: xs => [(1000, .var [.i (.str r.s), .i (.bool r.bad)]), (1001, .var (objCells (.ofKind k) (.tok 33 34 (x :: xs)) (.full []))), (33, .tip)]

set_option maxHeartbeats 2000000 in
theorem reader_tree_ok (r : Rd) (k : Int) (hs : r.s.length < 1000000) :
    Body Pg Fn.object_reader_tree ∧ AC Pg G Fn.object_reader_tree [.ptr 1000 0, .ptr 1001 0] (rdo r k) (.tup []) (rdo' r.tree.2 { Obj.ofKind k with entries := r.tree.1 }) := by
  refine acC_of T_ok Fd.object_reader_tree rfl (by kernel_rfl) ?_
  refine loopS T_ok (S := Rd × List IV) (fun _ => [(0, .ptr 1000 0), (1, .ptr 1001 0)]) (fun s => treeM s.1 k s.2) (fun s => s.1.s.length)
    (fun s => ∃ es : List Entry, s.2 = es.map encEntry ∧ es ++ s.1.tree.1 = r.tree.1 ∧ s.1.tree.2 = r.tree.2 ∧ es.length + s.1.s.length ≤ r.s.length) (r, []) ⟨rfl, rfl, trivial⟩ ⟨rfl, rfl, trivial⟩ ⟨[], rfl, rfl, rfl, by simp⟩ ?_
  rintro ⟨q, acc⟩ ⟨es, hes, i1, i2, i3⟩
  simp only at hes i1 i2 i3
  have hq : q.s.length < 4611686018427387904 := by omega
  have h1 := reader_kind_ok (G := G) q hq
  have h2 := reader_text_ok (G := G) q.kind.2 (Nat.lt_of_le_of_lt (kind_len q) hq)
  have h3 := reader_id_ok (G := G) q.kind.2.text.2 (Nat.lt_of_le_of_lt (Nat.le_trans (text_len _) (kind_len q)) hq)
  obtain ⟨s, bad⟩ := q
  simp only at i3
  have hfin : ¬ (bad = false ∧ s ≠ []) → (es = r.tree.1 ∧ r.tree.2 = ⟨s, bad⟩) := fun h => by
    rw [tree_end h] at i1 i2
    exact ⟨by simpa using i1, i2.symm⟩
  have hend0 : ∀ {es : List Entry}, [] = es.map encEntry → MLe (.var (objCells (.ofKind k) (.full []) (.full []))) (renO (rho []) (.var (objCells { Obj.ofKind k with entries := es } (.i (.slice (es.map encEntry))) (.i (.slice []))))) := fun {es} h => by
    rw [← h]; exact objMLe (o := { Obj.ofKind k with entries := es }) (.full []) (.full [])
  have hend1 : ∀ {es : List Entry} {x : IV} {xs : List IV}, x :: xs = es.map encEntry → MLe (.var (objCells (.ofKind k) (.tok 33 34 (x :: xs)) (.full []))) (renO (rho []) (.var (objCells { Obj.ofKind k with entries := es } (.i (.slice (es.map encEntry))) (.i (.slice []))))) := fun {es x xs} h => by
    rw [← h]; exact objMLe (o := { Obj.ofKind k with entries := es }) (.tok _ _ _) (.full [])
  cases bad with
  | true =>
    obtain ⟨f1, f2⟩ := hfin (by simp)
    rw [f2, ← f1]
    cases acc with
    | nil => exact retObj (MemL.as ⟨⟨_, rfl, MLe.refl _⟩, ⟨_, rfl, hend0 (es := es) hes⟩, trivial⟩ rfl)
    | cons x xs => exact retObj (MemL.as ⟨⟨_, rfl, MLe.refl _⟩, ⟨_, rfl, hend1 (es := es) hes⟩, trivial⟩ rfl)
  | false =>
    cases acc with
    | nil =>
      refine condP.split (fun g => ?_) (fun g => ?_)
      · have g' : s ≠ [] := by intro e; subst e; simp at g
        have hlt := entry_len (r := ⟨s, false⟩) rfl g'
        have htr := tree_go (r := ⟨s, false⟩) rfl g'
        refine ⟨_, _, _, rdCall h1 ⟨rfl, rfl⟩ (MemL.as ⟨⟨_, rfl, MLe.refl _⟩, trivial⟩ rfl), ?_⟩
        refine ⟨_, _, _, rdCall h2 ⟨rfl, rfl⟩ (MemL.as ⟨⟨_, rfl, MLe.refl _⟩, trivial⟩ rfl), ?_⟩
        refine ⟨_, _, _, rdCall h3 ⟨rfl, rfl⟩ (MemL.as ⟨⟨_, rfl, MLe.refl _⟩, trivial⟩ rfl), ?_⟩
        refine drawW T_ok (by decide +kernel) ?_
        refine ⟨⟨⟨(fun x hx => by simp at hx), fun x hx => by have := List.mem_singleton.1 hx; subst this; rfl⟩, szOK (by simp) (by kernel_rfl)⟩, ?_⟩
        refine ⟨by kernel_rfl, ?_⟩
        refine ⟨((Rd.entry ⟨s, false⟩).2, [encEntry (Rd.entry ⟨s, false⟩).1]), ⟨hlt, es ++ [(Rd.entry ⟨s, false⟩).1], ?_, ?_, ?_, ?_⟩, ⟨rfl, rfl, trivial⟩, ⟨rfl, rfl, rfl, trivial⟩⟩
        · rw [List.map_append, ← hes]; rfl
        · rw [← i1, htr]; simp
        · rw [← i2, htr]
        · have hlt' : (Rd.entry ⟨s, false⟩).2.s.length < s.length := hlt
          simp only [List.length_append, List.length_cons, List.length_nil]; omega
      · have g' : s = [] := by simpa using g
        obtain ⟨f1, f2⟩ := hfin (by simp [g'])
        rw [f2, ← f1]
        exact retObj (MemL.as ⟨⟨_, rfl, MLe.refl _⟩, ⟨_, rfl, hend0 (es := es) hes⟩, trivial⟩ rfl)
    | cons x xs =>
      refine condP.split (fun g => ?_) (fun g => ?_)
      · have g' : s ≠ [] := by intro e; subst e; simp at g
        have hlt := entry_len (r := ⟨s, false⟩) rfl g'
        have htr := tree_go (r := ⟨s, false⟩) rfl g'
        refine ⟨_, _, _, rdCall h1 ⟨rfl, rfl⟩ (MemL.as ⟨⟨_, rfl, MLe.refl _⟩, trivial⟩ rfl), ?_⟩
        refine ⟨_, _, _, rdCall h2 ⟨rfl, rfl⟩ (MemL.as ⟨⟨_, rfl, MLe.refl _⟩, trivial⟩ rfl), ?_⟩
        refine ⟨_, _, _, rdCall h3 ⟨rfl, rfl⟩ (MemL.as ⟨⟨_, rfl, MLe.refl _⟩, trivial⟩ rfl), ?_⟩
        refine drawW T_ok (by decide +kernel) ?_
        refine ⟨⟨⟨(by rw [hes]; exact hasSize_ent _), fun x hx => by have := List.mem_singleton.1 hx; subst this; rfl⟩, szOK (by have := congrArg List.length hes; simp at this i3 ⊢; omega) (by kernel_rfl)⟩, ?_⟩
        refine ⟨by kernel_rfl, ?_⟩
        refine ⟨((Rd.entry ⟨s, false⟩).2, x :: (xs ++ [encEntry (Rd.entry ⟨s, false⟩).1])), ⟨hlt, es ++ [(Rd.entry ⟨s, false⟩).1], ?_, ?_, ?_, ?_⟩, ⟨rfl, rfl, trivial⟩, ⟨rfl, rfl, rfl, trivial⟩⟩
        · rw [List.map_append, ← hes]; rfl
        · rw [← i1, htr]; simp
        · rw [← i2, htr]
        · have hlt' : (Rd.entry ⟨s, false⟩).2.s.length < s.length := hlt
          simp only [List.length_append, List.length_cons, List.length_nil]; omega
      · have g' : s = [] := by simpa using g
        obtain ⟨f1, f2⟩ := hfin (by simp [g'])
        rw [f2, ← f1]
        exact retObj (MemL.as ⟨⟨_, rfl, MLe.refl _⟩, ⟨_, rfl, hend1 (es := es) hes⟩, trivial⟩ rfl)
end Go.Kn

namespace Go.Kn
open Go Go.Proofs

variable {G : Gl}

/-- So many ids, as long as nothing lacks. -/
def Rd.ids : Nat → Rd → List Id × Rd
  | 0, r => ([], r)
  | m + 1, r => bif r.bad then ([], r) else (r.id.1 :: (Rd.ids m r.id.2).1, (Rd.ids m r.id.2).2)

def Rd.worse (r : Rd) (b : Bool) : Rd := ⟨r.s, r.bad || b⟩

def Rd.commit (r : Rd) (k : Int) : Obj × Rd :=
  let n := r.id.2.number
  let ps := Rd.ids n.1 (n.2.worse (decide (8 < n.1)))
  let t := ps.2.number
  let x := (t.2.worse (decide (4294967295 < t.1))).text
  ({ Obj.ofKind k with tree := r.id.1, parents := ps.1, time := t.1 % 4294967296, text := x.1 }, x.2)

theorem encId_len (x : Id) : (encId x).cells.length = 32 := by simp [encId, IV.cells, idC, u8c]

theorem hasSize_id (l : List Id) : hasSize 32 (l.map encId) := by
  intro x hx
  obtain ⟨e, _, rfl⟩ := List.mem_map.1 hx
  exact encId_len e
theorem worse_len (r : Rd) (b : Bool) : (r.worse b).s.length = r.s.length := rfl

theorem ids_len : ∀ (m : Nat) (r : Rd), (Rd.ids m r).2.s.length ≤ r.s.length
  | 0, r => Nat.le_refl _
  | m + 1, r => by
    simp only [Rd.ids]
    cases r.bad with
    | true => exact Nat.le_refl _
    | false => exact Nat.le_trans (ids_len m _) (id_len r)

/-- The reader and the object, its parents read so far. -/
def comM (r : Rd) (k : Int) (t : Id) (l : List IV) : Mem :=
  [(1000, .var [.i (.str r.s), .i (.bool r.bad)]), (1001, .var (objCells { Obj.ofKind k with tree := t } (.full []) (.tok 39 32 l))), (39, .tip)]

theorem commit_loop {r : Rd} {k : Int} {t : Id} {n : Nat} (hs : r.s.length < 1000000) (hn : r.bad = true ∨ n ≤ 8) {env : Env} {m : Mem} {Q : EQ}
    (hE : LkE env [(0, .ptr 1000 0), (1, .ptr 1001 0), (4, .i (.int .u64 (n : Int))), (5, .i (.int .u64 0))]) (hM : LkM m (comM r k t []))
    (hQ : Q (.exit 0) [(0, .ptr 1000 0), (1, .ptr 1001 0)] (comM (Rd.ids n r).2 k t ((Rd.ids n r).1.map encId))) :
    LoopW Pg G Fb.object_reader_commit.ntmps (nthLoop Fb.object_reader_commit 0) env m Q := by
  refine loopX T_ok 0 (S := Nat × Rd × List Id) (S' := Unit) (fun s => [(0, .ptr 1000 0), (1, .ptr 1001 0), (4, .i (.int .u64 (n : Int))), (5, .i (.int .u64 (s.1 : Int)))]) (fun s => comM s.2.1 k t (s.2.2.map encId)) (fun s => n - s.1)
    (fun s => (s.2.1.bad = true ∨ n ≤ 8) ∧ s.1 ≤ n ∧ s.2.1.s.length ≤ r.s.length ∧ s.2.2.length ≤ s.1 ∧ s.2.2 ++ (Rd.ids (n - s.1) s.2.1).1 = (Rd.ids n r).1 ∧ (Rd.ids (n - s.1) s.2.1).2 = (Rd.ids n r).2)
    (fun _ => [(0, .ptr 1000 0), (1, .ptr 1001 0)]) (fun _ => comM (Rd.ids n r).2 k t ((Rd.ids n r).1.map encId)) (fun _ => True) (0, r, []) hE hM ⟨hn, by omega, by simp, by simp, by simp, by simp⟩ ?_ (fun _ _ => hQ)
  rintro ⟨i, q, es⟩ ⟨i0, i1, i2, i4, i5, i6⟩
  simp only at i0 i1 i2 i4 i5 i6
  obtain ⟨s, bad⟩ := q
  refine condP.split (fun g => ?_) (fun g => ?_)
  · have g' : i < n := by have : (i : Int) < (n : Int) := of_decide_eq_true g; omega
    cases bad with
    | true =>
      have he : Rd.ids (n - i) ⟨s, true⟩ = ([], ⟨s, true⟩) := by cases n - i <;> rfl
      rw [he] at i5 i6
      rw [← i6, ← i5]
      exact ⟨(), trivial, ⟨rfl, rfl, trivial⟩, ⟨rfl, by simp; rfl, rfl, trivial⟩⟩
    | false =>
      have hn8 : n ≤ 8 := by rcases i0 with h | h; cases h; exact h
      have he : Rd.ids (n - i) ⟨s, false⟩ = ((Rd.id ⟨s, false⟩).1 :: (Rd.ids (n - (i + 1)) (Rd.id ⟨s, false⟩).2).1, (Rd.ids (n - (i + 1)) (Rd.id ⟨s, false⟩).2).2) := by
        rw [show n - i = n - (i + 1) + 1 by omega]; rfl
      rw [he] at i5 i6
      have h1 := reader_id_ok (G := G) ⟨s, false⟩ (by simp only at i2 ⊢; omega)
      refine drawW T_ok (by decide +kernel) ?_
      refine ⟨[(1000, 1000)], _, _, _, _, rdLend h1 ⟨rfl, rfl⟩ (MemL.as ⟨⟨_, rfl, MLe.refl _⟩, trivial⟩ rfl), ?_⟩
      refine ⟨⟨⟨hasSize_id _, fun x hx => by have := List.mem_singleton.1 hx; subst this; rfl⟩, szOK (by simp; omega) (by kernel_rfl)⟩, ?_⟩
      refine ⟨by kernel_rfl, ?_⟩
      refine ⟨(i + 1, (Rd.id ⟨s, false⟩).2, es ++ [(Rd.id ⟨s, false⟩).1]), ⟨by simp only; omega, .inr hn8, by simp only; omega, ?_, ?_, ?_, ?_⟩, ⟨rfl, rfl, rfl, ?_, trivial⟩, ⟨rfl, ?_, rfl, trivial⟩⟩
      · exact Nat.le_trans (id_len ⟨s, false⟩) i2
      · simp; omega
      · rw [← i5]; simp
      · exact i6
      · show some (PV.i (IV.int .u64 (IntKind.u64.wrap ((i : Int) + 1)))) = _
        rw [wrap_u64 (by omega) (by omega)]; rfl
      · rw [List.map_append]; rfl
  · have g' : n ≤ i := by have : ¬ (i : Int) < (n : Int) := of_decide_eq_false g; omega
    have he : Rd.ids (n - i) ⟨s, bad⟩ = ([], ⟨s, bad⟩) := by rw [show n - i = 0 by omega]; rfl
    rw [he] at i5 i6
    rw [← i6, ← i5]
    exact ⟨(), trivial, ⟨rfl, rfl, trivial⟩, ⟨rfl, by simp; rfl, rfl, trivial⟩⟩

theorem objMLe' {o : Obj} {es ps : PV} {a b : IV} {l : List PV} (h1 : PLe es (.i a)) (h2 : PLe ps (.i b)) (hl : l = objCells o es ps) : MLe (.var l) (renO (rho []) (.var (objCells o (.i a) (.i b)))) := by
  subst hl; exact objMLe h1 h2

theorem com_tok {k : Int} {t : Id} : TLes 39 (objCells { Obj.ofKind k with tree := t } (.full []) (.full [])) (objCells { Obj.ofKind k with tree := t } (.full []) (.tok 39 32 [])) :=
  ⟨.refl _, .refl _, .refl _, (TLes.refl _).append ⟨.tok 32, TLes.refl _⟩⟩

set_option maxHeartbeats 2000000 in
theorem reader_commit_ok (r : Rd) (k : Int) (hs : r.s.length < 1000000) :
    Body Pg Fn.object_reader_commit ∧ AC Pg G Fn.object_reader_commit [.ptr 1000 0, .ptr 1001 0] (rdo r k) (.tup []) (rdo' (r.commit k).2 (r.commit k).1) := by
  have hq : r.s.length < 4611686018427387904 := by omega
  have h1 := reader_id_ok (G := G) r hq
  have hq1 : r.id.2.s.length < 4611686018427387904 := Nat.lt_of_le_of_lt (id_len r) hq
  have h2 := reader_number_ok (G := G) r.id.2 hq1
  have hl2 : r.id.2.number.2.s.length < 1000000 := Nat.lt_of_le_of_lt (Nat.le_trans (number_len _) (id_len r)) hs
  refine acC_of T_ok Fd.object_reader_commit rfl (by kernel_rfl) ?_
  refine ⟨_, _, _, rdCall h1 ⟨rfl, rfl⟩ (MemL.as ⟨⟨_, rfl, MLe.refl _⟩, trivial⟩ rfl), ?_⟩
  refine ⟨_, _, _, rdCall h2 ⟨rfl, rfl⟩ (MemL.as ⟨⟨_, rfl, MLe.refl _⟩, trivial⟩ rfl), ?_⟩
  have e8 : (decide ((r.id.2.number.1 : Int) > 8)) = decide (8 < r.id.2.number.1) := by congr 1; exact propext (by omega)
  have hcm : r.commit k = ({ Obj.ofKind k with tree := r.id.1, parents := (Rd.ids r.id.2.number.1 (r.id.2.number.2.worse (decide (8 < r.id.2.number.1)))).1, time := (Rd.ids r.id.2.number.1 (r.id.2.number.2.worse (decide (8 < r.id.2.number.1)))).2.number.1 % 4294967296, text := (((Rd.ids r.id.2.number.1 (r.id.2.number.2.worse (decide (8 < r.id.2.number.1)))).2.number.2).worse (decide (4294967295 < (Rd.ids r.id.2.number.1 (r.id.2.number.2.worse (decide (8 < r.id.2.number.1)))).2.number.1))).text.1 }, (((Rd.ids r.id.2.number.1 (r.id.2.number.2.worse (decide (8 < r.id.2.number.1)))).2.number.2).worse (decide (4294967295 < (Rd.ids r.id.2.number.1 (r.id.2.number.2.worse (decide (8 < r.id.2.number.1)))).2.number.1))).text.2) := rfl
  rw [hcm]
  have hXl : (Rd.ids r.id.2.number.1 (r.id.2.number.2.worse (decide (8 < r.id.2.number.1)))).2.s.length < 4611686018427387904 := Nat.lt_of_le_of_lt (ids_len _ _) (by show r.id.2.number.2.s.length < _; omega)
  refine condP.split (fun g => ?_) (fun g => ?_)
  all_goals
    refine LoopW.tok0 39 rfl rfl (env' := [(0, .ptr 1000 0), (1, .ptr 1001 0), (4, .i (.int .u64 (r.id.2.number.1 : Int))), (5, .i (.int .u64 0))]) (m' := comM (r.id.2.number.2.worse (decide (8 < r.id.2.number.1))) k r.id.1 [])
      ⟨⟨_, rfl, .refl _⟩, ⟨_, rfl, .refl _⟩, ⟨_, rfl, .refl _⟩, ⟨_, rfl, .refl _⟩, trivial⟩ ⟨.inr ⟨by decide, _, rfl, .of_eq (by rw [e8] at g; simp [Rd.worse, g])⟩, .inr ⟨by decide, _, rfl, .var _ _ (com_tok (k := k) (t := r.id.1))⟩, .inl ⟨rfl, .tip⟩, trivial⟩ ?_
    refine commit_loop (r := r.id.2.number.2.worse (decide (8 < r.id.2.number.1))) (k := k) (t := r.id.1) (n := r.id.2.number.1) hl2 (by by_cases h : 8 < r.id.2.number.1 <;> simp [Rd.worse, h]; omega) ⟨rfl, rfl, rfl, rfl, trivial⟩ ⟨rfl, rfl, rfl, trivial⟩ ?_
    clear g
    generalize hXe : (Rd.ids r.id.2.number.1 (r.id.2.number.2.worse (decide (8 < r.id.2.number.1)))) = x at *
    have h3 := reader_number_ok (G := G) x.2 hXl
    have ht := number_len x.2
    have e3 : (decide ((x.2.number.1 : Int) > 4294967295)) = decide (4294967295 < x.2.number.1) := by congr 1; exact propext (by omega)
    refine ⟨_, _, _, rdCall h3 ⟨rfl, rfl⟩ (MemL.as ⟨⟨_, rfl, MLe.refl _⟩, trivial⟩ rfl), ?_⟩
    have h4 := reader_text_ok (G := G) (x.2.number.2.worse (decide (4294967295 < x.2.number.1))) (by show x.2.number.2.s.length < _; omega)
    refine condP.split (fun g => ?_) (fun g => ?_)
    all_goals
      have hw : IntKind.u32.wrap (x.2.number.1 : Int) = ((x.2.number.1 % 4294967296 : Nat) : Int) := by rw [wrap_u32_mod]; omega
      refine ⟨_, _, _, rdCall h4 ⟨rfl, rfl⟩ (MemL.as ⟨⟨_, rfl, ?_⟩, trivial⟩ rfl), ?_⟩
      · rw [e3] at g
        simp only [Rd.worse, g, Bool.or_true, Bool.or_false]
        exact MLe.refl _
      refine retObj (MemL.as ⟨⟨_, rfl, MLe.refl _⟩, ⟨_, rfl, ?_⟩, trivial⟩ rfl)
      refine objMLe' (o := { Obj.ofKind k with tree := r.id.1, parents := x.1, time := x.2.number.1 % 4294967296, text := (x.2.number.2.worse (decide (4294967295 < x.2.number.1))).text.1 }) (.full []) (.tok 39 32 _) ?_
      rw [hw]; rfl
end Go.Kn
