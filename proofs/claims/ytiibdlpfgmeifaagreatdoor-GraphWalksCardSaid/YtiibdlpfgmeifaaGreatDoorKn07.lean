/- Objects: what they are, and how the program's reader makes them. -/
import Derived.Test.YtiibdlpfgmeifaaGreatDoorKn06
import Derived.DeepKeys
import Derived.Test.YtiibdlpfgmeifaaGreatDoorKn05
set_option autoImplicit false
set_option maxRecDepth 100000
namespace Go.Kn
open Go Go.Proofs
variable {G : Gl}
structure Entry where
  name : List UInt8
  kind : Int
  id : Id
  deriving DecidableEq
def encEntry (e : Entry) : IV := .agg (.str e.name :: .int .i64 e.kind :: idC e.id)
structure Obj where
  kind : Int
  data : List UInt8
  entries : List Entry
  tree : Id
  parents : List Id
  time : Nat
  text : List UInt8
  target : Id
  of : Int
  name : List UInt8
  deriving DecidableEq
def Id.none : Id := ⟨List.replicate 32 0, by simp⟩
def Obj.ofKind (k : Int) : Obj := ⟨k, [], [], Id.none, [], 0, [], Id.none, 0, []⟩
def objCells (o : Obj) (es ps : PV) : List PV :=
  .i (.int .i64 o.kind) :: .i (.str o.data) :: es :: ((idC o.tree).map .i ++ ps :: .i (.int .u32 (o.time : Int)) :: .i (.str o.text) :: ((idC o.target).map .i ++ [.i (.int .i64 o.of), .i (.str o.name)]))
def encObj (o : Obj) : IV :=
  .agg (.int .i64 o.kind :: .str o.data :: .slice (o.entries.map encEntry) :: (idC o.tree ++ .slice (o.parents.map encId) :: .int .u32 (o.time : Int) :: .str o.text :: (idC o.target ++ [.int .i64 o.of, .str o.name])))
def PLes : List PV → List PV → Prop
  | [], l => l = []
  | p :: r, l => match l with
    | q :: s => PLe p q ∧ PLes r s
    | [] => False
theorem PLes.get : ∀ {l l' : List PV}, PLes l l' → l.length = l'.length ∧ ∀ (i : Nat) (q : PV), l'[i]? = some q → ∃ p, l[i]? = some p ∧ PLe p q
  | [], l', h => by simp only [PLes] at h; subst h; exact ⟨rfl, fun i q e => by simp at e⟩
  | p :: r, l', h => by
    simp only [PLes] at h
    split at h
    · rename_i q s
      obtain ⟨g1, g2⟩ := PLes.get h.2
      refine ⟨by simp [g1], fun i q' e => ?_⟩
      cases i with
      | zero => simp at e; subst e; exact ⟨p, rfl, h.1⟩
      | succ i => exact g2 i q' (by simpa using e)
    · exact h.elim
theorem MLe.var {l l' : List PV} (h : PLes l l') : MLe (.var l) (.var l') := by
  obtain ⟨h1, h2⟩ := h.get
  refine ⟨rfl, fun σ w b lo hi hm => ⟨by rw [← h1]; exact hm.1, fun i q e => ?_⟩⟩
  obtain ⟨p, e1, hle⟩ := h2 i q e
  obtain ⟨v, r1, r2, r3⟩ := hm.2 i p e1
  exact ⟨v, r1, hle.rel r2, r3⟩
theorem PLes.refl : ∀ l : List PV, PLes l l
  | [] => rfl
  | p :: r => ⟨.refl p, PLes.refl r⟩
theorem rdLend {f : FuncId} {r r' : Rd} {cs : List PV} {x : IV} {args : List PV} {m : Mem} (h : Body Pg f ∧ AC Pg G f cs (rd r) (.i x) (rd r'))
    (ha : argOK (rho [(1000, 1000)]) cs args) (hm : MemAs (rho [(1000, 1000)]) (rd r) m) : LendC Pg G f [(1000, 1000)] cs args (rd r) m (.i x) (rd r') := ⟨h.1, h.2, ha, hm, rfl⟩
theorem PLes.append {a a' b b' : List PV} (h1 : PLes a a') (h2 : PLes b b') : PLes (a ++ b) (a' ++ b') := by
  induction a generalizing a' with
  | nil => simp only [PLes] at h1; subst h1; exact h2
  | cons p r ih =>
    simp only [PLes] at h1
    split at h1
    · exact ⟨h1.1, ih h1.2⟩
    · exact h1.elim
theorem objLe (o : Obj) {es es' ps ps' : PV} (h1 : PLe es es') (h2 : PLe ps ps') : PLes (objCells o es ps) (objCells o es' ps') :=
  ⟨.refl _, .refl _, h1, (PLes.refl _).append ⟨h2, PLes.refl _⟩⟩
theorem ren_obj (o : Obj) (a b : IV) : renO (rho []) (.var (objCells o (.i a) (.i b))) = .var (objCells o (.i a) (.i b)) := rfl
theorem objMLe {o : Obj} {es ps : PV} {a b : IV} (h1 : PLe es (.i a)) (h2 : PLe ps (.i b)) : MLe (.var (objCells o es ps)) (renO (rho []) (.var (objCells o (.i a) (.i b)))) := by
  rw [ren_obj]; exact MLe.var (objLe o h1 h2)
def rdo (r : Rd) (k : Int) : Mem := [(1000, .var [.i (.str r.s), .i (.bool r.bad)]), (1001, .var (objCells (.ofKind k) (.full []) (.full [])))]
def rdo' (r : Rd) (o : Obj) : Mem := [(1000, .var [.i (.str r.s), .i (.bool r.bad)]), (1001, .var (objCells o (.i (.slice (o.entries.map encEntry))) (.i (.slice (o.parents.map encId)))))]
theorem retObj {m0 : Mem} {m : Mem} {m' : Mem} (hm : MemAs (rho []) m' m) : ∃ ρ F, RetOK m0 [] m (.tup []) m' ρ F := ⟨[], [], ⟨trivial, ⟨by decide, rfl⟩, hm, rfl⟩⟩
theorem reader_blob_ok (r : Rd) (k : Int) (hs : r.s.length < 4611686018427387904) :
    Body Pg Fn.object_reader_blob ∧ AC Pg G Fn.object_reader_blob [.ptr 1000 0, .ptr 1001 0] (rdo r k) (.tup []) (rdo' (r.bytes r.s.length).2 { Obj.ofKind k with data := (r.bytes r.s.length).1 }) := by
  have hb := reader_bytes_ok (G := G) r r.s.length hs
  refine acC_of T_ok Fd.object_reader_blob rfl (by kernel_rfl) ?_
  refine ⟨_, _, _, rdCall hb ⟨rfl, rfl, rfl⟩ (MemL.as ⟨⟨_, rfl, MLe.refl _⟩, trivial⟩ rfl), ?_⟩
  refine retObj (MemL.as ⟨⟨_, rfl, MLe.refl _⟩, ⟨_, rfl, ?_⟩, trivial⟩ rfl)
  exact objMLe (o := { Obj.ofKind k with data := (r.bytes r.s.length).1 }) (.full []) (.full [])
theorem bytes_len (r : Rd) (n : Nat) : (r.bytes n).2.s.length ≤ r.s.length := by
  unfold Rd.bytes
  split <;> simp
theorem kind_len (r : Rd) : r.kind.2.s.length ≤ r.s.length := by
  unfold Rd.kind
  split <;> exact bytes_len r 1
theorem id_len (r : Rd) : r.id.2.s.length ≤ r.s.length := bytes_len r 32
theorem text_len (r : Rd) : r.text.2.s.length ≤ r.s.length := by
  unfold Rd.text
  split
  · rename_i t rest h1 h2
    unfold takeO at h2
    split at h2
    · cases h2; simp
    · cases h2
  · simp
theorem number_len (r : Rd) : r.number.2.s.length ≤ r.s.length := by
  unfold Rd.number
  split
  · rename_i t rest h1 h2
    unfold getO at h2
    split at h2
    · cases h2; simp
    · cases h2
  · simp
def Rd.tag (r : Rd) (k : Int) : Obj × Rd :=
  ({ Obj.ofKind k with of := r.kind.1, target := r.kind.2.id.1, name := r.kind.2.id.2.text.1 }, r.kind.2.id.2.text.2)
theorem reader_tag_ok (r : Rd) (k : Int) (hs : r.s.length < 4611686018427387904) :
    Body Pg Fn.object_reader_tag ∧ AC Pg G Fn.object_reader_tag [.ptr 1000 0, .ptr 1001 0] (rdo r k) (.tup []) (rdo' (r.tag k).2 (r.tag k).1) := by
  have h1 := reader_kind_ok (G := G) r hs
  have h2 := reader_id_ok (G := G) r.kind.2 (Nat.lt_of_le_of_lt (kind_len r) hs)
  have h3 := reader_text_ok (G := G) r.kind.2.id.2 (Nat.lt_of_le_of_lt (Nat.le_trans (id_len _) (kind_len r)) hs)
  refine acC_of T_ok Fd.object_reader_tag rfl (by kernel_rfl) ?_
  refine ⟨_, _, _, rdCall h1 ⟨rfl, rfl⟩ (MemL.as ⟨⟨_, rfl, MLe.refl _⟩, trivial⟩ rfl), ?_⟩
  refine ⟨_, _, _, rdCall h2 ⟨rfl, rfl⟩ (MemL.as ⟨⟨_, rfl, MLe.refl _⟩, trivial⟩ rfl), ?_⟩
  refine ⟨_, _, _, rdCall h3 ⟨rfl, rfl⟩ (MemL.as ⟨⟨_, rfl, MLe.refl _⟩, trivial⟩ rfl), ?_⟩
  refine retObj (MemL.as ⟨⟨_, rfl, MLe.refl _⟩, ⟨_, rfl, ?_⟩, trivial⟩ rfl)
  exact objMLe (o := (r.tag k).1) (.full []) (.full [])
def Rd.entry (r : Rd) : Entry × Rd := (⟨r.kind.2.text.1, (r.kind.1 : Int), r.kind.2.text.2.id.1⟩, r.kind.2.text.2.id.2)
theorem entry_len {r : Rd} (h1 : r.bad = false) (h2 : r.s ≠ []) : r.entry.2.s.length < r.s.length := by
  have hpos : 0 < r.s.length := List.length_pos_iff.2 h2
  have hk : r.kind.2.s.length < r.s.length := by
    have hno : ¬ (r.bad = true ∨ r.s.length < 1) := by rw [h1]; simp; omega
    have hb : r.bytes 1 = (r.s.take 1, ⟨r.s.drop 1, false⟩) := by simp only [Rd.bytes, if_neg hno]
    simp [Rd.kind, hb]; omega
  have := text_len r.kind.2
  have := id_len r.kind.2.text.2
  show r.kind.2.text.2.id.2.s.length < _
  omega
def Rd.tree (r : Rd) : List Entry × Rd :=
  if h : r.bad = false ∧ r.s ≠ [] then (r.entry.1 :: r.entry.2.tree.1, r.entry.2.tree.2) else ([], r)
  termination_by r.s.length
  decreasing_by all_goals exact entry_len h.1 h.2
theorem tree_go {r : Rd} (h1 : r.bad = false) (h2 : r.s ≠ []) : r.tree = (r.entry.1 :: r.entry.2.tree.1, r.entry.2.tree.2) := by
  rw [Rd.tree, dif_pos ⟨h1, h2⟩]
theorem tree_end {r : Rd} (h : ¬ (r.bad = false ∧ r.s ≠ [])) : r.tree = ([], r) := by
  rw [Rd.tree, dif_neg h]
theorem encEntry_len (e : Entry) : (encEntry e).cells.length = 34 := by simp [encEntry, IV.cells, idC, u8c]
theorem hasSize_ent (l : List Entry) : hasSize 34 (l.map encEntry) := by
  intro x hx
  obtain ⟨e, _, rfl⟩ := List.mem_map.1 hx
  exact encEntry_len e
def treeM (r : Rd) (k : Int) : List IV → Mem
  | [] => rdo r k
  | x :: xs => [(1000, .var [.i (.str r.s), .i (.bool r.bad)]), (1001, .var (objCells (.ofKind k) (.tok 33 34 (x :: xs)) (.full []))), (33, .tip)]
set_option maxHeartbeats 2000000 in
theorem reader_tree_ok (r : Rd) (k : Int) (hs : r.s.length < 1000000) :
    Body Pg Fn.object_reader_tree ∧ AC Pg G Fn.object_reader_tree [.ptr 1000 0, .ptr 1001 0] (rdo r k) (.tup []) (rdo' r.tree.2 { Obj.ofKind k with entries := r.tree.1 }) := by
  refine acC_of T_ok Fd.object_reader_tree rfl (by kernel_rfl) ?_
  refine loopS T_ok (S := Rd × List IV) (fun _ => [(0, .ptr 1000 0), (1, .ptr 1001 0)]) (fun s => treeM s.1 k s.2) (fun s => s.1.s.length)
    (fun s => ∃ es : List Entry, s.2 = es.map encEntry ∧ es ++ s.1.tree.1 = r.tree.1 ∧ s.1.tree.2 = r.tree.2 ∧ es.length + s.1.s.length ≤ r.s.length) (r, []) ⟨rfl, rfl, trivial⟩ ⟨rfl, rfl, trivial⟩ ⟨[], rfl, rfl, rfl, by simp⟩ ?_
  rintro ⟨q, acc⟩ ⟨es, hes, i1, i2, i3⟩
  simp only at hes i1 i2 i3
  have hq : q.s.length < 4611686018427387904 := by omega
  have h1 := reader_kind_ok (G := G) q hq
  have h2 := reader_text_ok (G := G) q.kind.2 (Nat.lt_of_le_of_lt (kind_len q) hq)
  have h3 := reader_id_ok (G := G) q.kind.2.text.2 (Nat.lt_of_le_of_lt (Nat.le_trans (text_len _) (kind_len q)) hq)
  obtain ⟨s, bad⟩ := q
  simp only at i3
  have hfin : ¬ (bad = false ∧ s ≠ []) → (es = r.tree.1 ∧ r.tree.2 = ⟨s, bad⟩) := fun h => by
    rw [tree_end h] at i1 i2
    exact ⟨by simpa using i1, i2.symm⟩
  have hend0 : ∀ {es : List Entry}, [] = es.map encEntry → MLe (.var (objCells (.ofKind k) (.full []) (.full []))) (renO (rho []) (.var (objCells { Obj.ofKind k with entries := es } (.i (.slice (es.map encEntry))) (.i (.slice []))))) := fun {es} h => by
    rw [← h]; exact objMLe (o := { Obj.ofKind k with entries := es }) (.full []) (.full [])
  have hend1 : ∀ {es : List Entry} {x : IV} {xs : List IV}, x :: xs = es.map encEntry → MLe (.var (objCells (.ofKind k) (.tok 33 34 (x :: xs)) (.full []))) (renO (rho []) (.var (objCells { Obj.ofKind k with entries := es } (.i (.slice (es.map encEntry))) (.i (.slice []))))) := fun {es x xs} h => by
    rw [← h]; exact objMLe (o := { Obj.ofKind k with entries := es }) (.tok _ _ _) (.full [])
  cases bad with
  | true =>
    obtain ⟨f1, f2⟩ := hfin (by simp)
    rw [f2, ← f1]
    cases acc with
    | nil => exact retObj (MemL.as ⟨⟨_, rfl, MLe.refl _⟩, ⟨_, rfl, hend0 (es := es) hes⟩, trivial⟩ rfl)
    | cons x xs => exact retObj (MemL.as ⟨⟨_, rfl, MLe.refl _⟩, ⟨_, rfl, hend1 (es := es) hes⟩, trivial⟩ rfl)
  | false =>
    cases acc with
    | nil =>
      refine condP.split (fun g => ?_) (fun g => ?_)
      · have g' : s ≠ [] := by intro e; subst e; simp at g
        have hlt := entry_len (r := ⟨s, false⟩) rfl g'
        have htr := tree_go (r := ⟨s, false⟩) rfl g'
        refine ⟨_, _, _, rdCall h1 ⟨rfl, rfl⟩ (MemL.as ⟨⟨_, rfl, MLe.refl _⟩, trivial⟩ rfl), ?_⟩
        refine ⟨_, _, _, rdCall h2 ⟨rfl, rfl⟩ (MemL.as ⟨⟨_, rfl, MLe.refl _⟩, trivial⟩ rfl), ?_⟩
        refine ⟨_, _, _, rdCall h3 ⟨rfl, rfl⟩ (MemL.as ⟨⟨_, rfl, MLe.refl _⟩, trivial⟩ rfl), ?_⟩
        refine drawW T_ok (by decide +kernel) ?_
        refine ⟨⟨⟨(fun x hx => by simp at hx), fun x hx => by have := List.mem_singleton.1 hx; subst this; rfl⟩, szOK (by simp) (by kernel_rfl)⟩, ?_⟩
        refine ⟨by kernel_rfl, ?_⟩
        refine ⟨((Rd.entry ⟨s, false⟩).2, [encEntry (Rd.entry ⟨s, false⟩).1]), ⟨hlt, es ++ [(Rd.entry ⟨s, false⟩).1], ?_, ?_, ?_, ?_⟩, ⟨rfl, rfl, trivial⟩, ⟨rfl, rfl, rfl, trivial⟩⟩
        · rw [List.map_append, ← hes]; rfl
        · rw [← i1, htr]; simp
        · rw [← i2, htr]
        · have hlt' : (Rd.entry ⟨s, false⟩).2.s.length < s.length := hlt
          simp only [List.length_append, List.length_cons, List.length_nil]; omega
      · have g' : s = [] := by simpa using g
        obtain ⟨f1, f2⟩ := hfin (by simp [g'])
        rw [f2, ← f1]
        exact retObj (MemL.as ⟨⟨_, rfl, MLe.refl _⟩, ⟨_, rfl, hend0 (es := es) hes⟩, trivial⟩ rfl)
    | cons x xs =>
      refine condP.split (fun g => ?_) (fun g => ?_)
      · have g' : s ≠ [] := by intro e; subst e; simp at g
        have hlt := entry_len (r := ⟨s, false⟩) rfl g'
        have htr := tree_go (r := ⟨s, false⟩) rfl g'
        refine ⟨_, _, _, rdCall h1 ⟨rfl, rfl⟩ (MemL.as ⟨⟨_, rfl, MLe.refl _⟩, trivial⟩ rfl), ?_⟩
        refine ⟨_, _, _, rdCall h2 ⟨rfl, rfl⟩ (MemL.as ⟨⟨_, rfl, MLe.refl _⟩, trivial⟩ rfl), ?_⟩
        refine ⟨_, _, _, rdCall h3 ⟨rfl, rfl⟩ (MemL.as ⟨⟨_, rfl, MLe.refl _⟩, trivial⟩ rfl), ?_⟩
        refine drawW T_ok (by decide +kernel) ?_
        refine ⟨⟨⟨(by rw [hes]; exact hasSize_ent _), fun x hx => by have := List.mem_singleton.1 hx; subst this; rfl⟩, szOK (by have := congrArg List.length hes; simp at this i3 ⊢; omega) (by kernel_rfl)⟩, ?_⟩
        refine ⟨by kernel_rfl, ?_⟩
        refine ⟨((Rd.entry ⟨s, false⟩).2, x :: (xs ++ [encEntry (Rd.entry ⟨s, false⟩).1])), ⟨hlt, es ++ [(Rd.entry ⟨s, false⟩).1], ?_, ?_, ?_, ?_⟩, ⟨rfl, rfl, trivial⟩, ⟨rfl, rfl, rfl, trivial⟩⟩
        · rw [List.map_append, ← hes]; rfl
        · rw [← i1, htr]; simp
        · rw [← i2, htr]
        · have hlt' : (Rd.entry ⟨s, false⟩).2.s.length < s.length := hlt
          simp only [List.length_append, List.length_cons, List.length_nil]; omega
      · have g' : s = [] := by simpa using g
        obtain ⟨f1, f2⟩ := hfin (by simp [g'])
        rw [f2, ← f1]
        exact retObj (MemL.as ⟨⟨_, rfl, MLe.refl _⟩, ⟨_, rfl, hend1 (es := es) hes⟩, trivial⟩ rfl)
end Go.Kn
namespace Go.Kn
open Go
inductive TLe (d : Nat) : PV → PV → Prop where
  | le (p q : PV) (h : PLe p q) : TLe d p q
  | tok (s : Nat) : TLe d (.full []) (.tok d s [])
  | vec (s : Nat) : TLe d (.full []) (.vec d s 0 0)
theorem TLe.refl {d : Nat} (p : PV) : TLe d p p := .le _ _ (.refl _)
theorem TLe.rel {d : Nat} {σ : Gh} {p q : PV} {v : Value} (hd : σ.loc d = some (0, 0, 0)) (h : TLe d p q) (r : RelP σ p v) : RelP σ q v := by
  cases h with
  | le _ _ h => exact h.rel r
  | tok s =>
    cases r with
    | full _ a r => exact .tok d s [] a 0 _ hd r (by simp) (.inl rfl)
  | vec s =>
    cases r with
    | full _ a r pl =>
      cases r with
      | nilS => exact .vec0 d s 0 none _ hd (by simp)
      | oddS => exact pl.elim
      | slice b o cap sz l f => exact .vec0 d s 0 (some (b, o)) _ hd (by simp)
def TLes (d : Nat) : List PV → List PV → Prop
  | [], l => l = []
  | p :: r, l => match l with
    | q :: s => TLe d p q ∧ TLes d r s
    | [] => False
theorem TLes.get {d : Nat} : ∀ {l l' : List PV}, TLes d l l' → l.length = l'.length ∧ ∀ (i : Nat) (q : PV), l'[i]? = some q → ∃ p, l[i]? = some p ∧ TLe d p q
  | [], l', h => by simp only [TLes] at h; subst h; exact ⟨rfl, fun i q e => by simp at e⟩
  | p :: r, l', h => by
    simp only [TLes] at h
    split at h
    · rename_i q s
      obtain ⟨g1, g2⟩ := TLes.get h.2
      refine ⟨by simp [g1], fun i q' e => ?_⟩
      cases i with
      | zero => simp at e; subst e; exact ⟨p, rfl, h.1⟩
      | succ i => exact g2 i q' (by simpa using e)
    · exact h.elim
theorem TLes.refl {d : Nat} : ∀ l : List PV, TLes d l l
  | [] => rfl
  | p :: r => ⟨.refl p, TLes.refl r⟩
theorem TLes.append {d : Nat} {a a' b b' : List PV} (h1 : TLes d a a') (h2 : TLes d b b') : TLes d (a ++ b) (a' ++ b') := by
  induction a generalizing a' with
  | nil => simp only [TLes] at h1; subst h1; exact h2
  | cons p r ih =>
    simp only [TLes] at h1
    split at h1
    · exact ⟨h1.1, ih h1.2⟩
    · exact h1.elim
inductive OLe (d : Nat) : MO → MO → Prop where
  | refl (o : MO) : OLe d o o
  | var (l l' : List PV) (h : TLes d l l') : OLe d (.var l) (.var l')
theorem OLe.of_eq {d : Nat} {o o' : MO} (h : o = o') : OLe d o o' := by subst h; exact .refl _
theorem OLe.isVar {d : Nat} {o o' : MO} (h : OLe d o o') : Kn.isVar o = Kn.isVar o' := by cases h <;> rfl
theorem OLe.ok {d : Nat} {o o' : MO} {σ : Gh} {w : World} {b lo hi : Nat} (hd : σ.loc d = some (0, 0, 0)) (h : OLe d o o') (hm : MOK σ w b lo hi o) : MOK σ w b lo hi o' := by
  cases h with
  | refl => exact hm
  | var l l' h =>
    obtain ⟨h1, h2⟩ := h.get
    refine ⟨by rw [← h1]; exact hm.1, fun i q e => ?_⟩
    obtain ⟨p, e1, hle⟩ := h2 i q e
    obtain ⟨v, r1, r2, r3⟩ := hm.2 i p e1
    exact ⟨v, r1, hle.rel hd r2, r3⟩
def LkT (d : Nat) (env : Env) : Env → Prop
  | [] => True
  | (t, q) :: r => (∃ p, lk t env = some p ∧ TLe d p q) ∧ LkT d env r
inductive NewO : MO → Prop where
  | tip : NewO .tip
  | vec (s : Nat) (hs : 0 < s) : NewO (.vec s [] none)
theorem NewO.vec' {s : Nat} (h : Nat.blt 0 s = true) : NewO (.vec s [] none) := .vec s (by simpa [Nat.blt_eq] using h)
def LkTM (d : Nat) (m : Mem) : Mem → Prop
  | [] => True
  | (t, q) :: r => ((t = d ∧ NewO q) ∨ (t ≠ d ∧ ∃ o, lk t m = some o ∧ OLe d o q)) ∧ LkTM d m r
theorem LkT.get {d : Nat} {env : Env} : ∀ {env' : Env}, LkT d env env' → ∀ t q, lk t env' = some q → ∃ p, lk t env = some p ∧ TLe d p q
  | [], _, t, q, e => by cases e
  | (t', q') :: r, h, t, q, e => by
    simp only [lk] at e
    cases hb : Nat.beq t' t with
    | true =>
      rw [hb] at e
      cases e
      have := Nat.eq_of_beq_eq_true hb
      subst this
      exact h.1
    | false =>
      rw [hb] at e
      exact LkT.get h.2 t q e
theorem LkTM.get {d : Nat} {m : Mem} : ∀ {m' : Mem}, LkTM d m m' → ∀ t q, lk t m' = some q → (t = d ∧ NewO q) ∨ (t ≠ d ∧ ∃ o, lk t m = some o ∧ OLe d o q)
  | [], _, t, q, e => by cases e
  | (t', q') :: r, h, t, q, e => by
    simp only [lk] at e
    cases hb : Nat.beq t' t with
    | true =>
      rw [hb] at e
      cases e
      have := Nat.eq_of_beq_eq_true hb
      subst this
      exact h.1
    | false =>
      rw [hb] at e
      exact LkTM.get h.2 t q e
section
variable {P : Program} {G : Gl} {n : Nat}
theorem J.ole {R : Ent} {σ : Gh} {d : Nat} {m m' : Mem} {w : World} (hd : σ.loc d = some (0, 0, 0)) (h : J G R σ ((d, .tip) :: rm d m) w)
    (hl : ∀ t q, lk t m' = some q → (t = d ∧ NewO q) ∨ (t ≠ d ∧ ∃ o, lk t m = some o ∧ OLe d o q)) : J G R σ m' w := by
  have hx : ∀ k o, lk k m' = some o → ∃ o1, lk k ((d, .tip) :: rm d m) = some o1 ∧ isVar o1 = isVar o ∧ ∀ {b lo hi : Nat}, σ.loc k = some (b, lo, hi) → MOK σ w b lo hi o1 → MOK σ w b lo hi o := fun k o e => by
    rcases hl k o e with ⟨rfl, hn⟩ | ⟨hk, o1, e1, hle⟩
    · refine ⟨.tip, lk_cons_self _ _ _, ?_, fun {b lo hi} hb _ => ?_⟩
      · cases hn <;> rfl
      · rw [hd] at hb; cases hb
        cases hn with
        | tip => trivial
        | vec s hs =>
          refine ⟨hs, fun h => by omega, fun x h1 h2 => by omega, 0, by simp, by simp, (fun c h => nomatch h), fun i x h => nomatch h⟩
    · exact ⟨o1, by rw [lk_cons_other hk, lk_rm_other hk]; exact e1, hle.isVar, fun _ hm => hle.ok hd hm⟩
  exact {
    inv := ⟨h.inv.hh, fun k o e => by
        obtain ⟨o1, e1, _, ht⟩ := hx k o e
        obtain ⟨b, lo, hi, q1, q2, q3, q4⟩ := h.inv.obj k o1 e1
        exact ⟨b, lo, hi, q1, q2, q3, ht q1 q4⟩, fun k k' o o' b lo hi b' lo' hi' e e' => by
        obtain ⟨o1, e1, _⟩ := hx k o e
        obtain ⟨o2, e2, _⟩ := hx k' o' e'
        exact h.inv.dis k k' o1 o2 b lo hi b' lo' hi' e1 e2⟩
    glob := h.glob
    hm := h.hm
    os := h.os
    tape := h.tape
    out := h.out
    sz := h.sz
    old := h.old
    hn := h.hn
    own := fun k o b lo hi e => by
      obtain ⟨o1, e1, _⟩ := hx k o e
      exact h.own k o1 b lo hi e1
    kp := h.kp
    kn := fun k o L e1 e2 e3 => by
      obtain ⟨o1, e4, hv, _⟩ := hx k o e2
      rw [← hv]; exact h.kn k o1 L e1 e4 e3 }
theorem CW.tok0 (d : Nat) {c : Code} {env env' : Env} {m m' : Mem} {Q : EQ} (hd : Nat.blt d 1000 = true) (hg : (occE d env || occM d m) = false) (he : LkT d env env') (hm : LkTM d m m') (h : CW P G n c env' m' Q) : CW P G n c env m Q := by
  intro R σ a w he0 hj hn
  have hd' : d < 1000 := by simpa [Nat.blt_eq] using hd
  simp only [Bool.or_eq_false_iff] at hg
  obtain ⟨σ', hB, hloc, he1, hj1⟩ := hj.but_env he0 hd' (gives_plain hg.1 hg.2)
  refine h R σ' a w ⟨he1.d, fun t q e => ?_⟩ (hj1.ole hloc hm.get) hn
  obtain ⟨p, hp, hle⟩ := he.get t q e
  obtain ⟨v, hv, r⟩ := he1.v t p hp
  exact ⟨v, hv, hle.rel hloc r⟩
theorem LoopW.tok0 (d : Nat) {c : Code} {env env' : Env} {m m' : Mem} {Q : EQ} (hd : Nat.blt d 1000 = true) (hg : (occE d env || occM d m) = false) (he : LkT d env env') (hm : LkTM d m m') (h : LoopW P G n c env' m' Q) : LoopW P G n c env m Q :=
  CW.tok0 d hd hg he hm h
theorem CW.cut {T : Ty} (hT : TOK P T) {c d : Code} {env : Env} {m : Mem} {Q : EQ} {S : Type} (E : S → Env) (M : S → Mem) (I : S → Prop)
    (h1 : awpC P T G n c (fun e env m => match e with | .normal => ∃ s, I s ∧ LkE env (E s) ∧ LkM m (M s) | e => Q e env m) env m)
    (h2 : ∀ s, I s → CW P G n d (E s) (M s) Q) : CW P G n (.seq c d) env m Q := by
  intro R σ a w he hj hn
  refine wp_seq (wp_mono (awpC_ok hT c _ _ _ h1 R σ a w he hj hn) ?_)
  rintro e a' w' ⟨σ', env', m', q, he', hj', hn'⟩
  cases e with
  | normal =>
    obtain ⟨s, hs, h3, h4⟩ := q
    exact h2 s hs R σ' a' w' (he'.le h3.sle) (hj'.le h4.sle) hn'
  | _ => exact ⟨σ', env', m', q, he', hj', hn'⟩
end
section
variable {P : Program} {G : Gl} {n : Nat}
theorem CW.cutW {c d : Code} {env : Env} {m : Mem} {Q : EQ} {S : Type} (E : S → Env) (M : S → Mem) (I : S → Prop)
    (h1 : CW P G n c env m (fun e env m => match e with | .normal => ∃ s, I s ∧ LkE env (E s) ∧ LkM m (M s) | e => Q e env m))
    (h2 : ∀ s, I s → CW P G n d (E s) (M s) Q) : CW P G n (.seq c d) env m Q := by
  intro R σ a w he hj hn
  refine wp_seq (wp_mono (h1 R σ a w he hj hn) ?_)
  rintro e a' w' ⟨σ', env', m', q, he', hj', hn'⟩
  cases e with
  | normal =>
    obtain ⟨s, hs, h3, h4⟩ := q
    exact h2 s hs R σ' a' w' (he'.le h3.sle) (hj'.le h4.sle) hn'
  | _ => exact ⟨σ', env', m', q, he', hj', hn'⟩
end
theorem renO_ivs (f : Nat → Nat) (l : List IV) : renO f (.var (l.map .i)) = .var (l.map .i) := by
  have : ∀ l : List IV, rens f (l.map .i) = l.map .i := by
    intro l
    induction l with
    | nil => rfl
    | cons x r ih => simp only [List.map_cons, rens, ih]; rfl
  simp only [renO, this]
theorem MLe.ivs {f : Nat → Nat} (l : List IV) : MLe (.var (l.map .i)) (renO f (.var (l.map .i))) := by
  rw [renO_ivs]; exact MLe.refl _
section
variable {P : Program} {T : Ty} {G : Gl}
theorem pureB_of (hT : TOK P T) {f : FuncId} {fn : Func} {c : Code} {as0 : List IV} {x : IV} (hf : P.funcs[f]? = some fn) (hb : fn.body = some c) (hn : (Nat.ble as0.length fn.ntmps && !(fn.name == "runtime.NumGoroutine")) = true)
    (h : CW P G fn.ntmps c (envArgs 0 (as0.map .i)) [] (retI T fn.results.toList x)) : Body P f ∧ AC P G f (as0.map .i) [] (.i x) [] := by
  simp only [Bool.and_eq_true, Bool.not_eq_true'] at hn
  refine ⟨⟨fn, c, hf, hb, hn.2⟩, ?_⟩
  intro σ w vs hj hr
  refine calls_of_wp hf hb ?_
  have hl : vs.length = as0.length := by rw [← hr.1]; simp
  have he : EnvOK σ (envArgs 0 (as0.map .i)) { tmps := vs.toArray ++ Array.replicate (fn.ntmps - vs.toArray.size) undef, defers := [] } := by
    refine ⟨rfl, fun t p e => ?_⟩
    obtain ⟨_, e2⟩ := envArgs_lk e
    simp only [Nat.sub_zero] at e2
    have ht : t < vs.length := by
      rw [← hr.1]; exact (List.getElem?_eq_some_iff.1 e2).1
    refine ⟨vs[t], ?_, hr.2 t p _ e2 (List.getElem?_eq_getElem ht)⟩
    rw [Array.getElem?_append_left (by simpa using ht)]
    simp [ht]
  have hn' := Nat.le_of_ble_eq_true hn.1
  refine wp_mono (h (Ent.at σ [] w) σ _ w he hj (by simp; omega)) ?_
  have key : ∀ (a : Act) (w' : World) (σ' : Gh) (env : Env) (m : Mem) (ps : List PV), resultsOf T env m fn.results.toList = some ps → packI ps = some x → EnvOK σ' env a → J G (Ent.at σ [] w) σ' m w' →
      a.defers = [] ∧ ∃ v, (results fn a.tmps).run P w' = .ok v w' ∧ ∃ u σ'', Ending.returned v = .returned u ∧ RelP σ'' (.i x) u ∧ J G (Ent.at σ [] w) σ'' [] w' := by
    intro a w' σ' env m ps hps hp he' hj'
    obtain ⟨us, g1, g2⟩ := results_run (P := P) hT he' hj' hps
    exact ⟨he'.d, _, g2, _, σ', rfl, .i _ _ (packI_rel hp g1), hj'.le (by simp)⟩
  rintro e a w' ⟨σ', env, m, q, he', hj', _⟩
  cases e with
  | normal =>
    simp only [retI] at q
    split at q
    · rename_i ps hps; exact key a w' σ' env m ps hps q he' hj'
    · exact q.elim
  | ret =>
    simp only [retI] at q
    split at q
    · rename_i ps hps; exact key a w' σ' env m ps hps q he' hj'
    · exact q.elim
  | _ => exact q.elim
end
theorem ivF_row {F : List (Nat × FO)} {k s n : Nat} {l : List IV} (h : lk k F = some (.vec s l)) (hn : n = l.length) : ivF F (.vec k s 0 n) (.slice l) := by
  subst hn
  simp only [ivF, h]
  exact ⟨trivial, by omega, by simp⟩
theorem retRow {m0 m : Mem} {k s n : Nat} {l : List IV} {c : Option Nat} (h : lk k m = some (.vec s (l.map .i) c)) (hn : n = l.length) : ∃ ρ F, RetOK m0 [.vec k s 0 n] m (.i (.slice l)) [] ρ F :=
  ⟨[], [(k, .vec s l)], ⟨⟨⟨_, h, ⟨_, rfl⟩⟩, trivial⟩, ivF_row (lk_cons_self _ _ _) hn, MemL.as trivial rfl, rfl⟩⟩
theorem retRow2 {m0 m : Mem} {k s n k2 s2 n2 : Nat} {l l2 : List IV} {c c2 : Option Nat} (h : lk k m = some (.vec s (l.map .i) c)) (hn : n = l.length) (h2 : lk k2 m = some (.vec s2 (l2.map .i) c2)) (hn2 : n2 = l2.length) (hk : k ≠ k2) :
    ∃ ρ F, RetOK m0 [.vec k s 0 n, .vec k2 s2 0 n2] m (.i (.tup [.slice l, .slice l2])) [] ρ F := by
  have h1 : lk k (rmF [(k2, .vec s2 l2)] m) = some (.vec s (l.map .i) c) := by
    show lk k (rm k2 m) = _
    rw [lk_rm_other hk]; exact h
  have h3 : lk k2 [(k, FO.vec s l), (k2, FO.vec s2 l2)] = some (.vec s2 l2) := by
    rw [lk_cons_other (Ne.symm hk)]; exact lk_cons_self _ _ _
  exact ⟨[], [(k, .vec s l), (k2, .vec s2 l2)], ⟨⟨⟨_, h1, ⟨c, rfl⟩⟩, ⟨_, h2, ⟨c2, rfl⟩⟩, trivial⟩, ⟨[.slice l, .slice l2], ⟨ivF_row (lk_cons_self _ _ _) hn, ivF_row h3 hn2, rfl⟩, rfl⟩, MemL.as trivial rfl, rfl⟩⟩
theorem AC.forget {P : Program} {G : Gl} {f : FuncId} {args : List PV} {m : Mem} {k s : Nat} {l : List IV} (h : Body P f ∧ AC P G f args m (.tok k s l) [(k, .tip)]) : Body P f ∧ AC P G f args m (.i (.slice l)) [] := by
  refine ⟨h.1, fun σ w vs hj hr => (h.2 σ w vs hj hr).mono ?_⟩
  rintro e w' ⟨v, σ', rfl, rv, hj'⟩
  exact ⟨v, σ', rfl, (PLe.tok k s l).rel rv, hj'.le (by simp)⟩
end Go.Kn
set_option maxRecDepth 100000
namespace Go.Kn
open Go Go.Proofs
variable {G : Gl}
def Rd.ids : Nat → Rd → List Id × Rd
  | 0, r => ([], r)
  | m + 1, r => bif r.bad then ([], r) else (r.id.1 :: (Rd.ids m r.id.2).1, (Rd.ids m r.id.2).2)
def Rd.worse (r : Rd) (b : Bool) : Rd := ⟨r.s, r.bad || b⟩
def Rd.commit (r : Rd) (k : Int) : Obj × Rd :=
  let n := r.id.2.number
  let ps := Rd.ids n.1 (n.2.worse (decide (8 < n.1)))
  let t := ps.2.number
  let x := (t.2.worse (decide (4294967295 < t.1))).text
  ({ Obj.ofKind k with tree := r.id.1, parents := ps.1, time := t.1 % 4294967296, text := x.1 }, x.2)
theorem encId_len (x : Id) : (encId x).cells.length = 32 := by simp [encId, IV.cells, idC, u8c]
theorem hasSize_id (l : List Id) : hasSize 32 (l.map encId) := by
  intro x hx
  obtain ⟨e, _, rfl⟩ := List.mem_map.1 hx
  exact encId_len e
theorem worse_len (r : Rd) (b : Bool) : (r.worse b).s.length = r.s.length := rfl
theorem ids_len : ∀ (m : Nat) (r : Rd), (Rd.ids m r).2.s.length ≤ r.s.length
  | 0, r => Nat.le_refl _
  | m + 1, r => by
    simp only [Rd.ids]
    cases r.bad with
    | true => exact Nat.le_refl _
    | false => exact Nat.le_trans (ids_len m _) (id_len r)
def comM (r : Rd) (k : Int) (t : Id) (l : List IV) : Mem :=
  [(1000, .var [.i (.str r.s), .i (.bool r.bad)]), (1001, .var (objCells { Obj.ofKind k with tree := t } (.full []) (.tok 39 32 l))), (39, .tip)]
theorem commit_loop {r : Rd} {k : Int} {t : Id} {n : Nat} (hs : r.s.length < 1000000) (hn : r.bad = true ∨ n ≤ 8) {env : Env} {m : Mem} {Q : EQ}
    (hE : LkE env [(0, .ptr 1000 0), (1, .ptr 1001 0), (4, .i (.int .u64 (n : Int))), (5, .i (.int .u64 0))]) (hM : LkM m (comM r k t []))
    (hQ : Q (.exit 0) [(0, .ptr 1000 0), (1, .ptr 1001 0)] (comM (Rd.ids n r).2 k t ((Rd.ids n r).1.map encId))) :
    LoopW Pg G Fb.object_reader_commit.ntmps (nthLoop Fb.object_reader_commit 0) env m Q := by
  refine loopX T_ok 0 (S := Nat × Rd × List Id) (S' := Unit) (fun s => [(0, .ptr 1000 0), (1, .ptr 1001 0), (4, .i (.int .u64 (n : Int))), (5, .i (.int .u64 (s.1 : Int)))]) (fun s => comM s.2.1 k t (s.2.2.map encId)) (fun s => n - s.1)
    (fun s => (s.2.1.bad = true ∨ n ≤ 8) ∧ s.1 ≤ n ∧ s.2.1.s.length ≤ r.s.length ∧ s.2.2.length ≤ s.1 ∧ s.2.2 ++ (Rd.ids (n - s.1) s.2.1).1 = (Rd.ids n r).1 ∧ (Rd.ids (n - s.1) s.2.1).2 = (Rd.ids n r).2)
    (fun _ => [(0, .ptr 1000 0), (1, .ptr 1001 0)]) (fun _ => comM (Rd.ids n r).2 k t ((Rd.ids n r).1.map encId)) (fun _ => True) (0, r, []) hE hM ⟨hn, by omega, by simp, by simp, by simp, by simp⟩ ?_ (fun _ _ => hQ)
  rintro ⟨i, q, es⟩ ⟨i0, i1, i2, i4, i5, i6⟩
  simp only at i0 i1 i2 i4 i5 i6
  obtain ⟨s, bad⟩ := q
  refine condP.split (fun g => ?_) (fun g => ?_)
  · have g' : i < n := by have : (i : Int) < (n : Int) := of_decide_eq_true g; omega
    cases bad with
    | true =>
      have he : Rd.ids (n - i) ⟨s, true⟩ = ([], ⟨s, true⟩) := by cases n - i <;> rfl
      rw [he] at i5 i6
      rw [← i6, ← i5]
      exact ⟨(), trivial, ⟨rfl, rfl, trivial⟩, ⟨rfl, by simp; rfl, rfl, trivial⟩⟩
    | false =>
      have hn8 : n ≤ 8 := by rcases i0 with h | h; cases h; exact h
      have he : Rd.ids (n - i) ⟨s, false⟩ = ((Rd.id ⟨s, false⟩).1 :: (Rd.ids (n - (i + 1)) (Rd.id ⟨s, false⟩).2).1, (Rd.ids (n - (i + 1)) (Rd.id ⟨s, false⟩).2).2) := by
        rw [show n - i = n - (i + 1) + 1 by omega]; rfl
      rw [he] at i5 i6
      have h1 := reader_id_ok (G := G) ⟨s, false⟩ (by simp only at i2 ⊢; omega)
      refine drawW T_ok (by decide +kernel) ?_
      refine .inl ⟨[(1000, 1000)], _, _, _, _, rdLend h1 ⟨rfl, rfl⟩ (MemL.as ⟨⟨_, rfl, MLe.refl _⟩, trivial⟩ rfl), ?_⟩
      refine ⟨⟨⟨hasSize_id _, fun x hx => by have := List.mem_singleton.1 hx; subst this; rfl⟩, szOK (by simp; omega) (by kernel_rfl)⟩, ?_⟩
      refine ⟨by kernel_rfl, ?_⟩
      refine ⟨(i + 1, (Rd.id ⟨s, false⟩).2, es ++ [(Rd.id ⟨s, false⟩).1]), ⟨by simp only; omega, .inr hn8, by simp only; omega, ?_, ?_, ?_, ?_⟩, ⟨rfl, rfl, rfl, ?_, trivial⟩, ⟨rfl, ?_, rfl, trivial⟩⟩
      · exact Nat.le_trans (id_len ⟨s, false⟩) i2
      · simp; omega
      · rw [← i5]; simp
      · exact i6
      · show some (PV.i (IV.int .u64 (IntKind.u64.wrap ((i : Int) + 1)))) = _
        rw [wrap_u64 (by omega) (by omega)]; rfl
      · rw [List.map_append]; rfl
  · have g' : n ≤ i := by have : ¬ (i : Int) < (n : Int) := of_decide_eq_false g; omega
    have he : Rd.ids (n - i) ⟨s, bad⟩ = ([], ⟨s, bad⟩) := by rw [show n - i = 0 by omega]; rfl
    rw [he] at i5 i6
    rw [← i6, ← i5]
    exact ⟨(), trivial, ⟨rfl, rfl, trivial⟩, ⟨rfl, by simp; rfl, rfl, trivial⟩⟩
theorem objMLe' {o : Obj} {es ps : PV} {a b : IV} {l : List PV} (h1 : PLe es (.i a)) (h2 : PLe ps (.i b)) (hl : l = objCells o es ps) : MLe (.var l) (renO (rho []) (.var (objCells o (.i a) (.i b)))) := by
  subst hl; exact objMLe h1 h2
theorem com_tok {k : Int} {t : Id} : TLes 39 (objCells { Obj.ofKind k with tree := t } (.full []) (.full [])) (objCells { Obj.ofKind k with tree := t } (.full []) (.tok 39 32 [])) :=
  ⟨.refl _, .refl _, .refl _, (TLes.refl _).append ⟨.tok 32, TLes.refl _⟩⟩
set_option maxHeartbeats 2000000 in
theorem reader_commit_ok (r : Rd) (k : Int) (hs : r.s.length < 1000000) :
    Body Pg Fn.object_reader_commit ∧ AC Pg G Fn.object_reader_commit [.ptr 1000 0, .ptr 1001 0] (rdo r k) (.tup []) (rdo' (r.commit k).2 (r.commit k).1) := by
  have hq : r.s.length < 4611686018427387904 := by omega
  have h1 := reader_id_ok (G := G) r hq
  have hq1 : r.id.2.s.length < 4611686018427387904 := Nat.lt_of_le_of_lt (id_len r) hq
  have h2 := reader_number_ok (G := G) r.id.2 hq1
  have hl2 : r.id.2.number.2.s.length < 1000000 := Nat.lt_of_le_of_lt (Nat.le_trans (number_len _) (id_len r)) hs
  refine acC_of T_ok Fd.object_reader_commit rfl (by kernel_rfl) ?_
  refine ⟨_, _, _, rdCall h1 ⟨rfl, rfl⟩ (MemL.as ⟨⟨_, rfl, MLe.refl _⟩, trivial⟩ rfl), ?_⟩
  refine ⟨_, _, _, rdCall h2 ⟨rfl, rfl⟩ (MemL.as ⟨⟨_, rfl, MLe.refl _⟩, trivial⟩ rfl), ?_⟩
  have e8 : (decide ((r.id.2.number.1 : Int) > 8)) = decide (8 < r.id.2.number.1) := by congr 1; exact propext (by omega)
  have hcm : r.commit k = ({ Obj.ofKind k with tree := r.id.1, parents := (Rd.ids r.id.2.number.1 (r.id.2.number.2.worse (decide (8 < r.id.2.number.1)))).1, time := (Rd.ids r.id.2.number.1 (r.id.2.number.2.worse (decide (8 < r.id.2.number.1)))).2.number.1 % 4294967296, text := (((Rd.ids r.id.2.number.1 (r.id.2.number.2.worse (decide (8 < r.id.2.number.1)))).2.number.2).worse (decide (4294967295 < (Rd.ids r.id.2.number.1 (r.id.2.number.2.worse (decide (8 < r.id.2.number.1)))).2.number.1))).text.1 }, (((Rd.ids r.id.2.number.1 (r.id.2.number.2.worse (decide (8 < r.id.2.number.1)))).2.number.2).worse (decide (4294967295 < (Rd.ids r.id.2.number.1 (r.id.2.number.2.worse (decide (8 < r.id.2.number.1)))).2.number.1))).text.2) := rfl
  rw [hcm]
  have hXl : (Rd.ids r.id.2.number.1 (r.id.2.number.2.worse (decide (8 < r.id.2.number.1)))).2.s.length < 4611686018427387904 := Nat.lt_of_le_of_lt (ids_len _ _) (by show r.id.2.number.2.s.length < _; omega)
  refine condP.split (fun g => ?_) (fun g => ?_)
  all_goals
    refine LoopW.tok0 39 rfl rfl (env' := [(0, .ptr 1000 0), (1, .ptr 1001 0), (4, .i (.int .u64 (r.id.2.number.1 : Int))), (5, .i (.int .u64 0))]) (m' := comM (r.id.2.number.2.worse (decide (8 < r.id.2.number.1))) k r.id.1 [])
      ⟨⟨_, rfl, .refl _⟩, ⟨_, rfl, .refl _⟩, ⟨_, rfl, .refl _⟩, ⟨_, rfl, .refl _⟩, trivial⟩ ⟨.inr ⟨by decide, _, rfl, .of_eq (by rw [e8] at g; simp [Rd.worse, g])⟩, .inr ⟨by decide, _, rfl, .var _ _ (com_tok (k := k) (t := r.id.1))⟩, .inl ⟨rfl, .tip⟩, trivial⟩ ?_
    refine commit_loop (r := r.id.2.number.2.worse (decide (8 < r.id.2.number.1))) (k := k) (t := r.id.1) (n := r.id.2.number.1) hl2 (by by_cases h : 8 < r.id.2.number.1 <;> simp [Rd.worse, h]; omega) ⟨rfl, rfl, rfl, rfl, trivial⟩ ⟨rfl, rfl, rfl, trivial⟩ ?_
    clear g
    generalize hXe : (Rd.ids r.id.2.number.1 (r.id.2.number.2.worse (decide (8 < r.id.2.number.1)))) = x at *
    have h3 := reader_number_ok (G := G) x.2 hXl
    have ht := number_len x.2
    have e3 : (decide ((x.2.number.1 : Int) > 4294967295)) = decide (4294967295 < x.2.number.1) := by congr 1; exact propext (by omega)
    refine ⟨_, _, _, rdCall h3 ⟨rfl, rfl⟩ (MemL.as ⟨⟨_, rfl, MLe.refl _⟩, trivial⟩ rfl), ?_⟩
    have h4 := reader_text_ok (G := G) (x.2.number.2.worse (decide (4294967295 < x.2.number.1))) (by show x.2.number.2.s.length < _; omega)
    refine condP.split (fun g => ?_) (fun g => ?_)
    all_goals
      have hw : IntKind.u32.wrap (x.2.number.1 : Int) = ((x.2.number.1 % 4294967296 : Nat) : Int) := by rw [wrap_u32_mod]; omega
      refine ⟨_, _, _, rdCall h4 ⟨rfl, rfl⟩ (MemL.as ⟨⟨_, rfl, ?_⟩, trivial⟩ rfl), ?_⟩
      · rw [e3] at g
        simp only [Rd.worse, g, Bool.or_true, Bool.or_false]
        exact MLe.refl _
      refine retObj (MemL.as ⟨⟨_, rfl, MLe.refl _⟩, ⟨_, rfl, ?_⟩, trivial⟩ rfl)
      refine objMLe' (o := { Obj.ofKind k with tree := r.id.1, parents := x.1, time := x.2.number.1 % 4294967296, text := (x.2.number.2.worse (decide (4294967295 < x.2.number.1))).text.1 }) (.full []) (.tok 39 32 _) ?_
      rw [hw]; rfl
end Go.Kn
set_option maxRecDepth 100000
namespace Go.Kn
open Go Go.Proofs
variable {G : Gl}
def idxS (s : List UInt8) (c : UInt8) : Int :=
  match (List.range s.length).find? fun i => s.getD i 0 == c with
  | some i => (i : Int)
  | none => -1
theorem idxS_neg (s : List UInt8) (c : UInt8) : decide (idxS s c < 0) = decide (c ∉ s) := by
  congr 1
  apply propext
  unfold idxS
  split
  · rename_i i h
    have h1 := List.find?_some h
    have h2 := List.mem_of_find?_eq_some h
    simp only [List.mem_range] at h2
    have h3 : s.getD i 0 = c := by simpa using h1
    constructor
    · intro h; omega
    · intro h
      exact absurd (by rw [← h3, List.getD_eq_getElem?_getD, List.getElem?_eq_getElem h2]; simp) h
  · rename_i h
    simp only [List.find?_eq_none, List.mem_range] at h
    constructor
    · intro _ hc
      obtain ⟨i, hi, he⟩ := List.getElem_of_mem hc
      have := h i hi
      simp [List.getD_eq_getElem?_getD, hi, he] at this
    · intro _; omega
theorem indexByteString_ok (s : List UInt8) (c : UInt8) : PureC Pg G Fn.internal_bytealg_IndexByteString [.str s, .int .u8 (c.toNat : Int)] (.int .i64 (idxS s c)) := by
  refine .inr ?_
  intro σ w vs hr _
  obtain ⟨hl, hr⟩ := hr
  match vs, hl with
  | [v1, v2], _ =>
    have r1 := rel_str (hr 0 _ v1 rfl rfl)
    have r2 := rel_int (hr 1 _ v2 rfl rfl)
    subst r1; subst r2
    refine ⟨_, .int _ _, ?_⟩
    rw [run_callFunc_extern Fd.internal_bytealg_IndexByteString (by kernel_rfl) (by kernel_rfl) (by kernel_rfl) (show Extern.find _ = some Extern.BytealgIndexByte.indexByte by kernel_rfl)]
    have hc : UInt8.ofNat (c.toNat : Int).toNat = c := by simp
    have hget : ∀ i : Nat, (⟨s.toArray⟩ : ByteArray)[i]! = s.getD i 0 := fun i => by
      by_cases hi : i < s.length
      · rw [getElem!_pos (⟨s.toArray⟩ : ByteArray) i (by simpa [ByteArray.size] using hi)]
        simp [List.getD_eq_getElem?_getD, hi, ByteArray.getElem_eq_getElem_data]
      · rw [getElem!_neg (⟨s.toArray⟩ : ByteArray) i (by simpa [ByteArray.size] using hi)]
        simp [List.getD_eq_getElem?_getD, List.getElem?_eq_none (Nat.le_of_not_lt hi)]
        rfl
    have hs : (⟨s.toArray⟩ : ByteArray).size = s.length := by simp [ByteArray.size]
    have hc2 : (c.toNat : Int).toNat.toUInt8 = c := by simp
    rw [run_indexByte_string, hc2]
    simp only [firstIdx, hget, hs, idxS]
    rfl
theorem strings_IndexByte_ok (s : List UInt8) (c : UInt8) : PureC Pg G Fn.strings_IndexByte [.str s, .int .u8 (c.toNat : Int)] (.int .i64 (idxS s c)) := by
  have h1 : PureC Pg G Fn.internal_stringslite_IndexByte [.str s, .int .u8 (c.toNat : Int)] (.int .i64 (idxS s c)) := by
    refine pureC_of T_ok Fd.internal_stringslite_IndexByte rfl (by kernel_rfl) ?_
    exact ⟨_, _, _, pureCall (indexByteString_ok s c) rfl, rfl⟩
  refine pureC_of T_ok Fd.strings_IndexByte rfl (by kernel_rfl) ?_
  exact ⟨_, _, _, pureCall h1 rfl, rfl⟩
def nameB (s : List UInt8) : Bool := decide (s ≠ []) && decide (s.length ≤ 40) && decide ((0 : UInt8) ∉ s) && decide ((47 : UInt8) ∉ s)
theorem object_Name_ok (s : List UInt8) : PureC Pg G Fn.object_Name [.str s] (.bool (nameB s)) := by
  have h1 := strings_IndexByte_ok (G := G) s 0
  have h2 := strings_IndexByte_ok (G := G) s 47
  refine pureC_of T_ok Fd.object_Name rfl (by kernel_rfl) ?_
  refine condP.split (fun g1 => ?_) (fun g1 => ?_)
  · have g1' : s ≠ [] := by simpa using g1
    refine condP.split (fun g2 => ?_) (fun g2 => ?_)
    · have g2' : s.length ≤ 40 := by have : (s.length : Int) ≤ 40 := of_decide_eq_true g2; omega
      refine ⟨_, _, _, pureCall h1 rfl, ?_⟩
      refine condP.split (fun g3 => ?_) (fun g3 => ?_)
      · refine ⟨_, _, _, pureCall h2 rfl, ?_⟩
        show some (IV.bool (decide (idxS s 47 < 0))) = some (.bool (nameB s))
        have g3' : (0 : UInt8) ∉ s := by
          have : decide (idxS s 0 < 0) = true := g3
          rw [idxS_neg] at this; simpa using this
        rw [idxS_neg]
        simp [nameB, g1', g2', g3']
      · show some (IV.bool false) = some (.bool (nameB s))
        have g3' : ¬ (0 : UInt8) ∉ s := by
          have : decide (idxS s 0 < 0) = false := g3
          rw [idxS_neg] at this; simpa using this
        simp [nameB, g3']
    · show some (IV.bool false) = some (.bool (nameB s))
      have g2' : ¬ s.length ≤ 40 := by have : ¬ (s.length : Int) ≤ 40 := of_decide_eq_false g2; omega
      simp [nameB, g2']
  · show some (IV.bool false) = some (.bool (nameB s))
    have g1' : s = [] := by simpa using g1
    simp [nameB, g1']
def kindB (n : Int) : Bool := decide (1 ≤ n) && decide (n ≤ 4)
theorem object_kind_ok (n : Int) : PureC Pg G Fn.object_kind [.int .i64 n] (.bool (kindB n)) := by
  refine pureC_of T_ok Fd.object_kind rfl (by kernel_rfl) ?_
  refine condP.split (fun g1 => ?_) (fun g1 => ?_)
  · show some (IV.bool (decide (n ≤ 4))) = some (.bool (kindB n))
    have : 1 ≤ n := of_decide_eq_true g1
    simp [kindB, this]
  · show some (IV.bool false) = some (.bool (kindB n))
    have : ¬ 1 ≤ n := of_decide_eq_false g1
    simp [kindB, this]
def entOK (p : Option (List UInt8)) (e : Entry) : Bool :=
  nameB e.name && (decide (e.kind = 1) || decide (e.kind = 2)) && (match p with | some q => Op.bytesLess q e.name | none => true)
def entB : Option (List UInt8) → List Entry → Bool
  | _, [] => true
  | p, e :: r => entOK p e && entB (some e.name) r
def prevN (l : List Entry) : Nat → Option (List UInt8)
  | 0 => none
  | j + 1 => (l[j]?).map (·.name)
def entriesB (l : List Entry) : Bool := entB none l && decide (l.length ≤ 64)
theorem object_entries_ok (l : List Entry) (hl : l.length < 1000000) : PureC Pg G Fn.object_entries [.slice (l.map encEntry)] (.bool (entriesB l)) := by
  refine pureC_of T_ok Fd.object_entries rfl (by kernel_rfl) ?_
  refine loopX T_ok 0 (S := Nat) (S' := Unit) (fun i => [(0, .i (.slice (l.map encEntry))), (5, .i (.slice (l.map encEntry))), (6, .i (.int .i64 (l.length : Int))), (7, .i (.int .i64 (i : Int)))]) (fun _ => []) (fun i => l.length - i)
    (fun i => i ≤ l.length ∧ entB (prevN l i) (l.drop i) = entB none l) (fun _ => [(0, .i (.slice (l.map encEntry)))]) (fun _ => []) (fun _ => entB none l = true) 0
    ⟨rfl, rfl, ?_, rfl, trivial⟩ trivial ⟨by omega, rfl⟩ ?_ ?_
  · show some (PV.i (.int .i64 ((l.map encEntry).length : Int))) = _
    simp
  · rintro i ⟨h1, h2⟩
    refine condP.split (fun g1 => ?_) (fun g1 => ?_)
    · have g1' : i < l.length := by have : (i : Int) < l.length := of_decide_eq_true g1; omega
      have hget : l[i]? = some l[i] := List.getElem?_eq_getElem g1'
      have hdr : l.drop i = l[i] :: l.drop (i + 1) := List.drop_eq_getElem_cons g1'
      rw [hdr] at h2
      have hbad : entOK (prevN l i) l[i] = false → some (IV.bool false) = some (.bool (entriesB l)) := fun h => by
        rw [entriesB, ← h2, entB, h]; rfl
      have hgo : entOK (prevN l i) l[i] = true → entB (prevN l (i + 1)) (l.drop (i + 1)) = entB none l := fun h => by
        rw [← h2, entB, h, prevN, hget]; rfl
      refine ⟨encEntry l[i], ⟨by omega, by simp [hget]⟩, ?_⟩
      refine drawW T_ok (by decide +kernel) ?_
      refine ⟨_, _, ⟨rfl, object_Name_ok l[i].name⟩, ?_⟩
      refine condP.split (fun g2 => ?_) (fun g2 => ?_)
      · refine ⟨by kernel_rfl, ?_⟩
        have g2' : nameB l[i].name = false := by simpa using g2
        exact hbad (by simp [entOK, g2'])
      · have g2' : nameB l[i].name = true := by simpa using g2
        refine condP.split (fun g3 => ?_) (fun g3 => ?_)
        · have g3' : l[i].kind ≠ 1 := by have : (l[i].kind != 1) = true := g3; simpa using this
          refine condP.split (fun g4 => ?_) (fun g4 => ?_)
          · have g4' : l[i].kind ≠ 2 := by have : (l[i].kind != 2) = true := g4; simpa using this
            refine ⟨by kernel_rfl, ?_⟩
            exact hbad (by simp [entOK, g3', g4'])
          · have g4' : l[i].kind = 2 := by have : (l[i].kind != 2) = false := g4; simpa using this
            refine condP.split (fun g5 => ?_) (fun g5 => ?_)
            · have g5' : 0 < i := by have : (i : Int) > 0 := of_decide_eq_true g5; omega
              obtain ⟨j, rfl⟩ : ∃ j, i = j + 1 := ⟨i - 1, by omega⟩
              have hw : IntKind.i64.wrap (((j + 1 : Nat) : Int) - 1) = (j : Int) := by rw [wrap_i64 (by omega) (by omega)]; omega
              have hj : l[j]? = some l[j] := List.getElem?_eq_getElem (by omega)
              refine ⟨encEntry l[j], ⟨?_, ?_⟩, ?_⟩
              · show 0 ≤ IntKind.i64.wrap (((j + 1 : Nat) : Int) - 1)
                rw [hw]; omega
              · show (l.map encEntry)[(IntKind.i64.wrap (((j + 1 : Nat) : Int) - 1)).toNat]? = _
                rw [hw]; simp [hj]
              refine ⟨by kernel_rfl, ?_⟩
              refine condP.split (fun g6 => ?_) (fun g6 => ?_)
              · have g6' : Op.bytesLess l[j].name l[j + 1].name = false := by simpa using g6
                exact hbad (by simp [entOK, prevN, hj, g6'])
              · have g6' : Op.bytesLess l[j].name l[j + 1].name = true := by simpa using g6
                exact ⟨j + 1 + 1, ⟨by omega, by omega, hgo (by simp [entOK, prevN, hj, g6', g2', g4'])⟩, ⟨rfl, rfl, rfl, congrArg (fun n => some (PV.i (IV.int .i64 n))) (int_succ (by omega)), trivial⟩, trivial⟩
            · have g5' : i = 0 := by have : ¬ (i : Int) > 0 := of_decide_eq_false g5; omega
              subst g5'
              refine ⟨by kernel_rfl, ?_⟩
              exact ⟨0 + 1, ⟨by omega, by omega, hgo (by simp [entOK, prevN, g2', g4'])⟩, ⟨rfl, rfl, rfl, rfl, trivial⟩, trivial⟩
        · have g3' : l[i].kind = 1 := by have : (l[i].kind != 1) = false := g3; simpa using this
          refine condP.split (fun g5 => ?_) (fun g5 => ?_)
          · have g5' : 0 < i := by have : (i : Int) > 0 := of_decide_eq_true g5; omega
            obtain ⟨j, rfl⟩ : ∃ j, i = j + 1 := ⟨i - 1, by omega⟩
            have hw : IntKind.i64.wrap (((j + 1 : Nat) : Int) - 1) = (j : Int) := by rw [wrap_i64 (by omega) (by omega)]; omega
            have hj : l[j]? = some l[j] := List.getElem?_eq_getElem (by omega)
            refine ⟨encEntry l[j], ⟨?_, ?_⟩, ?_⟩
            · show 0 ≤ IntKind.i64.wrap (((j + 1 : Nat) : Int) - 1)
              rw [hw]; omega
            · show (l.map encEntry)[(IntKind.i64.wrap (((j + 1 : Nat) : Int) - 1)).toNat]? = _
              rw [hw]; simp [hj]
            refine ⟨by kernel_rfl, ?_⟩
            refine condP.split (fun g6 => ?_) (fun g6 => ?_)
            · have g6' : Op.bytesLess l[j].name l[j + 1].name = false := by simpa using g6
              exact hbad (by simp [entOK, prevN, hj, g6'])
            · have g6' : Op.bytesLess l[j].name l[j + 1].name = true := by simpa using g6
              exact ⟨j + 1 + 1, ⟨by omega, by omega, hgo (by simp [entOK, prevN, hj, g6', g2', g3'])⟩, ⟨rfl, rfl, rfl, congrArg (fun n => some (PV.i (IV.int .i64 n))) (int_succ (by omega)), trivial⟩, trivial⟩
          · have g5' : i = 0 := by have : ¬ (i : Int) > 0 := of_decide_eq_false g5; omega
            subst g5'
            refine ⟨by kernel_rfl, ?_⟩
            exact ⟨0 + 1, ⟨by omega, by omega, hgo (by simp [entOK, prevN, g2', g3'])⟩, ⟨rfl, rfl, rfl, rfl, trivial⟩, trivial⟩
    · have g1' : i = l.length := by have : ¬ (i : Int) < l.length := of_decide_eq_false g1; omega
      subst g1'
      refine ⟨(), ?_, ⟨rfl, trivial⟩, trivial⟩
      rw [← h2, List.drop_of_length_le (Nat.le_refl _)]; rfl
  · intro _ h
    show some (IV.bool (decide (((l.map encEntry).length : Int) ≤ 64))) = some (.bool (entriesB l))
    rw [entriesB, h, List.length_map]
    congr 2
    simp only [Bool.true_and]
    congr 1
    exact propext (by omega)
end Go.Kn
set_option maxRecDepth 100000
namespace Go.Kn
open Go
def scV : IV → Value
  | .bool b => .bool b
  | .int k n => .int k n
  | .str s => .string ⟨s.toArray⟩
  | _ => undef
def scEq : IV → IV → Bool
  | .bool a, .bool b => a == b
  | .int _ a, .int _ b => a == b
  | .str a, .str b => a == b
  | _, _ => false
def cellsEq : List IV → List IV → Bool
  | [], [] => true
  | x :: xs, y :: ys => scEq x y && cellsEq xs ys
  | _, _ => false
theorem cellsEq_append : ∀ {a c : List IV} (b d : List IV), a.length = c.length → cellsEq (a ++ b) (c ++ d) = (cellsEq a c && cellsEq b d)
  | [], [], b, d, _ => by simp [cellsEq]
  | x :: a, y :: c, b, d, h => by
    simp only [List.cons_append, cellsEq, cellsEq_append b d (Nat.succ.inj h), Bool.and_assoc]
  | [], _ :: _, _, _, h => by cases h
  | _ :: _, [], _, _, h => by cases h
def tile (T : Ty) (g : Nat → List IV → Bool) (xs : List IV) : Nat → List Field → Bool
  | k, [] => Nat.beq k xs.length
  | k, f :: fs => f.name != "_" && Nat.beq f.offset k && (match lk f.type T.t with
    | some te => g f.type ((xs.drop k).take te.size) && Nat.ble (k + te.size) xs.length && tile T g xs (k + te.size) fs
    | none => false)
def items (g : List IV → Bool) (c : Nat) (xs : List IV) : Nat → Nat → Bool
  | _, 0 => true
  | k, m + 1 => g ((xs.drop (k * c)).take c) && items g c xs (k + 1) m
def shp (P : Program) (T : Ty) : Nat → Nat → List IV → Bool
  | 0, _, _ => false
  | d + 1, t, xs => match lk t T.t with
    | some ti => match ti.d with
      | .bool => (match xs with | [.bool _] => true | _ => false)
      | .int q => (match xs with | [.int k _] => Nat.beq (kIx q) (kIx k) | _ => false)
      | .string => (match xs with | [.str _] => true | _ => false)
      | .array n e => (match lk e T.t with
        | some te => Nat.beq xs.length (n * te.size) && items (shp P T d e) te.size xs 0 n
        | none => false)
      | .struct fs => !P.stoodInHeld t && tile T (shp P T d) xs 0 fs.toList
      | _ => false
    | none => false
def mkV (T : Ty) (t : Nat) (c : List IV) : Value :=
  match lk t T.t with
  | some te => bif isAggD te.d then .agg (c.map scV).toArray else (match c with | [x] => scV x | _ => undef)
  | none => undef
section
variable {P : Program} {T : Ty}
theorem cellsOf_eq {t : Nat} {ti : TI} (h : TOK1 P t ti) : P.cellsOf t = ti.size := by
  obtain ⟨i, hi, hs, _⟩ := h.info
  simp [Program.cellsOf, hi, hs]
theorem part_ok (hT : TOK P T) {d e off : Nat} {te : TI} (he : lk e T.t = some te) {xs : List IV} (hs : shp P T d e ((xs.drop off).take te.size) = true) (w : World) :
    (part e (xs.map scV).toArray off).run P w = .ok (mkV T e ((xs.drop off).take te.size)) w := by
  have h1 := hT e te he
  simp only [part, Sem.run_bind, h1.run_isAgg, Result.andThen_ok, mkV, he]
  cases hb : isAggD te.d with
  | true =>
    simp only [if_true, Sem.run_bind, h1.run_size, Result.andThen_ok, Sem.run_pure, cond_true]
    congr 2
    apply Array.ext'
    rw [Array.toList_extract]
    simp [List.extract, List.map_take, List.map_drop]
  | false =>
    simp only [Bool.false_eq_true, if_false, cond_false]
    have hone : ∃ x, (xs.drop off).take te.size = [x] := by
      cases d with
      | zero => simp [shp] at hs
      | succ d =>
        simp only [shp, he] at hs
        split at hs
        all_goals first
          | (split at hs; rename_i h; exact ⟨_, h⟩; cases hs)
          | (rename_i h; rw [h] at hb; cases hb; done)
          | (cases hs; done)
    obtain ⟨x, hx⟩ := hone
    rw [hx]
    have hg : xs[off]? = some x := by
      have : ((xs.drop off).take te.size)[0]? = some x := by rw [hx]; rfl
      rw [List.getElem?_take] at this
      split at this
      · simpa using this
      · cases this
    simp [hg]
theorem items_ok {d e c n : Nat} {xs ys : List IV} (hx : xs.length = n * c) (hy : ys.length = n * c) (w : World)
    (step : ∀ k, k < n → ∃ a b, (part e (xs.map scV).toArray (k * c)).run P w = .ok a w ∧ (part e (ys.map scV).toArray (k * c)).run P w = .ok b w ∧
      (Op.equalIn d e a b).run P w = .ok (cellsEq ((xs.drop (k * c)).take c) ((ys.drop (k * c)).take c)) w) :
    ∀ (m k : Nat), k + m = n → (Op.eqItems d e c (xs.map scV).toArray (ys.map scV).toArray (List.range' k m)).run P w = .ok (cellsEq (xs.drop (k * c)) (ys.drop (k * c))) w
  | 0, k, h => by
    have : k = n := by omega
    subst this
    rw [List.drop_of_length_le (by omega), List.drop_of_length_le (by omega)]
    simp [Op.eqItems, cellsEq]
  | m + 1, k, h => by
    obtain ⟨a, b, h1, h2, h3⟩ := step k (by omega)
    have hle : k * c + c ≤ n * c := by
      have := Nat.mul_le_mul_right c (show k + 1 ≤ n by omega)
      rw [Nat.add_mul] at this; omega
    have hsp : ∀ zs : List IV, zs.drop (k * c) = (zs.drop (k * c)).take c ++ zs.drop ((k + 1) * c) := fun zs => by
      rw [Nat.add_mul, Nat.one_mul, ← List.drop_drop, List.take_append_drop]
    have hce : cellsEq (xs.drop (k * c)) (ys.drop (k * c)) = (cellsEq ((xs.drop (k * c)).take c) ((ys.drop (k * c)).take c) && cellsEq (xs.drop ((k + 1) * c)) (ys.drop ((k + 1) * c))) := by
      conv => lhs; rw [hsp xs, hsp ys]
      exact cellsEq_append _ _ (by simp; omega)
    rw [hce, List.range'_succ]
    simp only [Op.eqItems, Sem.run_bind, h1, h2, h3, Result.andThen_ok]
    cases hr : cellsEq ((xs.drop (k * c)).take c) ((ys.drop (k * c)).take c) with
    | false => simp
    | true =>
      simp only [Bool.not_true, Bool.false_eq_true, if_false, Bool.true_and]
      exact items_ok hx hy w step m (k + 1) (by omega)
theorem items_get {g : List IV → Bool} {c : Nat} {xs : List IV} : ∀ {m k : Nat}, items g c xs k m = true → ∀ j, k ≤ j → j < k + m → g ((xs.drop (j * c)).take c) = true
  | 0, k, _, j, h1, h2 => by omega
  | m + 1, k, h, j, h1, h2 => by
    simp only [items, Bool.and_eq_true] at h
    by_cases hj : j = k
    · subst hj; exact h.1
    · exact items_get h.2 j (by omega) (by omega)
theorem tile_ok (hT : TOK P T) {d D : Nat} {xs ys : List IV} (hl : xs.length = ys.length) (w : World)
    (IH : ∀ (t : Nat) (a b : List IV), shp P T d t a = true → shp P T d t b = true → a.length = b.length → (Op.equalIn (D + d) t (mkV T t a) (mkV T t b)).run P w = .ok (cellsEq a b) w) :
    ∀ (fs : List Field) (k : Nat), tile T (shp P T d) xs k fs = true → tile T (shp P T d) ys k fs = true →
      (Op.eqFields (D + d) (xs.map scV).toArray (ys.map scV).toArray fs).run P w = .ok (cellsEq (xs.drop k) (ys.drop k)) w
  | [], k, h1, h2 => by
    have := Nat.eq_of_beq_eq_true h1
    rw [List.drop_of_length_le (by omega), List.drop_of_length_le (by omega)]
    simp [Op.eqFields, cellsEq]
  | f :: fs, k, h1, h2 => by
    simp only [tile, Bool.and_eq_true] at h1 h2
    obtain ⟨⟨hn, ho⟩, h1⟩ := h1
    obtain ⟨_, h2⟩ := h2
    have ho := Nat.eq_of_beq_eq_true ho
    cases he : lk f.type T.t with
    | none => rw [he] at h1; cases h1
    | some te =>
      rw [he] at h1 h2
      simp only [Bool.and_eq_true] at h1 h2
      obtain ⟨⟨a1, a2⟩, a3⟩ := h1
      obtain ⟨⟨b1, b2⟩, b3⟩ := h2
      have a2 := Nat.le_of_ble_eq_true a2
      have b2 := Nat.le_of_ble_eq_true b2
      have p1 := part_ok hT (off := k) he a1 w
      have p2 := part_ok hT (off := k) he b1 w
      have p3 := IH f.type _ _ a1 b1 (by simp; omega)
      have hsp : ∀ zs : List IV, zs.drop k = (zs.drop k).take te.size ++ zs.drop (k + te.size) := fun zs => by
        rw [← List.drop_drop, List.take_append_drop]
      have hce : cellsEq (xs.drop k) (ys.drop k) = (cellsEq ((xs.drop k).take te.size) ((ys.drop k).take te.size) && cellsEq (xs.drop (k + te.size)) (ys.drop (k + te.size))) := by
        conv => lhs; rw [hsp xs, hsp ys]
        exact cellsEq_append _ _ (by simp; omega)
      have hn' : f.name ≠ "_" := by simpa using hn
      rw [hce]
      simp only [Op.eqFields, if_pos hn', Sem.run_bind, ho, p1, p2, p3, Result.andThen_ok]
      cases hr : cellsEq ((xs.drop k).take te.size) ((ys.drop k).take te.size) with
      | false => simp
      | true =>
        simp only [Bool.not_true, Bool.false_eq_true, if_false, Bool.true_and]
        exact tile_ok hT hl w IH fs (k + te.size) a3 b3
theorem shp_len : ∀ (d t : Nat) (ti : TI) (xs : List IV), lk t T.t = some ti → isAggD ti.d = false → shp P T d t xs = true → ∃ x, xs = [x]
  | 0, _, _, _, _, _, h => by simp [shp] at h
  | d + 1, t, ti, xs, ht, hb, h => by
    simp only [shp, ht] at h
    split at h
    all_goals first
      | (split at h; exact ⟨_, rfl⟩; cases h)
      | (rename_i hd; rw [hd] at hb; cases hb; done)
      | (cases h; done)
theorem eq_ok (hT : TOK P T) : ∀ (d t : Nat) (xs ys : List IV), shp P T d t xs = true → shp P T d t ys = true → xs.length = ys.length → ∀ (D : Nat) (w : World), (Op.equalIn (D + d) t (mkV T t xs) (mkV T t ys)).run P w = .ok (cellsEq xs ys) w
  | 0, _, _, _, h, _, _, _, _ => by simp [shp] at h
  | d + 1, t, xs, ys, h1, h2, hl, D, w => by
    cases ht : lk t T.t with
    | none => simp [shp, ht] at h1
    | some ti =>
      have hti := hT t ti ht
      simp only [shp, ht] at h1 h2
      rw [show D + (d + 1) = (D + d) + 1 from rfl]
      simp only [mkV, ht]
      cases hd : ti.d with
      | bool =>
        simp only [hd] at h1 h2
        split at h1
        · split at h2
          · simp only [isAggD, cond_false, scV]
            rw [run_equalIn_bool w _ t _ _ (by rw [hti.und, hd])]
            simp [cellsEq, scEq]
          · cases h2
        · cases h1
      | int q =>
        simp only [hd] at h1 h2
        split at h1
        · split at h2
          · have e1 := kIx_inj h1
            have e2 := kIx_inj h2
            subst e1; subst e2
            simp only [isAggD, cond_false, scV]
            rw [run_equalIn_int w _ t _ _ _ _ (by rw [hti.und, hd])]
            simp [cellsEq, scEq]
          · cases h2
        · cases h1
      | string =>
        simp only [hd] at h1 h2
        split at h1
        · split at h2
          · simp only [isAggD, cond_false, scV]
            rw [run_equalIn_string w _ t _ _ (by rw [hti.und, hd])]
            simp only [toList_mk, cellsEq, scEq, Bool.and_true]
          · cases h2
        · cases h1
      | array n e =>
        simp only [hd] at h1 h2
        split at h1
        · rename_i te he
          rw [he] at h2
          simp only [Bool.and_eq_true] at h1 h2
          obtain ⟨a1, a2⟩ := h1
          obtain ⟨b1, b2⟩ := h2
          have a1 := Nat.eq_of_beq_eq_true a1
          have b1 := Nat.eq_of_beq_eq_true b1
          obtain ⟨i, hi, _⟩ := (hT e te he).info
          simp only [isAggD, cond_true]
          rw [run_equalIn_array w _ _ _ (by rw [hti.und, hd]) hi, cellsOf_eq (hT e te he), List.range_eq_range']
          have := items_ok (P := P) (d := D + d) (e := e) a1 b1 w (fun k hk => by
            have g1 := items_get a2 k (by omega) (by omega)
            have g2 := items_get b2 k (by omega) (by omega)
            exact ⟨_, _, part_ok hT he g1 w, part_ok hT he g2 w, eq_ok hT d e _ _ g1 g2 (by simp; omega) D w⟩) n 0 (by omega)
          simpa using this
        · cases h1
      | struct fs =>
        simp only [hd, Bool.and_eq_true, Bool.not_eq_true'] at h1 h2
        have hf : P.fieldsOf t = fs := by simp [Program.fieldsOf, hti.und, hd]
        simp only [isAggD, cond_true]
        rw [run_equalIn_struct w (D + d) t _ _ (by rw [hf, hti.und, hd]) h1.1, hf]
        have := tile_ok hT (D := D) hl w (fun t a b ha hb hab => eq_ok hT d t a b ha hb hab D w) fs.toList 0 h1.2 h2.2
        simpa using this
      | _ => simp only [hd] at h1; cases h1
theorem rel_scs {h : Hp} {xs : List IV} {v : Value} (r : RelI h (.agg xs) v) (hs : ∀ x ∈ xs, ∀ u, RelI h x u → u = scV x) : v = .agg (xs.map scV).toArray := by
  cases r with
  | agg cs vs hl h1 hr =>
    congr 1
    apply Array.ext'
    simp only []
    apply List.ext_getElem?
    intro i
    cases hv : vs[i]? with
    | none =>
      have : xs[i]? = none := by
        rw [List.getElem?_eq_none_iff] at hv ⊢; omega
      simp [this]
    | some u =>
      have hi := (List.getElem?_eq_some_iff.1 hv).1
      have hx : xs[i]? = some xs[i] := List.getElem?_eq_getElem (by omega)
      have := hs xs[i] (List.getElem_mem _) u (hr i _ u hx hv)
      simp [hx, this]
def isSc : IV → Bool
  | .bool _ => true
  | .int _ _ => true
  | .str _ => true
  | _ => false
theorem rel_sc {h : Hp} {x : IV} {u : Value} (hx : isSc x = true) (r : RelI h x u) : u = scV x := by
  cases r <;> first | rfl | (simp [isSc] at hx)
theorem eqAgg (hT : TOK P T) {d t : Nat} {ti : TI} {xs ys : List IV} {b : Bool} (ht : lk t T.t = some ti) (ha : isAggD ti.d = true) (hd : d ≤ 10000) (hg : P.eqGuardType P.depth t = false) (h1 : shp P T d t xs = true) (h2 : shp P T d t ys = true)
    (hs1 : (xs.all isSc) = true) (hs2 : (ys.all isSc) = true) (hl : xs.length = ys.length) (hb : cellsEq xs ys = b) : EqOK P t (.i (.agg xs)) (.i (.agg ys)) b := by
  subst hb
  intro σ w u v x y hu hv
  have hu' : u = .agg (xs.map scV).toArray := by
    cases hu with | i _ _ r => exact rel_scs r fun x hx u r => rel_sc (List.all_eq_true.1 hs1 x hx) r
  have hv' : v = .agg (ys.map scV).toArray := by
    cases hv with | i _ _ r => exact rel_scs r fun x hx u r => rel_sc (List.all_eq_true.1 hs2 x hx) r
  subst hu'; subst hv'
  have key := eq_ok hT d t xs ys h1 h2 hl (10000 - d) w
  simp only [mkV, ht, ha, cond_true, show 10000 - d + d = 10000 by omega] at key
  have g : ∀ op : BinOp, (op = .eql ∨ op = .neq) → (eqGuard op t x y (.agg (xs.map scV).toArray) (.agg (ys.map scV).toArray)).run P w = .ok () w := fun op ho => by
    rcases ho with rfl | rfl <;> simp [eqGuard, hg]
  constructor
  · rw [Sem.run_bind, g .eql (.inl rfl), Result.andThen_ok, run_eql_struct, key]; rfl
  · rw [Sem.run_bind, g .neq (.inr rfl), Result.andThen_ok]
    simp only [binOp, Op.equal, Sem.run_bind]
    rw [show Op.maxDepth = 10000 from rfl, key]
    rfl
end
end Go.Kn
set_option maxRecDepth 100000
namespace Go.Kn
open Go Go.Proofs
variable {G : Gl}
theorem cellsEq_u8c (f g : Nat → UInt8) (n : Nat) : cellsEq (u8c n f) (u8c n g) = decide (∀ i, i < n → f i = g i) := by
  induction n with
  | zero => simp [u8c, cellsEq]
  | succ n ih =>
    have hs : ∀ f : Nat → UInt8, u8c (n + 1) f = u8c n f ++ [.int .u8 ((f n).toNat : Int)] := fun f => by simp [u8c, List.range_succ]
    rw [hs, hs, cellsEq_append _ _ (by simp [u8c]), ih]
    have h1 : cellsEq [IV.int .u8 ((f n).toNat : Int)] [.int .u8 ((g n).toNat : Int)] = decide (f n = g n) := by
      simp only [cellsEq, scEq, Bool.and_true]; exact eq_toNat _ _
    rw [h1, ← Bool.decide_and]
    congr 1
    apply propext
    constructor
    · rintro ⟨h1, h2⟩ i hi
      by_cases hin : i = n
      · subst hin; exact h2
      · exact h1 i (by omega)
    · intro h
      exact ⟨fun i hi => h i (by omega), h n (by omega)⟩
theorem cellsEq_id (x y : Id) : cellsEq (idC x) (idC y) = decide (x = y) := by
  rw [idC, idC, cellsEq_u8c]
  congr 1
  exact propext Id.eq_iff.symm
theorem eqId (x y : Id) : EqOK Pg Tn.api_Id (.i (encId x)) (.i (encId y)) (decide (x = y)) :=
  eqAgg T_ok (d := 3) rfl rfl (by decide) (by kernel_rfl) (by kernel_rfl) (by kernel_rfl) (by kernel_rfl) (by kernel_rfl) (by kernel_rfl) (cellsEq_id x y)
def blobE (o : Obj) : Bool := o.data == []
def treeE (o : Obj) : Bool := ((o.entries.map encEntry).length : Int) == 0
def commitE (o : Obj) : Bool := decide (o.tree = Id.none) && (((o.parents.map encId).length : Int) == 0) && ((o.time : Int) == 0) && (o.text == [])
def tagE (o : Obj) : Bool := decide (o.target = Id.none) && (o.of == 0) && (o.name == [])
def aloneB (o : Obj) : Bool :=
  if o.kind = 1 then treeE o && commitE o && tagE o else if o.kind = 2 then blobE o && commitE o && tagE o else if o.kind = 3 then blobE o && treeE o && tagE o else blobE o && treeE o && commitE o
def objM (o : Obj) : Mem := [(1, .var ((encObj o).cells.map .i))]
theorem object_alone_ok (o : Obj) : PureC Pg G Fn.object_alone [encObj o] (.bool (aloneB o)) := by
  refine pureW_of T_ok Fd.object_alone rfl (by kernel_rfl) ?_
  refine CW.next T_ok ?_
  refine CW.next T_ok ?_
  refine CW.next T_ok ?_
  refine CW.cut T_ok (S := Unit) (fun _ => [(1, .ptr 1 0), (3, .i (.bool (blobE o))), (4, .i (.bool (treeE o))), (5, .i (.bool (commitE o)))]) (fun _ => objM o) (fun _ => True) ?_ ?_
  · refine ⟨_, eqId o.tree Id.none, ?_⟩
    refine condP.split (fun g1 => ?_) (fun g1 => ?_)
    · refine condP.split (fun g2 => ?_) (fun g2 => ?_)
      · refine condP.split (fun g3 => ?_) (fun g3 => ?_)
        · refine ⟨(), trivial, ⟨rfl, rfl, rfl, ?_, trivial⟩, ⟨rfl, trivial⟩⟩
          show some (PV.i (IV.bool (o.text == []))) = some (PV.i (IV.bool (commitE o)))
          simp only [commitE, g1, g2, g3, Bool.true_and]
        · refine ⟨(), trivial, ⟨rfl, rfl, rfl, ?_, trivial⟩, ⟨rfl, trivial⟩⟩
          show some (PV.i (IV.bool false)) = some (PV.i (IV.bool (commitE o)))
          simp only [commitE, g1, g2, g3, Bool.true_and, Bool.false_and, Bool.and_false]
      · refine ⟨(), trivial, ⟨rfl, rfl, rfl, ?_, trivial⟩, ⟨rfl, trivial⟩⟩
        show some (PV.i (IV.bool false)) = some (PV.i (IV.bool (commitE o)))
        simp only [commitE, g1, g2, Bool.true_and, Bool.false_and, Bool.and_false]
    · refine ⟨(), trivial, ⟨rfl, rfl, rfl, ?_, trivial⟩, ⟨rfl, trivial⟩⟩
      show some (PV.i (IV.bool false)) = some (PV.i (IV.bool (commitE o)))
      simp only [commitE, g1, Bool.true_and, Bool.false_and, Bool.and_false]
  intro _ _
  refine CW.cut T_ok (S := Unit) (fun _ => [(1, .ptr 1 0), (3, .i (.bool (blobE o))), (4, .i (.bool (treeE o))), (5, .i (.bool (commitE o))), (6, .i (.bool (tagE o)))]) (fun _ => objM o) (fun _ => True) ?_ ?_
  · refine ⟨_, eqId o.target Id.none, ?_⟩
    refine condP.split (fun g1 => ?_) (fun g1 => ?_)
    · refine condP.split (fun g2 => ?_) (fun g2 => ?_)
      · refine ⟨(), trivial, ⟨rfl, rfl, rfl, rfl, ?_, trivial⟩, ⟨rfl, trivial⟩⟩
        show some (PV.i (IV.bool (o.name == []))) = some (PV.i (IV.bool (tagE o)))
        simp only [tagE, g1, g2, Bool.true_and]
      · refine ⟨(), trivial, ⟨rfl, rfl, rfl, rfl, ?_, trivial⟩, ⟨rfl, trivial⟩⟩
        show some (PV.i (IV.bool false)) = some (PV.i (IV.bool (tagE o)))
        simp only [tagE, g1, g2, Bool.true_and, Bool.false_and, Bool.and_false]
    · refine ⟨(), trivial, ⟨rfl, rfl, rfl, rfl, ?_, trivial⟩, ⟨rfl, trivial⟩⟩
      show some (PV.i (IV.bool false)) = some (PV.i (IV.bool (tagE o)))
      simp only [tagE, g1, Bool.true_and, Bool.false_and, Bool.and_false]
  intro _ _
  refine CW.go T_ok ?_
  generalize hb : blobE o = b1
  generalize ht : treeE o = b2
  generalize hc : commitE o = b3
  generalize hg : tagE o = b4
  have e : ∀ x, x = aloneB o → some (IV.bool x) = some (IV.bool (aloneB o)) := fun x h => by rw [h]
  refine condP.split (fun k1 => ?_) (fun k1 => ?_)
  · have k1' : o.kind = 1 := eq_of_beq k1
    cases b2 <;> cases b3 <;> exact e _ (by simp [aloneB, k1', ht, hc, hg])
  · have k1' : o.kind ≠ 1 := by have := k1; simpa using this
    refine condP.split (fun k2 => ?_) (fun k2 => ?_)
    · have k2' : o.kind = 2 := eq_of_beq k2
      cases b1 <;> cases b3 <;> exact e _ (by simp [aloneB, k2', hb, hc, hg])
    · have k2' : o.kind ≠ 2 := by have := k2; simpa using this
      refine condP.split (fun k3 => ?_) (fun k3 => ?_)
      · have k3' : o.kind = 3 := eq_of_beq k3
        cases b1 <;> cases b2 <;> exact e _ (by simp [aloneB, k3', hb, ht, hg])
      · have k3' : o.kind ≠ 3 := by have := k3; simpa using this
        cases b1 <;> cases b2 <;> exact e _ (by simp [aloneB, k1', k2', k3', hb, ht, hc])
def mayB (o : Obj) : Bool :=
  if o.kind = 2 then aloneB o && entriesB o.entries else if o.kind = 3 then aloneB o && decide (o.parents.length ≤ 8) else if o.kind = 4 then aloneB o && kindB o.of && nameB o.name else decide (o.kind = 1) && aloneB o
theorem object_may_ok (o : Obj) (hl : o.entries.length < 1000000) : PureC Pg G Fn.object_may [encObj o] (.bool (mayB o)) := by
  have ha := object_alone_ok (G := G) o
  have e : ∀ x, x = mayB o → some (IV.bool x) = some (IV.bool (mayB o)) := fun x h => by rw [h]
  refine pureC_of T_ok Fd.object_may rfl (by kernel_rfl) ?_
  refine condP.split (fun k1 => ?_) (fun k1 => ?_)
  · have k1' : o.kind = 2 := eq_of_beq k1
    refine ⟨_, _, _, pureCall ha rfl, ?_⟩
    cases h : aloneB o with
    | false => exact e _ (by simp [mayB, k1', h])
    | true =>
      refine ⟨_, _, _, pureCall (object_entries_ok o.entries hl) rfl, ?_⟩
      exact e _ (by simp [mayB, k1', h])
  · have k1' : o.kind ≠ 2 := by have := k1; simpa using this
    refine condP.split (fun k2 => ?_) (fun k2 => ?_)
    · have k2' : o.kind = 3 := eq_of_beq k2
      refine ⟨_, _, _, pureCall ha rfl, ?_⟩
      cases h : aloneB o with
      | false => exact e _ (by simp [mayB, k2', h])
      | true =>
        refine e _ ?_
        simp [mayB, k2', h]
        omega
    · have k2' : o.kind ≠ 3 := by have := k2; simpa using this
      refine condP.split (fun k3 => ?_) (fun k3 => ?_)
      · have k3' : o.kind = 4 := eq_of_beq k3
        refine ⟨_, _, _, pureCall ha rfl, ?_⟩
        cases h : aloneB o with
        | false => exact e _ (by simp [mayB, k3', h])
        | true =>
          refine ⟨_, _, _, pureCall (object_kind_ok o.of) rfl, ?_⟩
          cases h2 : kindB o.of with
          | false => exact e _ (by simp [mayB, k3', h, h2])
          | true =>
            refine ⟨_, _, _, pureCall (object_Name_ok o.name) rfl, ?_⟩
            exact e _ (by simp [mayB, k3', h, h2])
      · have k3' : o.kind ≠ 4 := by have := k3; simpa using this
        refine condP.split (fun k4 => ?_) (fun k4 => ?_)
        · have k4' : o.kind = 1 := eq_of_beq k4
          refine ⟨_, _, _, pureCall ha rfl, ?_⟩
          exact e _ (by simp [mayB, k4'])
        · have k4' : o.kind ≠ 1 := by have := k4; simpa using this
          exact e _ (by simp [mayB, k1', k2', k3', k4'])
end Go.Kn
set_option maxRecDepth 100000
namespace Go.Kn
open Go Go.Proofs
variable {G : Gl}
theorem insert_item {l : List IV} {x : IV} {i : Nat} (hi : i ≤ l.length) (hl : ∀ y ∈ l, y.cells.length = 33) (hx : x.cells.length = 33) (hn : l.length < 1000000) :
    Body Pg Fn.slices_Insert_store_item ∧ AC Pg G Fn.slices_Insert_store_item [.vec 1000 33 0 l.length, .i (.int .i64 i), .vec 1001 33 0 1] [(1000, .vec 33 (l.map .i) none), (1001, .vec 33 [.i x] none)]
      (.vec 1000 33 0 (l.length + 1)) [(1000, .vec 33 ((l.take i ++ x :: l.drop i).map .i) none), (1001, .vec 33 [.i x] none)] := by
  refine acCap fun c hc => ?_
  simp only [List.length_map] at hc
  refine acC_of T_ok Fd.slices_Insert_store_item rfl (by kernel_rfl) ?_
  refine ⟨⟨by omega, by omega⟩, ?_⟩
  refine ⟨_, _, ⟨rfl, rfl⟩, .inl ⟨trivial, ?_⟩⟩
  refine condP.split (fun g => ?_) (fun g => ?_)
  · have g' : i = l.length := by have := eq_of_beq g; omega
    subst g'
    refine ⟨Nat.le_refl _, ?_⟩
    refine ⟨l.map .i ++ [.i x], l.length + 1, ⟨by simp, szOK (by simp; omega) (by kernel_rfl), by rw [List.take_of_length_le (by simp)]; rfl, rfl⟩, ?_⟩
    refine .inl ?_
    refine ⟨[], [], ⟨trivial, rfl, MemL.as ⟨⟨_, rfl, MLe.vecEq ?_⟩, ⟨_, rfl, MLe.vecEq rfl⟩, trivial⟩ rfl, rfl⟩⟩
    simp
  · have g' : i < l.length := by
      have : (i : Int) ≠ l.length := by intro e; rw [e] at g; simp at g
      omega
    have hw : IntKind.i64.wrap ((l.length : Int) + ((1 : Nat) : Int)) = ((l.length + 1 : Nat) : Int) := by rw [wrap_i64 (by omega) (by omega)]; omega
    have hw2 : IntKind.i64.wrap ((i : Int) + ((1 : Nat) : Int)) = ((i + 1 : Nat) : Int) := by rw [wrap_i64 (by omega) (by omega)]; omega
    refine condP.split (fun g2 => ?_) (fun g2 => ?_)
    · have g2' : c < l.length + 1 := by
        have : IntKind.i64.wrap ((l.length : Int) + ((1 : Nat) : Int)) > ((c - 0 : Nat) : Int) := of_decide_eq_true g2
        rw [hw] at this
        omega
      refine ⟨by show (0 : Int) ≤ i; omega, ?_⟩
      refine ⟨0, i, ⟨rfl, rfl⟩, .inl ⟨by show (i : Int) ≤ l.length; omega, ?_⟩⟩
      refine ⟨l.length + 1 - i, l.map .i |>.take i |>.append (List.replicate (l.length + 1 - i) .dead), l.length + 1, ⟨?_, ?_, ?_, ?_, rfl, ?_⟩, ?_⟩
      · show IntKind.i64.wrap (IntKind.i64.wrap ((l.length : Int) + ((1 : Nat) : Int)) - (i : Int)) = _
        rw [hw, wrap_i64 (by omega) (by omega)]; omega
      · simp; omega
      · omega
      · exact szOK (by omega) (by kernel_rfl)
      · omega
      · refine ⟨⟨by omega, by omega⟩, ?_⟩
        refine ⟨i, l.length + 1 - i, ⟨by simp [offB, addS_eq], by simp [lenB, endB]⟩, trivial, ?_⟩
        refine ⟨by simp; omega, ?_⟩
        refine ⟨by simp, ?_⟩
        refine ⟨(l.take i ++ [x]).map .i ++ List.replicate (l.length - i) .dead, ?_, ?_⟩
        · have h1 : ((l.map PV.i).take i).length = i := by simp; omega
          have h2 : min [PV.i x].length (l.length + 1 - i) = 1 := by simp; omega
          show ((l.map PV.i).take i ++ List.replicate (l.length + 1 - i) PV.dead).take i ++ [PV.i x].take (min [PV.i x].length (l.length + 1 - i)) ++ ((l.map PV.i).take i ++ List.replicate (l.length + 1 - i) PV.dead).drop (i + min [PV.i x].length (l.length + 1 - i)) = _
          rw [h2, List.take_left' h1, List.drop_append, h1, List.drop_of_length_le (by omega), show i + 1 - i = 1 by omega, List.drop_replicate, show l.length + 1 - i - 1 = l.length - i by omega]
          simp
        refine drawW T_ok (by decide +kernel) ?_
        refine ⟨?_, ?_⟩
        · show 0 ≤ IntKind.i64.wrap ((i : Int) + ((1 : Nat) : Int)) ∧ IntKind.i64.wrap ((i : Int) + ((1 : Nat) : Int)) ≤ ((l.length + 1 : Nat) : Int)
          rw [hw2]; omega
        refine ⟨i + 1, l.length - i, ⟨?_, ?_⟩, trivial, ?_⟩
        · show offB 0 (some (IntKind.i64.wrap ((i : Int) + ((1 : Nat) : Int)))) = _
          rw [hw2]; simp [offB, addS_eq]
        · show lenB _ (some (IntKind.i64.wrap ((i : Int) + ((1 : Nat) : Int)))) none = _
          rw [hw2]; simp [lenB, endB]
        refine ⟨⟨by omega, by omega⟩, ?_⟩
        refine ⟨i, l.length - i, ⟨by simp [offB, addS_eq], by simp [lenB, endB]⟩, .inl ⟨trivial, ?_⟩⟩
        refine ⟨by simp; omega, ?_⟩
        refine ⟨by simp; omega, ?_⟩
        refine ⟨(l.take i ++ x :: l.drop i).map .i, ?_, ?_⟩
        · have h1 : ((l.take i ++ [x]).map PV.i).length = i + 1 := by simp; omega
          have h2 : min (((l.map PV.i).drop i).take (l.length - i)).length (l.length - i) = l.length - i := by simp
          show ((l.take i ++ [x]).map PV.i ++ List.replicate (l.length - i) PV.dead).take (i + 1) ++ (((l.map PV.i).drop i).take (l.length - i)).take (min (((l.map PV.i).drop i).take (l.length - i)).length (l.length - i)) ++ ((l.take i ++ [x]).map PV.i ++ List.replicate (l.length - i) PV.dead).drop (i + 1 + min (((l.map PV.i).drop i).take (l.length - i)).length (l.length - i)) = _
          have h3 : ((l.take i ++ [x]).map PV.i ++ List.replicate (l.length - i) PV.dead).drop (i + 1 + (l.length - i)) = [] := List.drop_of_length_le (by simp; omega)
          have h4 : ((l.map PV.i).drop i).take (l.length - i) = (l.map PV.i).drop i := List.take_of_length_le (by simp)
          rw [h2, List.take_left' h1, h3, List.take_take, Nat.min_self, h4]
          simp
        refine ⟨by kernel_rfl, ?_⟩
        exact ⟨[(1000, 40)], [], ⟨trivial, rfl, MemL.as ⟨⟨_, rfl, MLe.vecEq rfl⟩, ⟨_, rfl, MLe.vecEq rfl⟩, trivial⟩ rfl, rfl⟩⟩
    · have g2' : l.length + 1 ≤ c := by
        have : ¬ IntKind.i64.wrap ((l.length : Int) + ((1 : Nat) : Int)) > ((c - 0 : Nat) : Int) := of_decide_eq_false g2
        rw [hw] at this
        omega
      refine ⟨?_, ?_⟩
      · show 0 ≤ IntKind.i64.wrap ((l.length : Int) + ((1 : Nat) : Int))
        rw [hw]; omega
      refine ⟨0, l.length + 1, ⟨rfl, ?_⟩, .inr ⟨l.map .i ++ [.dead], ⟨?_, ?_⟩, ?_⟩⟩
      · show lenB _ none (some (IntKind.i64.wrap ((l.length : Int) + ((1 : Nat) : Int)))) = _
        rw [hw]; simp [lenB, endB]
      · show 0 + endB _ (some (IntKind.i64.wrap ((l.length : Int) + ((1 : Nat) : Int)))) ≤ c
        rw [hw]; simp [endB]; omega
      · show l.map PV.i ++ List.replicate (0 + endB _ (some (IntKind.i64.wrap ((l.length : Int) + ((1 : Nat) : Int)))) - (l.map PV.i).length) PV.dead = _
        rw [hw]; simp [endB]
      refine ⟨?_, ?_⟩
      · show 0 ≤ IntKind.i64.wrap ((i : Int) + ((1 : Nat) : Int)) ∧ IntKind.i64.wrap ((i : Int) + ((1 : Nat) : Int)) ≤ ((l.length + 1 : Nat) : Int)
        rw [hw2]; omega
      refine ⟨i + 1, l.length - i, ⟨?_, ?_⟩, .inl ⟨trivial, ?_⟩⟩
      · show offB 0 (some (IntKind.i64.wrap ((i : Int) + ((1 : Nat) : Int)))) = _
        rw [hw2]; simp [offB, addS_eq]
      · show lenB _ (some (IntKind.i64.wrap ((i : Int) + ((1 : Nat) : Int)))) none = _
        rw [hw2]; simp [lenB, endB]
      refine ⟨_, _, _, overlapsCall (tS := Tn.sl_store_item) (tR := Tn.bool) Fd.slices_overlaps_store_item (by kernel_rfl) (by kernel_rfl) (by kernel_rfl) (by kernel_rfl) (by kernel_rfl) (T_ok Tn.store_item _ rfl) (by decide) rfl rfl (by omega) (by omega), ?_⟩
      refine drawW T_ok (by decide +kernel) ?_
      refine ⟨?_, ?_⟩
      · show 0 ≤ IntKind.i64.wrap ((i : Int) + ((1 : Nat) : Int)) ∧ IntKind.i64.wrap ((i : Int) + ((1 : Nat) : Int)) ≤ ((l.length + 1 : Nat) : Int)
        rw [hw2]; omega
      refine ⟨i + 1, l.length - i, ⟨?_, ?_⟩, .inl ⟨trivial, ?_⟩⟩
      · show offB 0 (some (IntKind.i64.wrap ((i : Int) + ((1 : Nat) : Int)))) = _
        rw [hw2]; simp [offB, addS_eq]
      · show lenB _ (some (IntKind.i64.wrap ((i : Int) + ((1 : Nat) : Int)))) none = _
        rw [hw2]; simp [lenB, endB]
      refine ⟨⟨by omega, by omega⟩, ?_⟩
      refine ⟨i, l.length + 1 - i, ⟨by simp [offB, addS_eq], by simp [lenB, endB]⟩, .inl ⟨trivial, ?_⟩⟩
      refine ⟨by simp; omega, ?_⟩
      refine ⟨by simp; omega, ?_⟩
      refine ⟨l.map PV.i |>.take (i + 1) |>.append ((l.drop i).map PV.i), ?_, ?_⟩
      · have h2 : min (((l.map PV.i ++ [PV.dead]).drop i).take (l.length + 1 - i)).length (l.length - i) = l.length - i := by simp; omega
        have h3 : (l.map PV.i ++ [PV.dead]).drop (i + 1 + (l.length - i)) = [] := List.drop_of_length_le (by simp; omega)
        show (l.map PV.i ++ [PV.dead]).take (i + 1) ++ (((l.map PV.i ++ [PV.dead]).drop i).take (l.length + 1 - i)).take (min (((l.map PV.i ++ [PV.dead]).drop i).take (l.length + 1 - i)).length (l.length - i)) ++ (l.map PV.i ++ [PV.dead]).drop (i + 1 + min (((l.map PV.i ++ [PV.dead]).drop i).take (l.length + 1 - i)).length (l.length - i)) = (l.map PV.i).take (i + 1) ++ (l.drop i).map PV.i
        have h4 : ((l.map PV.i ++ [PV.dead]).drop i).take (l.length - i) = (l.map PV.i).drop i := by
          rw [List.drop_append_of_le_length (by simp; omega), List.take_append_of_le_length (by simp), List.take_of_length_le (by simp)]
        have h5 : (l.map PV.i ++ [PV.dead]).take (i + 1) = (l.map PV.i).take (i + 1) := List.take_append_of_le_length (by simp; omega)
        rw [h2, h3, List.take_take, Nat.min_eq_left (by omega : l.length - i ≤ l.length + 1 - i), h4, h5]
        simp
      refine ⟨by kernel_rfl, ?_⟩
      have hll : ((l.map PV.i).take (i + 1) ++ (l.drop i).map PV.i).length = l.length + 1 := by simp; omega
      refine ⟨⟨by omega, by omega⟩, ?_⟩
      refine ⟨i, l.length + 1 - i, ⟨by simp [offB, addS_eq], by simp [lenB, endB]⟩, .inl ⟨trivial, ?_⟩⟩
      refine ⟨by show i + (l.length + 1 - i) ≤ ((l.map PV.i).take (i + 1) ++ (l.drop i).map PV.i).length; rw [hll]; omega, ?_⟩
      refine ⟨by simp, ?_⟩
      refine ⟨(l.take i ++ x :: l.drop i).map PV.i, ?_, ?_⟩
      · have h2 : min [PV.i x].length (l.length + 1 - i) = 1 := by simp; omega
        show ((l.map PV.i).take (i + 1) ++ (l.drop i).map PV.i).take i ++ [PV.i x].take (min [PV.i x].length (l.length + 1 - i)) ++ ((l.map PV.i).take (i + 1) ++ (l.drop i).map PV.i).drop (i + min [PV.i x].length (l.length + 1 - i)) = _
        have h1 : ((l.map PV.i).take (i + 1)).length = i + 1 := by simp; omega
        rw [h2, List.drop_left' h1, List.take_append_of_le_length (by omega), List.take_take, Nat.min_eq_left (by omega)]
        simp
      exact ⟨[], [], ⟨trivial, rfl, MemL.as ⟨⟨_, rfl, MLe.vecEq rfl⟩, ⟨_, rfl, MLe.vecEq rfl⟩, trivial⟩ rfl, rfl⟩⟩
end Go.Kn
set_option maxRecDepth 100000
namespace Go.Kn
open Go Go.Proofs
variable {G : Gl}
def cmpB (a b : UInt8) : Int := if a < b then -1 else if b < a then 1 else 0
theorem isNaN_ok (a : UInt8) : PureC Pg G Fn.cmp_isNaN_byte [.int .u8 (a.toNat : Int)] (.bool false) := by
  refine pureC_of T_ok Fd.cmp_isNaN_byte rfl (by kernel_rfl) ?_
  show some (IV.bool ((a.toNat : Int) != (a.toNat : Int))) = _
  simp
theorem cmpCompare_ok (a b : UInt8) : PureC Pg G Fn.cmp_Compare_byte [.int .u8 (a.toNat : Int), .int .u8 (b.toNat : Int)] (.int .i64 (cmpB a b)) := by
  refine pureC_of T_ok Fd.cmp_Compare_byte rfl (by kernel_rfl) ?_
  refine ⟨_, _, _, pureCall (isNaN_ok a) rfl, ?_⟩
  refine ⟨_, _, _, pureCall (isNaN_ok b) rfl, ?_⟩
  refine condP.split (fun g => ?_) (fun g => ?_)
  · have h : decide (((a.toNat : Nat) : Int) < (b.toNat : Int)) = true := g
    rw [lt_toNat] at h
    show some (IV.int .i64 (-1)) = _
    rw [cmpB, if_pos (of_decide_eq_true h)]
  · have h : decide (((a.toNat : Nat) : Int) < (b.toNat : Int)) = false := g
    rw [lt_toNat] at h
    refine condP.split (fun g2 => ?_) (fun g2 => ?_)
    · have h2 : decide (((a.toNat : Nat) : Int) > (b.toNat : Int)) = true := g2
      have h3 : decide (((b.toNat : Nat) : Int) < (a.toNat : Int)) = true := h2
      rw [lt_toNat] at h3
      show some (IV.int .i64 1) = _
      rw [cmpB, if_neg (of_decide_eq_false h), if_pos (of_decide_eq_true h3)]
    · have h2 : decide (((a.toNat : Nat) : Int) > (b.toNat : Int)) = false := g2
      have h3 : decide (((b.toNat : Nat) : Int) < (a.toNat : Int)) = false := h2
      rw [lt_toNat] at h3
      show some (IV.int .i64 0) = _
      rw [cmpB, if_neg (of_decide_eq_false h), if_neg (of_decide_eq_false h3)]
theorem cmpB_zero (a b : UInt8) : cmpB a b = 0 ↔ a = b := by
  unfold cmpB
  constructor
  · intro h
    split at h
    · cases h
    · split at h
      · cases h
      · rename_i h1 h2
        rw [UInt8.lt_iff_toNat_lt] at h1 h2
        exact UInt8.toNat_inj.1 (by omega)
  · rintro rfl
    simp
def cmpL : List UInt8 → List UInt8 → Int
  | a :: r, b :: s => if cmpB a b = 0 then cmpL r s else cmpB a b
  | _, _ => 0
def idCmp (x y : Id) : Int := cmpL x.bytes y.bytes
theorem cmpL_drop : ∀ (l r : List UInt8) (i : Nat), l.length = r.length → (∀ j, j < i → l.getD j 0 = r.getD j 0) → cmpL (l.drop i) (r.drop i) = cmpL l r
  | l, r, 0, _, _ => by simp
  | [], [], i + 1, _, _ => by simp
  | a :: l, b :: r, i + 1, hl, h => by
    have h0 : a = b := by simpa using h 0 (by omega)
    have ih := cmpL_drop l r i (by simpa using hl) (fun j hj => by simpa using h (j + 1) (by omega))
    simp only [List.drop_succ_cons, ih, cmpL]
    rw [if_pos ((cmpB_zero a b).2 h0)]
  | [], _ :: _, _ + 1, hl, _ => by cases hl
  | _ :: _, [], _ + 1, hl, _ => by cases hl
theorem cmpL_at {l r : List UInt8} {i : Nat} (hl : l.length = r.length) (hi : i < l.length) (h : ∀ j, j < i → l.getD j 0 = r.getD j 0) (hne : cmpB (l.getD i 0) (r.getD i 0) ≠ 0) : cmpL l r = cmpB (l.getD i 0) (r.getD i 0) := by
  rw [← cmpL_drop l r i hl h, List.drop_eq_getElem_cons hi, List.drop_eq_getElem_cons (show i < r.length by omega)]
  have e1 : l.getD i 0 = l[i] := by simp [List.getD_eq_getElem?_getD, hi]
  have e2 : r.getD i 0 = r[i] := by simp [List.getD_eq_getElem?_getD, show i < r.length by omega]
  rw [e1, e2] at hne ⊢
  simp only [cmpL, if_neg hne]
theorem cmpL_end {l r : List UInt8} (hl : l.length = r.length) (h : ∀ j, j < l.length → l.getD j 0 = r.getD j 0) : cmpL l r = 0 := by
  rw [← cmpL_drop l r l.length hl h, List.drop_of_length_le (Nat.le_refl _)]
  simp [cmpL]
def twoM (x y : Id) (r1 r2 : List IV) : Mem := [(1000, .var ((idC x ++ r1).map .i)), (1001, .var ((idC y ++ r2).map .i))]
theorem idr_get (x : Id) (r : List IV) {i : Nat} (h : i < 32) : ((idC x ++ r).map PV.i)[i]? = some (.i (.int .u8 ((x.b i).toNat : Int))) := by
  rw [List.map_append, List.getElem?_append_left (by simp [idC, u8c]; exact h)]
  exact u8c_get x.b h
theorem slicesCompare_ok (x y : Id) (r1 r2 : List IV) : Body Pg Fn.slices_Compare_byte ∧ AC Pg G Fn.slices_Compare_byte [.view 1000 1 0 32, .view 1001 1 0 32] (twoM x y r1 r2) (.i (.int .i64 (idCmp x y))) (twoM x y r1 r2) := by
  refine acC_of T_ok Fd.slices_Compare_byte rfl (by kernel_rfl) ?_
  refine loopX T_ok 0 (S := Nat) (S' := Unit) (fun i => [(0, .view 1000 1 0 32), (1, .view 1001 1 0 32), (9, .view 1000 1 0 32), (10, .i (.int .i64 32)), (11, .i (.int .i64 (i : Int)))]) (fun _ => twoM x y r1 r2) (fun i => 32 - i)
    (fun i => i ≤ 32 ∧ ∀ j, j < i → x.b j = y.b j) (fun _ => [(0, .view 1000 1 0 32), (1, .view 1001 1 0 32)]) (fun _ => twoM x y r1 r2) (fun _ => idCmp x y = 0) 0 ⟨rfl, rfl, rfl, rfl, rfl, trivial⟩ ⟨rfl, rfl, trivial⟩ ⟨by omega, by omega⟩ ?_ ?_
  · rintro i ⟨h1, h2⟩
    refine condP.split (fun g => ?_) (fun g => ?_)
    · have g' : i < 32 := by have : (i : Int) < 32 := of_decide_eq_true g; omega
      refine ⟨⟨by omega, by show (i : Int) < 32; omega⟩, ?_⟩
      refine withO.intro (idr_get x r1 (show (i : Int).toNat < 32 by omega)) ?_
      refine condP.split (fun g2 => ?_) (fun g2 => ?_)
      · have : (i : Int) ≥ 32 := of_decide_eq_true g2
        omega
      · refine ⟨⟨by omega, by show (i : Int) < 32; omega⟩, ?_⟩
        refine withO.intro (idr_get y r2 (show (i : Int).toNat < 32 by omega)) ?_
        refine ⟨_, _, _, pureCall (cmpCompare_ok (x.b i) (y.b i)) rfl, ?_⟩
        refine condP.split (fun g3 => ?_) (fun g3 => ?_)
        · have g3' : cmpB (x.b i) (y.b i) ≠ 0 := by have h : (cmpB (x.b i) (y.b i) != 0) = true := g3; simpa using h
          have : idCmp x y = cmpB (x.b i) (y.b i) := cmpL_at (by rw [x.len, y.len]) (by rw [x.len]; exact g') h2 g3'
          rw [this]
          exact retSame rfl (MemL.as ⟨⟨_, rfl, MLe.ivs _⟩, ⟨_, rfl, MLe.ivs _⟩, trivial⟩ rfl)
        · have g3' : cmpB (x.b i) (y.b i) = 0 := by have h : (cmpB (x.b i) (y.b i) != 0) = false := g3; simpa using h
          refine ⟨i + 1, ⟨by omega, by omega, fun j hj => ?_⟩, ⟨rfl, rfl, rfl, rfl, congrArg (fun n => some (PV.i (IV.int .i64 n))) (int_succ (by omega)), trivial⟩, ⟨rfl, rfl, trivial⟩⟩
          by_cases hji : j = i
          · subst hji; exact (cmpB_zero _ _).1 g3'
          · exact h2 j (by omega)
    · have g' : i = 32 := by have : ¬ (i : Int) < 32 := of_decide_eq_false g; omega
      subst g'
      refine ⟨(), ?_, ⟨rfl, rfl, trivial⟩, ⟨rfl, rfl, trivial⟩⟩
      exact cmpL_end (by rw [x.len, y.len]) (fun j hj => h2 j (by rw [x.len] at hj; exact hj))
  · intro _ h
    rw [h]
    exact retSame rfl (MemL.as ⟨⟨_, rfl, MLe.ivs _⟩, ⟨_, rfl, MLe.ivs _⟩, trivial⟩ rfl)
structure Item where
  id : Id
  text : List UInt8
def encItem (x : Item) : IV := .agg (idC x.id ++ [.str x.text])
theorem place1_ok (x : Item) (y : Id) : PureC Pg G Fn.store_Store_place_c1 [encItem x, encId y] (.int .i64 (idCmp x.id y)) := by
  refine pureC_of T_ok Fd.store_Store_place_c1 rfl (by kernel_rfl) ?_
  refine drawW T_ok (by decide +kernel) ?_
  refine ⟨⟨by decide, by decide, by decide, by decide⟩, ?_⟩
  refine ⟨⟨by decide, by decide, by decide, by decide⟩, ?_⟩
  have hc := slicesCompare_ok (G := G) x.id y [.str x.text] []
  refine .inl ⟨[(1000, 2), (1001, 3)], _, _, _, _, ⟨hc.1, hc.2, ⟨rfl, rfl, rfl⟩, MemL.as ⟨⟨_, rfl, MLe.refl _⟩, ⟨_, rfl, MLe.refl _⟩, trivial⟩ rfl, rfl⟩, ?_⟩
  refine ⟨by kernel_rfl, ?_⟩
  rfl
end Go.Kn
set_option maxRecDepth 100000
namespace Go.Kn
open Go Go.Proofs
variable {G : Gl}
def valB : List UInt8 → Nat
  | [] => 0
  | a :: r => a.toNat * 256 ^ r.length + valB r
theorem valB_lt : ∀ l : List UInt8, valB l < 256 ^ l.length
  | [] => by simp [valB]
  | a :: r => by
    have := valB_lt r
    have ha := a.toNat_lt
    simp only [valB, List.length_cons, Nat.pow_succ]
    have : a.toNat * 256 ^ r.length + 256 ^ r.length ≤ 256 ^ r.length * 256 := by
      have h : (a.toNat + 1) * 256 ^ r.length ≤ 256 * 256 ^ r.length := Nat.mul_le_mul_right _ (by omega)
      rw [Nat.add_mul, Nat.one_mul, Nat.mul_comm 256] at h
      exact h
    omega
theorem val_step {a b : Nat} (h : a < b) {p x y : Nat} (hx : x < p) : a * p + x < b * p + y := by
  have h1 : (a + 1) * p ≤ b * p := Nat.mul_le_mul_right _ h
  rw [Nat.add_mul, Nat.one_mul] at h1
  omega
theorem cmpL_val : ∀ (l r : List UInt8), l.length = r.length → (cmpL l r < 0 ↔ valB l < valB r) ∧ (0 < cmpL l r ↔ valB r < valB l)
  | [], [], _ => by simp [cmpL, valB]
  | a :: l, b :: r, hl => by
    have hl' : l.length = r.length := by simpa using hl
    have ih := cmpL_val l r hl'
    have h1 := valB_lt l
    have h2 := valB_lt r
    simp only [cmpL]
    by_cases hc : cmpB a b = 0
    · rw [if_pos hc]
      have := (cmpB_zero a b).1 hc
      subst this
      simp only [valB, hl']
      exact ⟨ih.1.trans (by omega), ih.2.trans (by omega)⟩
    · rw [if_neg hc]
      have hne : a ≠ b := fun h => hc ((cmpB_zero a b).2 h)
      simp only [valB, hl'] at *
      by_cases hab : a < b
      · have e : cmpB a b = -1 := by simp [cmpB, hab]
        have := val_step (UInt8.lt_iff_toNat_lt.1 hab) (p := 256 ^ r.length) (x := valB l) (y := valB r) h1
        rw [e]; omega
      · have hba : b < a := by
          rw [UInt8.lt_iff_toNat_lt] at hab ⊢
          have : a.toNat ≠ b.toNat := fun h => hne (UInt8.toNat_inj.1 h)
          omega
        have e : cmpB a b = 1 := by simp [cmpB, hab, hba]
        have := val_step (UInt8.lt_iff_toNat_lt.1 hba) (p := 256 ^ r.length) (x := valB r) (y := valB l) h2
        rw [e]; omega
  | [], _ :: _, h => by cases h
  | _ :: _, [], h => by cases h
theorem valB_inj : ∀ (l r : List UInt8), l.length = r.length → valB l = valB r → l = r
  | [], [], _, _ => rfl
  | a :: l, b :: r, hl, h => by
    have hl' : l.length = r.length := by simpa using hl
    have h1 := valB_lt l
    have h2 := valB_lt r
    simp only [valB, hl'] at h h1
    have hab : a.toNat = b.toNat := by
      rcases Nat.lt_trichotomy a.toNat b.toNat with hlt | heq | hlt
      · have := val_step hlt (p := 256 ^ r.length) (x := valB l) (y := valB r) h1; omega
      · exact heq
      · have := val_step hlt (p := 256 ^ r.length) (x := valB r) (y := valB l) h2; omega
    rw [hab] at h
    rw [UInt8.toNat_inj.1 hab, valB_inj l r hl' (by omega)]
  | [], _ :: _, h, _ => by cases h
  | _ :: _, [], h, _ => by cases h
def Id.key (x : Id) : Nat := valB x.bytes
theorem Id.key_inj {x y : Id} (h : x.key = y.key) : x = y := Id.ext (valB_inj _ _ (by rw [x.len, y.len]) h)
theorem idCmp_lt (x y : Id) : idCmp x y < 0 ↔ x.key < y.key := (cmpL_val _ _ (by rw [x.len, y.len])).1
theorem idCmp_gt (x y : Id) : 0 < idCmp x y ↔ y.key < x.key := (cmpL_val _ _ (by rw [x.len, y.len])).2
theorem idCmp_zero (x y : Id) : idCmp x y = 0 ↔ x = y := by
  constructor
  · intro h
    have h1 := idCmp_lt x y
    have h2 := idCmp_gt x y
    exact Id.key_inj (by omega)
  · rintro rfl
    have h1 := idCmp_lt x x
    have h2 := idCmp_gt x x
    omega
def Rising (l : List Item) : Prop := l.Pairwise fun a b => a.id.key < b.id.key
def lowI (l : List Item) (y : Id) : Nat := (l.takeWhile fun a => decide (a.id.key < y.key)).length
def hasI (l : List Item) (y : Id) : Bool := l.any fun a => decide (a.id = y)
theorem takeWhile_len {α : Type} (p : α → Bool) : ∀ (l : List α) (i : Nat), i ≤ l.length → (∀ (k : Nat) (x : α), k < i → l[k]? = some x → p x = true) → (∀ (k : Nat) (x : α), i ≤ k → l[k]? = some x → p x = false) → (l.takeWhile p).length = i
  | [], i, h, _, _ => by simp at h; simp [h]
  | a :: l, 0, _, _, h2 => by
    have := h2 0 a (Nat.le_refl _) rfl
    simp [this]
  | a :: l, i + 1, h, h1, h2 => by
    have ha := h1 0 a (by omega) rfl
    rw [List.takeWhile_cons_of_pos ha, List.length_cons, takeWhile_len p l i (by simpa using h) (fun k x hk e => h1 (k + 1) x (by omega) e) (fun k x hk e => h2 (k + 1) x (by omega) e)]
theorem lowI_eq {l : List Item} {y : Id} {i : Nat} (h : i ≤ l.length) (h1 : ∀ (k : Nat) (x : Item), k < i → l[k]? = some x → x.id.key < y.key) (h2 : ∀ (k : Nat) (x : Item), i ≤ k → l[k]? = some x → y.key ≤ x.id.key) : lowI l y = i :=
  takeWhile_len _ l i h (fun k x hk e => decide_eq_true (h1 k x hk e)) (fun k x hk e => decide_eq_false (by have := h2 k x hk e; omega))
theorem Rising.get {l : List Item} (h : Rising l) {i j : Nat} {a b : Item} (hij : i < j) (ha : l[i]? = some a) (hb : l[j]? = some b) : a.id.key < b.id.key := by
  obtain ⟨hi, rfl⟩ := List.getElem?_eq_some_iff.1 ha
  obtain ⟨hj, rfl⟩ := List.getElem?_eq_some_iff.1 hb
  exact List.pairwise_iff_getElem.1 h i j hi hj hij
def itemsP (l : List Item) : List PV := (l.map encItem).map .i
def rowM (l : List Item) : Mem := [(1001, .vec 33 (itemsP l) none)]
theorem itemsP_get {l : List Item} {i : Nat} {x : Item} (h : l[i]? = some x) : (itemsP l)[i]? = some (.i (encItem x)) := by simp [itemsP, h]
theorem half {i j : Nat} (h : i + j < 1000000000) : IntKind.i64.wrap ((IntKind.u64.wrap (IntKind.i64.wrap ((i : Int) + (j : Int)))).fdiv (2 ^ (min (1 : Int).toNat 64))) = (((i + j) / 2 : Nat) : Int) := by
  rw [wrap_i64 (a := (i : Int) + j) (by omega) (by omega), wrap_u64 (by omega) (by omega)]
  rw [show (2 : Int) ^ (min (1 : Int).toNat 64) = 2 by decide, Int.fdiv_eq_ediv_of_nonneg _ (by omega), wrap_i64 (by omega) (by omega)]
  omega
def bsE (l : List Item) (i j : Nat) : Env := [(0, .i (.slice (l.map encItem))), (2, .i (.func (.func Fn.store_Store_place_c1) [])), (4, .ptr 4 0), (8, .i (.int .i64 (l.length : Int))), (9, .i (.int .i64 (i : Int))), (10, .i (.int .i64 (j : Int)))]
def bsM (y : Id) : Mem := [(4, .var ((idC y).map .i))]
theorem binarySearch_ok (l : List Item) (y : Id) (hr : Rising l) (hl : l.length < 1000000) : PureC Pg G Fn.slices_BinarySearchFunc_store_item_api_Id [.slice (l.map encItem), encId y, .func (.func Fn.store_Store_place_c1) []] (.tup [.int .i64 (lowI l y : Int), .bool (hasI l y)]) := by
  refine pureW_of T_ok Fd.slices_BinarySearchFunc_store_item_api_Id rfl (by kernel_rfl) ?_
  refine CW.next T_ok ?_
  refine CW.next T_ok ?_
  refine CW.next T_ok ?_
  refine CW.cut T_ok (S := Nat) (fun i => bsE l i i) (fun _ => bsM y)
    (fun i => i ≤ l.length ∧ (∀ (k : Nat) (x : Item), k < i → l[k]? = some x → x.id.key < y.key) ∧ (∀ (k : Nat) (x : Item), i ≤ k → l[k]? = some x → y.key ≤ x.id.key)) ?_ ?_
  · refine loopX T_ok 0 (S := Nat × Nat) (S' := Nat) (fun s => bsE l s.1 s.2) (fun _ => bsM y) (fun s => s.2 - s.1)
      (fun s => s.1 ≤ s.2 ∧ s.2 ≤ l.length ∧ (∀ (k : Nat) (x : Item), k < s.1 → l[k]? = some x → x.id.key < y.key) ∧ (∀ (k : Nat) (x : Item), s.2 ≤ k → l[k]? = some x → y.key ≤ x.id.key))
      (fun i => bsE l i i) (fun _ => bsM y) (fun i => i ≤ l.length ∧ (∀ (k : Nat) (x : Item), k < i → l[k]? = some x → x.id.key < y.key) ∧ (∀ (k : Nat) (x : Item), i ≤ k → l[k]? = some x → y.key ≤ x.id.key))
      (0, l.length) ⟨rfl, rfl, rfl, ?_, rfl, ?_, trivial⟩ ⟨rfl, trivial⟩ ⟨by simp, by simp, (fun k x h => by simp at h), fun k x h e => by
        have := (List.getElem?_eq_some_iff.1 e).1; omega⟩ ?_ ?_
    · show some (PV.i (.int .i64 ((l.map encItem).length : Int))) = _
      simp
    · show some (PV.i (.int .i64 ((l.map encItem).length : Int))) = _
      simp
    · rintro ⟨i, j⟩ ⟨h1, h2, h3, h4⟩
      simp only at h1 h2 h3 h4
      refine condP.split (fun g => ?_) (fun g => ?_)
      · have g' : i < j := by have : (i : Int) < j := of_decide_eq_true g; omega
        have hh := half (i := i) (j := j) (by omega)
        have hlt : (i + j) / 2 < l.length := by omega
        have hget : l[(i + j) / 2]? = some l[(i + j) / 2] := List.getElem?_eq_getElem hlt
        refine ⟨by decide, ?_⟩
        refine drawW T_ok (by decide +kernel) ?_
        refine ⟨encItem l[(i + j) / 2], ⟨?_, ?_⟩, ?_⟩
        · show 0 ≤ IntKind.i64.wrap ((IntKind.u64.wrap (IntKind.i64.wrap ((i : Int) + (j : Int)))).fdiv (2 ^ (min (1 : Int).toNat 64)))
          rw [hh]; omega
        · show (l.map encItem)[(IntKind.i64.wrap ((IntKind.u64.wrap (IntKind.i64.wrap ((i : Int) + (j : Int)))).fdiv (2 ^ (min (1 : Int).toNat 64)))).toNat]? = _
          rw [hh, Int.toNat_natCast, List.getElem?_map, hget]; rfl
        refine ⟨_, _, ⟨rfl, place1_ok l[(i + j) / 2] y⟩, ?_⟩
        refine ⟨by kernel_rfl, ?_⟩
        refine condP.split (fun g2 => ?_) (fun g2 => ?_)
        · have g2' : l[(i + j) / 2].id.key < y.key := (idCmp_lt _ _).1 (of_decide_eq_true g2)
          refine ⟨((i + j) / 2 + 1, j), ⟨by simp only; omega, by simp only; omega, h2, fun k x hk e => ?_, h4⟩, ⟨rfl, rfl, rfl, rfl, ?_, rfl, trivial⟩, ⟨rfl, trivial⟩⟩
          · by_cases hke : k = (i + j) / 2
            · subst hke; rw [hget] at e; cases e; exact g2'
            · exact Nat.lt_trans (hr.get (show k < (i + j) / 2 by simp only at hk; omega) e hget) g2'
          · show some (PV.i (IV.int .i64 (IntKind.i64.wrap (IntKind.i64.wrap ((IntKind.u64.wrap (IntKind.i64.wrap ((i : Int) + (j : Int)))).fdiv (2 ^ (min (1 : Int).toNat 64))) + 1)))) = _
            rw [hh, int_succ (by omega)]
        · have g2' : y.key ≤ l[(i + j) / 2].id.key := by
            have h : ¬ idCmp l[(i + j) / 2].id y < 0 := of_decide_eq_false g2
            rw [idCmp_lt] at h; omega
          refine ⟨(i, (i + j) / 2), ⟨by simp only; omega, by simp only; omega, by simp only; omega, h3, fun k x hk e => ?_⟩, ⟨rfl, rfl, rfl, rfl, rfl, ?_, trivial⟩, ⟨rfl, trivial⟩⟩
          · by_cases hke : k = (i + j) / 2
            · subst hke; rw [hget] at e; cases e; exact g2'
            · have := hr.get (show (i + j) / 2 < k by simp only at hk; omega) hget e
              omega
          · show some (PV.i (IV.int .i64 (IntKind.i64.wrap ((IntKind.u64.wrap (IntKind.i64.wrap ((i : Int) + (j : Int)))).fdiv (2 ^ (min (1 : Int).toNat 64)))))) = _
            rw [hh]
      · have g' : i = j := by have : ¬ (i : Int) < j := of_decide_eq_false g; omega
        subst g'
        exact ⟨i, ⟨h2, h3, h4⟩, ⟨rfl, rfl, rfl, rfl, rfl, rfl, trivial⟩, ⟨rfl, trivial⟩⟩
    · intro i hi
      exact ⟨i, hi, ⟨rfl, rfl, rfl, rfl, rfl, rfl, trivial⟩, ⟨rfl, trivial⟩⟩
  · rintro i ⟨h1, h2, h3⟩
    have hlow := lowI_eq h1 h2 h3
    refine CW.go T_ok ?_
    refine drawW T_ok (by decide +kernel) ?_
    refine condP.split (fun g => ?_) (fun g => ?_)
    · have g' : i < l.length := by have : (i : Int) < l.length := of_decide_eq_true g; omega
      have hget : l[i]? = some l[i] := List.getElem?_eq_getElem g'
      refine ⟨encItem l[i], ⟨by omega, by show (l.map encItem)[(i : Int).toNat]? = _; simp [hget]⟩, ?_⟩
      refine ⟨_, _, ⟨rfl, place1_ok l[i] y⟩, ?_⟩
      refine ⟨by kernel_rfl, ?_⟩
      have hh : hasI l y = (idCmp l[i].id y == 0) := by
        rw [Bool.eq_iff_iff, hasI, List.any_eq_true, beq_iff_eq, idCmp_zero]
        constructor
        · rintro ⟨x, hx, hxy⟩
          have hxy := of_decide_eq_true hxy
          obtain ⟨k, hk, rfl⟩ := List.getElem_of_mem hx
          have hgk : l[k]? = some l[k] := List.getElem?_eq_getElem hk
          rcases Nat.lt_trichotomy k i with hlt | heq | hlt
          · have := h2 k _ hlt hgk; rw [hxy] at this; omega
          · subst heq; exact hxy
          · have h5 := hr.get hlt hget hgk
            have h6 := h3 i _ (Nat.le_refl _) hget
            rw [hxy] at h5; omega
        · intro h
          exact ⟨l[i], List.getElem_mem _, decide_eq_true h⟩
      rw [hh, hlow]
      rfl
    · have g' : i = l.length := by have : ¬ (i : Int) < l.length := of_decide_eq_false g; omega
      refine ⟨by kernel_rfl, ?_⟩
      have hh : hasI l y = false := by
        rw [hasI, Bool.eq_false_iff]
        intro h
        obtain ⟨x, hx, hxy⟩ := List.any_eq_true.1 h
        have hxy := of_decide_eq_true hxy
        obtain ⟨k, hk, rfl⟩ := List.getElem_of_mem hx
        have := h2 k _ (by omega) (List.getElem?_eq_getElem hk)
        rw [hxy] at this; omega
      rw [hh, hlow]
      rfl
end Go.Kn
set_option maxRecDepth 100000
namespace Go.Kn
open Go Go.Proofs
variable {G : Gl}
theorem insert_id {l : List IV} {x : IV} {i : Nat} (hi : i ≤ l.length) (hl : ∀ y ∈ l, y.cells.length = 32) (hx : x.cells.length = 32) (hn : l.length < 1000000) :
    Body Pg Fn.slices_Insert_graph_set_api_Id ∧ AC Pg G Fn.slices_Insert_graph_set_api_Id [.vec 1000 32 0 l.length, .i (.int .i64 i), .vec 1001 32 0 1] [(1000, .vec 32 (l.map .i) none), (1001, .vec 32 [.i x] none)]
      (.vec 1000 32 0 (l.length + 1)) [(1000, .vec 32 ((l.take i ++ x :: l.drop i).map .i) none), (1001, .vec 32 [.i x] none)] := by
  refine acCap fun c hc => ?_
  simp only [List.length_map] at hc
  refine acC_of T_ok Fd.slices_Insert_graph_set_api_Id rfl (by kernel_rfl) ?_
  refine ⟨⟨by omega, by omega⟩, ?_⟩
  refine ⟨_, _, ⟨rfl, rfl⟩, .inl ⟨trivial, ?_⟩⟩
  refine condP.split (fun g => ?_) (fun g => ?_)
  · have g' : i = l.length := by have := eq_of_beq g; omega
    subst g'
    refine ⟨Nat.le_refl _, ?_⟩
    refine ⟨l.map .i ++ [.i x], l.length + 1, ⟨by simp, szOK (by simp; omega) (by kernel_rfl), by rw [List.take_of_length_le (by simp)]; rfl, rfl⟩, ?_⟩
    refine .inl ?_
    refine ⟨[], [], ⟨trivial, rfl, MemL.as ⟨⟨_, rfl, MLe.vecEq ?_⟩, ⟨_, rfl, MLe.vecEq rfl⟩, trivial⟩ rfl, rfl⟩⟩
    simp
  · have g' : i < l.length := by
      have : (i : Int) ≠ l.length := by intro e; rw [e] at g; simp at g
      omega
    have hw : IntKind.i64.wrap ((l.length : Int) + ((1 : Nat) : Int)) = ((l.length + 1 : Nat) : Int) := by rw [wrap_i64 (by omega) (by omega)]; omega
    have hw2 : IntKind.i64.wrap ((i : Int) + ((1 : Nat) : Int)) = ((i + 1 : Nat) : Int) := by rw [wrap_i64 (by omega) (by omega)]; omega
    refine condP.split (fun g2 => ?_) (fun g2 => ?_)
    · have g2' : c < l.length + 1 := by
        have : IntKind.i64.wrap ((l.length : Int) + ((1 : Nat) : Int)) > ((c - 0 : Nat) : Int) := of_decide_eq_true g2
        rw [hw] at this
        omega
      refine ⟨by show (0 : Int) ≤ i; omega, ?_⟩
      refine ⟨0, i, ⟨rfl, rfl⟩, .inl ⟨by show (i : Int) ≤ l.length; omega, ?_⟩⟩
      refine ⟨l.length + 1 - i, l.map .i |>.take i |>.append (List.replicate (l.length + 1 - i) .dead), l.length + 1, ⟨?_, ?_, ?_, ?_, rfl, ?_⟩, ?_⟩
      · show IntKind.i64.wrap (IntKind.i64.wrap ((l.length : Int) + ((1 : Nat) : Int)) - (i : Int)) = _
        rw [hw, wrap_i64 (by omega) (by omega)]; omega
      · simp; omega
      · omega
      · exact szOK (by omega) (by kernel_rfl)
      · omega
      · refine ⟨⟨by omega, by omega⟩, ?_⟩
        refine ⟨i, l.length + 1 - i, ⟨by simp [offB, addS_eq], by simp [lenB, endB]⟩, trivial, ?_⟩
        refine ⟨by simp; omega, ?_⟩
        refine ⟨by simp, ?_⟩
        refine ⟨(l.take i ++ [x]).map .i ++ List.replicate (l.length - i) .dead, ?_, ?_⟩
        · have h1 : ((l.map PV.i).take i).length = i := by simp; omega
          have h2 : min [PV.i x].length (l.length + 1 - i) = 1 := by simp; omega
          show ((l.map PV.i).take i ++ List.replicate (l.length + 1 - i) PV.dead).take i ++ [PV.i x].take (min [PV.i x].length (l.length + 1 - i)) ++ ((l.map PV.i).take i ++ List.replicate (l.length + 1 - i) PV.dead).drop (i + min [PV.i x].length (l.length + 1 - i)) = _
          rw [h2, List.take_left' h1, List.drop_append, h1, List.drop_of_length_le (by omega), show i + 1 - i = 1 by omega, List.drop_replicate, show l.length + 1 - i - 1 = l.length - i by omega]
          simp
        refine drawW T_ok (by decide +kernel) ?_
        refine ⟨?_, ?_⟩
        · show 0 ≤ IntKind.i64.wrap ((i : Int) + ((1 : Nat) : Int)) ∧ IntKind.i64.wrap ((i : Int) + ((1 : Nat) : Int)) ≤ ((l.length + 1 : Nat) : Int)
          rw [hw2]; omega
        refine ⟨i + 1, l.length - i, ⟨?_, ?_⟩, trivial, ?_⟩
        · show offB 0 (some (IntKind.i64.wrap ((i : Int) + ((1 : Nat) : Int)))) = _
          rw [hw2]; simp [offB, addS_eq]
        · show lenB _ (some (IntKind.i64.wrap ((i : Int) + ((1 : Nat) : Int)))) none = _
          rw [hw2]; simp [lenB, endB]
        refine ⟨⟨by omega, by omega⟩, ?_⟩
        refine ⟨i, l.length - i, ⟨by simp [offB, addS_eq], by simp [lenB, endB]⟩, .inl ⟨trivial, ?_⟩⟩
        refine ⟨by simp; omega, ?_⟩
        refine ⟨by simp; omega, ?_⟩
        refine ⟨(l.take i ++ x :: l.drop i).map .i, ?_, ?_⟩
        · have h1 : ((l.take i ++ [x]).map PV.i).length = i + 1 := by simp; omega
          have h2 : min (((l.map PV.i).drop i).take (l.length - i)).length (l.length - i) = l.length - i := by simp
          show ((l.take i ++ [x]).map PV.i ++ List.replicate (l.length - i) PV.dead).take (i + 1) ++ (((l.map PV.i).drop i).take (l.length - i)).take (min (((l.map PV.i).drop i).take (l.length - i)).length (l.length - i)) ++ ((l.take i ++ [x]).map PV.i ++ List.replicate (l.length - i) PV.dead).drop (i + 1 + min (((l.map PV.i).drop i).take (l.length - i)).length (l.length - i)) = _
          have h3 : ((l.take i ++ [x]).map PV.i ++ List.replicate (l.length - i) PV.dead).drop (i + 1 + (l.length - i)) = [] := List.drop_of_length_le (by simp; omega)
          have h4 : ((l.map PV.i).drop i).take (l.length - i) = (l.map PV.i).drop i := List.take_of_length_le (by simp)
          rw [h2, List.take_left' h1, h3, List.take_take, Nat.min_self, h4]
          simp
        refine ⟨by kernel_rfl, ?_⟩
        exact ⟨[(1000, 40)], [], ⟨trivial, rfl, MemL.as ⟨⟨_, rfl, MLe.vecEq rfl⟩, ⟨_, rfl, MLe.vecEq rfl⟩, trivial⟩ rfl, rfl⟩⟩
    · have g2' : l.length + 1 ≤ c := by
        have : ¬ IntKind.i64.wrap ((l.length : Int) + ((1 : Nat) : Int)) > ((c - 0 : Nat) : Int) := of_decide_eq_false g2
        rw [hw] at this
        omega
      refine ⟨?_, ?_⟩
      · show 0 ≤ IntKind.i64.wrap ((l.length : Int) + ((1 : Nat) : Int))
        rw [hw]; omega
      refine ⟨0, l.length + 1, ⟨rfl, ?_⟩, .inr ⟨l.map .i ++ [.dead], ⟨?_, ?_⟩, ?_⟩⟩
      · show lenB _ none (some (IntKind.i64.wrap ((l.length : Int) + ((1 : Nat) : Int)))) = _
        rw [hw]; simp [lenB, endB]
      · show 0 + endB _ (some (IntKind.i64.wrap ((l.length : Int) + ((1 : Nat) : Int)))) ≤ c
        rw [hw]; simp [endB]; omega
      · show l.map PV.i ++ List.replicate (0 + endB _ (some (IntKind.i64.wrap ((l.length : Int) + ((1 : Nat) : Int)))) - (l.map PV.i).length) PV.dead = _
        rw [hw]; simp [endB]
      refine ⟨?_, ?_⟩
      · show 0 ≤ IntKind.i64.wrap ((i : Int) + ((1 : Nat) : Int)) ∧ IntKind.i64.wrap ((i : Int) + ((1 : Nat) : Int)) ≤ ((l.length + 1 : Nat) : Int)
        rw [hw2]; omega
      refine ⟨i + 1, l.length - i, ⟨?_, ?_⟩, .inl ⟨trivial, ?_⟩⟩
      · show offB 0 (some (IntKind.i64.wrap ((i : Int) + ((1 : Nat) : Int)))) = _
        rw [hw2]; simp [offB, addS_eq]
      · show lenB _ (some (IntKind.i64.wrap ((i : Int) + ((1 : Nat) : Int)))) none = _
        rw [hw2]; simp [lenB, endB]
      refine ⟨_, _, _, overlapsCall (tS := Tn.sl_api_Id) (tR := Tn.bool) Fd.slices_overlaps_api_Id (by kernel_rfl) (by kernel_rfl) (by kernel_rfl) (by kernel_rfl) (by kernel_rfl) (T_ok Tn.api_Id _ rfl) (by decide) rfl rfl (by omega) (by omega), ?_⟩
      refine drawW T_ok (by decide +kernel) ?_
      refine ⟨?_, ?_⟩
      · show 0 ≤ IntKind.i64.wrap ((i : Int) + ((1 : Nat) : Int)) ∧ IntKind.i64.wrap ((i : Int) + ((1 : Nat) : Int)) ≤ ((l.length + 1 : Nat) : Int)
        rw [hw2]; omega
      refine ⟨i + 1, l.length - i, ⟨?_, ?_⟩, .inl ⟨trivial, ?_⟩⟩
      · show offB 0 (some (IntKind.i64.wrap ((i : Int) + ((1 : Nat) : Int)))) = _
        rw [hw2]; simp [offB, addS_eq]
      · show lenB _ (some (IntKind.i64.wrap ((i : Int) + ((1 : Nat) : Int)))) none = _
        rw [hw2]; simp [lenB, endB]
      refine ⟨⟨by omega, by omega⟩, ?_⟩
      refine ⟨i, l.length + 1 - i, ⟨by simp [offB, addS_eq], by simp [lenB, endB]⟩, .inl ⟨trivial, ?_⟩⟩
      refine ⟨by simp; omega, ?_⟩
      refine ⟨by simp; omega, ?_⟩
      refine ⟨l.map PV.i |>.take (i + 1) |>.append ((l.drop i).map PV.i), ?_, ?_⟩
      · have h2 : min (((l.map PV.i ++ [PV.dead]).drop i).take (l.length + 1 - i)).length (l.length - i) = l.length - i := by simp; omega
        have h3 : (l.map PV.i ++ [PV.dead]).drop (i + 1 + (l.length - i)) = [] := List.drop_of_length_le (by simp; omega)
        show (l.map PV.i ++ [PV.dead]).take (i + 1) ++ (((l.map PV.i ++ [PV.dead]).drop i).take (l.length + 1 - i)).take (min (((l.map PV.i ++ [PV.dead]).drop i).take (l.length + 1 - i)).length (l.length - i)) ++ (l.map PV.i ++ [PV.dead]).drop (i + 1 + min (((l.map PV.i ++ [PV.dead]).drop i).take (l.length + 1 - i)).length (l.length - i)) = (l.map PV.i).take (i + 1) ++ (l.drop i).map PV.i
        have h4 : ((l.map PV.i ++ [PV.dead]).drop i).take (l.length - i) = (l.map PV.i).drop i := by
          rw [List.drop_append_of_le_length (by simp; omega), List.take_append_of_le_length (by simp), List.take_of_length_le (by simp)]
        have h5 : (l.map PV.i ++ [PV.dead]).take (i + 1) = (l.map PV.i).take (i + 1) := List.take_append_of_le_length (by simp; omega)
        rw [h2, h3, List.take_take, Nat.min_eq_left (by omega : l.length - i ≤ l.length + 1 - i), h4, h5]
        simp
      refine ⟨by kernel_rfl, ?_⟩
      have hll : ((l.map PV.i).take (i + 1) ++ (l.drop i).map PV.i).length = l.length + 1 := by simp; omega
      refine ⟨⟨by omega, by omega⟩, ?_⟩
      refine ⟨i, l.length + 1 - i, ⟨by simp [offB, addS_eq], by simp [lenB, endB]⟩, .inl ⟨trivial, ?_⟩⟩
      refine ⟨by show i + (l.length + 1 - i) ≤ ((l.map PV.i).take (i + 1) ++ (l.drop i).map PV.i).length; rw [hll]; omega, ?_⟩
      refine ⟨by simp, ?_⟩
      refine ⟨(l.take i ++ x :: l.drop i).map PV.i, ?_, ?_⟩
      · have h2 : min [PV.i x].length (l.length + 1 - i) = 1 := by simp; omega
        show ((l.map PV.i).take (i + 1) ++ (l.drop i).map PV.i).take i ++ [PV.i x].take (min [PV.i x].length (l.length + 1 - i)) ++ ((l.map PV.i).take (i + 1) ++ (l.drop i).map PV.i).drop (i + min [PV.i x].length (l.length + 1 - i)) = _
        have h1 : ((l.map PV.i).take (i + 1)).length = i + 1 := by simp; omega
        rw [h2, List.drop_left' h1, List.take_append_of_le_length (by omega), List.take_take, Nat.min_eq_left (by omega)]
        simp
      exact ⟨[], [], ⟨trivial, rfl, MemL.as ⟨⟨_, rfl, MLe.vecEq rfl⟩, ⟨_, rfl, MLe.vecEq rfl⟩, trivial⟩ rfl, rfl⟩⟩
end Go.Kn
namespace Go.Kn
open Go
section
variable {P : Program} {G : Gl}
theorem AC.frozen {f : FuncId} {as0 : List IV} {x : IV} {args : List PV} {m : Mem} (hp : Body P f ∧ AC P G f (as0.map .i) [] (.i x) []) (hx : flatI x = true)
    (ha : ∀ (R : Ent) (σ : Gh) (w : World) (vs : List Value), J G R σ m w → RelPs σ args vs → RelPs ⟨frz σ m w, σ.loc⟩ (as0.map .i) vs) : Body P f ∧ AC P G f args m (.i x) m := by
  classical
  refine ⟨hp.1, ?_⟩
  intro σ w vs hj hr
  have hnone : ∀ b x, OwnC σ m b x → σ.h b x = none := fun b x ⟨k, o, lo, hi, e, hl, h1, h2⟩ => by
    obtain ⟨b', lo', hi', q1, q2, q3, _⟩ := hj.inv.obj k o e
    rw [hl] at q1; cases q1
    exact (q3 x h1 h2).1
  have hle : σ.h.le (frz σ m w) := fun b x v e => by
    have : ¬ OwnC σ m b x := fun h => by rw [hnone b x h] at e; cases e
    simp only [frz, if_neg this]; exact e
  have hj0 : J G (Ent.at ⟨frz σ m w, σ.loc⟩ [] w) ⟨frz σ m w, σ.loc⟩ [] w := {
    inv := InvM.nil fun b x v e => by
      simp only [frz] at e
      split at e
      · exact e
      · exact hj.inv.hh b x v e
    glob := fun g cs e => (hj.glob g cs e).mono hle
    hm := Hp.le_refl _
    os := rfl
    tape := rfl
    out := rfl
    sz := Nat.le_refl _
    old := fun _ _ _ => rfl
    hn := fun _ _ _ _ e => e
    own := fun _ _ _ _ _ e => (nomatch e)
    kp := fun _ _ _ e => by simp [Ent.at, lk] at e
    kn := fun _ _ _ _ e => (nomatch e) }
  refine (hp.2 ⟨frz σ m w, σ.loc⟩ w vs hj0 (ha _ σ w vs hj hr)).mono ?_
  rintro e w' ⟨v, σ2, rfl, rv, hj'⟩
  let σ3 : Gh := { h := fun b x => if OwnC σ m b x then none else σ2.h b x, loc := σ.loc }
  have hB : ∀ b, ¬ (Ent.at (⟨frz σ m w, σ.loc⟩ : Gh) [] w).B0 b := fun b ⟨k, o, lo, hi, e, _⟩ => (nomatch e)
  have hold : ∀ b, b < w.heap.size → w'.heap[b]? = w.heap[b]? := fun b hb => hj'.old b hb (hB b)
  have hcell : ∀ b x, b < w.heap.size → w'.cell? ⟨b, x, none⟩ = w.cell? ⟨b, x, none⟩ := fun b x hb => World.cell?_of_block (w := w) (hold b hb)
  have hfro : ∀ b x, b < w.heap.size → w'.frozen? ⟨b, x, none⟩ = w.frozen? ⟨b, x, none⟩ := fun b x hb => World.frozen?_of_block (w := w) (hold b hb)
  have hM : Mono [] σ σ3 := ⟨fun b x v e => by
      have hno : ¬ OwnC σ m b x := fun h => by rw [hnone b x h] at e; cases e
      simp only [σ3, if_neg hno]
      exact hj'.hm _ _ _ (hle _ _ _ e), fun _ _ _ e => e⟩
  refine ⟨v, σ3, rfl, ?_, ?_⟩
  · cases rv with | i _ _ rv => exact .i _ _ (flat_rel hx rv)
  · refine { inv := { hh := fun b x v e => ?_, obj := ?_, dis := hj.inv.dis }, glob := fun g cs e => (hj.glob g cs e).mono hM.h, hm := hM.h, os := hj'.os, tape := hj'.tape, out := hj'.out,
             sz := hj'.sz, old := fun b hb _ => hold b hb, hn := fun b o hb hnb e => ?_, own := hj.own, kp := hj.kp, kn := hj.kn }
    · simp only [σ3] at e
      split at e
      · cases e
      · exact hj'.inv.hh _ _ _ e
    · intro k o e
      obtain ⟨b, lo, hi, q1, q2, q3, q4⟩ := hj.inv.obj k o e
      refine ⟨b, lo, hi, q1, q2, fun x h1 h2 => ?_, ?_⟩
      · obtain ⟨a1, ⟨v, a2⟩, a3⟩ := q3 x h1 h2
        have hb := cell_lt a2
        have hown : OwnC σ m b x := ⟨k, o, lo, hi, e, q1, h1, h2⟩
        exact ⟨if_pos hown, ⟨v, by rw [hcell b x hb]; exact a2⟩, by rw [hfro b x hb]; exact a3⟩
      · cases o with
        | tip => trivial
        | vec s l c =>
          refine q4.vecMono hM.h (fun g hl x => ?_) fun x v _ _ e => by rw [hcell b x (cell_lt e)]; exact e
          rw [hfro b x (own_lt (w := w) (σ := σ) q3 hl)]; exact g hl x
        | var cells =>
          refine ⟨q4.1, fun i p hp => ?_⟩
          obtain ⟨v, r1, r2, r3⟩ := q4.2 i p hp
          exact ⟨v, by rw [hcell b _ (cell_lt r1)]; exact r1, r2.mono0 hM, r3⟩
    · simp only [σ3]
      split
      · rfl
      · rename_i hno
        refine hj'.hn b o hb (hB b) ?_
        show frz σ m w b o = none
        simp only [frz, if_neg hno]; exact e
theorem frozen_row {R : Ent} {σ : Gh} {m : Mem} {w : World} {r s i n : Nat} {l : List IV} {c : Option Nat} {v : Value} (hj : J G R σ m w) (h2 : lk r m = some (.vec s (l.map .i) c)) (hn : i + n ≤ l.length)
    (hv : RelP σ (.vec r s i n) v) : RelI (frz σ m w) (.slice ((l.drop i).take n)) v := by
  have hown : ∀ {b x : Nat}, OwnC σ m b x → frz σ m w b x = w.cell? ⟨b, x, none⟩ := fun h => by simp only [frz, if_pos h]
  have hle := frz_le hj
  obtain ⟨b2, lo2, hi2, d1, d2, d3, d4, d5, d6, cap, d7, d8, _, d9⟩ := hj.inv.obj r _ h2
  have hz : Frozen [(r, .vec s l)] σ ⟨frz σ m w, σ.loc⟩ := ⟨hle, rfl, fun k' s' l' e => by
      simp only [lk] at e
      cases hb : Nat.beq r k' with
      | false => rw [hb] at e; cases e
      | true =>
        rw [hb] at e
        have := Nat.eq_of_beq_eq_true hb
        subst this
        cases e
        refine ⟨b2, lo2, hi2, d1, d4, fun i x hx => ?_⟩
        obtain ⟨e1, e2⟩ := d9 i x (by simp [hx])
        refine ⟨e1, fun j y hy => ?_⟩
        obtain ⟨v, v1, v2, v3⟩ := e2 j y hy
        have hi' := (List.getElem?_eq_some_iff.1 hx).1
        have hj' := (List.getElem?_eq_some_iff.1 hy).1
        have : lo2 + i * s + j < hi2 := by
          have := cell_pos (i := i) (n := cap) (j := j) (s := s) (by simp at d8; omega) (by omega)
          omega
        exact ⟨v, (hown ⟨r, _, lo2, hi2, h2, d1, by omega, this⟩).trans v1, v2.mono hle, v3⟩,
    fun k' cs e => by
      simp only [lk] at e
      cases hb : Nat.beq r k' with
      | false => rw [hb] at e; cases e
      | true => rw [hb] at e; cases e⟩
  exact hz.slice (k := r) (s := s) (l := l) (by simp [lk]) hn hv
def FrzArg (om : Mem) (p : PV) (x : IV) : Prop :=
  iv? p = some x ∨ (∃ (r s n : Nat) (c : Option Nat) (l : List IV), p = .vec r s 0 n ∧ x = .slice (l.take n) ∧ lk r om = some (.vec s (l.map .i) c) ∧ n ≤ l.length) ∨
    ∃ (k r s n : Nat) (c : Option Nat) (l : List IV), p = .ptr k 0 ∧ x = .rptr [.slice l] ∧ lk k om = some (.var [.vec r s 0 n]) ∧ lk r om = some (.vec s (l.map .i) c) ∧ n = l.length
theorem FrzArg.iv {om : Mem} {p : PV} {x : IV} (h : iv? p = some x) : FrzArg om p x := .inl h
theorem FrzArg.vec {om : Mem} {r s n : Nat} {c : Option Nat} {l : List IV} (h : lk r om = some (.vec s (l.map .i) c)) (hn : n = l.length) : FrzArg om (.vec r s 0 n) (.slice l) := .inr (.inl ⟨r, s, n, c, l, rfl, by rw [hn, List.take_length], h, by omega⟩)
theorem FrzArg.vecT {om : Mem} {r s n : Nat} {c : Option Nat} {l : List IV} (h : lk r om = some (.vec s (l.map .i) c)) (hn : n ≤ l.length) : FrzArg om (.vec r s 0 n) (.slice (l.take n)) := .inr (.inl ⟨r, s, n, c, l, rfl, rfl, h, hn⟩)
def FrzAll (om : Mem) : List PV → List IV → Prop
  | [], as0 => as0 = []
  | p :: ps, as0 => match as0 with
    | x :: xs => FrzArg om p x ∧ FrzAll om ps xs
    | [] => False
theorem frozen_ptr {R : Ent} {σ : Gh} {m : Mem} {w : World} {k r s : Nat} {l : List IV} {c : Option Nat} {v : Value} (hj : J G R σ m w) (h1 : lk k m = some (.var [.vec r s 0 l.length])) (h2 : lk r m = some (.vec s (l.map .i) c)) (hv : RelP σ (.ptr k 0) v) :
    RelI (frz σ m w) (.rptr [.slice l]) v := by
  have hown : ∀ {b x : Nat}, OwnC σ m b x → frz σ m w b x = w.cell? ⟨b, x, none⟩ := fun h => by simp only [frz, if_pos h]
  have hle : σ.h.le (frz σ m w) := fun b x u e => by
    have : ¬ OwnC σ m b x := fun ⟨k, o, lo, hi, e1, hl, g1, g2⟩ => by
      obtain ⟨b', lo', hi', q1, q2, q3, _⟩ := hj.inv.obj k o e1
      rw [hl] at q1; cases q1
      rw [(q3 x g1 g2).1] at e; cases e
    simp only [frz, if_neg this]; exact e
  obtain ⟨b, lo, hi, q1, q2, q3, q4, q5⟩ := hj.inv.obj k _ h1
  obtain ⟨b2, lo2, hi2, d1, d2, d3, d4, d5, d6, cap, d7, d8, _, d9⟩ := hj.inv.obj r _ h2
  obtain ⟨u, u1, u2, u3⟩ := q5 0 _ rfl
  cases hv with
  | ptr _ _ L hk =>
    rw [q1] at hk; cases hk
    refine .rptr b (lo + 0) [.slice l] (fun _ => u) (fun i x e => u3) (fun i x e => ?_) (fun i x e => ?_)
    · cases i with
      | zero =>
        rw [hown ⟨k, _, lo, hi, h1, q1, by omega, by simp at q4; omega⟩]
        exact u1
      | succ i => cases e
    · cases i with
      | succ i => cases e
      | zero =>
        cases e
        have hz : Frozen [(r, .vec s l)] σ ⟨frz σ m w, σ.loc⟩ := ⟨hle, rfl, fun k' s' l' e => by
            simp only [lk] at e
            cases hb : Nat.beq r k' with
            | false => rw [hb] at e; cases e
            | true =>
              rw [hb] at e
              have := Nat.eq_of_beq_eq_true hb
              subst this
              cases e
              refine ⟨b2, lo2, hi2, d1, d4, fun i x hx => ?_⟩
              obtain ⟨e1, e2⟩ := d9 i x (by simp [hx])
              refine ⟨e1, fun j y hy => ?_⟩
              obtain ⟨v, v1, v2, v3⟩ := e2 j y hy
              have hi' := (List.getElem?_eq_some_iff.1 hx).1
              have hj' := (List.getElem?_eq_some_iff.1 hy).1
              have : lo2 + i * s + j < hi2 := by
                have := cell_pos (i := i) (n := cap) (j := j) (s := s) (by simp at d8; omega) (by omega)
                omega
              exact ⟨v, (hown ⟨r, _, lo2, hi2, h2, d1, by omega, this⟩).trans v1, v2.mono hle, v3⟩,
          fun k' cs e => by
            simp only [lk] at e
            cases hb : Nat.beq r k' with
            | false => rw [hb] at e; cases e
            | true => rw [hb] at e; cases e⟩
        have := hz.slice (k := r) (s := s) (i := 0) (n := l.length) (l := l) (by simp [lk]) (by simp) u2
        simpa using this
theorem FrzAll.args {om : Mem} : ∀ {ps : List PV} {as0 : List IV}, FrzAll om ps as0 → FrzArgs G om ps as0
  | [], as0, h => by
    simp only [FrzAll] at h; subst h
    exact fun R σ w vs hj hr => ⟨hr.1, fun i p v e => by simp at e⟩
  | p :: ps, as0, h => by
    simp only [FrzAll] at h
    split at h
    · rename_i x xs
      intro R σ w vs hj hr
      obtain ⟨v, vs, rfl⟩ : ∃ v vs', vs = v :: vs' := by
        cases vs with
        | nil => have := hr.1; simp at this
        | cons v vs' => exact ⟨v, vs', rfl⟩
      have hrest := FrzAll.args h.2 R σ w vs hj ⟨by simpa using hr.1, fun i p v e1 e2 => hr.2 (i + 1) p v (by simpa using e1) (by simpa using e2)⟩
      have hv := hr.2 0 p v rfl rfl
      refine ⟨by simpa using hrest.1, fun i q u e1 e2 => ?_⟩
      cases i with
      | succ i => exact hrest.2 i q u (by simpa using e1) (by simpa using e2)
      | zero =>
        simp at e1 e2; subst e1; subst e2
        rcases h.1 with h1 | ⟨r, s, n, c, l, rfl, rfl, h2, h4⟩ | ⟨k, r, s, n, c, l, rfl, rfl, h2, h3, rfl⟩
        · exact .i _ _ ((hv.iv h1).mono (frz_le hj))
        · have := frozen_row hj h2 (i := 0) (n := n) (by omega) hv
          rw [List.drop_zero] at this
          exact .i _ _ this
        · exact .i _ _ (frozen_ptr hj h2 h3 hv)
    · exact h.elim
end
end Go.Kn
set_option maxRecDepth 100000
namespace Go.Kn
open Go Go.Proofs
variable {G : Gl}
theorem compare_ok (x y : Id) : PureC Pg G Fn.graph_compare [encId x, encId y] (.int .i64 (idCmp x y)) := by
  refine pureC_of T_ok Fd.graph_compare rfl (by kernel_rfl) ?_
  refine drawW T_ok (by decide +kernel) ?_
  refine ⟨⟨by decide, by decide, by decide, by decide⟩, ?_⟩
  refine ⟨⟨by decide, by decide, by decide, by decide⟩, ?_⟩
  have hc := slicesCompare_ok (G := G) x y [] []
  refine .inl ⟨[(1000, 2), (1001, 3)], _, _, _, _, ⟨hc.1, hc.2, ⟨rfl, rfl, rfl⟩, MemL.as ⟨⟨_, rfl, MLe.refl _⟩, ⟨_, rfl, MLe.refl _⟩, trivial⟩ rfl, rfl⟩, ?_⟩
  refine ⟨by kernel_rfl, ?_⟩
  rfl
def RiseK (l : List Id) : Prop := l.Pairwise fun a b => a.key < b.key
def lowK (l : List Id) (y : Id) : Nat := (l.takeWhile fun a => decide (a.key < y.key)).length
def hasK (l : List Id) (y : Id) : Bool := l.any fun a => decide (a = y)
theorem lowK_eq {l : List Id} {y : Id} {i : Nat} (h : i ≤ l.length) (h1 : ∀ (k : Nat) (x : Id), k < i → l[k]? = some x → x.key < y.key) (h2 : ∀ (k : Nat) (x : Id), i ≤ k → l[k]? = some x → y.key ≤ x.key) : lowK l y = i :=
  takeWhile_len _ l i h (fun k x hk e => decide_eq_true (h1 k x hk e)) (fun k x hk e => decide_eq_false (by have := h2 k x hk e; omega))
theorem RiseK.get {l : List Id} (h : RiseK l) {i j : Nat} {a b : Id} (hij : i < j) (ha : l[i]? = some a) (hb : l[j]? = some b) : a.key < b.key := by
  obtain ⟨hi, rfl⟩ := List.getElem?_eq_some_iff.1 ha
  obtain ⟨hj, rfl⟩ := List.getElem?_eq_some_iff.1 hb
  exact List.pairwise_iff_getElem.1 h i j hi hj hij
def bkE (l : List Id) (i j : Nat) : Env := [(0, .i (.slice (l.map encId))), (2, .i (.func (.func Fn.graph_compare) [])), (4, .ptr 4 0), (8, .i (.int .i64 (l.length : Int))), (9, .i (.int .i64 (i : Int))), (10, .i (.int .i64 (j : Int)))]
def bkM (y : Id) : Mem := [(4, .var ((idC y).map .i))]
theorem binarySearchK_ok (l : List Id) (y : Id) (hr : RiseK l) (hl : l.length < 1000000) : Body Pg Fn.slices_BinarySearchFunc_graph_set_api_Id_api_Id ∧ AC Pg G Fn.slices_BinarySearchFunc_graph_set_api_Id_api_Id ([.slice (l.map encId), encId y, .func (.func Fn.graph_compare) []].map .i) [] (.i (.tup [.int .i64 (lowK l y : Int), .bool (hasK l y)])) [] := by
  refine pureB_of T_ok Fd.slices_BinarySearchFunc_graph_set_api_Id_api_Id rfl (by kernel_rfl) ?_
  refine CW.next T_ok ?_
  refine CW.next T_ok ?_
  refine CW.next T_ok ?_
  refine CW.cut T_ok (S := Nat) (fun i => bkE l i i) (fun _ => bkM y)
    (fun i => i ≤ l.length ∧ (∀ (k : Nat) (x : Id), k < i → l[k]? = some x → x.key < y.key) ∧ (∀ (k : Nat) (x : Id), i ≤ k → l[k]? = some x → y.key ≤ x.key)) ?_ ?_
  · refine loopX T_ok 0 (S := Nat × Nat) (S' := Nat) (fun s => bkE l s.1 s.2) (fun _ => bkM y) (fun s => s.2 - s.1)
      (fun s => s.1 ≤ s.2 ∧ s.2 ≤ l.length ∧ (∀ (k : Nat) (x : Id), k < s.1 → l[k]? = some x → x.key < y.key) ∧ (∀ (k : Nat) (x : Id), s.2 ≤ k → l[k]? = some x → y.key ≤ x.key))
      (fun i => bkE l i i) (fun _ => bkM y) (fun i => i ≤ l.length ∧ (∀ (k : Nat) (x : Id), k < i → l[k]? = some x → x.key < y.key) ∧ (∀ (k : Nat) (x : Id), i ≤ k → l[k]? = some x → y.key ≤ x.key))
      (0, l.length) ⟨rfl, rfl, rfl, ?_, rfl, ?_, trivial⟩ ⟨rfl, trivial⟩ ⟨by simp, by simp, (fun k x h => by simp at h), fun k x h e => by
        have := (List.getElem?_eq_some_iff.1 e).1; omega⟩ ?_ ?_
    · show some (PV.i (.int .i64 ((l.map encId).length : Int))) = _
      simp
    · show some (PV.i (.int .i64 ((l.map encId).length : Int))) = _
      simp
    · rintro ⟨i, j⟩ ⟨h1, h2, h3, h4⟩
      simp only at h1 h2 h3 h4
      refine condP.split (fun g => ?_) (fun g => ?_)
      · have g' : i < j := by have : (i : Int) < j := of_decide_eq_true g; omega
        have hh := half (i := i) (j := j) (by omega)
        have hlt : (i + j) / 2 < l.length := by omega
        have hget : l[(i + j) / 2]? = some l[(i + j) / 2] := List.getElem?_eq_getElem hlt
        refine ⟨by decide, ?_⟩
        refine drawW T_ok (by decide +kernel) ?_
        refine ⟨encId l[(i + j) / 2], ⟨?_, ?_⟩, ?_⟩
        · show 0 ≤ IntKind.i64.wrap ((IntKind.u64.wrap (IntKind.i64.wrap ((i : Int) + (j : Int)))).fdiv (2 ^ (min (1 : Int).toNat 64)))
          rw [hh]; omega
        · show (l.map encId)[(IntKind.i64.wrap ((IntKind.u64.wrap (IntKind.i64.wrap ((i : Int) + (j : Int)))).fdiv (2 ^ (min (1 : Int).toNat 64)))).toNat]? = _
          rw [hh, Int.toNat_natCast, List.getElem?_map, hget]; rfl
        refine ⟨_, _, ⟨rfl, compare_ok l[(i + j) / 2] y⟩, ?_⟩
        refine ⟨by kernel_rfl, ?_⟩
        refine condP.split (fun g2 => ?_) (fun g2 => ?_)
        · have g2' : l[(i + j) / 2].key < y.key := (idCmp_lt _ _).1 (of_decide_eq_true g2)
          refine ⟨((i + j) / 2 + 1, j), ⟨by simp only; omega, by simp only; omega, h2, fun k x hk e => ?_, h4⟩, ⟨rfl, rfl, rfl, rfl, ?_, rfl, trivial⟩, ⟨rfl, trivial⟩⟩
          · by_cases hke : k = (i + j) / 2
            · subst hke; rw [hget] at e; cases e; exact g2'
            · exact Nat.lt_trans (hr.get (show k < (i + j) / 2 by simp only at hk; omega) e hget) g2'
          · show some (PV.i (IV.int .i64 (IntKind.i64.wrap (IntKind.i64.wrap ((IntKind.u64.wrap (IntKind.i64.wrap ((i : Int) + (j : Int)))).fdiv (2 ^ (min (1 : Int).toNat 64))) + 1)))) = _
            rw [hh, int_succ (by omega)]
        · have g2' : y.key ≤ l[(i + j) / 2].key := by
            have h : ¬ idCmp l[(i + j) / 2] y < 0 := of_decide_eq_false g2
            rw [idCmp_lt] at h; omega
          refine ⟨(i, (i + j) / 2), ⟨by simp only; omega, by simp only; omega, by simp only; omega, h3, fun k x hk e => ?_⟩, ⟨rfl, rfl, rfl, rfl, rfl, ?_, trivial⟩, ⟨rfl, trivial⟩⟩
          · by_cases hke : k = (i + j) / 2
            · subst hke; rw [hget] at e; cases e; exact g2'
            · have := hr.get (show (i + j) / 2 < k by simp only at hk; omega) hget e
              omega
          · show some (PV.i (IV.int .i64 (IntKind.i64.wrap ((IntKind.u64.wrap (IntKind.i64.wrap ((i : Int) + (j : Int)))).fdiv (2 ^ (min (1 : Int).toNat 64)))))) = _
            rw [hh]
      · have g' : i = j := by have : ¬ (i : Int) < j := of_decide_eq_false g; omega
        subst g'
        exact ⟨i, ⟨h2, h3, h4⟩, ⟨rfl, rfl, rfl, rfl, rfl, rfl, trivial⟩, ⟨rfl, trivial⟩⟩
    · intro i hi
      exact ⟨i, hi, ⟨rfl, rfl, rfl, rfl, rfl, rfl, trivial⟩, ⟨rfl, trivial⟩⟩
  · rintro i ⟨h1, h2, h3⟩
    have hlow := lowK_eq h1 h2 h3
    refine CW.go T_ok ?_
    refine drawW T_ok (by decide +kernel) ?_
    refine condP.split (fun g => ?_) (fun g => ?_)
    · have g' : i < l.length := by have : (i : Int) < l.length := of_decide_eq_true g; omega
      have hget : l[i]? = some l[i] := List.getElem?_eq_getElem g'
      refine ⟨encId l[i], ⟨by omega, by show (l.map encId)[(i : Int).toNat]? = _; simp [hget]⟩, ?_⟩
      refine ⟨_, _, ⟨rfl, compare_ok l[i] y⟩, ?_⟩
      refine ⟨by kernel_rfl, ?_⟩
      have hh : hasK l y = (idCmp l[i] y == 0) := by
        rw [Bool.eq_iff_iff, hasK, List.any_eq_true, beq_iff_eq, idCmp_zero]
        constructor
        · rintro ⟨x, hx, hxy⟩
          have hxy := of_decide_eq_true hxy
          obtain ⟨k, hk, rfl⟩ := List.getElem_of_mem hx
          have hgk : l[k]? = some l[k] := List.getElem?_eq_getElem hk
          rcases Nat.lt_trichotomy k i with hlt | heq | hlt
          · have := h2 k _ hlt hgk; rw [hxy] at this; omega
          · subst heq; exact hxy
          · have h5 := hr.get hlt hget hgk
            have h6 := h3 i _ (Nat.le_refl _) hget
            rw [hxy] at h5; omega
        · intro h
          exact ⟨l[i], List.getElem_mem _, decide_eq_true h⟩
      rw [hh, hlow]
      rfl
    · have g' : i = l.length := by have : ¬ (i : Int) < l.length := of_decide_eq_false g; omega
      refine ⟨by kernel_rfl, ?_⟩
      have hh : hasK l y = false := by
        rw [hasK, Bool.eq_false_iff]
        intro h
        obtain ⟨x, hx, hxy⟩ := List.any_eq_true.1 h
        have hxy := of_decide_eq_true hxy
        obtain ⟨k, hk, rfl⟩ := List.getElem_of_mem hx
        have := h2 k _ (by omega) (List.getElem?_eq_getElem hk)
        rw [hxy] at this; omega
      rw [hh, hlow]
      rfl
end Go.Kn
set_option maxRecDepth 100000
namespace Go.Kn
open Go Go.Proofs
variable {G : Gl}
def idsP (l : List Id) : List PV := (l.map encId).map .i
def bsV (l : List Id) (y : Id) : IV := .tup [.int .i64 (lowK l y : Int), .bool (hasK l y)]
theorem bsRow_ok (l : List Id) (y : Id) (hr : RiseK l) (hl : l.length < 1000000) {m : Mem} {k : Nat} (hm : lk k m = some (.vec 32 (idsP l) none)) :
    FrzC Pg G Fn.slices_BinarySearchFunc_graph_set_api_Id_api_Id [.slice (l.map encId), encId y, .func (.func Fn.graph_compare) []] (bsV l y) [.vec k 32 0 l.length, .i (encId y), .i (.func (.func Fn.graph_compare) [])] m :=
  ⟨binarySearchK_ok (G := G) l y hr hl, rfl, FrzAll.args ⟨.vec hm (by simp), .iv rfl, .iv rfl, rfl⟩⟩
def addK (l : List Id) (y : Id) : List Id := if hasK l y then l else l.take (lowK l y) ++ y :: l.drop (lowK l y)
theorem lowK_le (l : List Id) (y : Id) : lowK l y ≤ l.length := (List.takeWhile_sublist _).length_le
theorem insK_len (l : List Id) (y : Id) : (l.take (lowK l y) ++ y :: l.drop (lowK l y)).length = l.length + 1 := by
  have := lowK_le l y
  simp; omega
theorem insK_enc (l : List Id) (y : Id) : ((l.map encId).take (lowK l y) ++ encId y :: (l.map encId).drop (lowK l y)).map PV.i = idsP (l.take (lowK l y) ++ y :: l.drop (lowK l y)) := by
  simp [idsP, List.map_take, List.map_drop]
def setM1 (l : List Id) : Mem := [(1000, .var [.vec 1001 32 0 l.length]), (1001, .vec 32 (idsP l) none)]
theorem setM1_ins (l : List Id) (y : Id) : setM1 (l.take (lowK l y) ++ y :: l.drop (lowK l y)) = [(1000, .var [.vec 1001 32 0 (l.length + 1)]), (1001, .vec 32 (idsP (l.take (lowK l y) ++ y :: l.drop (lowK l y))) none)] := by
  rw [setM1, insK_len]
set_option maxHeartbeats 1000000 in
theorem add_ok (l : List Id) (y : Id) (hr : RiseK l) (hl : l.length < 900000) :
    Body Pg Fn.graph_set_add ∧ AC Pg G Fn.graph_set_add [.ptr 1000 0, .i (encId y)] (setM1 l) (.i (.bool (!hasK l y))) (setM1 (addK l y)) := by
  have hb := bsRow_ok (G := G) l y hr (by omega) (m := [(1001, .vec 32 (idsP l) none)]) (k := 1001) rfl
  refine acW_of (T_ok.vec [23]) Fd.graph_set_add rfl (by kernel_rfl) ?_
  refine CW.next (T_ok.vec [23]) ?_
  refine CW.cut (T_ok.vec [23]) (S := Unit) (fun _ => [(0, .ptr 1000 0), (3, .ptr 3 0), (5, .i (.int .i64 (lowK l y : Int))), (6, .i (.bool (hasK l y)))]) (fun _ => (3, .var ((idC y).map .i)) :: setM1 l) (fun _ => True) ?_ ?_
  · refine drawW (T_ok.vec [23]) (by decide +kernel) ?_
    refine .inr ⟨_, _, hb, ?_⟩
    refine ⟨by kernel_rfl, ?_⟩
    exact ⟨(), trivial, ⟨rfl, rfl, rfl, rfl, trivial⟩, ⟨rfl, rfl, rfl, trivial⟩⟩
  intro _ _
  refine CW.go (T_ok.vec [23]) ?_
  cases hh : hasK l y with
  | true =>
    have h1 : addK l y = l := by simp [addK, hh]
    rw [h1]
    exact retSame rfl (MemL.as ⟨⟨_, rfl, MLe.refl _⟩, ⟨_, rfl, MLe.vecEq rfl⟩, trivial⟩ rfl)
  | false =>
    have h1 : addK l y = l.take (lowK l y) ++ y :: l.drop (lowK l y) := by simp [addK, hh]
    have hins := insert_id (G := G) (l := l.map encId) (x := encId y) (i := lowK l y) (by simpa using lowK_le l y) (fun z hz => by
      obtain ⟨a, _, rfl⟩ := List.mem_map.1 hz; exact encId_len a) (encId_len _) (by simp; omega)
    rw [insK_enc l y, List.length_map] at hins
    rw [h1, setM1_ins]
    refine drawW (T_ok.vec [23]) (by decide +kernel) ?_
    refine .inl ⟨[(1000, 1001), (1001, 23)], _, _, _, _, ⟨hins.1, hins.2, ⟨rfl, rfl, rfl, rfl⟩, MemL.as ⟨⟨_, rfl, MLe.vecEq rfl⟩, ⟨_, rfl, MLe.vecEq rfl⟩, trivial⟩ rfl, rfl⟩, ?_⟩
    refine ⟨by kernel_rfl, ?_⟩
    exact retSame rfl (MemL.as ⟨⟨_, rfl, MLe.refl _⟩, ⟨_, rfl, MLe.vecEq rfl⟩, trivial⟩ rfl)
end Go.Kn
namespace Go.Kn
open Go
def u32 (x : UInt32) : IV := .int .u32 (x.toNat : Int)
def w32 (n : Nat) (f : Nat → UInt32) : List IV := (List.range n).map fun i => u32 (f i)
theorem w32_len (n : Nat) (f : Nat → UInt32) : (w32 n f).length = n := by simp [w32]
theorem w32_get (f : Nat → UInt32) {n i : Nat} (h : i < n) : ((w32 n f).map PV.i)[i]? = some (.i (u32 (f i))) := by simp [w32, h]
theorem w32_get' (f : Nat → UInt32) {n i : Nat} (h : i < n) : (w32 n f)[i]? = some (u32 (f i)) := by simp [w32, h]
theorem w32_drop (f : Nat → UInt32) {n i : Nat} (h : i < n) : ((w32 n f).drop i)[0]? = some (u32 (f i)) := by simp [w32, h]
theorem w32_congr {n : Nat} {f g : Nat → UInt32} (h : ∀ i, i < n → f i = g i) : w32 n f = w32 n g := by
  apply List.map_congr_left
  intro i hi
  rw [h i (by simpa using hi)]
theorem list_set {α : Type} (l : List α) {i : Nat} {x : α} (h : i < l.length) : l.take i ++ [x] ++ l.drop (i + 1) = l.set i x := by
  rw [List.set_eq_take_append_cons_drop, if_pos h]; simp
theorem w32_set (f : Nat → UInt32) {n i : Nat} (h : i < n) (v : UInt32) (g : Nat → UInt32) (hg : ∀ j, j < n → g j = if j = i then v else f j) :
    ((w32 n f).map PV.i).take i ++ [PV.i (u32 v)] ++ ((w32 n f).map PV.i).drop (i + 1) = (w32 n g).map PV.i := by
  rw [list_set _ (by simp [w32_len]; exact h)]
  apply List.ext_getElem?
  intro j
  rw [List.getElem?_set]
  by_cases hj : i = j
  · subst hj
    rw [if_pos rfl, if_pos (by simp [w32_len]; exact h), w32_get g h, hg i h, if_pos rfl]
  · rw [if_neg hj]
    by_cases hjn : j < n
    · rw [w32_get f hjn, w32_get g hjn, hg j hjn, if_neg (Ne.symm hj)]
    · rw [List.getElem?_eq_none (by simp [w32_len]; omega), List.getElem?_eq_none (by simp [w32_len]; omega)]
theorem w32_store (f : Nat → UInt32) {n i k : Nat} {x : IV} {v : UInt32} {g : Nat → UInt32} (hk : k = i) (hx : x = u32 v) (h : i < n) (hg : ∀ j, j < n → g j = if j = i then v else f j) :
    some (MO.var (((w32 n f).map PV.i).take k ++ [PV.i x] ++ ((w32 n f).map PV.i).drop (k + 1))) = some (.var ((w32 n g).map PV.i)) := by
  subst hk; subst hx; rw [w32_set f h v g hg]
theorem u32_add (a b : UInt32) : IntKind.u32.wrap ((a.toNat : Int) + (b.toNat : Int)) = ((a + b).toNat : Int) := by
  rw [wrap_u32_mod, UInt32.toNat_add]
  have : (2 : Nat) ^ 32 = 4294967296 := by decide
  omega
theorem wraps_u32 (n : Int) (h0 : 0 ≤ n) (h1 : n < 2 ^ 32) : IntKind.u32.wrap n = n := by
  rw [wrap_u32_mod]
  have : (2 : Int) ^ 32 = 4294967296 := by decide
  omega
theorem u32_lt (a : UInt32) : a.toNat < 4294967296 := a.toNat_lt
theorem u32_wrap (a : UInt32) : IntKind.u32.wrap (a.toNat : Int) = (a.toNat : Int) := by
  have := u32_lt a
  rw [wrap_u32_mod]; omega
theorem u32_and (a b : UInt32) : Go.bits .and .u32 (a.toNat : Int) (b.toNat : Int) = ((a &&& b).toNat : Int) := by
  rw [(bits_nat .u32 32 (by decide) wraps_u32 a.toNat b.toNat a.toNat_lt b.toNat_lt).1, UInt32.toNat_and]
theorem u32_or (a b : UInt32) : Go.bits .or .u32 (a.toNat : Int) (b.toNat : Int) = ((a ||| b).toNat : Int) := by
  rw [(bits_nat .u32 32 (by decide) wraps_u32 a.toNat b.toNat a.toNat_lt b.toNat_lt).2, UInt32.toNat_or]
theorem bv_ofInt (a : UInt32) : BitVec.ofInt 32 (a.toNat : Int) = a.toBitVec := by
  apply BitVec.eq_of_toNat_eq
  rw [BitVec.ofInt_natCast, BitVec.toNat_ofNat]
  exact Nat.mod_eq_of_lt a.toNat_lt
theorem u32_xor (a b : UInt32) : Go.bits .xor .u32 (a.toNat : Int) (b.toNat : Int) = ((a ^^^ b).toNat : Int) := by
  show IntKind.u32.wrap (((BitVec.ofInt 32 (a.toNat : Int)) ^^^ (BitVec.ofInt 32 (b.toNat : Int))).toNat : Int) = _
  rw [bv_ofInt, bv_ofInt]
  exact u32_wrap (a ^^^ b)
theorem u32_not (a : UInt32) : Go.bits .xor .u32 (if IntKind.u32.signed then -1 else IntKind.u32.max) (a.toNat : Int) = ((~~~a).toNat : Int) := by
  have h : (if IntKind.u32.signed then (-1 : Int) else IntKind.u32.max) = (((0xFFFFFFFF : UInt32)).toNat : Int) := by decide
  rw [h, u32_xor]
  congr 2
theorem pow_cast (n : Nat) : (2 : Int) ^ n = ((2 ^ n : Nat) : Int) := by rw [Int.natCast_pow]; rfl
theorem u32_shr (a : UInt32) (n : Nat) (h : n < 32) : (a.toNat : Int).fdiv (2 ^ (min n 32)) = ((a >>> (UInt32.ofNat n)).toNat : Int) := by
  have h2 : (UInt32.ofNat n).toNat % 32 = n := by rw [UInt32.toNat_ofNat', show (2 : Nat) ^ 32 = 4294967296 by decide]; omega
  rw [Nat.min_eq_left (by omega), UInt32.toNat_shiftRight, h2, Nat.shiftRight_eq_div_pow, pow_cast, Int.fdiv_eq_ediv_of_nonneg _ (Int.natCast_nonneg _)]
  exact (Int.natCast_ediv _ _).symm
theorem u32_shl (a : UInt32) (n : Nat) (h : n < 32) : IntKind.u32.wrap ((a.toNat : Int) * 2 ^ (min n 32)) = ((a <<< (UInt32.ofNat n)).toNat : Int) := by
  have h2 : (UInt32.ofNat n).toNat % 32 = n := by rw [UInt32.toNat_ofNat', show (2 : Nat) ^ 32 = 4294967296 by decide]; omega
  rw [Nat.min_eq_left (by omega), UInt32.toNat_shiftLeft, h2, wrap_u32_mod, Nat.shiftLeft_eq, pow_cast]
  have e : (2 : Nat) ^ 32 = 4294967296 := by decide
  rw [e, ← Int.natCast_mul]
  omega
end Go.Kn
set_option maxRecDepth 100000
namespace Go.Kn
open Go Go.Proofs
variable {G : Gl}
def rotl (x : UInt32) (n : Nat) : UInt32 := (x <<< UInt32.ofNat n) ||| (x >>> UInt32.ofNat (32 - n))
theorem rotl_ok (x : UInt32) (k : Int) (n : Nat) (h0 : 0 < n) (h1 : n < 32) (hk : Go.bits .and .u64 (IntKind.u64.wrap k) 31 = (n : Int)) : PureC Pg G Fn.math_bits_RotateLeft32 [u32 x, .int .i64 k] (u32 (rotl x n)) := by
  refine pureC_of T_ok Fd.math_bits_RotateLeft32 rfl (by kernel_rfl) ?_
  refine ⟨by show 0 ≤ Go.bits .and .u64 (IntKind.u64.wrap k) 31; rw [hk]; omega, ?_⟩
  refine ⟨by show 0 ≤ IntKind.u64.wrap (32 - Go.bits .and .u64 (IntKind.u64.wrap k) 31); rw [hk, wrap_u64 (by omega) (by omega)]; omega, ?_⟩
  show some (IV.int .u32 (Go.bits .or .u32 (IntKind.u32.wrap ((x.toNat : Int) * 2 ^ (min (Go.bits .and .u64 (IntKind.u64.wrap k) 31).toNat 32))) ((x.toNat : Int).fdiv (2 ^ (min (IntKind.u64.wrap (32 - Go.bits .and .u64 (IntKind.u64.wrap k) 31)).toNat 32))))) = some (u32 (rotl x n))
  rw [hk, wrap_u64 (a := 32 - (n : Int)) (by omega) (by omega), show (32 - (n : Int)).toNat = 32 - n by omega, Int.toNat_natCast, u32_shl x n h1, u32_shr x (32 - n) (by omega), u32_or]
  rfl
end Go.Kn
