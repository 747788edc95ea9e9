/- Kn, part 9: cutting, conversions, len, min, copy. No program here. -/
import Derived.Test.YtiibdlpfgmeifaaGreatDoorKn01
import Derived.Laws.Externs
import Derived.Lib.Overlaps
set_option autoImplicit false
namespace Go.Kn
open Go
section
variable {P : Program} {G : Gl} {o : Oper} {env : Env} {m : Mem}
def evalB (G : Gl) (env : Env) : Option Operand → Option (Option Int)
  | none => some none
  | some x => match evalO G env x with
    | some (.i (.int _ n)) => some (some n)
    | _ => none
theorem evalB_rel {R : Ent} {σ : Gh} {a : Act} {w : World} (he : EnvOK σ env a) (hj : J G R σ m w) {b : Option Operand} {r : Option Int} (h : evalB G env b = some r) :
    (b.map a.eval = none ∧ r = none) ∨ ∃ k n, b.map a.eval = some (.int k n) ∧ r = some n := by
  cases b with
  | none => simp only [evalB] at h; cases h; exact .inl ⟨rfl, rfl⟩
  | some x =>
    simp only [evalB] at h
    split at h
    · rename_i k n e
      cases h
      exact .inr ⟨k, n, by simp [rel_int (evalO_rel he hj e)], rfl⟩
    · cases h
theorem run_sliceBounds {s : Bool} {len cap : Nat} {lo hi : Option Value} {l h : Option Int} (hl : (lo = none ∧ l = none) ∨ ∃ k n, lo = some (.int k n) ∧ l = some n)
    (hh : (hi = none ∧ h = none) ∨ ∃ k n, hi = some (.int k n) ∧ h = some n) (h0 : 0 ≤ l.getD 0) (h1 : l.getD 0 ≤ h.getD len) (h2 : h.getD len ≤ len) (hc : len ≤ cap) (w : World) :
    (Instr.sliceBounds s len cap lo hi none).run P w = .ok ((l.getD 0).toNat, (h.getD len).toNat, cap) w := by
  have hcc : (len : Int) ≤ cap := by exact_mod_cast hc
  rcases hl with ⟨rfl, rfl⟩ | ⟨k, n, rfl, rfl⟩ <;> rcases hh with ⟨rfl, rfl⟩ | ⟨k', n', rfl, rfl⟩ <;> simp only [Option.getD_none, Option.getD_some] at h0 h1 h2 ⊢
  · simp [Instr.sliceBounds]
  · have g1 : 0 ≤ n' ∧ n' ≤ (cap : Int) := ⟨by omega, by omega⟩
    simp [Instr.sliceBounds, Instr.sliceBound, asIntOf, g1]
  · have g1 : 0 ≤ n ∧ n ≤ (len : Int) := ⟨by omega, by omega⟩
    simp [Instr.sliceBounds, Instr.sliceBound, asIntOf, g1]
  · have g1 : 0 ≤ n' ∧ n' ≤ (cap : Int) := ⟨by omega, by omega⟩
    have g2 : 0 ≤ n ∧ n ≤ (n'.toNat : Int) := ⟨by omega, by omega⟩
    simp [Instr.sliceBounds, Instr.sliceBound, asIntOf, g1]
    intro _
    omega
theorem extract_mk (s : List UInt8) (i j : Nat) : (⟨s.toArray⟩ : ByteArray).extract i j = ⟨((s.take j).drop i).toArray⟩ := by
  apply ByteArray.ext
  simp [ByteArray.data_extract, List.extract_eq_take_drop, List.drop_take]
theorem step_slice_str {t : Nat} {x : Operand} {lo hi : Option Operand} {s : List UInt8} {l h : Option Int} (ho : o.op = .slice t x lo hi none) (ht : P.underlying t = some .string)
    (hp : evalO G env x = some (.i (.str s))) (hl : evalB G env lo = some l) (hh : evalB G env hi = some h) (h0 : 0 ≤ l.getD 0) (h1 : l.getD 0 ≤ h.getD s.length) (h2 : h.getD s.length ≤ s.length) :
    SV P G o env m (.i (.str ((s.take (h.getD s.length).toNat).drop (l.getD 0).toNat))) := by
  refine fun R σ a w he hj => ⟨_, .i _ _ (.str _), ?_⟩
  have r := rel_str (evalO_rel he hj hp)
  have hsz : (⟨s.toArray⟩ : ByteArray).size = s.length := by simp [ByteArray.size]
  have hb := run_sliceBounds (P := P) (s := false) (len := s.length) (cap := s.length) (evalB_rel he hj hl) (evalB_rel he hj hh) h0 h1 h2 (Nat.le_refl _) w
  simp only [execOp, ho, r, Instr.sliceAt, Sem.run_bind, run_underlying ht, Result.andThen_ok, Instr.slice, hsz, Option.map_none, Option.isSome_none, Bool.false_eq_true, if_false, hb, Sem.run_pure]
  rw [extract_mk]
theorem RelI.cut {h : Hp} {l : List IV} {a : Option Addr} {cap size : Nat} (r : RelI h (.slice l) (.slice a l.length cap)) (hs : ∀ x ∈ l, x.cells.length = size) (i j : Nat) (hij : i ≤ j) (hj : j ≤ l.length) :
    RelI h (.slice ((l.take j).drop i)) (.slice (if cap = i then a else a.map (·.add (i * size))) (j - i) (cap - i)) := by
  have hlen : ((l.take j).drop i).length = j - i := by simp; omega
  generalize hn : l.length = n at r
  cases r with
  | nilS =>
    have : i = 0 := by simp at hj; omega
    have : j = 0 := by simp at hj; omega
    subst_vars
    simpa using RelI.nilS
  | oddS b o k =>
    have : i = 0 := by simp at hj; omega
    have : j = 0 := by simp at hj; omega
    subst_vars
    simpa using RelI.oddS b o k
  | slice b o c s _ f hcap hs' h1 hc hr =>
    by_cases he : (l.take j).drop i = []
    · rw [he]
      have hji : j - i = 0 := by rw [← hlen, he]; rfl
      rw [hji]
      have : ∃ b' o', (if cap = i then some (⟨b, o, none⟩ : Addr) else (some (⟨b, o, none⟩ : Addr)).map (·.add (i * size))) = some ⟨b', o', none⟩ := by
        split
        · exact ⟨_, _, rfl⟩
        · exact ⟨b, o + i * size, by simp [add_plain]⟩
      obtain ⟨b', o', e⟩ := this
      rw [e]
      exact .slice b' o' (cap - i) size [] (fun _ _ => undef) (Nat.zero_le _) (by simp) (by simp) (by simp) (by simp)
    · have hss : s = size := by
        have hne : l ≠ [] := fun e => he (by simp [e])
        obtain ⟨x, r, rfl⟩ := List.exists_cons_of_ne_nil hne
        rw [← hs' 0 x rfl]; exact hs x (by simp)
      subst hss
      have hilt : i < j := by
        rcases Nat.lt_or_ge i j with h | h
        · exact h
        · exact absurd (List.eq_nil_of_length_eq_zero (by rw [hlen]; omega)) he
      rw [if_neg (by omega)]
      simp only [Option.map_some, add_plain]
      have hget : ∀ (k : Nat) (x : IV), ((l.take j).drop i)[k]? = some x → l[i + k]? = some x := fun k x e => by
        rw [List.getElem?_drop, List.getElem?_take] at e
        split at e
        · exact e
        · cases e
      rw [← hlen]
      refine .slice b (o + i * s) (cap - i) s _ (fun k q => f (i + k) q) (by rw [hlen]; omega) (fun k x e => hs' _ x (hget k x e)) (fun k x q y e e2 => h1 _ x q y (hget k x e) e2) (fun k x q y e e2 => ?_)
        (fun k x q y e e2 => hr _ x q y (hget k x e) e2)
      have := hc _ x q y (hget k x e) e2
      rw [← this, Nat.add_mul]
      congr 1
      omega
theorem step_slice_slice {t e : Nat} {te : TI} {x : Operand} {p : PV} {lo hi : Option Operand} {ls : List IV} {l h : Option Int} (ho : o.op = .slice t x lo hi none) (ht : P.underlying t = some (.slice e)) (T2 : TOK1 P e te)
    (hp : evalO G env x = some p) (hps : iv? p = some (.slice ls)) (hs : ∀ x ∈ ls, x.cells.length = te.size) (hl : evalB G env lo = some l) (hh : evalB G env hi = some h) (h0 : 0 ≤ l.getD 0) (h1 : l.getD 0 ≤ h.getD ls.length)
    (h2 : h.getD ls.length ≤ ls.length) : SV P G o env m (.i (.slice ((ls.take (h.getD ls.length).toNat).drop (l.getD 0).toNat))) := by
  refine fun R σ a w he hj => ?_
  have r := (evalO_rel he hj hp).iv hps
  obtain ⟨b, c, hv⟩ := run_of_relI r
  rw [hv] at r
  have hcap : ls.length ≤ c := by
    generalize hn : ls.length = n at r
    cases r with
    | nilS => omega
    | oddS => omega
    | slice _ _ _ _ _ _ hc => exact hc
  have hb := run_sliceBounds (P := P) (s := true) (len := ls.length) (cap := c) (evalB_rel he hj hl) (evalB_rel he hj hh) h0 h1 h2 hcap w
  refine ⟨_, .i _ _ (r.cut hs (l.getD 0).toNat (h.getD ls.length).toNat (by omega) (by omega)), ?_⟩
  simp only [execOp, ho, hv, Instr.sliceAt, Sem.run_bind, run_underlying ht, Result.andThen_ok, Instr.slice, Option.map_none, hb, T2.run_size, Sem.run_pure]
theorem step_slice_arr {t e n : Nat} {te : TI} {x : Operand} {k off : Nat} {lo hi : Option Operand} {l h : Option Int} (ho : o.op = .slice t x lo hi none) (ht : P.underlying t = some (.array n e)) (T2 : TOK1 P e te)
    (hp : evalO G env x = some (.ptr k off)) (hl : evalB G env lo = some l) (hh : evalB G env hi = some h) (h0 : 0 ≤ l.getD 0) (h1 : l.getD 0 ≤ h.getD n)
    (h2 : h.getD n ≤ n) (hlt : l.getD 0 < n) : SV P G o env m (.view k te.size (off + (l.getD 0).toNat * te.size) ((h.getD n).toNat - (l.getD 0).toNat)) := by
  refine fun R σ a w he hj => ?_
  have r := evalO_rel he hj hp
  generalize hv : a.eval x = v at r
  cases r with | ptr _ _ L hk =>
  have hb := run_sliceBounds (P := P) (s := false) (len := n) (cap := n) (evalB_rel he hj hl) (evalB_rel he hj hh) h0 h1 h2 (Nat.le_refl _) w
  have hne : ¬ n = (l.getD 0).toNat := by omega
  refine ⟨_, .view k te.size (off + (l.getD 0).toNat * te.size) ((h.getD n).toNat - (l.getD 0).toNat) (n - (l.getD 0).toNat) L hk (by omega), ?_⟩
  simp only [execOp, ho, hv, Instr.sliceAt, Sem.run_bind, run_underlying ht, Result.andThen_ok, Instr.sureAddr, Sem.run_pure, Option.map_none, hb, T2.run_size, if_neg hne, add_plain, Nat.add_assoc]
theorem step_slice_rarr {t e n : Nat} {te : TI} {x : Operand} {cs : List IV} (ho : o.op = .slice t x none none none) (ht : P.underlying t = some (.array n e)) (T2 : TOK1 P e te) (h1 : te.size = 1)
    (hp : evalO G env x = some (.i (.rptr cs))) (hn : n ≤ cs.length) (hcell : ∀ x ∈ cs.take n, x.cells.length = 1 ∧ x.cells = [x]) : SV P G o env m (.i (.slice (cs.take n))) := by
  refine fun R σ a w he hj => ?_
  have r := evalO_rel he hj hp
  generalize hv : a.eval x = v at r
  cases r with | i _ _ r =>
  cases r with | rptr b off _ f g1 gc gr =>
  have hb := run_sliceBounds (P := P) (s := false) (len := n) (cap := n) (lo := none) (hi := none) (l := none) (h := none) (.inl ⟨rfl, rfl⟩) (.inl ⟨rfl, rfl⟩) (Int.le_refl _) (by simp) (by simp) (Nat.le_refl _) w
  have hlen : (cs.take n).length = n := by simp; omega
  have hrel : RelI σ.h (.slice (cs.take n)) (.slice (some ⟨b, off, none⟩) (cs.take n).length n) := by
    refine .slice b off n 1 (cs.take n) (fun i _ => f i) (by omega) (fun i x e => (hcell x (List.mem_of_getElem? e)).1) ?_ ?_ ?_
    · intro i x j y e e2
      exact g1 i x (take_get e)
    · intro i x j y e e2
      have hx := (hcell x (List.mem_of_getElem? e)).2
      rw [hx] at e2
      have hj0 : j = 0 := by
        cases j with
        | zero => rfl
        | succ j => simp at e2
      subst hj0
      rw [Nat.mul_one, Nat.add_zero]
      exact gc i x (take_get e)
    · intro i x j y e e2
      have hx := (hcell x (List.mem_of_getElem? e)).2
      rw [hx] at e2
      have hj0 : j = 0 := by
        cases j with
        | zero => rfl
        | succ j => simp at e2
      subst hj0
      simp at e2; subst e2
      exact gr i x (take_get e)
  rw [hlen] at hrel
  refine ⟨_, .i _ _ hrel, ?_⟩
  simp only [execOp, ho, hv, Instr.sliceAt, Sem.run_bind, run_underlying ht, Result.andThen_ok, Instr.sureAddr, Sem.run_pure, Option.map_none, hb, T2.run_size, h1, Option.getD_none, Int.toNat_zero, Int.toNat_natCast, Nat.sub_zero]
  simp [add_plain]
theorem step_conv_int {s d : Nat} {x : Operand} {k k' : IntKind} {n : Int} {ds : TypeDesc} (ho : o.op = .convert s d x) (hs : P.underlying s = some ds) (hd : P.underlying d = some (.int k'))
    (hp : evalO G env x = some (.i (.int k n))) : SV P G o env m (.i (.int k' (k'.wrap n))) := by
  refine fun R σ a w he hj => ⟨_, .i _ _ (.int _ _), ?_⟩
  simp only [execOp, ho, rel_int (evalO_rel he hj hp), convert, Sem.run_bind, run_underlying hs, run_underlying hd, Result.andThen_ok]
  cases ds <;> rfl
theorem step_conv_str {s d : Nat} {x : Operand} {l : List UInt8} (ho : o.op = .convert s d x) (hs : P.underlying s = some .string) (hd : P.underlying d = some .string)
    (hp : evalO G env x = some (.i (.str l))) : SV P G o env m (.i (.str l)) := by
  refine fun R σ a w he hj => ⟨_, .i _ _ (.str _), ?_⟩
  simp [execOp, ho, rel_str (evalO_rel he hj hp), convert, run_underlying hs, run_underlying hd]
def u8s (l : List UInt8) : List IV := l.map fun b => .int .u8 (b.toNat : Int)
theorem foldl_push (l : List UInt8) : ∀ s : ByteArray, (l.map fun b => (b.toNat : Int)).foldl (fun (r : ByteArray) n => r.push (UInt8.ofNat n.toNat)) s = ⟨s.data ++ l.toArray⟩ := by
  induction l with
  | nil => intro s; apply ByteArray.ext; simp
  | cons b r ih =>
    intro s
    simp only [List.map_cons, List.foldl_cons, ih]
    apply ByteArray.ext
    apply Array.ext'
    simp [ByteArray.data_push]
theorem run_bytesToString (l : List UInt8) (a : Addr) (cap : Nat) (w : World) (h : (loadCells a l.length).run P w = .ok (l.map fun b => Value.int .u8 (b.toNat : Int)).toArray w) :
    (Conv.bytesToString (.slice (some a) l.length cap)).run P w = .ok (.string ⟨l.toArray⟩) w := by
  have hh : (loadCells a l.length).run P w = .ok (((l.map fun b => ((b.toNat : Int))).map (Value.int .u8))).toArray w := by
    rw [h, List.map_map]; rfl
  rw [Go.run_bytesToString (P := P) w a l.length cap (l.map fun b => ((b.toNat : Int))) hh, foldl_push]
  congr 2
  apply ByteArray.ext
  simp
theorem rel_u8 {h : Hp} {b : UInt8} {v : Value} (r : RelI h (.int .u8 (b.toNat : Int)) v) : v = .int .u8 (b.toNat : Int) := by cases r; rfl
theorem step_conv_bytes {s d e : Nat} {x : Operand} {p : PV} {l : List UInt8} (ho : o.op = .convert s d x) (hs : P.underlying s = some (.slice e)) (he8 : P.underlying e = some (.int .u8)) (hd : P.underlying d = some .string)
    (hp : evalO G env x = some p) (hl : iv? p = some (.slice (u8s l))) : SV P G o env m (.i (.str l)) := by
  refine fun R σ a w he hj => ?_
  have r := (evalO_rel he hj hp).iv hl
  generalize hv : a.eval x = v at r
  refine ⟨_, .i _ _ (.str l), ?_⟩
  have key : (Conv.bytesToString v).run P w = .ok (.string ⟨l.toArray⟩) w := by
    generalize hL : u8s l = L at r
    cases r with
    | nilS =>
      have : l = [] := by simpa [u8s] using hL
      subst this
      simp [Conv.bytesToString]
      rfl
    | oddS b o k =>
      have : l = [] := by simpa [u8s] using hL
      subst this
      simp [Conv.bytesToString, loadCells, loadCellsFrom]
      rfl
    | slice b off cap sz _ f hcap hs' h1 hc hr =>
      have hlen : L.length = l.length := by rw [← hL]; simp [u8s]
      rw [hlen]
      refine run_bytesToString l _ cap w ?_
      have := run_loadCells_list (P := P) w ⟨b, off, none⟩ (l.map fun b => Value.int .u8 (b.toNat : Int)) (fun j v hv => ?_)
      · simpa using this
      · rw [List.getElem?_map] at hv
        cases hb : l[j]? with
        | none => rw [hb] at hv; cases hv
        | some c =>
          rw [hb] at hv; cases hv
          have hLj : L[j]? = some (.int .u8 (c.toNat : Int)) := by rw [← hL, u8s, List.getElem?_map, hb]; rfl
          have hsz := hs' j _ hLj
          simp [IV.cells] at hsz
          subst hsz
          have h2 := hc j _ 0 _ hLj rfl
          have h3 := hr j _ 0 _ hLj rfl
          rw [rel_u8 h3, Nat.mul_one, Nat.add_zero] at h2
          rw [add_plain]
          exact hj.inv.hh _ _ _ h2
  obtain ⟨ba, bc, rfl⟩ := run_of_relI r
  simp only [execOp, ho, hv, convert, Sem.run_bind, run_underlying hs, run_underlying hd, run_underlying he8, Result.andThen_ok]
  rw [key]
  simp
theorem step_conv_view {s d e k off : Nat} {x : Operand} {cells : List PV} {l : List UInt8} (ho : o.op = .convert s d x) (hs : P.underlying s = some (.slice e)) (he8 : P.underlying e = some (.int .u8)) (hd : P.underlying d = some .string)
    (hp : evalO G env x = some (.view k 1 off l.length)) (hm : lk k m = some (.var cells)) (hl : (cells.drop off).take l.length = (u8s l).map .i) : SV P G o env m (.i (.str l)) := by
  refine fun R σ a w he hj => ?_
  have r := evalO_rel he hj hp
  generalize hv : a.eval x = v at r
  refine ⟨_, .i _ _ (.str l), ?_⟩
  cases r with | view _ _ _ _ cap L hk hcap =>
  obtain ⟨b, lo, hi, hk', hle, hown, hhi, hcells⟩ := hj.inv.obj k _ hm
  rw [hk] at hk'; cases hk'
  have key : (Conv.bytesToString (.slice (some ⟨b, lo + off, none⟩) l.length cap)).run P w = .ok (.string ⟨l.toArray⟩) w := by
    refine run_bytesToString l _ cap w ?_
    have := run_loadCells_list (P := P) w ⟨b, lo + off, none⟩ (l.map fun b => Value.int .u8 (b.toNat : Int)) (fun j v hv => ?_)
    · simpa using this
    · rw [List.getElem?_map] at hv
      cases hb : l[j]? with
      | none => rw [hb] at hv; cases hv
      | some c =>
        rw [hb] at hv; cases hv
        have hq : ((cells.drop off).take l.length)[j]? = some (.i (.int .u8 (c.toNat : Int))) := by rw [hl]; simp [u8s, hb]
        have hq2 := take_get hq
        rw [List.getElem?_drop] at hq2
        obtain ⟨v, q1, q2, q3⟩ := hcells _ _ hq2
        rw [rel_int q2, ← Nat.add_assoc] at q1
        rw [add_plain]; exact q1
  simp only [execOp, ho, hv, convert, Sem.run_bind, run_underlying hs, run_underlying hd, run_underlying he8, Result.andThen_ok]
  rw [key]
  simp
theorem exec_builtin {b : Builtin} {ats : Array Nat} {xs : Array Operand} (ho : o.op = .call { callee := .builtin b, args := xs, argTypes := ats }) (a : Act) {w : World} {v : Value}
    (h : ∀ cs, (builtin b ats o.type cs (xs.map a.eval)).run P w = .ok (.value v) w) : (execOp a.eval o).run P w = .ok (.value v) w := by
  simp only [execOp, ho, resolve, Sem.run_bind, Sem.run_pure, Result.andThen_ok, invoke]
  exact h _
theorem step_len_str {t : Nat} {x : Operand} {s : List UInt8} (ho : o.op = .call { callee := .builtin .len, args := #[x], argTypes := #[t] }) (ht : P.underlying t = some .string)
    (hp : evalO G env x = some (.i (.str s))) : SV P G o env m (.i (.int .i64 (s.length : Int))) := by
  refine fun R σ a w he hj => ⟨_, .i _ _ (.int _ _), exec_builtin ho a fun cs => ?_⟩
  have hsz : (⟨s.toArray⟩ : ByteArray).size = s.length := by simp [ByteArray.size]
  simp [builtin, Builtin.len_, run_underlying ht, rel_str (evalO_rel he hj hp), goInt, hsz]
theorem step_len_slice {t e : Nat} {x : Operand} {p : PV} {l : List IV} (ho : o.op = .call { callee := .builtin .len, args := #[x], argTypes := #[t] }) (ht : P.underlying t = some (.slice e))
    (hp : evalO G env x = some p) (hl : iv? p = some (.slice l)) : SV P G o env m (.i (.int .i64 (l.length : Int))) := by
  refine fun R σ a w he hj => ⟨_, .i _ _ (.int _ _), exec_builtin ho a fun cs => ?_⟩
  obtain ⟨b, c, hv⟩ := run_of_relI ((evalO_rel he hj hp).iv hl)
  simp [builtin, Builtin.len_, run_underlying ht, hv, goInt]
theorem step_len_view {t e : Nat} {x : Operand} {k s off n : Nat} (ho : o.op = .call { callee := .builtin .len, args := #[x], argTypes := #[t] }) (ht : P.underlying t = some (.slice e))
    (hp : evalO G env x = some (.view k s off n)) : SV P G o env m (.i (.int .i64 (n : Int))) := by
  refine fun R σ a w he hj => ⟨_, .i _ _ (.int _ _), exec_builtin ho a fun cs => ?_⟩
  have r := evalO_rel he hj hp
  generalize hv : a.eval x = v at r
  cases r
  simp [builtin, Builtin.len_, run_underlying ht, hv, goInt]
theorem step_len_arr {t n e : Nat} {x : Operand} {p : PV} (ho : o.op = .call { callee := .builtin .len, args := #[x], argTypes := #[t] }) (ht : P.underlying t = some (.array n e))
    (_hp : evalO G env x = some p) : SV P G o env m (.i (.int .i64 (n : Int))) := by
  refine fun R σ a w he hj => ⟨_, .i _ _ (.int _ _), exec_builtin ho a fun cs => ?_⟩
  simp [builtin, Builtin.len_, run_underlying ht, goInt]
theorem step_copy_str {dT sT e : Nat} {te : TI} {x y : Operand} {k off n : Nat} {s : List UInt8} {cells : List PV} (ho : o.op = .call { callee := .builtin .copy, args := #[x, y], argTypes := #[dT, sT] })
    (hd : P.underlying dT = some (.slice e)) (T2 : TOK1 P e te) (hx : evalO G env x = some (.view k 1 off n)) (hy : evalO G env y = some (.i (.str s))) (hm : lk k m = some (.var cells)) (hb : off + n ≤ cells.length) :
    Step P G o env m (.i (.int .i64 ((min s.length n : Nat) : Int))) env ((k, .var (cells.take off ++ (u8s (s.take (min s.length n))).map .i ++ cells.drop (off + ((u8s (s.take (min s.length n))).map PV.i).length))) :: rm k m) := by
  intro R σ a w he hj _ next Q kk
  have rx := evalO_rel he hj hx
  have ry := rel_str (evalO_rel he hj hy)
  generalize hv : a.eval x = v at rx
  cases rx with | view _ _ _ _ cap L hk hcap =>
  obtain ⟨b, lo, hi⟩ := L
  obtain ⟨b', lo', hi', hk', hle, hown, hhi, hcells⟩ := hj.inv.obj k _ hm
  rw [hk] at hk'; cases hk'
  let vs : List Value := (s.take (min s.length n)).map fun b => .int .u8 (b.toNat : Int)
  have hvl : vs.length = min s.length n := by simp [vs]
  have hrun : (execOp a.eval o).run P w = .ok (.value (.int .i64 ((min s.length n : Nat) : Int))) (w.setCells b (lo + off) vs) := by
    have hst := run_storeCells_cells (P := P) b (lo + off) vs 0 w (fun j hj' => by
        obtain ⟨_, ⟨v, hv⟩, _⟩ := hown (lo + off + j) (by omega) (by omega)
        simp [hv]) (fun j hj' => by simpa using (hown (lo + off + j) (by omega) (by omega)).2.2) (fun v hv => by
        simp only [vs, List.mem_map] at hv
        obtain ⟨c, _, rfl⟩ := hv
        rfl)
    simp only [Nat.add_zero] at hst
    have hmin : Nat.min (⟨s.toArray⟩ : ByteArray).size n = min s.length n := by simp [ByteArray.size]
    simp only [execOp, ho, resolve, Sem.run_bind, Sem.run_pure, Result.andThen_ok, invoke, builtin]
    simp [Builtin.copy_, run_underlying hd, hv, ry, Builtin.lenOf, T2.run_size, Builtin.firstCells]
    rw [hmin, ← List.map_take, hst]
    simp [goInt]
  simp only [Oper.wp, hrun, Oper.upon_value]
  refine kk σ _ _ (.i _ _ (.int _ _)) he (hj.write hm hk off _ vs (by simp [u8s, vs]) (by simp [u8s]; omega) (fun i p v e1 e2 => ?_))
  simp only [u8s, List.map_map, List.getElem?_map, vs] at e1 e2
  cases hc : (s.take (min s.length n))[i]? with
  | none => rw [hc] at e1; cases e1
  | some c =>
    rw [hc] at e1 e2
    cases e1; cases e2
    exact ⟨.i _ _ (.int _ _), rfl⟩
end
end Go.Kn
namespace Go.Kn
open Go
section
variable {P : Program} {G : Gl}
def Ent.at (σ : Gh) (m : Mem) (w : World) : Ent where
  w0 := w
  h0 := σ.h
  B0 := fun b => ∃ k o lo hi, lk k m = some o ∧ σ.loc k = some (b, lo, hi) ∧ lo < hi
  L0 := fun k => match lk k m with
    | some (.var _) => σ.loc k
    | _ => none
def RelPs (σ : Gh) (ps : List PV) (vs : List Value) : Prop := ps.length = vs.length ∧ ∀ (i : Nat) (p : PV) (v : Value), ps[i]? = some p → vs[i]? = some v → RelP σ p v
def AC (P : Program) (G : Gl) (f : FuncId) (args : List PV) (m : Mem) (r : PV) (m' : Mem) : Prop :=
  ∀ (σ : Gh) (w : World) (vs : List Value), J G (Ent.at σ m w) σ m w → RelPs σ args vs →
    Calls P f vs.toArray w fun e w' => ∃ v σ', e = .returned v ∧ RelP σ' r v ∧ J G (Ent.at σ m w) σ' m' w'
def Body (P : Program) (f : FuncId) : Prop := ∃ fn c, P.funcs[f]? = some fn ∧ fn.body = some c ∧ (fn.name == "runtime.NumGoroutine") = false
def ExtC (P : Program) (f : FuncId) (as0 : List IV) (x : IV) : Prop :=
  ∀ (σ : Gh) (w : World) (vs : List Value), RelPs σ (as0.map .i) vs → (∀ b o v, σ.h b o = some v → w.cell? ⟨b, o, none⟩ = some v) → ∃ v, RelI σ.h x v ∧ (callFunc f vs.toArray).run P w = .ok (.value v) w
def PureC (P : Program) (G : Gl) (f : FuncId) (as0 : List IV) (x : IV) : Prop := (Body P f ∧ AC P G f (as0.map .i) [] (.i x) []) ∨ ExtC P f as0 x
def CallS (P : Program) (G : Gl) (f : FuncId) (args : List PV) (env : Env) (m : Mem) (r : PV) (env1 : Env) (m1 : Mem) : Prop :=
  ∀ (R : Ent) (σ : Gh) (a : Act) (w : World) (vs : List Value), EnvOK σ env a → J G R σ m w → RelPs σ args vs →
    (Body P f ∧ Calls P f vs.toArray w fun e w' => ∃ v σ', e = .returned v ∧ RelP σ' r v ∧ EnvOK σ' env1 a ∧ J G R σ' m1 w') ∨
    (∃ v σ' w', (callFunc f vs.toArray).run P w = .ok (.value v) w' ∧ RelP σ' r v ∧ EnvOK σ' env1 a ∧ J G R σ' m1 w')
theorem InvM.nil {σ : Gh} {w : World} (hh : ∀ b o v, σ.h b o = some v → w.cell? ⟨b, o, none⟩ = some v) : InvM σ [] w := ⟨hh, fun _ _ e => (nomatch e), fun _ _ _ _ _ _ _ _ _ _ e => (nomatch e)⟩
theorem J.at_nil {R : Ent} {σ : Gh} {m : Mem} {w : World} (hj : J G R σ m w) : J G (Ent.at σ [] w) σ [] w where
  inv := InvM.nil hj.inv.hh
  glob := hj.glob
  hm := Hp.le_refl _
  os := rfl
  tape := rfl
  out := rfl
  sz := Nat.le_refl _
  old := fun _ _ _ => rfl
  hn := fun _ _ _ _ e => e
  own := fun _ _ _ _ _ e => (nomatch e)
  kp := fun _ _ _ e => by simp [Ent.at, lk] at e
  kn := fun _ _ _ _ e => (nomatch e)
theorem RelPs.iv {σ : Gh} : ∀ {ps : List PV} {xs : List IV} {vs : List Value}, ivs? ps = some xs → RelPs σ ps vs → RelPs σ (xs.map .i) vs := by
  intro ps xs vs e h
  obtain ⟨a, b⟩ := ivs?_get e
  refine ⟨by simp [a, h.1], fun i p v e1 e2 => ?_⟩
  rw [List.getElem?_map] at e1
  have hi : i < ps.length := by
    have := (List.getElem?_eq_some_iff.1 e2).1
    rw [h.1]; exact this
  obtain ⟨x, hx, hiv⟩ := b i ps[i] (List.getElem?_eq_getElem hi)
  rw [hx] at e1
  cases e1
  exact .i _ _ ((h.2 i _ v (List.getElem?_eq_getElem hi) e2).iv hiv)
theorem pureCall {f : FuncId} {as0 : List IV} {x : IV} {args : List PV} {env : Env} {m : Mem} (h : PureC P G f as0 x) (ha : ivs? args = some as0) : CallS P G f args env m (.i x) env m := by
  intro R σ a w vs he hj hr
  rcases h with h | h
  case inr =>
    obtain ⟨v, hv, hrun⟩ := h σ w vs (hr.iv ha) hj.inv.hh
    exact .inr ⟨v, σ, w, hrun, .i _ _ hv, he, hj⟩
  refine .inl ⟨h.1, (h.2 σ w vs hj.at_nil (hr.iv ha)).mono ?_⟩
  rintro e w' ⟨v, σ', rfl, rv, hj'⟩
  refine ⟨v, { h := σ'.h, loc := σ.loc }, rfl, ?_, ?_, ?_⟩
  · cases rv with | i _ _ rv => exact .i _ _ rv
  · have hM : Mono [] σ { h := σ'.h, loc := σ.loc } := ⟨hj'.hm, fun _ _ _ e => e⟩
    exact ⟨he.d, fun t p e => by obtain ⟨u, q1, q2⟩ := he.v t p e; exact ⟨u, q1, q2.mono0 hM⟩⟩
  · have hM : Mono [] σ { h := σ'.h, loc := σ.loc } := ⟨hj'.hm, fun _ _ _ e => e⟩
    have hB : ∀ b, ¬ (Ent.at σ [] w).B0 b := fun b ⟨k, o, lo, hi, e, _⟩ => (nomatch e)
    have hold : ∀ b, b < w.heap.size → w'.heap[b]? = w.heap[b]? := fun b hb => hj'.old b hb (hB b)
    have hcell : ∀ b x, b < w.heap.size → w'.cell? ⟨b, x, none⟩ = w.cell? ⟨b, x, none⟩ := fun b x hb => World.cell?_of_block (w := w) (hold b hb)
    have hfro : ∀ b x, b < w.heap.size → w'.frozen? ⟨b, x, none⟩ = w.frozen? ⟨b, x, none⟩ := fun b x hb => World.frozen?_of_block (w := w) (hold b hb)
    have hsz : w.heap.size ≤ w'.heap.size := hj'.sz
    refine { inv := { hh := hj'.inv.hh, obj := ?_, dis := hj.inv.dis }, glob := hj'.glob, hm := Hp.le_trans hj.hm hj'.hm, os := hj'.os.trans hj.os, tape := hj'.tape.trans hj.tape, out := hj'.out.trans hj.out,
             sz := Nat.le_trans hj.sz hsz, old := fun b hb hnb => ?_, hn := fun b o hb hnb e => ?_, own := hj.own, kp := hj.kp, kn := hj.kn }
    · intro k o e
      obtain ⟨b, lo, hi, q1, q2, q3, q4⟩ := hj.inv.obj k o e
      refine ⟨b, lo, hi, q1, q2, fun x h1 h2 => ?_, ?_⟩
      · obtain ⟨a1, ⟨v, a2⟩, a3⟩ := q3 x h1 h2
        have hb := cell_lt a2
        exact ⟨hj'.hn b x hb (hB b) a1, ⟨v, by rw [hcell b x hb]; exact a2⟩, by rw [hfro b x hb]; exact a3⟩
      · cases o with
        | tip => trivial
        | vec s l c =>
          refine q4.vecMono hM.h (fun g hl x => ?_) fun x v _ _ e => by rw [hcell b x (cell_lt e)]; exact e
          rw [hfro b x (own_lt (w := w) (σ := σ) q3 hl)]; exact g hl x
        | var cells =>
          refine ⟨q4.1, fun i p hp => ?_⟩
          obtain ⟨v, r1, r2, r3⟩ := q4.2 i p hp
          exact ⟨v, by rw [hcell b _ (cell_lt r1)]; exact r1, r2.mono0 hM, r3⟩
    · have hb' : b < w.heap.size := Nat.lt_of_lt_of_le hb hj.sz
      rw [hold b hb']
      exact hj.old b hb hnb
    · exact hj'.hn b o (Nat.lt_of_lt_of_le hb hj.sz) (hB b) (hj.hn b o hb hnb e)
theorem step_call {o : Oper} {f : FuncId} {x : Operand} {xs : Array Operand} {ats : Array TypeId} {caps args : List PV} {env env1 : Env} {m m1 : Mem} {r : PV} (ho : o.op = .call { callee := .value x, args := xs, argTypes := ats })
    (hx : (evalO G env x = some (.clo (.func f) caps)) ∨ ∃ ics, evalO G env x = some (.i (.func (.func f) ics)) ∧ caps = ics.map .i) (hargs : ∀ (R : Ent) (σ : Gh) (a : Act) (w : World), EnvOK σ env a → J G R σ m w → RelPs σ args (xs.toList.map a.eval))
    (h : CallS P G f (args ++ caps) env m r env1 m1) : Step P G o env m r env1 m1 := by
  intro R σ a w he hj _ next Q kk
  have hA := hargs R σ a w he hj
  obtain ⟨cs, hcs, hrc⟩ : ∃ cs : List Value, a.eval x = .func (.func f) #[] cs.toArray ∧ RelPs σ caps cs := by
    rcases hx with hx | ⟨ics, hx, rfl⟩
    · have r := evalO_rel he hj hx
      generalize hv : a.eval x = v at r
      cases r with | clo _ _ vs hl hr => exact ⟨vs, rfl, hl, hr⟩
    · have r := evalO_rel he hj hx
      generalize hv : a.eval x = v at r
      cases r with | i _ _ r =>
      cases r with | func _ _ vs hl hr =>
      refine ⟨vs, rfl, by simp [hl], fun i p v e1 e2 => ?_⟩
      rw [List.getElem?_map] at e1
      cases hi : ics[i]? with
      | none => rw [hi] at e1; cases e1
      | some y => rw [hi] at e1; cases e1; exact .i _ _ (hr i y v hi e2)
  have hrel : RelPs σ (args ++ caps) (xs.toList.map a.eval ++ cs) := by
    refine ⟨by simp [hA.1, hrc.1], fun i p v e1 e2 => ?_⟩
    have hl := hA.1
    by_cases hi : i < args.length
    · rw [List.getElem?_append_left hi] at e1
      rw [List.getElem?_append_left (by omega)] at e2
      exact hA.2 i p v e1 e2
    · rw [List.getElem?_append_right (by omega)] at e1
      rw [List.getElem?_append_right (by omega)] at e2
      rw [hl] at e1
      exact hrc.2 _ p v e1 e2
  have harr : xs.map a.eval ++ cs.toArray = (xs.toList.map a.eval ++ cs).toArray := by
    apply Array.ext'
    simp
  rcases h R σ a w (xs.toList.map a.eval ++ cs) he hj hrel with ⟨hb, hc⟩ | ⟨v, σ', w', hx, rv, he', hj'⟩
  case inr =>
    have hrun : (execOp a.eval o).run P w = .ok (.value v) w' := by
      simp only [execOp, ho, resolve, hcs, Deferred.ofValue, Sem.run_bind, Sem.run_pure, Result.andThen_ok, invoke, Array.empty_append, harr]
      rw [hx]
    simp only [Oper.wp, hrun, Oper.upon_value]
    exact kk σ' v w' rv he' hj'
  obtain ⟨fn, c, hf1, hf2, hf3⟩ := hb
  have hrun : (execOp a.eval o).run P w = .ok (.enter f (xs.toList.map a.eval ++ cs).toArray) w := by
    simp only [execOp, ho, resolve, hcs, Deferred.ofValue, Sem.run_bind, Sem.run_pure, Result.andThen_ok, invoke, Array.empty_append, harr, callFunc, run_program, hf1, hf2]
    simp at hf3
    simp [hf3]
  simp only [Oper.wp, hrun, Oper.upon_enter]
  refine hc.mono ?_
  rintro e w' ⟨v, σ', rfl, rv, he', hj'⟩
  exact kk σ' v w' rv he' hj'
theorem step_bnd {o : Oper} {f : FuncId} {x : Operand} {xs : Array Operand} {ats : Array TypeId} {fs args : List PV} {env env1 : Env} {m m1 : Mem} {r : PV} (ho : o.op = .call { callee := .value x, args := xs, argTypes := ats })
    (hx : evalO G env x = some (.bnd (.func f) fs)) (hargs : ∀ (R : Ent) (σ : Gh) (a : Act) (w : World), EnvOK σ env a → J G R σ m w → RelPs σ args (xs.toList.map a.eval))
    (h : CallS P G f (fs ++ args) env m r env1 m1) : Step P G o env m r env1 m1 := by
  intro R σ a w he hj _ next Q kk
  have hA := hargs R σ a w he hj
  obtain ⟨cs, hcs, hrc⟩ : ∃ cs : List Value, a.eval x = .func (.func f) cs.toArray #[] ∧ RelPs σ fs cs := by
    have r := evalO_rel he hj hx
    generalize hv : a.eval x = v at r
    cases r with | bnd _ _ vs hl hr => exact ⟨vs, rfl, hl, hr⟩
  have hrel : RelPs σ (fs ++ args) (cs ++ xs.toList.map a.eval) := by
    refine ⟨by simp [hA.1, hrc.1], fun i p v e1 e2 => ?_⟩
    have hl := hrc.1
    by_cases hi : i < fs.length
    · rw [List.getElem?_append_left hi] at e1
      rw [List.getElem?_append_left (by omega)] at e2
      exact hrc.2 i p v e1 e2
    · rw [List.getElem?_append_right (by omega)] at e1
      rw [List.getElem?_append_right (by omega)] at e2
      rw [hl] at e1
      exact hA.2 _ p v e1 e2
  have harr : cs.toArray ++ xs.map a.eval = (cs ++ xs.toList.map a.eval).toArray := by
    apply Array.ext'
    simp
  rcases h R σ a w (cs ++ xs.toList.map a.eval) he hj hrel with ⟨hb, hc⟩ | ⟨v, σ', w', hx, rv, he', hj'⟩
  case inr =>
    have hrun : (execOp a.eval o).run P w = .ok (.value v) w' := by
      simp only [execOp, ho, resolve, hcs, Deferred.ofValue, Sem.run_bind, Sem.run_pure, Result.andThen_ok, invoke, Array.append_empty, harr]
      rw [hx]
    simp only [Oper.wp, hrun, Oper.upon_value]
    exact kk σ' v w' rv he' hj'
  obtain ⟨fn, c, hf1, hf2, hf3⟩ := hb
  have hrun : (execOp a.eval o).run P w = .ok (.enter f (cs ++ xs.toList.map a.eval).toArray) w := by
    simp only [execOp, ho, resolve, hcs, Deferred.ofValue, Sem.run_bind, Sem.run_pure, Result.andThen_ok, invoke, Array.append_empty, harr, callFunc, run_program, hf1, hf2]
    simp at hf3
    simp [hf3]
  simp only [Oper.wp, hrun, Oper.upon_enter]
  refine hc.mono ?_
  rintro e w' ⟨v, σ', rfl, rv, he', hj'⟩
  exact kk σ' v w' rv he' hj'
def MethS (P : Program) (G : Gl) (t : TypeId) (name : String) (p : PV) (f : FuncId) (q : PV) (m : Mem) : Prop :=
  ∀ (R : Ent) (σ : Gh) (w : World) (v : Value), J G R σ m w → RelP σ p v → ∃ u, RelP σ q u ∧ ∀ args : Array Value, (callMethod (.iface t v) name args).run P w = (callFunc f (#[u] ++ args)).run P w
theorem MethS.ptr {t : TypeId} {name : String} {f : FuncId} (h : ∀ (v : Value) (args : Array Value) (w : World), (callMethod (.iface t v) name args).run P w = (callFunc f (#[v] ++ args)).run P w) (p : PV) (m : Mem) :
    MethS P G t name p f p m := fun _ _ w v _ hr => ⟨v, hr, fun args => h v args w⟩
theorem MethS.val {t el : TypeId} {ti : TI} {name : String} {f : FuncId} (T : TOK1 P el ti) (ha : isAggD ti.d = false)
    (h : ∀ (a : Addr) (args : Array Value) (w : World), (callMethod (.iface t (.pointer (some a))) name args).run P w = (do let u ← loadVar el a; callFunc f (#[u] ++ args)).run P w)
    {k off : Nat} {cells : List PV} {q : PV} {m : Mem} (hm : lk k m = some (.var cells)) (hq : cells[off]? = some q) : MethS P G t name (.ptr k off) f q m := by
  intro R σ w v hj hr
  cases hr with | ptr _ _ L hk =>
  obtain ⟨b, lo, hi', hk', hle, hown, hhi, hcells⟩ := hj.inv.obj k _ hm
  rw [hk] at hk'
  cases hk'
  obtain ⟨u, u1, u2, u3⟩ := hcells off q hq
  refine ⟨u, u2, fun args => ?_⟩
  rw [h]
  simp only [Sem.run_bind]
  rw [run_loadVar_one T ha _ u w u1]
  rfl
theorem step_inv {o : Oper} {f : FuncId} {x : Operand} {t : TypeId} {name : String} {p q : PV} {xs : Array Operand} {ats : Array TypeId} {args : List PV} {env env1 : Env} {m m1 : Mem} {r : PV} (ho : o.op = .call { callee := .invoke x name, args := xs, argTypes := ats })
    (hx : evalO G env x = some (.ifc t p) ∨ ∃ y, evalO G env x = some (.i (.iface t y)) ∧ p = .i y) (hargs : ∀ (R : Ent) (σ : Gh) (a : Act) (w : World), EnvOK σ env a → J G R σ m w → RelPs σ args (xs.toList.map a.eval))
    (hM : MethS P G t name p f q m) (h : CallS P G f (q :: args) env m r env1 m1) : Step P G o env m r env1 m1 := by
  intro R σ a w he hj _ next Q kk
  have hA := hargs R σ a w he hj
  obtain ⟨v, hcs, hrc⟩ : ∃ v : Value, a.eval x = .iface t v ∧ RelP σ p v := by
    rcases hx with hx | ⟨y, hx, rfl⟩
    · have r := evalO_rel he hj hx
      generalize hv : a.eval x = v at r
      cases r with | ifc _ _ v hr => exact ⟨v, rfl, hr⟩
    · have r := evalO_rel he hj hx
      generalize hv : a.eval x = v at r
      cases r with | i _ _ r =>
      cases r with | iface _ _ v hr => exact ⟨v, rfl, .i _ _ hr⟩
  obtain ⟨u, hu, hmeth⟩ := hM R σ w v hj hrc
  have hrel : RelPs σ (q :: args) (u :: xs.toList.map a.eval) := by
    refine ⟨by simp [hA.1], fun i p v e1 e2 => ?_⟩
    cases i with
    | zero => simp at e1 e2; subst e1; subst e2; exact hu
    | succ i => exact hA.2 i p v (by simpa using e1) (by simpa using e2)
  have harr : #[u] ++ xs.map a.eval = (u :: xs.toList.map a.eval).toArray := by
    apply Array.ext'
    simp
  have h0 : (#[Value.iface t v] ++ xs.map a.eval)[0]? = some (.iface t v) := by
    rw [Array.getElem?_append_left (by simp)]; rfl
  have h1 : (#[Value.iface t v] ++ xs.map a.eval).extract 1 (#[Value.iface t v] ++ xs.map a.eval).size = xs.map a.eval := by
    apply Array.ext'
    simp
    exact List.take_of_length_le (by rw [List.length_map, Array.length_toList]; exact Nat.le_refl _)
  have hrun0 : (execOp a.eval o).run P w = (callFunc f (u :: xs.toList.map a.eval).toArray).run P w := by
    simp only [execOp, ho, resolve, hcs, Sem.run_bind, Sem.run_pure, Result.andThen_ok, invoke, h0, h1]
    rw [hmeth, harr]
  rcases h R σ a w (u :: xs.toList.map a.eval) he hj hrel with ⟨hb, hc⟩ | ⟨v, σ', w', hx, rv, he', hj'⟩
  case inr =>
    simp only [Oper.wp, hrun0, hx, Oper.upon_value]
    exact kk σ' v w' rv he' hj'
  obtain ⟨fn, c, hf1, hf2, hf3⟩ := hb
  have hrun : (execOp a.eval o).run P w = .ok (.enter f (u :: xs.toList.map a.eval).toArray) w := by
    rw [hrun0]
    simp only [callFunc, Sem.run_bind, Result.andThen_ok, run_program, hf1, hf2]
    simp at hf3
    simp [hf3]
  simp only [Oper.wp, hrun, Oper.upon_enter]
  refine hc.mono ?_
  rintro e w' ⟨v, σ', rfl, rv, he', hj'⟩
  exact kk σ' v w' rv he' hj'
end
end Go.Kn
namespace Go.Kn
open Go
theorem lk_mem {α : Type} {t : Nat} {v : α} : ∀ {l : List (Nat × α)}, lk t l = some v → (t, v) ∈ l
  | [], h => by cases h
  | (k, u) :: r, h => by
    simp only [lk] at h
    cases hb : Nat.beq k t with
    | true =>
      rw [hb] at h
      cases h
      have := Nat.eq_of_beq_eq_true hb
      subst this
      exact List.mem_cons_self
    | false => rw [hb] at h; exact List.mem_cons_of_mem _ (lk_mem h)
def occL (κ : List Nat) (p : PV) : Bool := κ.any fun k => occ k p
def kill (κ : List Nat) (p : PV) : PV := bif occL κ p then .dead else p
def killO (κ : List Nat) : MO → MO
  | .var cells => .var (cells.map (kill κ))
  | .tip => .tip
  | .vec s l c => .vec s l c
theorem isVar_killO (κ : List Nat) (o : MO) : isVar (killO κ o) = isVar o := by cases o <;> rfl
def killE (κ : List Nat) (env : Env) : Env :=
  match κ with
  | [] => env
  | κ => env.map fun e => (e.1, kill κ e.2)
def killM (κ : List Nat) (m : Mem) : Mem :=
  match κ with
  | [] => m
  | κ => m.map fun e => (e.1, killO κ e.2)
def setM : Mem → Mem → Mem
  | [], m => m
  | (k, o) :: w, m => (k, o) :: rm k (setM w m)
theorem lk_put (t : Nat) (env : Env) (dst : Option Tmp) (r : PV) : lk t (put env dst r) = if dst = some t then some r else lk t env := by
  cases dst with
  | none => simp [put]
  | some d =>
    by_cases h : d = t
    · subst h; simp [put, lk_cons_self]
    · simp only [put]
      rw [lk_cons_other (Ne.symm h), if_neg (by simpa using h)]
theorem lk_setM (k : Nat) : ∀ (w m : Mem), lk k (setM w m) = match lk k w with
    | some o => some o
    | none => lk k m
  | [], m => rfl
  | (k', o) :: w, m => by
    by_cases h : k = k'
    · subst h; simp only [setM, lk_cons_self]
    · simp only [setM]
      rw [lk_cons_other h, lk_rm_other h, lk_setM k w m, lk_cons_other h]
theorem kill_nil (p : PV) : kill [] p = p := rfl
theorem map_kill_nil (l : List PV) : l.map (kill []) = l := by
  induction l with
  | nil => rfl
  | cons p r ih => simp [ih, kill_nil]
theorem killO_nil (o : MO) : killO [] o = o := by
  cases o <;> simp [killO, map_kill_nil]
theorem lk_killE (t : Nat) (κ : List Nat) (env : Env) : lk t (killE κ env) = (lk t env).map (kill κ) := by
  cases κ with
  | nil =>
    have : (kill [] : PV → PV) = id := by funext p; exact kill_nil p
    simp [killE, this]
  | cons k κ => exact lk_map _ _ _
theorem lk_killM (t : Nat) (κ : List Nat) (m : Mem) : lk t (killM κ m) = (lk t m).map (killO κ) := by
  cases κ with
  | nil =>
    have : (killO [] : MO → MO) = id := by funext p; exact killO_nil p
    simp [killM, this]
  | cons k κ => exact lk_map _ _ _
theorem gives_kill {d : Nat} {env : Env} {m : Mem} : Gives d env m (killE [d] env) (killM [d] m) where
  env := fun b h => ⟨h.d, fun t p e => by
    rw [lk_killE] at e
    cases e' : lk t env with
    | none => rw [e'] at e; cases e
    | some q =>
      rw [e'] at e
      simp only [Option.map_some, Option.some.injEq] at e
      obtain ⟨v, hv, r⟩ := h.v t q e'
      refine ⟨v, hv, ?_⟩
      rw [← e, kill]
      cases ho : occL [d] q with
      | true => exact .dead v
      | false => exact r.but b (by simpa [occL] using ho)⟩
  dom := fun k o e => by
    rw [lk_killM] at e
    cases e' : lk k m with
    | none => rw [e'] at e; cases e
    | some o' =>
      rw [e'] at e
      simp only [Option.map_some, Option.some.injEq] at e
      refine ⟨o', rfl, by rw [← e, isVar_killO], fun b h => ?_⟩
      subst e
      cases o' with
      | tip => trivial
      | vec s l c => exact h.vecMono b.h id fun _ _ _ _ e => e
      | var cells =>
        refine ⟨by simpa [killO] using h.1, fun i p hp => ?_⟩
        rw [List.getElem?_map] at hp
        cases hq : cells[i]? with
        | none => rw [hq] at hp; cases hp
        | some q =>
          rw [hq] at hp
          cases hp
          obtain ⟨v, q1, q2, q3⟩ := h.2 i q hq
          refine ⟨v, q1, ?_, q3⟩
          rw [kill]
          cases ho : occL [d] q with
          | true => exact .dead v
          | false => exact q2.but b (by simpa [occL] using ho)
end Go.Kn
namespace Go.Kn
open Go
def rho (ρ : List (Nat × Nat)) (k : Nat) : Nat :=
  match lk k ρ with
  | some j => j
  | none => k
mutual
def ren (f : Nat → Nat) : PV → PV
  | .i x => .i x
  | .full l => .full l
  | .tok k s l => .tok (f k) s l
  | .ptr k o => .ptr (f k) o
  | .view k s o n => .view (f k) s o n
  | .vec k s i n => .vec (f k) s i n
  | .ep k s i o => .ep (f k) s i o
  | .agg cs => .agg (rens f cs)
  | .ifc t p => .ifc t (ren f p)
  | .clo fn cs => .clo fn (rens f cs)
  | .bnd fn cs => .bnd fn (rens f cs)
  | .tup cs => .tup (rens f cs)
  | .dead => .dead
def rens (f : Nat → Nat) : List PV → List PV
  | [] => []
  | p :: r => ren f p :: rens f r
end
def renO (f : Nat → Nat) : MO → MO
  | .var cells => .var (rens f cells)
  | .tip => .tip
  | .vec s l c => .vec s l c
theorem isVar_renO (f : Nat → Nat) (o : MO) : isVar (renO f o) = isVar o := by cases o <;> rfl
theorem rens_get (f : Nat → Nat) : ∀ (cs : List PV) (i : Nat), (rens f cs)[i]? = (cs[i]?).map (ren f)
  | [], i => by simp [rens]
  | p :: r, 0 => by simp [rens]
  | p :: r, i + 1 => by simpa [rens] using rens_get f r i
theorem rens_len (f : Nat → Nat) : ∀ cs : List PV, (rens f cs).length = cs.length
  | [] => rfl
  | p :: r => by simp [rens, rens_len f r]
def Gh.ren (σ : Gh) (f : Nat → Nat) : Gh := ⟨σ.h, fun k => σ.loc (f k)⟩
theorem RelP.unren {σ : Gh} {f : Nat → Nat} {q : PV} {v : Value} (r : RelP σ q v) : ∀ {p : PV}, q = Kn.ren f p → RelP (σ.ren f) p v := by
  induction r with
  | i x v r => intro p e; cases p <;> simp only [Kn.ren] at e <;> cases e; exact .i _ _ r
  | full l a r pl => intro p e; cases p <;> simp only [Kn.ren] at e <;> cases e; exact .full _ _ r pl
  | tok k s l a cap L hk r hs sp => intro p e; cases p <;> simp only [Kn.ren] at e <;> cases e; exact .tok _ _ _ _ _ L hk r hs sp
  | ptr k off L hk => intro p e; cases p <;> simp only [Kn.ren] at e <;> cases e; exact .ptr (σ := σ.ren f) _ _ L hk
  | view k s off len cap L hk hc => intro p e; cases p <;> simp only [Kn.ren] at e <;> cases e; exact .view (σ := σ.ren f) _ _ _ _ _ L hk hc
  | vec k s i n cap L hk hc he => intro p e; cases p <;> simp only [Kn.ren] at e <;> cases e; exact .vec (σ := σ.ren f) _ _ _ _ _ L hk hc he
  | vec0 k s i a L hk he => intro p e; cases p <;> simp only [Kn.ren] at e <;> cases e; exact .vec0 (σ := σ.ren f) _ _ _ _ L hk he
  | ep k s i o L hk => intro p e; cases p <;> simp only [Kn.ren] at e <;> cases e; exact .ep (σ := σ.ren f) _ _ _ _ L hk
  | agg cs vs hl h1 hr ih =>
    intro p e; cases p <;> simp only [Kn.ren] at e <;> cases e
    rename_i cs
    refine .agg cs vs (by rw [← hl, rens_len]) h1 fun i x v e1 e2 => ih i (Kn.ren f x) v ?_ e2 rfl
    rw [rens_get, e1]; rfl
  | ifc t p v r ih => intro p e; cases p <;> simp only [Kn.ren] at e <;> cases e; exact .ifc _ _ _ (ih rfl)
  | clo fn cs vs hl hr ih =>
    intro p e; cases p <;> simp only [Kn.ren] at e <;> cases e
    rename_i cs
    refine .clo fn cs vs (by rw [← hl, rens_len]) fun i x v e1 e2 => ih i (Kn.ren f x) v ?_ e2 rfl
    rw [rens_get, e1]; rfl
  | bnd fn cs vs hl hr ih =>
    intro p e; cases p <;> simp only [Kn.ren] at e <;> cases e
    rename_i cs
    refine .bnd fn cs vs (by rw [← hl, rens_len]) fun i x v e1 e2 => ih i (Kn.ren f x) v ?_ e2 rfl
    rw [rens_get, e1]; rfl
  | tup cs vs hl hr ih =>
    intro p e; cases p <;> simp only [Kn.ren] at e <;> cases e
    rename_i cs
    refine .tup cs vs (by rw [← hl, rens_len]) fun i x v e1 e2 => ih i (Kn.ren f x) v ?_ e2 rfl
    rw [rens_get, e1]; rfl
  | dead v => intro p e; cases p <;> simp only [Kn.ren] at e <;> cases e; exact .dead _
theorem occs_mem {d : Nat} : ∀ {cs : List PV} {i : Nat} {x : PV}, cs[i]? = some x → occ d x = true → occs d cs = true := by
  intro cs i x e h
  cases ho : occs d cs with
  | true => rfl
  | false => rw [occs_get e ho] at h; cases h
theorem RelP.doren {σ σ' : Gh} {f : Nat → Nat} (hh : σ.h.le σ'.h) {p : PV} {v : Value} (r : RelP σ p v) : (∀ k, occ k p = true → ∀ L, σ.loc k = some L → σ'.loc (f k) = some L) → RelP σ' (Kn.ren f p) v := by
  induction r with
  | i x v r => intro _; exact .i _ _ (r.mono hh)
  | full l a r pl => intro _; exact .full _ _ (r.mono hh) pl
  | tok k s l a cap L hk r hs sp => intro g; exact .tok _ _ _ _ _ L (g k (by simp [occ]) L hk) (r.mono hh) hs sp
  | ptr k off L hk => intro g; exact .ptr _ _ L (g k (by simp [occ]) L hk)
  | view k s off len cap L hk hc => intro g; exact .view _ _ _ _ _ L (g k (by simp [occ]) L hk) hc
  | vec k s i n cap L hk hc he => intro g; exact .vec _ _ _ _ _ L (g k (by simp [occ]) L hk) hc he
  | vec0 k s i a L hk he => intro g; exact .vec0 _ _ _ _ L (g k (by simp [occ]) L hk) he
  | ep k s i o L hk => intro g; exact .ep _ _ _ _ L (g k (by simp [occ]) L hk)
  | agg cs vs hl h1 hr ih =>
    intro g
    refine .agg _ vs (by rw [rens_len, hl]) h1 fun i x v e1 e2 => ?_
    rw [rens_get] at e1
    cases hc : cs[i]? with
    | none => rw [hc] at e1; cases e1
    | some y => rw [hc] at e1; cases e1; exact ih i y v hc e2 fun k hk => g k (by simp only [occ]; exact occs_mem hc hk)
  | ifc t p v r ih => intro g; exact .ifc _ _ _ (ih fun k hk => g k (by simpa [occ] using hk))
  | clo fn cs vs hl hr ih =>
    intro g
    refine .clo fn _ vs (by rw [rens_len, hl]) fun i x v e1 e2 => ?_
    rw [rens_get] at e1
    cases hc : cs[i]? with
    | none => rw [hc] at e1; cases e1
    | some y => rw [hc] at e1; cases e1; exact ih i y v hc e2 fun k hk => g k (by simp only [occ]; exact occs_mem hc hk)
  | bnd fn cs vs hl hr ih =>
    intro g
    refine .bnd fn _ vs (by rw [rens_len, hl]) fun i x v e1 e2 => ?_
    rw [rens_get] at e1
    cases hc : cs[i]? with
    | none => rw [hc] at e1; cases e1
    | some y => rw [hc] at e1; cases e1; exact ih i y v hc e2 fun k hk => g k (by simp only [occ]; exact occs_mem hc hk)
  | tup cs vs hl hr ih =>
    intro g
    refine .tup _ vs (by rw [rens_len, hl]) fun i x v e1 e2 => ?_
    rw [rens_get] at e1
    cases hc : cs[i]? with
    | none => rw [hc] at e1; cases e1
    | some y => rw [hc] at e1; cases e1; exact ih i y v hc e2 fun k hk => g k (by simp only [occ]; exact occs_mem hc hk)
  | dead v => intro _; exact .dead _
mutual
theorem ren_id : ∀ p : PV, ren (fun k => k) p = p
  | .i _ => rfl
  | .full _ => rfl
  | .tok _ _ _ => rfl
  | .ptr _ _ => rfl
  | .view _ _ _ _ => rfl
  | .vec _ _ _ _ => rfl
  | .ep _ _ _ _ => rfl
  | .agg cs => by simp only [ren, rens_id cs]
  | .ifc _ p => by simp only [ren, ren_id p]
  | .clo _ cs => by simp only [ren, rens_id cs]
  | .bnd _ cs => by simp only [ren, rens_id cs]
  | .tup cs => by simp only [ren, rens_id cs]
  | .dead => rfl
theorem rens_id : ∀ cs : List PV, rens (fun k => k) cs = cs
  | [] => rfl
  | p :: r => by simp only [rens, ren_id p, rens_id r]
end
theorem RelP.stay {σ σ' : Gh} (hh : σ.h.le σ'.h) {p : PV} {v : Value} (r : RelP σ p v) (g : ∀ k, occ k p = true → ∀ L, σ.loc k = some L → σ'.loc k = some L) : RelP σ' p v := by
  have := r.doren (f := fun k => k) hh g
  rwa [ren_id] at this
theorem occL_not {κ : List Nat} {p : PV} (h : occL κ p = false) {k : Nat} (hk : occ k p = true) : k ∉ κ := by
  intro hm
  simp only [occL] at h
  have := List.any_eq_false.1 h k hm
  exact this hk
theorem RelP.killed {σ σ' : Gh} {κ : List Nat} (hh : σ.h.le σ'.h) (hl : ∀ k, k ∉ κ → ∀ L, σ.loc k = some L → σ'.loc k = some L) {p : PV} {v : Value} (r : RelP σ p v) : RelP σ' (kill κ p) v := by
  unfold kill
  cases ho : occL κ p with
  | true => exact .dead v
  | false => exact r.stay hh fun k hk => hl k (occL_not ho hk)
theorem EnvOK.killed {σ σ' : Gh} {κ : List Nat} {env : Env} {a : Act} (hh : σ.h.le σ'.h) (hl : ∀ k, k ∉ κ → ∀ L, σ.loc k = some L → σ'.loc k = some L) (he : EnvOK σ env a) : EnvOK σ' (killE κ env) a := by
  refine ⟨he.d, fun t p e => ?_⟩
  rw [lk_killE] at e
  cases e' : lk t env with
  | none => rw [e'] at e; cases e
  | some q =>
    rw [e'] at e
    cases e
    obtain ⟨v, hv, r⟩ := he.v t q e'
    exact ⟨v, hv, r.killed hh hl⟩
def MLe (o o' : MO) : Prop := isVar o = isVar o' ∧ ∀ (σ : Gh) (w : World) (b lo hi : Nat), MOK σ w b lo hi o → MOK σ w b lo hi o'
theorem MLe.refl (o : MO) : MLe o o := ⟨rfl, fun _ _ _ _ _ h => h⟩
theorem MLe.cap (s : Nat) (l : List PV) (c : Option Nat) : MLe (.vec s l c) (.vec s l none) :=
  ⟨rfl, fun _ _ _ _ _ ⟨h0, h1, hx, cap, h2, h3, _, h5⟩ => ⟨h0, h1, hx, cap, h2, h3, fun _ e => (nomatch e), h5⟩⟩
theorem MLe.vec {s : Nat} {l l' : List PV} {c : Option Nat} (hl : l'.length ≤ l.length) (h : ∀ (i : Nat) (x : IV), l'[i]? = some (.i x) → l[i]? = some (.i x)) : MLe (.vec s l c) (.vec s l' none) :=
  ⟨rfl, fun _ _ _ _ _ ⟨h0, h1, hx, cap, h2, h3, _, h5⟩ => ⟨h0, h1, hx, cap, h2, by omega, fun _ e => (nomatch e), fun i x e => h5 i x (h i x e)⟩⟩
theorem MOK.unren {σ : Gh} {w : World} {b lo hi : Nat} {f : Nat → Nat} {o : MO} (h : MOK σ w b lo hi (renO f o)) : MOK (σ.ren f) w b lo hi o := by
  cases o with
  | tip => trivial
  | vec => exact h
  | var cells =>
    refine ⟨by have := h.1; rwa [rens_len] at this, fun i p e => ?_⟩
    obtain ⟨v, h1, h2, h3⟩ := h.2 i (ren f p) (by rw [rens_get, e]; rfl)
    exact ⟨v, h1, h2.unren rfl, h3⟩
def MemAs (f : Nat → Nat) (m' m : Mem) : Prop :=
  (∀ k o, lk k m' = some o → ∃ o1, lk (f k) m = some o1 ∧ MLe o1 (renO f o)) ∧ ∀ k k' o o', lk k m' = some o → lk k' m' = some o' → f k = f k' → k = k'
theorem InvM.unren {σ : Gh} {m m' : Mem} {w : World} {f : Nat → Nat} (h : InvM σ m w) (hm : MemAs f m' m) : InvM (σ.ren f) m' w where
  hh := h.hh
  obj := fun k o e => by
    obtain ⟨o1, h1, h2⟩ := hm.1 k o e
    obtain ⟨b, lo, hi, q1, q2, q3, q4⟩ := h.obj _ _ h1
    exact ⟨b, lo, hi, q1, q2, q3, (h2.2 _ _ _ _ _ q4).unren⟩
  dis := fun k k' o o' b lo hi b' lo' hi' e e' hne l l' => by
    obtain ⟨o1, h1, _⟩ := hm.1 k o e
    obtain ⟨o2, h2, _⟩ := hm.1 k' o' e'
    exact h.dis (f k) (f k') o1 o2 b lo hi b' lo' hi' h1 h2 (fun x => hne (hm.2 k k' o o' e e' x)) l l'
section
variable {P : Program} {G : Gl}
theorem J.unren {R : Ent} {σ : Gh} {m m' : Mem} {w : World} {f : Nat → Nat} (h : J G R σ m w) (hm : MemAs f m' m) (hf : ∀ k L, 1000 ≤ k → R.L0 k = some L → f k = k) : J G R (σ.ren f) m' w where
  inv := h.inv.unren hm
  glob := h.glob
  hm := h.hm
  os := h.os
  tape := h.tape
  out := h.out
  sz := h.sz
  old := h.old
  hn := h.hn
  own := fun k o b lo hi e l hlt => by
    obtain ⟨o1, h1, _⟩ := hm.1 k o e
    exact h.own (f k) o1 b lo hi h1 l hlt
  kp := fun k L hk e => by
    show σ.loc (f k) = some L
    rw [hf k L hk e]; exact h.kp k L hk e
  kn := fun k o L hk e e2 => by
    obtain ⟨o1, h1, h2⟩ := hm.1 k o e
    rw [hf k L hk e2] at h1
    have := h.kn k o1 L hk h1 e2
    rw [h2.1, isVar_renO] at this
    exact this
theorem J.enter {R : Ent} {σ : Gh} {m m' : Mem} {w : World} {f : Nat → Nat} (h : J G R σ m w) (hm : MemAs f m' m) : J G (Ent.at (σ.ren f) m' w) (σ.ren f) m' w where
  inv := h.inv.unren hm
  glob := h.glob
  hm := Hp.le_refl _
  os := rfl
  tape := rfl
  out := rfl
  sz := Nat.le_refl _
  old := fun _ _ _ => rfl
  hn := fun _ _ _ _ e => e
  own := fun k o b lo hi e l hlt => .inr ⟨k, o, lo, hi, e, l, hlt⟩
  kp := fun k L _ e => by
    simp only [Ent.at] at e
    split at e
    · exact e
    · cases e
  kn := fun k o L _ e e2 => by
    simp only [Ent.at, e] at e2
    cases o with
    | var => rfl
    | _ => cases e2
mutual
def argOK1 (f : Nat → Nat) : PV → PV → Prop
  | .i x, p => iv? p = some x
  | .agg cs, p => match p with
    | .agg ps => argOK f cs ps
    | _ => False
  | c, p => p = ren f c
def argOK (f : Nat → Nat) : List PV → List PV → Prop
  | [], ps => ps = []
  | c :: cs, ps => match ps with
    | p :: r => argOK1 f c p ∧ argOK f cs r
    | [] => False
end
mutual
theorem argOK1_rel {σ : Gh} {f : Nat → Nat} : ∀ (c p : PV) (v : Value), argOK1 f c p → RelP σ p v → RelP (σ.ren f) c v
  | .i x, p, v, h, r => .i _ _ (r.iv (by simpa [argOK1] using h))
  | .agg cs, p, v, h, r => by
    simp only [argOK1] at h
    split at h
    · rename_i ps
      cases r with | agg _ vs hl h1 hr =>
      obtain ⟨g1, g2⟩ := argOK_rel cs ps h
      exact .agg cs vs (g1.trans hl) h1 fun i x u e1 e2 => by
        have hi : i < ps.length := by rw [← g1]; exact (List.getElem?_eq_some_iff.1 e1).1
        exact g2 i x ps[i] u e1 (List.getElem?_eq_getElem hi) (hr i ps[i] u (List.getElem?_eq_getElem hi) e2)
    · exact h.elim
  | .full l, p, v, h, r => by simp only [argOK1] at h; exact r.unren h
  | .tok k s l, p, v, h, r => by simp only [argOK1] at h; exact r.unren h
  | .ptr k o, p, v, h, r => by simp only [argOK1] at h; exact r.unren h
  | .view k s o n, p, v, h, r => by simp only [argOK1] at h; exact r.unren h
  | .vec k s i n, p, v, h, r => by simp only [argOK1] at h; exact r.unren h
  | .ep k s i o, p, v, h, r => by simp only [argOK1] at h; exact r.unren h
  | .ifc t c, p, v, h, r => by simp only [argOK1] at h; exact r.unren h
  | .clo fn cs, p, v, h, r => by simp only [argOK1] at h; exact r.unren h
  | .bnd fn cs, p, v, h, r => by simp only [argOK1] at h; exact r.unren h
  | .tup cs, p, v, h, r => by simp only [argOK1] at h; exact r.unren h
  | .dead, p, v, h, r => .dead _
theorem argOK_rel {σ : Gh} {f : Nat → Nat} : ∀ (cs ps : List PV), argOK f cs ps → cs.length = ps.length ∧ ∀ (i : Nat) (c p : PV) (v : Value), cs[i]? = some c → ps[i]? = some p → RelP σ p v → RelP (σ.ren f) c v
  | [], ps, h => by simp only [argOK] at h; subst h; exact ⟨rfl, fun i c p v e => by simp at e⟩
  | c :: cs, ps, h => by
    simp only [argOK] at h
    split at h
    · rename_i p r
      obtain ⟨g1, g2⟩ := argOK_rel cs r h.2
      refine ⟨by simp [g1], fun i c' p' v e1 e2 hr => ?_⟩
      cases i with
      | zero => simp at e1 e2; subst e1; subst e2; exact argOK1_rel _ _ _ h.1 hr
      | succ i => exact g2 i c' p' v (by simpa using e1) (by simpa using e2) hr
    · exact h.elim
end
end
end Go.Kn
namespace Go.Kn
open Go
def backs (ρ : List (Nat × Nat)) : Mem → List (Nat × Nat)
  | [] => []
  | (k, _) :: r => match lk k ρ with
    | some j => (j, k) :: backs ρ r
    | none => backs ρ r
def renM (ρ : List (Nat × Nat)) : Mem → Mem
  | [] => []
  | (k, o) :: r => match lk k ρ with
    | some j => (j, renO (rho ρ) o) :: renM ρ r
    | none => renM ρ r
def lentVar (cm : Mem) (k : Nat) : Bool :=
  Nat.ble 1000 k && (match lk k cm with
  | some o => isVar o
  | none => false)
def moved (cm : Mem) : List (Nat × Nat) → List Nat
  | [] => []
  | (j, k) :: r => bif lentVar cm k then moved cm r else j :: moved cm r
mutual
def known (bk : List (Nat × Nat)) (ρ : List (Nat × Nat)) : PV → Bool
  | .tok k _ _ => knownK bk ρ k
  | .ptr k _ => knownK bk ρ k
  | .view k _ _ _ => knownK bk ρ k
  | .vec k _ _ _ => knownK bk ρ k
  | .ep k _ _ _ => knownK bk ρ k
  | .agg cs => knowns bk ρ cs
  | .ifc _ p => known bk ρ p
  | .clo _ cs => knowns bk ρ cs
  | .bnd _ cs => knowns bk ρ cs
  | .tup cs => knowns bk ρ cs
  | _ => true
def knowns (bk : List (Nat × Nat)) (ρ : List (Nat × Nat)) : List PV → Bool
  | [] => true
  | p :: r => known bk ρ p && knowns bk ρ r
def knownK (bk : List (Nat × Nat)) (ρ : List (Nat × Nat)) (k : Nat) : Bool :=
  match lk k ρ with
  | some j => match lk j bk with
    | some k' => Nat.beq k' k
    | none => false
  | none => false
end
def knownO (bk ρ : List (Nat × Nat)) : MO → Bool
  | .var cells => knowns bk ρ cells
  | _ => true
def namesOK (ρ : List (Nat × Nat)) (cm cm' : Mem) (cr : PV) : Bool :=
  (cm.all fun e => knownK (backs ρ cm') ρ e.1) && (cm'.all fun e => knownK (backs ρ cm') ρ e.1 && knownO (backs ρ cm') ρ e.2) && known (backs ρ cm') ρ cr &&
  (cm'.all fun e => (lk e.1 cm).isSome || (match lk e.1 ρ with
    | some j => Nat.blt j 1000
    | none => false)) &&
  (cm.all fun e => !isVar e.2 || (Nat.ble 1000 e.1 && (match lk e.1 cm' with
    | some o => isVar o
    | none => false)))
theorem knownK_iff {bk ρ : List (Nat × Nat)} {k : Nat} : knownK bk ρ k = true ↔ ∃ j, lk k ρ = some j ∧ lk j bk = some k := by
  unfold knownK
  constructor
  · intro h
    split at h
    · rename_i j hj
      split at h
      · rename_i k' hk
        have := Nat.eq_of_beq_eq_true h
        subst this
        exact ⟨j, hj, hk⟩
      · cases h
    · cases h
  · rintro ⟨j, h1, h2⟩
    rw [h1]
    simp only [h2, Nat.beq_refl]
mutual
theorem known_occ {bk ρ : List (Nat × Nat)} {d : Nat} : ∀ p : PV, known bk ρ p = true → occ d p = true → knownK bk ρ d = true
  | .i _, _, h => by simp [occ] at h
  | .full _, _, h => by simp [occ] at h
  | .tok k _ _, g, h => by have := Nat.eq_of_beq_eq_true (by simpa only [occ] using h); subst this; simpa only [known] using g
  | .ptr k _, g, h => by have := Nat.eq_of_beq_eq_true (by simpa only [occ] using h); subst this; simpa only [known] using g
  | .view k _ _ _, g, h => by have := Nat.eq_of_beq_eq_true (by simpa only [occ] using h); subst this; simpa only [known] using g
  | .vec k _ _ _, g, h => by have := Nat.eq_of_beq_eq_true (by simpa only [occ] using h); subst this; simpa only [known] using g
  | .ep k _ _ _, g, h => by have := Nat.eq_of_beq_eq_true (by simpa only [occ] using h); subst this; simpa only [known] using g
  | .agg cs, g, h => knowns_occ cs (by simpa only [known] using g) (by simpa only [occ] using h)
  | .ifc _ p, g, h => known_occ p (by simpa only [known] using g) (by simpa only [occ] using h)
  | .clo _ cs, g, h => knowns_occ cs (by simpa only [known] using g) (by simpa only [occ] using h)
  | .bnd _ cs, g, h => knowns_occ cs (by simpa only [known] using g) (by simpa only [occ] using h)
  | .tup cs, g, h => knowns_occ cs (by simpa only [known] using g) (by simpa only [occ] using h)
  | .dead, _, h => by simp [occ] at h
theorem knowns_occ {bk ρ : List (Nat × Nat)} {d : Nat} : ∀ cs : List PV, knowns bk ρ cs = true → occs d cs = true → knownK bk ρ d = true
  | [], _, h => by simp [occs] at h
  | p :: r, g, h => by
    simp only [knowns, Bool.and_eq_true] at g
    simp only [occs, Bool.or_eq_true] at h
    rcases h with h | h
    · exact known_occ p g.1 h
    · exact knowns_occ r g.2 h
end
theorem backs_lk {ρ : List (Nat × Nat)} : ∀ {m : Mem} {j k : Nat}, lk j (backs ρ m) = some k → lk k ρ = some j ∧ ∃ o, (k, o) ∈ m ∧ lk j (renM ρ m) = some (renO (rho ρ) o)
  | [], j, k, h => by cases h
  | (k', o) :: r, j, k, h => by
    simp only [backs] at h
    cases e : lk k' ρ with
    | none =>
      rw [e] at h
      obtain ⟨h1, o1, h2, h3⟩ := backs_lk h
      exact ⟨h1, o1, List.mem_cons_of_mem _ h2, by simp only [renM, e]; exact h3⟩
    | some j' =>
      simp only [e] at h
      by_cases hj : j = j'
      · subst hj
        rw [lk_cons_self] at h
        cases h
        exact ⟨e, o, List.mem_cons_self, by simp only [renM, e, lk_cons_self]⟩
      · rw [lk_cons_other hj] at h
        obtain ⟨h1, o1, h2, h3⟩ := backs_lk h
        exact ⟨h1, o1, List.mem_cons_of_mem _ h2, by simp only [renM, e]; rw [lk_cons_other hj]; exact h3⟩
theorem renM_lk {ρ : List (Nat × Nat)} : ∀ {m : Mem} {j : Nat} {o : MO}, lk j (renM ρ m) = some o → ∃ k, lk j (backs ρ m) = some k
  | [], j, o, h => by cases h
  | (k', o') :: r, j, o, h => by
    simp only [renM] at h
    simp only [backs]
    cases e : lk k' ρ with
    | none => rw [e] at h; exact renM_lk h
    | some j' =>
      simp only [e] at h ⊢
      by_cases hj : j = j'
      · subst hj; exact ⟨k', by rw [lk_cons_self]⟩
      · rw [lk_cons_other hj] at h ⊢; exact renM_lk h
theorem backs_first {ρ : List (Nat × Nat)} : ∀ {m : Mem} {j k : Nat}, lk j (backs ρ m) = some k → ∃ o, lk k m = some o ∧ lk j (renM ρ m) = some (renO (rho ρ) o)
  | [], j, k, h => by cases h
  | (k', o) :: r, j, k, h => by
    have hk := (backs_lk h).1
    simp only [backs] at h
    cases e : lk k' ρ with
    | none =>
      rw [e] at h
      have hne : k ≠ k' := fun x => by subst x; rw [e] at hk; cases hk
      obtain ⟨o1, h2, h3⟩ := backs_first h
      exact ⟨o1, by rw [lk_cons_other hne]; exact h2, by simp only [renM, e]; exact h3⟩
    | some j' =>
      simp only [e] at h
      by_cases hj : j = j'
      · subst hj
        rw [lk_cons_self] at h
        cases h
        exact ⟨o, lk_cons_self .., by simp only [renM, e, lk_cons_self]⟩
      · rw [lk_cons_other hj] at h
        have hne : k ≠ k' := fun x => by subst x; rw [e] at hk; cases hk; exact hj rfl
        obtain ⟨o1, h2, h3⟩ := backs_first h
        exact ⟨o1, by rw [lk_cons_other hne]; exact h2, by simp only [renM, e]; rw [lk_cons_other hj]; exact h3⟩
theorem moved_not {cm : Mem} : ∀ {bk : List (Nat × Nat)} {j k : Nat}, lk j bk = some k → j ∉ moved cm bk → lentVar cm k = true
  | [], j, k, h, _ => by cases h
  | (j', k') :: r, j, k, h, hn => by
    simp only [moved] at hn
    by_cases hj : j = j'
    · subst hj
      rw [lk_cons_self] at h
      cases h
      cases e : lentVar cm k' with
      | true => rfl
      | false => rw [e] at hn; exact absurd List.mem_cons_self hn
    · rw [lk_cons_other hj] at h
      refine moved_not h fun hm => hn ?_
      cases lentVar cm k' with
      | true => exact hm
      | false => exact List.mem_cons_of_mem _ hm
section
variable {P : Program} {G : Gl}
theorem lendCall {f : FuncId} {cargs args : List PV} {cm cm' m : Mem} {cr : PV} {ρ : List (Nat × Nat)} {env : Env} (hb : Body P f) (h : AC P G f cargs cm cr cm')
    (ha : argOK (rho ρ) cargs args) (hm : MemAs (rho ρ) cm m) (hn : namesOK ρ cm cm' cr = true) :
    CallS P G f args env m (ren (rho ρ) cr) (killE (moved cm (backs ρ cm')) env) (setM (renM ρ cm') (killM (moved cm (backs ρ cm')) m)) := by
  intro R σ a w vs he hj hr
  refine .inl ⟨hb, ?_⟩
  simp only [namesOK, Bool.and_eq_true] at hn
  obtain ⟨⟨⟨⟨n1, n2⟩, n3⟩, n4⟩, n5⟩ := hn
  have hr' : RelPs (σ.ren (rho ρ)) cargs vs := by
    obtain ⟨g1, g2⟩ := argOK_rel (σ := σ) cargs args ha
    refine ⟨g1.trans hr.1, fun i p v e1 e2 => ?_⟩
    have hi : i < args.length := by rw [← g1]; exact (List.getElem?_eq_some_iff.1 e1).1
    exact g2 i p args[i] v e1 (List.getElem?_eq_getElem hi) (hr.2 i args[i] v (List.getElem?_eq_getElem hi) e2)
  refine (h (σ.ren (rho ρ)) w vs (hj.enter hm) hr').mono ?_
  rintro e w' ⟨v, σ', rfl, rv, hj'⟩
  let bk := backs ρ cm'
  let σ1 : Gh := ⟨σ'.h, fun j => match lk j bk with | some k => σ'.loc k | none => σ.loc j⟩
  have hhm : σ.h.le σ1.h := hj'.hm
  have hin : ∀ k, knownK bk ρ k = true → ∀ L, σ'.loc k = some L → σ1.loc (rho ρ k) = some L := by
    intro k hk L hL
    obtain ⟨j, h1, h2⟩ := knownK_iff.1 hk
    simp only [σ1, rho, h1, h2]
    exact hL
  have hcm : ∀ k o, lk k cm = some o → ∃ j o1, lk k ρ = some j ∧ lk j bk = some k ∧ lk j m = some o1 ∧ isVar o1 = isVar o := by
    intro k o e
    obtain ⟨j, h1, h2⟩ := knownK_iff.1 (List.all_eq_true.1 n1 _ (lk_mem e))
    obtain ⟨o1, h3, h4⟩ := hm.1 k o e
    simp only [rho, h1] at h3
    exact ⟨j, o1, h1, h2, h3, by rw [h4.1, isVar_renO]⟩
  have hmv : ∀ j, j ∉ moved cm bk → ∀ L, σ.loc j = some L → σ1.loc j = some L := by
    intro j hj1 L hL
    show (match lk j bk with | some k => σ'.loc k | none => σ.loc j) = some L
    cases e : lk j bk with
    | none => exact hL
    | some k =>
      simp only
      have hlv := moved_not e hj1
      simp only [lentVar, Bool.and_eq_true] at hlv
      have hk := (backs_lk e).1
      refine hj'.kp k L (Nat.le_of_ble_eq_true hlv.1) ?_
      have h2 := hlv.2
      split at h2
      · rename_i o ho
        cases o with
        | var cells =>
          simp only [Ent.at, ho, Gh.ren, rho, hk]
          exact hL
        | _ => cases h2
      · cases h2
  have hB0 : ∀ b, (Ent.at (σ.ren (rho ρ)) cm w).B0 b → ∃ k o lo hi, lk (rho ρ k) m = some o ∧ (lk (rho ρ k) bk).isSome = true ∧ σ.loc (rho ρ k) = some (b, lo, hi) ∧ lo < hi := by
    rintro b ⟨k, o, lo, hi, e, l, hlt⟩
    obtain ⟨j, o1, h1, h2, h3, _⟩ := hcm k o e
    simp only [Gh.ren] at l
    refine ⟨k, o1, lo, hi, ?_, ?_, l, hlt⟩
    · simp only [rho, h1]; exact h3
    · simp only [rho, h1, h2]; rfl
  have hsz : w.heap.size ≤ w'.heap.size := hj'.sz
  have hrest : ∀ j o, lk j bk = none → lk j m = some o → ∀ b lo hi, σ.loc j = some (b, lo, hi) → lo < hi → ¬ (Ent.at (σ.ren (rho ρ)) cm w).B0 b := by
    intro j o e1 e2 b lo hi e3 hlt hB
    obtain ⟨k, o1, lo1, hi1, g1, g2, g3, g4⟩ := hB0 b hB
    refine hj.inv.dis j (rho ρ k) o o1 b lo hi b lo1 hi1 e2 g1 (fun x => ?_) e3 g3 hlt g4 rfl
    rw [← x, e1] at g2; cases g2
  have hcell : ∀ b x, b < w.heap.size → ¬ (Ent.at (σ.ren (rho ρ)) cm w).B0 b → w'.cell? ⟨b, x, none⟩ = w.cell? ⟨b, x, none⟩ := fun b x hb hnb => World.cell?_of_block (w := w) (hj'.old b hb hnb)
  have hfro : ∀ b x, b < w.heap.size → ¬ (Ent.at (σ.ren (rho ρ)) cm w).B0 b → w'.frozen? ⟨b, x, none⟩ = w.frozen? ⟨b, x, none⟩ := fun b x hb hnb => World.frozen?_of_block (w := w) (hj'.old b hb hnb)
  have hlk : ∀ j o, lk j (setM (renM ρ cm') (killM (moved cm bk) m)) = some o →
      (∃ k o', lk j bk = some k ∧ lk k cm' = some o' ∧ o = renO (rho ρ) o') ∨ (lk j bk = none ∧ ∃ o', lk j m = some o' ∧ o = killO (moved cm bk) o') := by
    intro j o e
    rw [lk_setM] at e
    cases e1 : lk j bk with
    | some k =>
      obtain ⟨o', h1, h2⟩ := backs_first e1
      rw [h2] at e
      cases e
      exact .inl ⟨k, o', rfl, h1, rfl⟩
    | none =>
      cases e2 : lk j (renM ρ cm') with
      | some o2 =>
        obtain ⟨k, hk⟩ := renM_lk e2
        exact absurd hk (by simp only [bk] at e1; rw [e1]; simp)
      | none =>
        rw [e2] at e
        simp only [lk_killM] at e
        cases e3 : lk j m with
        | none => rw [e3] at e; cases e
        | some o' => rw [e3] at e; cases e; exact .inr ⟨rfl, o', rfl, rfl⟩
  have hloc1 : ∀ j k, lk j bk = some k → σ1.loc j = σ'.loc k := fun j k e => by simp only [σ1, e]
  have hloc0 : ∀ j, lk j bk = none → σ1.loc j = σ.loc j := fun j e => by simp only [σ1, e]
  have hnewown : ∀ k o b lo hi, lk k cm' = some o → σ'.loc k = some (b, lo, hi) → lo < hi → w.heap.size ≤ b ∨ (Ent.at (σ.ren (rho ρ)) cm w).B0 b := fun k o b lo hi e l hlt => hj'.own k o b lo hi e l hlt
  refine ⟨v, σ1, rfl, RelP.doren (σ := σ') (σ' := σ1) (f := rho ρ) (Hp.le_refl _) rv (fun k hk L hL => hin k (known_occ cr n3 hk) L hL), he.killed hhm hmv, ?_⟩
  refine { inv := { hh := hj'.inv.hh, obj := ?_, dis := ?_ }, glob := hj'.glob, hm := Hp.le_trans hj.hm hhm, os := hj'.os.trans hj.os, tape := hj'.tape.trans hj.tape, out := hj'.out.trans hj.out,
           sz := Nat.le_trans hj.sz hsz, old := fun b hb1 hnb => ?_, hn := fun b x hb1 hnb e => ?_, own := ?_, kp := fun j L hk e => ?_, kn := fun j o L hk e e2 => ?_ }
  · intro j o e
    rcases hlk j o e with ⟨k, o', h1, h2, rfl⟩ | ⟨h1, o', h2, rfl⟩
    · obtain ⟨b, lo, hi, q1, q2, q3, q4⟩ := hj'.inv.obj k o' h2
      refine ⟨b, lo, hi, by rw [hloc1 j k h1]; exact q1, q2, q3, ?_⟩
      have hkn := List.all_eq_true.1 n2 _ (lk_mem h2)
      simp only [Bool.and_eq_true] at hkn
      cases o' with
      | tip => trivial
      | vec => exact q4
      | var cells =>
        refine ⟨by rw [rens_len]; exact q4.1, fun i p hp => ?_⟩
        rw [rens_get] at hp
        cases hc : cells[i]? with
        | none => rw [hc] at hp; cases hp
        | some y =>
          rw [hc] at hp; cases hp
          obtain ⟨u, r1, r2, r3⟩ := q4.2 i y hc
          exact ⟨u, r1, RelP.doren (σ := σ') (σ' := σ1) (f := rho ρ) (Hp.le_refl _) r2 fun k' hk' L hL => hin k' (knowns_occ cells hkn.2 (occs_mem hc hk')) L hL, r3⟩
    · obtain ⟨b, lo, hi, q1, q2, q3, q4⟩ := hj.inv.obj j o' h2
      have hnb : lo < hi → ¬ (Ent.at (σ.ren (rho ρ)) cm w).B0 b := fun hlt => hrest j o' h1 h2 b lo hi q1 hlt
      have hblt : lo < hi → b < w.heap.size := fun hlt => own_lt q3 hlt
      have hc2 : ∀ x v, lo ≤ x → x < hi → w.cell? ⟨b, x, none⟩ = some v → w'.cell? ⟨b, x, none⟩ = some v := fun x v g1 g2 g3 => by
        rw [hcell b x (hblt (by omega)) (hnb (by omega))]; exact g3
      refine ⟨b, lo, hi, by rw [hloc0 j h1]; exact q1, q2, fun x g1 g2 => ?_, ?_⟩
      · obtain ⟨a1, ⟨u, a2⟩, a3⟩ := q3 x g1 g2
        exact ⟨hj'.hn b x (hblt (by omega)) (hnb (by omega)) a1, ⟨u, hc2 x u g1 g2 a2⟩, by rw [hfro b x (hblt (by omega)) (hnb (by omega))]; exact a3⟩
      · cases o' with
        | tip => trivial
        | vec s l c => exact q4.vecMono hhm (fun g hl x => by rw [hfro b x (hblt hl) (hnb hl)]; exact g hl x) hc2
        | var cells =>
          have h41 : hi = lo + cells.length := q4.1
          refine ⟨by simpa using h41, fun i p hp => ?_⟩
          rw [List.getElem?_map] at hp
          cases hc : cells[i]? with
          | none => rw [hc] at hp; cases hp
          | some y =>
            rw [hc] at hp; cases hp
            have hi3 := (List.getElem?_eq_some_iff.1 hc).1
            obtain ⟨u, r1, r2, r3⟩ := q4.2 i y hc
            exact ⟨u, hc2 _ _ (by omega) (by omega) r1, r2.killed hhm hmv, r3⟩
  · intro j1 j2 o1 o2 b1 lo1 hi1 b2 lo2 hi2 e1 e2 hne l1 l2 hl1 hl2
    rcases hlk j1 o1 e1 with ⟨k1, p1, g1, g2, rfl⟩ | ⟨g1, p1, g2, rfl⟩ <;> rcases hlk j2 o2 e2 with ⟨k2, p2, g3, g4, rfl⟩ | ⟨g3, p2, g4, rfl⟩
    · rw [hloc1 j1 k1 g1] at l1
      rw [hloc1 j2 k2 g3] at l2
      refine hj'.inv.dis k1 k2 p1 p2 b1 lo1 hi1 b2 lo2 hi2 g2 g4 (fun x => hne ?_) l1 l2 hl1 hl2
      have := (backs_lk g1).1
      rw [x, (backs_lk g3).1] at this
      cases this; rfl
    · rw [hloc1 j1 k1 g1] at l1
      rw [hloc0 j2 g3] at l2
      intro hbb
      subst hbb
      obtain ⟨b', lo', hi', q1, _, q3, _⟩ := hj.inv.obj j2 p2 g4
      rw [l2] at q1; cases q1
      rcases hnewown k1 p1 b1 lo1 hi1 g2 l1 hl1 with h1 | h1
      · have := own_lt q3 hl2; omega
      · exact hrest j2 p2 g3 g4 b1 lo2 hi2 l2 hl2 h1
    · rw [hloc0 j1 g1] at l1
      rw [hloc1 j2 k2 g3] at l2
      intro hbb
      subst hbb
      obtain ⟨b', lo', hi', q1, _, q3, _⟩ := hj.inv.obj j1 p1 g2
      rw [l1] at q1; cases q1
      rcases hnewown k2 p2 b1 lo2 hi2 g4 l2 hl2 with h1 | h1
      · have := own_lt q3 hl1; omega
      · exact hrest j1 p1 g1 g2 b1 lo1 hi1 l1 hl1 h1
    · rw [hloc0 j1 g1] at l1
      rw [hloc0 j2 g3] at l2
      exact hj.inv.dis j1 j2 p1 p2 b1 lo1 hi1 b2 lo2 hi2 g2 g4 hne l1 l2 hl1 hl2
  · have hb' : b < w.heap.size := Nat.lt_of_lt_of_le hb1 hj.sz
    have : w'.heap[b]? = w.heap[b]? := by
      refine hj'.old b hb' fun hB => ?_
      obtain ⟨k, o1, lo1, hi1, g1, _, g3, g4⟩ := hB0 b hB
      rcases hj.own _ o1 b lo1 hi1 g1 g3 g4 with h1 | h1
      · omega
      · exact hnb h1
    rw [this]
    exact hj.old b hb1 hnb
  · have hb' : b < w.heap.size := Nat.lt_of_lt_of_le hb1 hj.sz
    refine hj'.hn b x hb' (fun hB => ?_) (hj.hn b x hb1 hnb e)
    obtain ⟨k, o1, lo1, hi1, g1, _, g3, g4⟩ := hB0 b hB
    rcases hj.own _ o1 b lo1 hi1 g1 g3 g4 with h1 | h1
    · omega
    · exact hnb h1
  · intro j o b lo hi e l hlt
    rcases hlk j o e with ⟨k, o', h1, h2, rfl⟩ | ⟨h1, o', h2, rfl⟩
    · rw [hloc1 j k h1] at l
      rcases hnewown k o' b lo hi h2 l hlt with h3 | h3
      · exact .inl (Nat.le_trans hj.sz h3)
      · obtain ⟨k', o1, lo1, hi1, g1, _, g3, g4⟩ := hB0 b h3
        exact hj.own _ o1 b lo1 hi1 g1 g3 g4
    · rw [hloc0 j h1] at l
      exact hj.own j o' b lo hi h2 l hlt
  ·
    cases e1 : lk j bk with
    | none => rw [hloc0 j e1]; exact hj.kp j L hk e
    | some k =>
      obtain ⟨o', h1, _⟩ := backs_first e1
      have hkρ := (backs_lk e1).1
      have n4' := List.all_eq_true.1 n4 _ (lk_mem h1)
      simp only [Bool.or_eq_true, hkρ, Nat.blt_eq] at n4'
      rcases n4' with h2 | h2
      · obtain ⟨oc, hoc⟩ := Option.isSome_iff_exists.1 h2
        obtain ⟨j', o1, g1, g2, g3, g4⟩ := hcm k oc hoc
        rw [hkρ] at g1; cases g1
        have hv := hj.kn j o1 L hk g3 e
        rw [g4] at hv
        have n5' := List.all_eq_true.1 n5 _ (lk_mem hoc)
        simp only [hv, Bool.not_true, Bool.false_or, Bool.and_eq_true] at n5'
        rw [hloc1 j k e1]
        refine hj'.kp k L (Nat.le_of_ble_eq_true n5'.1) ?_
        cases oc with
        | var cells =>
          simp only [Ent.at, hoc, Gh.ren, rho, hkρ]
          exact hj.kp j L hk e
        | _ => cases hv
      · omega
  · rcases hlk j o e with ⟨k, o', h1, h2, rfl⟩ | ⟨h1, o', h2, rfl⟩
    · rw [isVar_renO]
      have hkρ := (backs_lk h1).1
      have n4' := List.all_eq_true.1 n4 _ (lk_mem h2)
      simp only [Bool.or_eq_true, hkρ, Nat.blt_eq] at n4'
      rcases n4' with h3 | h3
      · obtain ⟨oc, hoc⟩ := Option.isSome_iff_exists.1 h3
        obtain ⟨j', o1, g1, g2, g3, g4⟩ := hcm k oc hoc
        rw [hkρ] at g1; cases g1
        have hv := hj.kn j o1 L hk g3 e2
        rw [g4] at hv
        have n5' := List.all_eq_true.1 n5 _ (lk_mem hoc)
        simp only [hv, Bool.not_true, Bool.false_or, Bool.and_eq_true, h2] at n5'
        exact n5'.2
      · omega
    · rw [isVar_killO]; exact hj.kn j o' L hk h2 e2
end
end Go.Kn
namespace Go.Kn
open Go
section
variable {P : Program} {G : Gl} {o : Oper} {env : Env} {m : Mem}
theorem rel_vec {σ : Gh} {k s i n : Nat} {v : Value} (r : RelP σ (.vec k s i n) v) : ∃ (L : Loc) (a : Option (Nat × Nat)) (cap : Nat), σ.loc k = some L ∧ v = .slice (a.map fun x => ⟨x.1, x.2, none⟩) n cap ∧
    L.2.1 + i * s + cap * s = L.2.2 ∧ n ≤ cap ∧ (a = some (L.1, L.2.1 + i * s) ∨ (n = 0 ∧ cap = 0)) := by
  cases r with
  | vec _ _ _ _ cap L hk hc he => exact ⟨L, some (L.1, L.2.1 + i * s), cap, hk, rfl, he, hc, .inl rfl⟩
  | vec0 _ _ _ a L hk he => exact ⟨L, a, 0, hk, rfl, by simpa using he, Nat.le_refl _, .inr ⟨rfl, rfl⟩⟩
theorem RelP.mkvec {σ : Gh} {k s i n cap : Nat} {L : Loc} {a : Option (Nat × Nat)} (hk : σ.loc k = some L) (he : L.2.1 + i * s + cap * s = L.2.2) (hn : n ≤ cap) (ha : a = some (L.1, L.2.1 + i * s) ∨ (n = 0 ∧ cap = 0)) :
    RelP σ (.vec k s i n) (.slice (a.map fun x => ⟨x.1, x.2, none⟩) n cap) := by
  rcases ha with rfl | ⟨rfl, rfl⟩
  · exact .vec k s i n cap L hk hn he
  · exact .vec0 k s i a L hk (by simpa using he)
theorem step_vec_len {t e : Nat} {x : Operand} {k s i n : Nat} (ho : o.op = .call { callee := .builtin .len, args := #[x], argTypes := #[t] }) (ht : P.underlying t = some (.slice e))
    (hp : evalO G env x = some (.vec k s i n)) : SV P G o env m (.i (.int .i64 (n : Int))) := by
  refine fun R σ a w he hj => ⟨_, .i _ _ (.int _ _), exec_builtin ho a fun cs => ?_⟩
  obtain ⟨L, b, cap, _, hv, _⟩ := rel_vec (evalO_rel he hj hp)
  simp [builtin, Builtin.len_, run_underlying ht, hv, goInt]
theorem step_vec_cap {t e : Nat} {x : Operand} {k s i n c : Nat} {l : List PV} (ho : o.op = .call { callee := .builtin .cap, args := #[x], argTypes := #[t] }) (ht : P.underlying t = some (.slice e))
    (hp : evalO G env x = some (.vec k s i n)) (hm : lk k m = some (.vec s l (some c))) : SV P G o env m (.i (.int .i64 ((c - i : Nat) : Int))) := by
  refine fun R σ a w he hj => ⟨_, .i _ _ (.int _ _), exec_builtin ho a fun cs => ?_⟩
  obtain ⟨L, b, cap, hk, hv, h1, _, _⟩ := rel_vec (evalO_rel he hj hp)
  obtain ⟨b', lo, hi, hk', hle, hown, h0, _, _, cap0, h2, h3, h4, _⟩ := hj.inv.obj k _ hm
  rw [hk'] at hk; cases hk
  have hc : c = cap0 := h4 c rfl
  subst hc
  have hcap : cap = c - i := by
    simp only at h1
    have h5 : (i + cap) * s = c * s := by rw [Nat.add_mul]; omega
    have := Nat.eq_of_mul_eq_mul_right h0 h5
    omega
  simp [builtin, Builtin.cap_, run_underlying ht, hv, goInt, hcap]
theorem run_sliceB {len cap : Nat} {lo hi : Option Value} {l h : Option Int} (hl : (lo = none ∧ l = none) ∨ ∃ k n, lo = some (.int k n) ∧ l = some n)
    (hh : (hi = none ∧ h = none) ∨ ∃ k n, hi = some (.int k n) ∧ h = some n) (h0 : 0 ≤ l.getD 0) (h1 : l.getD 0 ≤ h.getD len) (h2 : h.getD len ≤ cap) (w : World) :
    (Instr.sliceBounds true len cap lo hi none).run P w = .ok ((l.getD 0).toNat, (h.getD len).toNat, cap) w := by
  rcases hl with ⟨rfl, rfl⟩ | ⟨k, n, rfl, rfl⟩ <;> rcases hh with ⟨rfl, rfl⟩ | ⟨k', n', rfl, rfl⟩ <;> simp only [Option.getD_none, Option.getD_some] at h0 h1 h2 ⊢
  · simp [Instr.sliceBounds]
  · have g1 : 0 ≤ n' ∧ n' ≤ (cap : Int) := ⟨by omega, by omega⟩
    simp [Instr.sliceBounds, Instr.sliceBound, asIntOf, g1]
  · have g1 : 0 ≤ n ∧ n ≤ (len : Int) := ⟨by omega, by omega⟩
    simp [Instr.sliceBounds, Instr.sliceBound, asIntOf, g1]
  · have g1 : 0 ≤ n' ∧ n' ≤ (cap : Int) := ⟨by omega, by omega⟩
    have g2 : 0 ≤ n ∧ n ≤ (n'.toNat : Int) := ⟨by omega, by omega⟩
    simp [Instr.sliceBounds, Instr.sliceBound, asIntOf, g1]
    intro _
    omega
theorem run_vec_slice {t e : Nat} {te : TI} {x : Operand} {lo hi : Option Operand} {k s i n : Nat} {l h : Option Int} {R : Ent} {σ : Gh} {a : Act} {w : World} (ho : o.op = .slice t x lo hi none) (ht : P.underlying t = some (.slice e)) (T2 : TOK1 P e te)
    (hs : te.size = s) (he : EnvOK σ env a) (hj : J G R σ m w) (hp : evalO G env x = some (.vec k s i n)) (hl : evalB G env lo = some l) (hh : evalB G env hi = some h) (h0 : 0 ≤ l.getD 0) (h1 : l.getD 0 ≤ h.getD n)
    (h2 : ∀ cap, n ≤ cap → (∀ L, σ.loc k = some L → L.2.1 + i * s + cap * s = L.2.2) → h.getD n ≤ cap) :
    ∃ v, RelP σ (.vec k s (i + (l.getD 0).toNat) ((h.getD n).toNat - (l.getD 0).toNat)) v ∧ (execOp a.eval o).run P w = .ok (.value v) w := by
  obtain ⟨L, b, cap, hk, hv, h3, h4, h5⟩ := rel_vec (evalO_rel he hj hp)
  have h6 := h2 cap h4 (fun L' hL => by rw [hk] at hL; cases hL; exact h3)
  have hb := run_sliceB (P := P) (len := n) (cap := cap) (evalB_rel he hj hl) (evalB_rel he hj hh) h0 h1 h6 w
  have hrun : (execOp a.eval o).run P w = .ok (.value (.slice (if cap = (l.getD 0).toNat then (b.map fun x => (⟨x.1, x.2, none⟩ : Addr)) else (b.map fun x => (⟨x.1, x.2, none⟩ : Addr)).map (·.add ((l.getD 0).toNat * s))) ((h.getD n).toNat - (l.getD 0).toNat) (cap - (l.getD 0).toNat))) w := by
    simp only [execOp, ho, hv, Instr.sliceAt, Sem.run_bind, run_underlying ht, Result.andThen_ok, Instr.slice, Option.map_none, hb, T2.run_size, Sem.run_pure, hs]
  have hle : (l.getD 0).toNat ≤ cap := by omega
  have heq : L.2.1 + (i + (l.getD 0).toNat) * s + (cap - (l.getD 0).toNat) * s = L.2.2 := by
    rw [← h3, Nat.add_mul, Nat.sub_mul]
    have : (l.getD 0).toNat * s ≤ cap * s := Nat.mul_le_mul_right s hle
    omega
  by_cases hc : cap = (l.getD 0).toNat
  · rw [if_pos hc] at hrun
    refine ⟨_, RelP.mkvec hk heq (by omega) (.inr ⟨by omega, by omega⟩), hrun⟩
  · rw [if_neg hc] at hrun
    rcases h5 with rfl | ⟨_, h7⟩
    · simp only [Option.map_some, add_plain] at hrun
      refine ⟨_, RelP.mkvec (a := some (L.1, L.2.1 + (i + (l.getD 0).toNat) * s)) hk heq (by omega) (.inl rfl), ?_⟩
      rw [hrun]
      simp only [Option.map_some]
      rw [show L.2.1 + (i + (l.getD 0).toNat) * s = L.2.1 + i * s + (l.getD 0).toNat * s by rw [Nat.add_mul]; omega]
    · omega
theorem step_vec_slice {t e : Nat} {te : TI} {x : Operand} {lo hi : Option Operand} {k s i n : Nat} {l h : Option Int} (ho : o.op = .slice t x lo hi none) (ht : P.underlying t = some (.slice e)) (T2 : TOK1 P e te) (hs : te.size = s)
    (hp : evalO G env x = some (.vec k s i n)) (hl : evalB G env lo = some l) (hh : evalB G env hi = some h) (h0 : 0 ≤ l.getD 0) (h1 : l.getD 0 ≤ h.getD n) (h2 : h.getD n ≤ n) :
    SV P G o env m (.vec k s (i + (l.getD 0).toNat) ((h.getD n).toNat - (l.getD 0).toNat)) := by
  refine fun R σ a w he hj => run_vec_slice ho ht T2 hs he hj hp hl hh h0 h1 fun cap hc _ => by omega
theorem J.weakObj {R : Ent} {σ : Gh} {w : World} {k : Nat} {ob ob' : MO} (hj : J G R σ m w) (hm : lk k m = some ob) (hv : isVar ob' = isVar ob) (h : ∀ b lo hi, MOK σ w b lo hi ob → MOK σ w b lo hi ob') : J G R σ ((k, ob') :: rm k m) w := by
  have hlk : ∀ k' o1, lk k' ((k, ob') :: rm k m) = some o1 → (k' = k ∧ o1 = ob') ∨ (k' ≠ k ∧ lk k' m = some o1) := by
    intro k' o1 e
    by_cases hkk : k' = k
    · subst hkk; rw [lk_cons_self] at e; cases e; exact .inl ⟨rfl, rfl⟩
    · rw [lk_cons_other hkk, lk_rm_other hkk] at e; exact .inr ⟨hkk, e⟩
  have hex : ∀ k' o1, lk k' ((k, ob') :: rm k m) = some o1 → ∃ o2, lk k' m = some o2 := fun k' o1 e => by
    rcases hlk k' o1 e with ⟨rfl, _⟩ | ⟨_, e⟩
    · exact ⟨_, hm⟩
    · exact ⟨_, e⟩
  refine { inv := { hh := hj.inv.hh, obj := fun k' o1 e => ?_, dis := fun k1 k2 o1 o2 b lo hi b' lo' hi' e1 e2 => ?_ }, glob := hj.glob, hm := hj.hm, os := hj.os, tape := hj.tape, out := hj.out,
           sz := hj.sz, old := hj.old, hn := hj.hn, own := fun k' o1 b lo hi e => ?_, kp := hj.kp, kn := fun k' o1 L g1 g2 g3 => ?_ }
  · rcases hlk k' o1 e with ⟨rfl, rfl⟩ | ⟨_, e⟩
    · obtain ⟨b, lo, hi, q1, q2, q3, q4⟩ := hj.inv.obj _ _ hm
      exact ⟨b, lo, hi, q1, q2, q3, h _ _ _ q4⟩
    · exact hj.inv.obj k' o1 e
  · obtain ⟨p1, hp1⟩ := hex _ _ e1
    obtain ⟨p2, hp2⟩ := hex _ _ e2
    exact hj.inv.dis k1 k2 p1 p2 b lo hi b' lo' hi' hp1 hp2
  · obtain ⟨p1, hp1⟩ := hex _ _ e
    exact hj.own k' p1 b lo hi hp1
  · rcases hlk k' o1 g2 with ⟨rfl, rfl⟩ | ⟨_, e⟩
    · rw [hv]; exact hj.kn _ _ L g1 hm g3
    · exact hj.kn k' o1 L g1 e g3
theorem step_vec_ext {t e c : Nat} {te : TI} {x : Operand} {lo hi : Option Operand} {k s i n : Nat} {l h : Option Int} {els : List PV} (ho : o.op = .slice t x lo hi none) (ht : P.underlying t = some (.slice e)) (T2 : TOK1 P e te) (hs : te.size = s)
    (hp : evalO G env x = some (.vec k s i n)) (hm : lk k m = some (.vec s els (some c))) (hl : evalB G env lo = some l) (hh : evalB G env hi = some h) (h0 : 0 ≤ l.getD 0) (h1 : l.getD 0 ≤ h.getD n) (h2 : i + (h.getD n).toNat ≤ c) :
    Step P G o env m (.vec k s (i + (l.getD 0).toNat) ((h.getD n).toNat - (l.getD 0).toNat)) env ((k, .vec s (els ++ List.replicate (i + (h.getD n).toNat - els.length) .dead) (some c)) :: rm k m) := by
  intro R σ a w he hj _ next Q kk
  obtain ⟨b', lo', hi', hk', hle, hown, g0, _, _, cap0, g2, g3, g4, _⟩ := hj.inv.obj k _ hm
  have hc : c = cap0 := g4 c rfl
  subst hc
  obtain ⟨v, hv, hrun⟩ := run_vec_slice (P := P) ho ht T2 hs he hj hp hl hh h0 h1 fun cap hcap hL => by
    have h3 := hL _ hk'
    simp only at h3
    have h5 : (i + cap) * s = c * s := by rw [Nat.add_mul]; omega
    have := Nat.eq_of_mul_eq_mul_right g0 h5
    omega
  simp only [Oper.wp, hrun, Oper.upon_value]
  refine kk σ v w hv he (hj.weakObj hm rfl ?_)
  rintro b lo hi ⟨q0, q1, q2, cap, q3, q4, q5, q6⟩
  have hcc := q5 c rfl
  refine ⟨q0, q1, q2, cap, q3, by simp; omega, q5, fun j y hy => ?_⟩
  by_cases hj : j < els.length
  · rw [List.getElem?_append_left hj] at hy; exact q6 j y hy
  · rw [List.getElem?_append_right (by omega), List.getElem?_replicate] at hy
    split at hy <;> cases hy
theorem step_slice0 {t e : Nat} {te : TI} {x hi mx : Operand} {p : PV} {kk kk' : IntKind} (ho : o.op = .slice t x none (some hi) (some mx)) (ht : P.underlying t = some (.slice e)) (T2 : TOK1 P e te)
    (hp : evalO G env x = some p) (hpp : ∃ k s i n, p = .vec k s i n) (hh : evalO G env hi = some (.i (.int kk 0))) (hmx : evalO G env mx = some (.i (.int kk' 0))) : SV P G o env m (.full []) := by
  refine fun R σ a w he hj => ?_
  have r1 := rel_int (evalO_rel he hj hh)
  have r2 := rel_int (evalO_rel he hj hmx)
  have key : ∃ (b : Option (Nat × Nat)) (n c : Nat), a.eval x = .slice (b.map fun x => ⟨x.1, x.2, none⟩) n c := by
    obtain ⟨k, s, i, n, rfl⟩ := hpp
    obtain ⟨L, b, cap, _, hv, _⟩ := rel_vec (evalO_rel he hj hp)
    exact ⟨b, n, cap, hv⟩
  obtain ⟨b, n, c, hv⟩ := key
  refine ⟨.slice (b.map fun x => ⟨x.1, x.2, none⟩) 0 0, ?_, ?_⟩
  · refine RelP.full [] (b.map fun x => ⟨x.1, x.2, none⟩) ?_ (by cases b <;> trivial)
    cases b with
    | none => exact .nilS
    | some a => exact .slice a.1 a.2 0 0 [] (fun _ _ => undef) (Nat.le_refl _) (fun i x e => by simp at e) (fun i x j y e => by simp at e) (fun i x j y e => by simp at e) (fun i x j y e => by simp at e)
  · simp [execOp, ho, hv, r1, r2, Instr.sliceAt, run_underlying ht, Instr.slice, Instr.sliceBounds, Instr.sliceBound, asIntOf, T2.run_size]
theorem step_vec_index {t e : Nat} {ti : TI} {x ix : Operand} {k s i n : Nat} {kk : IntKind} {j : Int} (ho : o.op = .indexAddr t x ix) (ht : P.underlying t = some (.slice e)) (T : TOK1 P e ti) (hs : ti.size = s)
    (hp : evalO G env x = some (.vec k s i n)) (hi : evalO G env ix = some (.i (.int kk j))) (h0 : 0 ≤ j) (h1 : j < n) : SV P G o env m (.ep k s (i + j.toNat) 0) := by
  refine fun R σ a w he hj => ?_
  obtain ⟨L, b, cap, hk, hv, h3, h4, h5⟩ := rel_vec (evalO_rel he hj hp)
  have ri := rel_int (evalO_rel he hj hi)
  rcases h5 with rfl | ⟨h6, _⟩
  · refine ⟨_, .ep k s (i + j.toNat) 0 L hk, ?_⟩
    simp only [Option.map_some] at hv
    simp only [execOp, ho, hv, ri, Sem.run_bind, run_indexAt_slice ht T _ _ _ _ kk j h0 h1, Result.andThen_ok, Sem.run_pure, hs]
    rw [show L.2.1 + (i + j.toNat) * s + 0 = L.2.1 + i * s + j.toNat * s by rw [Nat.add_mul]; omega]
  · omega
theorem step_ep_field {s f : Nat} {x : Operand} {fs : Array Field} {fl : Field} {ti : TI} {k sz i off : Nat} (ho : o.op = .fieldAddr s x f) (hs : P.underlying s = some (.struct fs)) (hf : fs[f]? = some fl)
    (T : TOK1 P fl.type ti) (hz : ti.size ≠ 0) (hp : evalO G env x = some (.ep k sz i off)) : SV P G o env m (.ep k sz i (off + fl.offset)) := by
  refine fun R σ a w he hj => ?_
  have r := evalO_rel he hj hp
  generalize hv : a.eval x = v at r
  cases r with | ep _ _ _ _ L hk =>
  have := RelP.ep (σ := σ) k sz i (off + fl.offset) L hk
  rw [← Nat.add_assoc] at this
  refine ⟨_, this, ?_⟩
  simp only [execOp, ho, hv, Sem.run_bind, run_fieldAt hs hf T hz, Result.andThen_ok, Sem.run_pure]
theorem step_ep_index {t n e : Nat} {ti : TI} {x ix : Operand} {k s i off : Nat} {kk : IntKind} {j : Int} (ho : o.op = .indexAddr t x ix) (ht : P.underlying t = some (.array n e)) (T : TOK1 P e ti)
    (hp : evalO G env x = some (.ep k s i off)) (hi : evalO G env ix = some (.i (.int kk j))) (h0 : 0 ≤ j) (h1 : j < n) : SV P G o env m (.ep k s i (off + j.toNat * ti.size)) := by
  refine fun R σ a w he hj => ?_
  have r := evalO_rel he hj hp
  have ri := rel_int (evalO_rel he hj hi)
  generalize hv : a.eval x = v at r
  cases r with | ep _ _ _ _ L hk =>
  have := RelP.ep (σ := σ) k s i (off + j.toNat * ti.size) L hk
  rw [← Nat.add_assoc] at this
  refine ⟨_, this, ?_⟩
  simp only [execOp, ho, hv, ri, Sem.run_bind, run_indexAt_arr ht T _ _ kk j h0 h1, Result.andThen_ok, Sem.run_pure]
theorem J.elem {R : Ent} {σ : Gh} {w : World} {k s i : Nat} {l : List PV} {c : Option Nat} {x : IV} {L : Loc} (hj : J G R σ m w) (hm : lk k m = some (.vec s l c)) (hk : σ.loc k = some L) (hx : l[i]? = some (.i x)) :
    ∀ (j : Nat) (y : IV), x.cells[j]? = some y → ∃ v, w.cell? ⟨L.1, L.2.1 + i * s + j, none⟩ = some v ∧ RelI σ.h y v ∧ v.oneCell' = true := by
  obtain ⟨b', lo', hi', hk', hle, hown, g0, _, _, cap0, g2, g3, g4, g5⟩ := hj.inv.obj k _ hm
  rw [hk] at hk'; cases hk'
  exact (g5 i x hx).2
theorem step_ep_load_agg {t : Nat} {ti : TI} {x : Operand} {k s i off : Nat} {l : List PV} {c : Option Nat} {y : IV} (T : TOK1 P t ti) (ha : isAggD ti.d = true) (ho : o.op = .load t x)
    (hp : evalO G env x = some (.ep k s i off)) (hm : lk k m = some (.vec s l c)) (hx : l[i]? = some (.i y)) (hl : ((y.cells.drop off).take ti.size).length = ti.size) :
    SV P G o env m (.i (.agg ((y.cells.drop off).take ti.size))) := by
  refine fun R σ a w he hj => ?_
  have r := evalO_rel he hj hp
  generalize hv : a.eval x = v at r
  cases r with | ep _ _ _ _ L hk =>
  have key : ∀ (j : Nat) (z : IV), ((y.cells.drop off).take ti.size)[j]? = some z → ∃ v, w.cell? ⟨L.1, L.2.1 + i * s + off + j, none⟩ = some v ∧ RelI σ.h z v ∧ v.oneCell' = true := by
    intro j z hz
    have h2 := take_get hz
    rw [List.getElem?_drop] at h2
    have := hj.elem hm hk hx (off + j) z h2
    rwa [← Nat.add_assoc] at this
  refine ⟨_, .i _ _ (relI_aggOf _ (fun j => (w.cell? ⟨L.1, L.2.1 + i * s + off + j, none⟩).getD undef) (fun j z hz => ?_) (fun j z hz => ?_)), ?_⟩
  · obtain ⟨v, h1, h2, h3⟩ := key j z hz
    simp [h1, h3]
  · obtain ⟨v, h1, h2, h3⟩ := key j z hz
    simpa [h1] using h2
  · rw [hl]
    simp only [execOp, ho, Instr.loadAt, hv, Instr.sureAddr, Sem.run_bind, Sem.run_pure, Result.andThen_ok]
    rw [run_loadVar_agg T ha L.1 _ (fun j => (w.cell? ⟨L.1, L.2.1 + i * s + off + j, none⟩).getD undef) w (fun j hj' => ?_)]
    · simp
    · obtain ⟨v, h1, h2, h3⟩ := key j _ (List.getElem?_eq_getElem (by rw [hl]; exact hj'))
      simp [h1]
theorem step_ep_load_one {t : Nat} {ti : TI} {x : Operand} {k s i off : Nat} {l : List PV} {c : Option Nat} {y z : IV} (T : TOK1 P t ti) (ha : isAggD ti.d = false) (ho : o.op = .load t x)
    (hp : evalO G env x = some (.ep k s i off)) (hm : lk k m = some (.vec s l c)) (hx : l[i]? = some (.i y)) (hz : y.cells[off]? = some z) : SV P G o env m (.i z) := by
  refine fun R σ a w he hj => ?_
  have r := evalO_rel he hj hp
  generalize hv : a.eval x = v at r
  cases r with | ep _ _ _ _ L hk =>
  obtain ⟨v, h1, h2, h3⟩ := hj.elem hm hk hx off z hz
  refine ⟨v, .i _ _ h2, ?_⟩
  simp only [execOp, ho, Instr.loadAt, hv, Instr.sureAddr, Sem.run_bind, Sem.run_pure, Result.andThen_ok]
  rw [run_loadVar_one T ha _ v w h1]
  simp
structure Src (h : Hp) (xs : List PV) (s : Nat) (vs : List Value) : Prop where
  len : vs.length = xs.length * s
  one : ∀ v ∈ vs, v.oneCell' = true
  el : ∀ (i : Nat) (x : IV), xs[i]? = some (.i x) → x.cells.length = s ∧ ∀ (j : Nat) (y : IV), x.cells[j]? = some y → ∃ v, vs[i * s + j]? = some v ∧ RelI h y v
theorem Src.mono {h h' : Hp} (hh : h.le h') {xs : List PV} {s : Nat} {vs : List Value} (c : Src h xs s vs) : Src h' xs s vs :=
  ⟨c.len, c.one, fun i x e => ⟨(c.el i x e).1, fun j y e2 => by obtain ⟨v, a, b⟩ := (c.el i x e).2 j y e2; exact ⟨v, a, b.mono hh⟩⟩⟩
theorem Src.ofCells {h : Hp} {l : List IV} {s : Nat} {vs : List Value} (c : CellsOf h l s vs) : Src h (l.map .i) s vs :=
  ⟨by simp [c.len], c.one, fun i x e => by
    rw [List.getElem?_map] at e
    cases hx : l[i]? with
    | none => rw [hx] at e; cases e
    | some y =>
      rw [hx] at e
      simp only [Option.map_some, Option.some.injEq, PV.i.injEq] at e
      subst e
      exact ⟨c.es y (List.mem_of_getElem? hx), fun j z hz => c.get i y j z hx hz⟩⟩
theorem Src.take {h : Hp} {xs : List PV} {s : Nat} {vs : List Value} (c : Src h xs s vs) (n : Nat) : Src h (xs.take n) s (vs.take (n * s)) := by
  have hmin : min n xs.length * s = min (n * s) (xs.length * s) := by
    rcases Nat.le_total n xs.length with g | g
    · have := Nat.mul_le_mul_right s g
      rw [Nat.min_eq_left g, Nat.min_eq_left this]
    · have := Nat.mul_le_mul_right s g
      rw [Nat.min_eq_right g, Nat.min_eq_right this]
  refine ⟨by rw [List.length_take, List.length_take, c.len, hmin], fun v hv => c.one v (List.mem_of_mem_take hv), fun i x e => ?_⟩
  have hi := (List.getElem?_eq_some_iff.1 e).1
  rw [List.length_take] at hi
  obtain ⟨h1, h2⟩ := c.el i x (take_get e)
  refine ⟨h1, fun j y hy => ?_⟩
  obtain ⟨v, h3, h4⟩ := h2 j y hy
  have hj := (List.getElem?_eq_some_iff.1 hy).1
  refine ⟨v, ?_, h4⟩
  rw [List.getElem?_take, if_pos (cell_pos (show i < n by omega) (by omega))]
  exact h3
theorem Src.append {h : Hp} {xs ys : List PV} {s : Nat} {vs us : List Value} (c : Src h xs s vs) (d : Src h ys s us) : Src h (xs ++ ys) s (vs ++ us) := by
  refine ⟨by simp [c.len, d.len, Nat.add_mul], fun v hv => by rcases List.mem_append.1 hv with g | g; exact c.one v g; exact d.one v g, fun i x e => ?_⟩
  by_cases hi : i < xs.length
  · rw [List.getElem?_append_left hi] at e
    obtain ⟨h1, h2⟩ := c.el i x e
    refine ⟨h1, fun j y hy => ?_⟩
    obtain ⟨v, h3, h4⟩ := h2 j y hy
    have hj := (List.getElem?_eq_some_iff.1 hy).1
    exact ⟨v, by rw [List.getElem?_append_left (by rw [c.len]; exact cell_pos hi (by omega))]; exact h3, h4⟩
  · rw [List.getElem?_append_right (by omega)] at e
    obtain ⟨h1, h2⟩ := d.el _ x e
    refine ⟨h1, fun j y hy => ?_⟩
    obtain ⟨v, h3, h4⟩ := h2 j y hy
    have hge : xs.length * s ≤ i * s := Nat.mul_le_mul_right s (by omega)
    refine ⟨v, ?_, h4⟩
    rw [List.getElem?_append_right (by rw [c.len]; omega), c.len]
    rw [Nat.sub_mul] at h3
    rw [← h3]
    congr 1
    omega
theorem J.vecCells {R : Ent} {σ : Gh} {w : World} {k s i n : Nat} {l : List PV} {c : Option Nat} {v : Value} (hj : J G R σ m w) (hm : lk k m = some (.vec s l c)) (r : RelP σ (.vec k s i n) v) (hin : i + n ≤ l.length) (n' : Nat) (hn : n' ≤ n) :
    ∃ vs, Src σ.h ((l.drop i).take n') s vs ∧ ∀ W : World, (∀ x, W.cell? x = w.cell? x) → (Builtin.firstCells s n' v).run P W = .ok vs.toArray W := by
  obtain ⟨L, a, cap, hk, hv, h1, h2, h3⟩ := rel_vec r
  obtain ⟨b', lo', hi', hk', hle, hown, g0, _, gx, cap0, g2, g3, g4, g5⟩ := hj.inv.obj k _ hm
  rw [hk] at hk'; cases hk'
  simp only at h1
  have hlen : ((l.drop i).take n').length = n' := by simp; omega
  have hcn : (i + n) * s ≤ cap0 * s := Nat.mul_le_mul_right s (by omega)
  have hnn : n' * s ≤ n * s := Nat.mul_le_mul_right s hn
  rw [Nat.add_mul] at hcn
  let vs : List Value := (List.range (n' * s)).map fun j => (w.cell? ⟨b', lo' + i * s + j, none⟩).getD undef
  have hvl : vs.length = n' * s := by simp [vs]
  have hget : ∀ j, j < n' * s → ∃ u, w.cell? ⟨b', lo' + i * s + j, none⟩ = some u ∧ u.oneCell' = true ∧ vs[j]? = some u := fun j hj' => by
    obtain ⟨u, q1, q2⟩ := gx (lo' + i * s + j) (by omega) (by omega)
    exact ⟨u, q1, q2, by simp [vs, hj', q1]⟩
  refine ⟨vs, ⟨by rw [hlen, hvl], fun u hu => ?_, fun j x hx => ?_⟩, fun W hW => ?_⟩
  · obtain ⟨j, hj', rfl⟩ := List.mem_iff_getElem.1 hu
    obtain ⟨u, q1, q2, q3⟩ := hget j (by rw [← hvl]; exact hj')
    rw [List.getElem?_eq_getElem hj'] at q3
    cases q3; exact q2
  · have hjn : j < n' := by rw [← hlen]; exact (List.getElem?_eq_some_iff.1 hx).1
    have hx2 := take_get hx
    rw [List.getElem?_drop] at hx2
    obtain ⟨q1, q2⟩ := g5 _ x hx2
    refine ⟨q1, fun j' y hy => ?_⟩
    obtain ⟨u, q3, q4, q5⟩ := q2 j' y hy
    have hj2 := (List.getElem?_eq_some_iff.1 hy).1
    obtain ⟨u', p1, p2, p3⟩ := hget (j * s + j') (cell_pos hjn (by omega))
    rw [show lo' + i * s + (j * s + j') = lo' + (i + j) * s + j' by rw [Nat.add_mul]; omega, q3] at p1
    cases p1
    exact ⟨u, p3, q4⟩
  · subst hv
    rcases h3 with rfl | ⟨rfl, rfl⟩
    · simp only [Option.map_some, Builtin.firstCells]
      have := run_loadCells_list (P := P) W ⟨b', lo' + i * s, none⟩ vs (fun j u hu => by
        obtain ⟨u', q1, q2, q3⟩ := hget j (by rw [← hvl]; exact (List.getElem?_eq_some_iff.1 hu).1)
        rw [hu] at q3; cases q3
        rw [add_plain, hW]; exact q1)
      rw [hvl] at this
      exact this
    · have hn0 : n' = 0 := by omega
      subst hn0
      cases a with
      | none => simp [Builtin.firstCells, vs]
      | some a => simp [Builtin.firstCells, vs, loadCells, loadCellsFrom]
theorem MOK.vecWrite {σ : Gh} {w w' : World} {b lo hi s i : Nat} {l xs : List PV} {c : Option Nat} {vs : List Value} (h : MOK σ w b lo hi (.vec s l c)) (hs : Src σ.h xs s vs) (hi' : i ≤ l.length) (hfit : lo + i * s + vs.length ≤ hi)
    (hf : ∀ x, w'.frozen? ⟨b, x, none⟩ = w.frozen? ⟨b, x, none⟩)
    (hkeep : ∀ x v, w.cell? ⟨b, x, none⟩ = some v → (x < lo + i * s ∨ lo + i * s + vs.length ≤ x) → w'.cell? ⟨b, x, none⟩ = some v) (hin : ∀ j, j < vs.length → w'.cell? ⟨b, lo + i * s + j, none⟩ = vs[j]?) :
    MOK σ w' b lo hi (.vec s (l.take i ++ xs ++ l.drop (i + xs.length)) c) := by
  obtain ⟨h0, h1, h2, cap, h3, h4, h5, h6⟩ := h
  have hxc : i + xs.length ≤ cap := by
    rw [hs.len, h3] at hfit
    have : (i + xs.length) * s ≤ cap * s := by rw [Nat.add_mul]; omega
    exact Nat.le_of_mul_le_mul_right this h0
  refine ⟨h0, fun g x => by rw [hf]; exact h1 g x, fun x g1 g2 => ?_, cap, h3, by simp; omega, h5, fun j x hx => ?_⟩
  · by_cases hx : lo + i * s ≤ x ∧ x < lo + i * s + vs.length
    · have hj := hin (x - (lo + i * s)) (by omega)
      rw [show lo + i * s + (x - (lo + i * s)) = x by omega, List.getElem?_eq_getElem (by omega)] at hj
      exact ⟨_, hj, hs.one _ (List.getElem_mem _)⟩
    · obtain ⟨v, g3, g4⟩ := h2 x g1 g2
      exact ⟨v, hkeep x v g3 (by omega), g4⟩
  · have hmin : min i l.length = i := by omega
    by_cases h7 : j < i
    · rw [List.append_assoc, List.getElem?_append_left (by simp; omega), List.getElem?_take, if_pos h7] at hx
      obtain ⟨g1, g2⟩ := h6 j x hx
      refine ⟨g1, fun j' y hy => ?_⟩
      obtain ⟨v, q1, q2, q3⟩ := g2 j' y hy
      have hj2 := (List.getElem?_eq_some_iff.1 hy).1
      have := cell_pos h7 (show j' < s by omega)
      exact ⟨v, hkeep _ v q1 (.inl (by omega)), q2, q3⟩
    · by_cases h8 : j < i + xs.length
      · rw [List.append_assoc, List.getElem?_append_right (by simp; omega), List.getElem?_append_left (by simp; omega)] at hx
        simp only [List.length_take, hmin] at hx
        obtain ⟨g1, g2⟩ := hs.el _ x hx
        refine ⟨g1, fun j' y hy => ?_⟩
        obtain ⟨v, q1, q2⟩ := g2 j' y hy
        have hlt := (List.getElem?_eq_some_iff.1 q1).1
        have := hin _ hlt
        rw [q1] at this
        refine ⟨v, ?_, q2, hs.one v (List.mem_of_getElem? q1)⟩
        rw [← this]
        congr 2
        rw [Nat.sub_mul]
        have : i * s ≤ j * s := Nat.mul_le_mul_right s (by omega)
        omega
      · rw [List.getElem?_append_right (by simp; omega)] at hx
        simp only [List.length_append, List.length_take, hmin, List.getElem?_drop] at hx
        rw [show i + xs.length + (j - (i + xs.length)) = j by omega] at hx
        obtain ⟨g1, g2⟩ := h6 j x hx
        refine ⟨g1, fun j' y hy => ?_⟩
        obtain ⟨v, q1, q2, q3⟩ := g2 j' y hy
        have hge : (i + xs.length) * s ≤ j * s := Nat.mul_le_mul_right s (by omega)
        rw [Nat.add_mul] at hge
        exact ⟨v, hkeep _ v q1 (.inr (by rw [hs.len]; omega)), q2, q3⟩
end
end Go.Kn
namespace Go.Kn
open Go
section
variable {P : Program} {G : Gl} {o : Oper} {env : Env} {m : Mem}
theorem J.killM {R : Ent} {σ : Gh} {w : World} (κ : List Nat) (hj : J G R σ m w) : J G R σ (killM κ m) w := by
  have hlk : ∀ k o, lk k (Kn.killM κ m) = some o → ∃ o', lk k m = some o' ∧ o = killO κ o' := fun k o e => by
    rw [lk_killM] at e
    cases e' : lk k m with
    | none => rw [e'] at e; cases e
    | some o' => rw [e'] at e; cases e; exact ⟨o', rfl, rfl⟩
  refine { inv := { hh := hj.inv.hh, obj := fun k o e => ?_, dis := fun k1 k2 o1 o2 b lo hi b' lo' hi' e1 e2 => ?_ }, glob := hj.glob, hm := hj.hm, os := hj.os, tape := hj.tape, out := hj.out,
           sz := hj.sz, old := hj.old, hn := hj.hn, own := fun k o b lo hi e => ?_, kp := hj.kp, kn := fun k o L g1 g2 g3 => ?_ }
  · obtain ⟨o', h1, rfl⟩ := hlk k o e
    obtain ⟨b, lo, hi, q1, q2, q3, q4⟩ := hj.inv.obj k o' h1
    refine ⟨b, lo, hi, q1, q2, q3, ?_⟩
    cases o' with
    | tip => trivial
    | vec => exact q4
    | var cells =>
      refine ⟨by rw [List.length_map]; exact q4.1, fun i p hp => ?_⟩
      rw [List.getElem?_map] at hp
      cases hc : cells[i]? with
      | none => rw [hc] at hp; cases hp
      | some y =>
        rw [hc] at hp; cases hp
        obtain ⟨v, r1, r2, r3⟩ := q4.2 i y hc
        exact ⟨v, r1, r2.killed (Hp.le_refl _) (fun _ _ _ e => e), r3⟩
  · obtain ⟨p1, h1, _⟩ := hlk _ _ e1
    obtain ⟨p2, h2, _⟩ := hlk _ _ e2
    exact hj.inv.dis k1 k2 p1 p2 b lo hi b' lo' hi' h1 h2
  · obtain ⟨p1, h1, _⟩ := hlk _ _ e
    exact hj.own k p1 b lo hi h1
  · obtain ⟨p1, h1, rfl⟩ := hlk _ _ g2
    rw [isVar_killO]; exact hj.kn k p1 L g1 h1 g3
theorem EnvOK.killE {σ : Gh} {a : Act} (κ : List Nat) (he : EnvOK σ env a) : EnvOK σ (Kn.killE κ env) a := he.killed (Hp.le_refl _) fun _ _ _ e => e
theorem lk_killM_vec {κ : List Nat} {k s : Nat} {l : List PV} {c : Option Nat} (h : lk k m = some (.vec s l c)) : lk k (killM κ m) = some (.vec s l c) := by
  rw [lk_killM, h]; rfl
theorem step_ep_store {t : Nat} {ti : TI} {x y : Operand} {k s i : Nat} {l : List PV} {c : Option Nat} {q : PV} {z : IV} (T : TOK1 P t ti) (ho : o.op = .store t x y)
    (hx : evalO G env x = some (.ep k s i 0)) (hy : evalO G env y = some q) (hq : iv? q = some z) (hnt : notTup z = true) (hm : lk k m = some (.vec s l c)) (hs : z.cells.length = s) (hts : ti.size = s) (hi : i < l.length) :
    Step P G o env m .dead env ((k, .vec s (l.set i (.i z)) c) :: rm k m) := by
  intro R σ a w he hj _ next Q kk
  have rx := evalO_rel he hj hx
  have rz := (evalO_rel he hj hy).iv hq
  generalize hv : a.eval x = v at rx
  cases rx with | ep _ _ _ _ L hk =>
  obtain ⟨b, lo, hi'⟩ := L
  obtain ⟨b', lo', hi2, hk', hle, hown, hmok⟩ := hj.inv.obj k _ hm
  rw [hk] at hk'; cases hk'
  have hmok' := hmok
  obtain ⟨g0, _, gx, cap0, g2, g3, g4, g5⟩ := hmok'
  have hpc : pcells (.i z) = some (z.cells.map .i) := by cases z <;> first | rfl | (simp [notTup] at hnt)
  obtain ⟨q1, q2⟩ := rel_pcells (.i _ _ rz : RelP σ (.i z) (a.eval y)) hpc
  rw [List.length_map] at q1
  have hone : ∀ u ∈ (a.eval y).cells.toList, u.oneCell' = true := fun u hu => by
    obtain ⟨j, hj', rfl⟩ := List.mem_iff_getElem.1 hu
    exact (q2 j (.i (z.cells[j]'(by omega))) _ (by simp [show j < z.cells.length by omega]) (List.getElem?_eq_getElem hj')).2
  have hsrc : Src σ.h [.i z] s (a.eval y).cells.toList := by
    refine ⟨by simp; simpa [hs] using q1.symm, hone, fun j x e => ?_⟩
    have hj0 : j = 0 := by
      cases j with
      | zero => rfl
      | succ j => simp at e
    subst hj0
    simp at e
    subst e
    refine ⟨hs, fun j y' hy' => ?_⟩
    have hj2 := (List.getElem?_eq_some_iff.1 hy').1
    have hlt : j < (a.eval y).cells.toList.length := by omega
    rw [Nat.zero_mul, Nat.zero_add]
    exact ⟨_, List.getElem?_eq_getElem hlt, (q2 j (.i y') _ (by simp [hy']) (List.getElem?_eq_getElem hlt)).1.iv rfl⟩
  have hfit : lo + i * s + (a.eval y).cells.toList.length ≤ hi' := by
    have := cell_pos (show i < cap0 by omega) (show s - 1 < s by omega)
    rw [g2, ← q1, hs]; omega
  have hrun : (execOp a.eval o).run P w = .ok .skip (w.setCells b (lo + i * s) (a.eval y).cells.toList) := by
    simp only [execOp, ho, hv, Instr.storeAt, Instr.sureAddr, Sem.run_bind, Sem.run_pure, Result.andThen_ok, Nat.add_zero]
    rw [run_storeVar T b (lo + i * s) (a.eval y) w (by omega)]
    · rfl
    · intro j hj'
      obtain ⟨_, ⟨v, hv⟩, _⟩ := hown (lo + i * s + j) (by omega) (by omega)
      simp [hv]
    · intro j hj'
      exact (hown (lo + i * s + j) (by omega) (by omega)).2.2
    · exact hone
  simp only [Oper.wp, hrun, Oper.upon_skip]
  refine kk σ undef _ (.dead _) he (hj.setObj hm hk (i * s) _ hfit _ rfl fun h1 h2 => ?_)
  have := hmok.vecWrite hsrc (Nat.le_of_lt hi) hfit (fun x => World.frozen?_setCells ..) h1 h2
  rw [show l.set i (.i z) = l.take i ++ [.i z] ++ l.drop (i + 1) by rw [List.set_eq_take_append_cons_drop, if_pos hi]; simp]
  exact this
inductive SrcP (m : Mem) (q : PV) (s : Nat) : List PV → Prop where
  | iv (l : List IV) (h : iv? q = some (.slice l)) (hs : ∀ v ∈ l, v.cells.length = s) : SrcP m q s (l.map .i)
  | vec (k i n : Nat) (l : List PV) (c : Option Nat) (h : q = .vec k s i n) (hm : lk k m = some (.vec s l c)) (hl : i + n ≤ l.length) : SrcP m q s ((l.drop i).take n)
theorem SrcP.run {R : Ent} {σ : Gh} {w : World} {q : PV} {s : Nat} {xs : List PV} {v : Value} (h : SrcP m q s xs) (hj : J G R σ m w) (r : RelP σ q v) (n' : Nat) (hn : n' ≤ xs.length) :
    (∃ a c, v = .slice a xs.length c) ∧ ∃ vs, Src σ.h (xs.take n') s vs ∧ ∀ W : World, (∀ x, W.cell? x = w.cell? x) → (Builtin.firstCells s n' v).run P W = .ok vs.toArray W := by
  cases h with
  | iv l h hs =>
    have ri := r.iv h
    obtain ⟨b, c, rfl⟩ := run_of_relI ri
    refine ⟨⟨b, c, by simp⟩, ?_⟩
    obtain ⟨vs, h1, _, h3⟩ := slice_cells (P := P) ri hs
    refine ⟨vs.take (n' * s), (Src.ofCells h1).take n', fun W hW => ?_⟩
    have hlen : (vs.take (n' * s)).length = n' * s := by
      have := Nat.mul_le_mul_right s (show n' ≤ l.length by simpa using hn)
      rw [List.length_take, h1.len]; omega
    rcases h3 with h3 | ⟨b', off, rfl, h3⟩
    · have hn0 : n' = 0 := by simp at hn; omega
      subst hn0
      cases b with
      | none => simp [Builtin.firstCells]
      | some b => simp [Builtin.firstCells, loadCells, loadCellsFrom]
    · simp only [Builtin.firstCells]
      have := run_loadCells_list (P := P) W ⟨b', off, none⟩ (vs.take (n' * s)) (fun j u hu => by
        rw [add_plain, hW]
        exact hj.inv.hh _ _ _ (h3 j u (take_get hu)))
      rw [hlen] at this
      exact this
  | vec k i n l c h hm hl =>
    subst h
    have hxl : ((l.drop i).take n).length = n := by simp; omega
    rw [hxl] at hn ⊢
    obtain ⟨L, a, cap, _, hv, _⟩ := rel_vec r
    refine ⟨⟨_, _, hv⟩, ?_⟩
    obtain ⟨vs, h1, h2⟩ := hj.vecCells (P := P) hm r hl n' hn
    exact ⟨vs, by rw [List.take_take, Nat.min_eq_left hn]; exact h1, h2⟩
theorem zero_one {z : Value} {zx : IV} (hx : ofV z = some zx) : ∀ u ∈ z.cells.toList, u.oneCell' = true := by
  obtain ⟨ps, hps⟩ := ofV_cells hx
  obtain ⟨q1, q2⟩ := rel_pcells (.i _ _ (ofV_rel (h := fun _ _ => none) hx) : RelP ⟨fun _ _ => none, fun _ => none⟩ (.i zx) z) hps
  intro u hu
  obtain ⟨i, hi, rfl⟩ := List.mem_iff_getElem.1 hu
  exact (q2 i ps[i] _ (List.getElem?_eq_getElem (by omega)) (List.getElem?_eq_getElem hi)).2
theorem MOK.newVec {σ : Gh} {w : World} {xs : List PV} {s cap : Nat} {vs rest : List Value} {T : TypeId} (h0 : 0 < s) (hs : Src σ.h xs s vs) (hr : ∀ u ∈ rest, u.oneCell' = true) (hc : xs.length ≤ cap) (hl : rest.length = (cap - xs.length) * s) :
    MOK σ (w.alloc (.cells (vs ++ rest).toArray T)) w.heap.size 0 (vs ++ rest).length (.vec s xs none) := by
  have hlen : (vs ++ rest).length = cap * s := by
    rw [List.length_append, hs.len, hl, Nat.sub_mul]
    have := Nat.mul_le_mul_right s hc
    omega
  have hcell : ∀ x, (w.alloc (.cells (vs ++ rest).toArray T)).cell? ⟨w.heap.size, x, none⟩ = (vs ++ rest)[x]? := fun x => by rw [World.cell?_alloc_new]; simp
  refine ⟨h0, fun _ x => World.frozen?_alloc_new w _ _ _, fun x _ h2 => ⟨(vs ++ rest)[x], by rw [hcell]; exact List.getElem?_eq_getElem h2, ?_⟩, cap, by rw [hlen]; omega, hc, fun _ e => (nomatch e), fun i x hx => ?_⟩
  · rcases List.mem_append.1 (List.getElem_mem h2) with g | g
    · exact hs.one _ g
    · exact hr _ g
  · obtain ⟨h1, h2⟩ := hs.el i x hx
    refine ⟨h1, fun j y hy => ?_⟩
    obtain ⟨v, g1, g2⟩ := h2 j y hy
    have hlt := (List.getElem?_eq_some_iff.1 g1).1
    exact ⟨v, by rw [Nat.zero_add, hcell, List.getElem?_append_left hlt]; exact g1, g2, hs.one v (List.mem_of_getElem? g1)⟩
theorem step_vec_append {sT xT e k n : Nat} {ti : TI} {z : Value} {zx : IV} {x y : Operand} {q : PV} {l xs : List PV} {c : Option Nat} (A : AppT P sT xT e ti z) (hz : ofV z = some zx) (hbb : ti.bytes ≠ 0)
    (ho : o.op = .call { callee := .builtin .append, args := #[x, y], argTypes := #[sT, xT] })
    (hp : evalO G env x = some (.vec k ti.size 0 n)) (hm : lk k m = some (.vec ti.size l c)) (hn : n ≤ l.length) (hq : evalO G env y = some q) (hxs : SrcP m q ti.size xs)
    (hb : (n + xs.length) * ti.bytes ≤ 140737488355328) :
    Step P G o env m (.vec k ti.size 0 (n + xs.length)) (killE [k] env) ((k, .vec ti.size (l.take n ++ xs) none) :: rm k (killM [k] m)) := by
  intro R σ a w he hj _ next Q kk
  obtain ⟨⟨xb, xc, hxv⟩, news, hsn, hN⟩ := hxs.run (P := P) hj (evalO_rel he hj hq) xs.length (Nat.le_refl _)
  rw [List.take_length] at hsn
  have rp := evalO_rel he hj hp
  obtain ⟨L, ab, cap, hk, hv, h1, h2, h3⟩ := rel_vec rp
  obtain ⟨b, lo, hi, hk', hle, hown, hmok⟩ := hj.inv.obj k _ hm
  rw [hk] at hk'; cases hk'
  have hmok' := hmok
  obtain ⟨g0, _, gx, cap0, g2, g3, g4, g5⟩ := hmok'
  have hjk := hj.killM [k]
  have hmk : lk k (killM [k] m) = some (.vec ti.size l c) := lk_killM_vec hm
  have hek := he.killE [k]
  simp only [Nat.zero_mul, Nat.add_zero] at h1 h3
  have hcap0 : cap = cap0 := Nat.eq_of_mul_eq_mul_right g0 (by omega)
  subst hcap0
  by_cases hroom : n + xs.length ≤ cap
  · rcases h3 with rfl | ⟨rfl, rfl⟩
    · have hns : (n + xs.length) * ti.size ≤ cap * ti.size := Nat.mul_le_mul_right _ hroom
      rw [Nat.add_mul] at hns
      have hfit : lo + n * ti.size + news.length ≤ hi := by rw [hsn.len]; omega
      have hrun := run_append_in A o.type b lo n cap xs.length (a.eval y) news w ⟨xb, xc, hxv⟩ (hN w fun _ => rfl) hroom
        (fun j hj' => by obtain ⟨_, ⟨v, hv⟩, _⟩ := hown (lo + n * ti.size + j) (by omega) (by omega); simp [hv])
        (fun j hj' => (hown (lo + n * ti.size + j) (by omega) (by omega)).2.2) hsn.one
      have hv' : a.eval x = .slice (some ⟨b, lo, none⟩) n cap := by rw [hv]; rfl
      rw [← hv'] at hrun
      simp only [Oper.wp, exec_append ho a hrun, Oper.upon_value]
      refine kk σ _ _ ?_ hek (hjk.setObj hmk hk (n * ti.size) news hfit _ rfl fun q1 q2 => ?_)
      · exact RelP.mkvec (a := some (b, lo)) hk (by simp; omega) hroom (.inl (by simp))
      · have := hmok.vecWrite hsn hn hfit (fun x => World.frozen?_setCells ..) q1 q2
        refine (MLe.vec ?_ ?_).2 _ _ _ _ _ this
        · simp
        · intro i x hx
          rw [List.getElem?_append_left (List.getElem?_eq_some_iff.1 hx).1]; exact hx
    · have hx0 : xs = [] := List.eq_nil_of_length_eq_zero (by omega)
      subst hx0
      have hn0 : news = [] := List.eq_nil_of_length_eq_zero (by simpa using hsn.len)
      subst hn0
      have hrun := run_append_in_nil A o.type (ab.map fun x => (⟨x.1, x.2, none⟩ : Addr)) 0 0 (a.eval y) w ⟨xb, xc, hxv⟩ (hN w fun _ => rfl) (Nat.le_refl _)
      rw [← hv] at hrun
      simp only [Oper.wp, exec_append ho a hrun, Oper.upon_value]
      refine kk σ _ _ (by rw [hv]; exact RelP.mkvec hk (by simp; omega) (Nat.le_refl _) (.inr ⟨rfl, rfl⟩)) hek (hjk.weakObj hmk rfl fun b lo hi hmo => (MLe.vec (by simp) (by simp)).2 _ _ _ _ _ hmo)
  · obtain ⟨olds, hso, hO⟩ := hj.vecCells (P := P) hm rp (by omega) n (Nat.le_refl _)
    rw [hv] at hO
    obtain ⟨newCap, rest, hnc, hrl, hrest, hrun⟩ := run_append_grow A o.type (ab.map fun x => (⟨x.1, x.2, none⟩ : Addr)) n cap xs.length (a.eval y) olds news w ⟨xb, xc, hxv⟩ (hN w.drew fun _ => rfl) (hO w.drew fun _ => rfl) (by omega) hb hbb
    rw [← hv] at hrun
    simp only [Oper.wp, exec_append ho a hrun, Oper.upon_value]
    have hjd := hj.drew
    have hs2 := hso.append hsn
    simp only [List.drop_zero] at hs2
    have hl2 : (l.take n ++ xs).length = n + xs.length := by simp; omega
    obtain ⟨σ', hB, hloc, hnew, he', hj'⟩ := hjd.alloc (a := a) ⟨he.d, he.v⟩ k (by
        rcases Nat.lt_or_ge k 1000 with g | g
        · exact .inl g
        · exact .inr fun L e => by have := hj.kn k _ L g hm e; cases this) gives_kill (olds ++ news ++ rest) e 0 (Nat.zero_le _) (.vec ti.size (l.take n ++ xs) none)
      (fun σ' hB hl => MOK.newVec (w := w.drew) g0 (hs2.mono hB.h) (fun u hu => zero_one hz u (hrest u hu)) (by rw [hl2]; exact hnc) (by rw [hl2]; exact hrl))
    have hlen : (olds ++ news ++ rest).length = newCap * ti.size := by
      rw [List.length_append, hs2.len, hl2, hrl, Nat.sub_mul]
      have := Nat.mul_le_mul_right ti.size hnc
      omega
    refine kk σ' _ _ ?_ he' hj'
    exact RelP.mkvec (a := some (w.drew.heap.size, 0)) hloc (by show 0 + 0 * ti.size + newCap * ti.size = (olds ++ news ++ rest).length; rw [hlen]; omega) (by omega) (.inl (by simp))
theorem step_vec_append_new {sT xT e d k n c : Nat} {ti : TI} {z : Value} {zx : IV} {x y : Operand} {q : PV} {l xs : List PV} (A : AppT P sT xT e ti z) (hz : ofV z = some zx) (hbb : ti.bytes ≠ 0) (hd1 : d < 1000)
    (ho : o.op = .call { callee := .builtin .append, args := #[x, y], argTypes := #[sT, xT] })
    (hp : evalO G env x = some (.vec k ti.size 0 n)) (hm : lk k m = some (.vec ti.size l (some c))) (hn : n ≤ l.length) (hq : evalO G env y = some q) (hxs : SrcP m q ti.size xs) (hfull : c < n + xs.length)
    (hb : (n + xs.length) * ti.bytes ≤ 140737488355328) :
    Step P G o env m (.vec d ti.size 0 (n + xs.length)) (killE [d] env) ((d, .vec ti.size (l.take n ++ xs) none) :: rm d (killM [d] m)) := by
  intro R σ a w he hj _ next Q kk
  obtain ⟨⟨xb, xc, hxv⟩, news, hsn, hN⟩ := hxs.run (P := P) hj (evalO_rel he hj hq) xs.length (Nat.le_refl _)
  rw [List.take_length] at hsn
  have rp := evalO_rel he hj hp
  obtain ⟨L, ab, cap, hk, hv, h1, h2, h3⟩ := rel_vec rp
  obtain ⟨b, lo, hi, hk', hle, hown, hmok⟩ := hj.inv.obj k _ hm
  rw [hk] at hk'; cases hk'
  obtain ⟨g0, _, gx, cap0, g2, g3, g4, g5⟩ := hmok
  have hcc := g4 c rfl
  simp only [Nat.zero_mul, Nat.add_zero] at h1 h3
  have hcap0 : cap = cap0 := Nat.eq_of_mul_eq_mul_right g0 (by omega)
  obtain ⟨olds, hso, hO⟩ := hj.vecCells (P := P) hm rp (by omega) n (Nat.le_refl _)
  rw [hv] at hO
  obtain ⟨newCap, rest, hnc, hrl, hrest, hrun⟩ := run_append_grow A o.type (ab.map fun x => (⟨x.1, x.2, none⟩ : Addr)) n cap xs.length (a.eval y) olds news w ⟨xb, xc, hxv⟩ (hN w.drew fun _ => rfl) (hO w.drew fun _ => rfl) (by omega) hb hbb
  rw [← hv] at hrun
  simp only [Oper.wp, exec_append ho a hrun, Oper.upon_value]
  have hjd := hj.drew
  have hs2 := hso.append hsn
  simp only [List.drop_zero] at hs2
  have hl2 : (l.take n ++ xs).length = n + xs.length := by simp; omega
  obtain ⟨σ', hB, hloc, hnew, he', hj'⟩ := hjd.alloc (a := a) ⟨he.d, he.v⟩ d (.inl hd1) gives_kill (olds ++ news ++ rest) e 0 (Nat.zero_le _) (.vec ti.size (l.take n ++ xs) none)
    (fun σ' hB hl => MOK.newVec (w := w.drew) g0 (hs2.mono hB.h) (fun u hu => zero_one hz u (hrest u hu)) (by rw [hl2]; exact hnc) (by rw [hl2]; exact hrl))
  have hlen : (olds ++ news ++ rest).length = newCap * ti.size := by
    rw [List.length_append, hs2.len, hl2, hrl, Nat.sub_mul]
    have := Nat.mul_le_mul_right ti.size hnc
    omega
  refine kk σ' _ _ ?_ he' hj'
  exact RelP.mkvec (a := some (w.drew.heap.size, 0)) hloc (by show 0 + 0 * ti.size + newCap * ti.size = (olds ++ news ++ rest).length; rw [hlen]; omega) (by omega) (.inl (by simp))
end
end Go.Kn
namespace Go.Kn
open Go
section
variable {P : Program} {G : Gl} {o : Oper} {env : Env} {m : Mem}
theorem J.nilVec {R : Ent} {σ : Gh} {w : World} (hj : J G R σ m w) {d s : Nat} {env1 : Env} {m1 : Mem} {a : Act} (he : EnvOK σ env a) (hd : d < 1000) (hs : 0 < s) (g : Gives d env m env1 m1) :
    ∃ σ' : Gh, But d σ σ' ∧ σ'.loc d = some (0, 0, 0) ∧ EnvOK σ' env1 a ∧ J G R σ' ((d, .vec s [] none) :: rm d m1) w := by
  obtain ⟨σ', h1, h2, h3, h4⟩ := hj.but_env he hd g
  refine ⟨σ', h1, h2, h3, ?_⟩
  have hm : lk d ((d, MO.tip) :: rm d m1) = some .tip := lk_cons_self ..
  have hlk : ∀ k o1, lk k ((d, MO.vec s [] none) :: rm d m1) = some o1 → (k = d ∧ o1 = .vec s [] none) ∨ (k ≠ d ∧ lk k ((d, MO.tip) :: rm d m1) = some o1) := by
    intro k o1 e
    by_cases hk : k = d
    · subst hk; rw [lk_cons_self] at e; cases e; exact .inl ⟨rfl, rfl⟩
    · rw [lk_cons_other hk] at e; exact .inr ⟨hk, by rw [lk_cons_other hk]; exact e⟩
  have hex : ∀ k o1, lk k ((d, MO.vec s [] none) :: rm d m1) = some o1 → ∃ o2, lk k ((d, MO.tip) :: rm d m1) = some o2 := fun k o1 e => by
    rcases hlk k o1 e with ⟨rfl, _⟩ | ⟨_, e⟩
    · exact ⟨_, hm⟩
    · exact ⟨_, e⟩
  refine { inv := { hh := h4.inv.hh, obj := fun k o1 e => ?_, dis := fun k1 k2 o1 o2 b lo hi b' lo' hi' e1 e2 => ?_ }, glob := h4.glob, hm := h4.hm, os := h4.os, tape := h4.tape, out := h4.out,
           sz := h4.sz, old := h4.old, hn := h4.hn, own := fun k o1 b lo hi e => ?_, kp := h4.kp, kn := fun k o1 L g1 g2 g3 => ?_ }
  · rcases hlk k o1 e with ⟨rfl, rfl⟩ | ⟨_, e⟩
    · exact ⟨0, 0, 0, h2, Nat.le_refl _, fun x h1 h2 => by omega, hs, fun h => by omega, fun x h1 h2 => by omega, 0, by simp, Nat.le_refl _, fun _ e => (nomatch e), fun i x e => by simp at e⟩
    · exact h4.inv.obj k o1 e
  · obtain ⟨p1, hp1⟩ := hex _ _ e1
    obtain ⟨p2, hp2⟩ := hex _ _ e2
    exact h4.inv.dis k1 k2 p1 p2 b lo hi b' lo' hi' hp1 hp2
  · obtain ⟨p1, hp1⟩ := hex _ _ e
    exact h4.own k p1 b lo hi hp1
  · rcases hlk k o1 g2 with ⟨rfl, rfl⟩ | ⟨_, e⟩
    · omega
    · exact h4.kn k o1 L g1 e g3
theorem step_vec_make {sT xT e d : Nat} {ti : TI} {z : Value} {zx : IV} {x y : Operand} {q : PV} {l : List IV} {xs : List PV} (A : AppT P sT xT e ti z) (hz : ofV z = some zx) (hbb : ti.bytes ≠ 0) (hs0 : 0 < ti.size) (hd1 : d < 1000)
    (ho : o.op = .call { callee := .builtin .append, args := #[x, y], argTypes := #[sT, xT] })
    (hp : evalO G env x = some (.full l)) (hs : ∀ v ∈ l, v.cells.length = ti.size) (hq : evalO G env y = some q) (hxs : SrcP m q ti.size xs) (hne : xs = [] → l = [])
    (hb : (l.length + xs.length) * ti.bytes ≤ 140737488355328) :
    Step P G o env m (.vec d ti.size 0 (l.length + xs.length)) (killE [d] env) ((d, .vec ti.size (l.map .i ++ xs) none) :: rm d (killM [d] m)) := by
  intro R σ a w he hj _ next Q kk
  obtain ⟨⟨xb, xc, hxv⟩, news, hsn, hN⟩ := hxs.run (P := P) hj (evalO_rel he hj hq) xs.length (Nat.le_refl _)
  rw [List.take_length] at hsn
  have rp := evalO_rel he hj hp
  obtain ⟨base, hav, rl, pl⟩ : ∃ base, a.eval x = .slice base l.length l.length ∧ RelI σ.h (.slice l) (.slice base l.length l.length) ∧ PlainA base := by
    generalize hv : a.eval x = v at rp
    cases rp with | full _ b r pl => exact ⟨_, rfl, r, pl⟩
  obtain ⟨olds, hco, hO, hOl⟩ := slice_cells (P := P) rl hs
  have hOd := hO w.drew hj.inv.hh
  by_cases hx0 : xs = []
  · have hl0 := hne hx0
    subst hx0; subst hl0
    have hn0 : news = [] := List.eq_nil_of_length_eq_zero (by simpa using hsn.len)
    subst hn0
    have hrun := run_append_in_nil A o.type base 0 0 (a.eval y) w ⟨xb, xc, hxv⟩ (hN w fun _ => rfl) (Nat.le_refl _)
    have hav' : a.eval x = .slice base 0 0 := hav
    rw [← hav'] at hrun
    simp only [Oper.wp, exec_append ho a hrun, Oper.upon_value]
    obtain ⟨σ', hB, hloc, he', hj'⟩ := hj.nilVec he hd1 hs0 (gives_kill (d := d))
    have hba : ∃ b2 : Option (Nat × Nat), base = b2.map fun x => ⟨x.1, x.2, none⟩ := by
      generalize hn : ([] : List IV) = L at rl
      cases rl with
      | nilS => exact ⟨none, rfl⟩
      | oddS => exact pl.elim
      | slice b off => exact ⟨some (b, off), rfl⟩
    obtain ⟨b2, rfl⟩ := hba
    refine kk σ' _ _ ?_ he' hj'
    rw [hav']
    exact RelP.mkvec hloc (by simp) (Nat.le_refl _) (.inr ⟨rfl, rfl⟩)
  · have hpos : 0 < xs.length := List.length_pos_iff.2 hx0
    obtain ⟨newCap, rest, hnc, hrl, hrest, hrun⟩ := run_append_grow A o.type base l.length l.length xs.length (a.eval y) olds news w ⟨xb, xc, hxv⟩ (hN w.drew fun _ => rfl) hOd (by omega) hb hbb
    rw [← hav] at hrun
    simp only [Oper.wp, exec_append ho a hrun, Oper.upon_value]
    have hjd := hj.drew
    have hs2 := (Src.ofCells hco).append hsn
    have hl2 : (l.map PV.i ++ xs).length = l.length + xs.length := by simp
    obtain ⟨σ', hB, hloc, hnew, he', hj'⟩ := hjd.alloc (a := a) ⟨he.d, he.v⟩ d (.inl hd1) gives_kill (olds ++ news ++ rest) e 0 (Nat.zero_le _) (.vec ti.size (l.map .i ++ xs) none)
      (fun σ' hB hl => MOK.newVec (w := w.drew) hs0 (hs2.mono hB.h) (fun u hu => zero_one hz u (hrest u hu)) (by rw [hl2]; exact hnc) (by rw [hl2]; exact hrl))
    have hlen : (olds ++ news ++ rest).length = newCap * ti.size := by
      rw [List.length_append, hs2.len, hl2, hrl, Nat.sub_mul]
      have := Nat.mul_le_mul_right ti.size hnc
      omega
    refine kk σ' _ _ ?_ he' hj'
    exact RelP.mkvec (a := some (w.drew.heap.size, 0)) hloc (by show 0 + 0 * ti.size + newCap * ti.size = (olds ++ news ++ rest).length; rw [hlen]; omega) (by omega) (.inl (by simp))
theorem step_vec_append_zeros {sT xT e d k n c : Nat} {ti : TI} {z : Value} {zx : IV} {x y : Operand} {l : List PV} {ik kk' : IntKind} {n2 : Nat} (hus : P.underlying sT = some (.slice e)) (hux : P.underlying xT = some (.int ik)) (hT : TOK1 P e ti) (hzv : ti.zero = some z) (hzs : z.cells.size = ti.size)
    (hz : ofV z = some zx) (hd1 : d < 1000)
    (ho : o.op = .call { callee := .builtin .append, args := #[x, y], argTypes := #[sT, xT] })
    (hp : evalO G env x = some (.vec k ti.size 0 n)) (hm : lk k m = some (.vec ti.size l (some c))) (hn : n ≤ l.length) (hq : evalO G env y = some (.i (.int kk' (n2 : Int)))) (hfull : c < n + n2)
    (hb : (n + n2) * ti.bytes ≤ 140737488355328) (hbb : ti.bytes ≠ 0) :
    Step P G o env m (.vec d ti.size 0 (n + n2)) (killE [d] env) ((d, .vec ti.size (l.take n ++ List.replicate n2 .dead) none) :: rm d (killM [d] m)) := by
  intro R σ a w he hj _ next Q kk
  have ry := rel_int (evalO_rel he hj hq)
  have rp := evalO_rel he hj hp
  obtain ⟨L, ab, cap, hk, hv, h1, h2, h3⟩ := rel_vec rp
  obtain ⟨b, lo, hi, hk', hle, hown, hmok⟩ := hj.inv.obj k _ hm
  rw [hk] at hk'; cases hk'
  obtain ⟨g0, _, gx, cap0, g2, g3, g4, g5⟩ := hmok
  have hcc := g4 c rfl
  simp only [Nat.zero_mul, Nat.add_zero] at h1 h3
  have hcap0 : cap = cap0 := Nat.eq_of_mul_eq_mul_right g0 (by omega)
  obtain ⟨olds, hso, hO⟩ := hj.vecCells (P := P) hm rp (by omega) n (Nat.le_refl _)
  rw [hv] at hO
  have hO' := hO w.drew fun _ => rfl
  have hn2 : 0 < n2 := by omega
  have hzz : ∀ (cnt : Nat) (u : Value), u ∈ (Builtin.zeroCells z.cells cnt).toList → u.oneCell' = true := by
    intro cnt u hu
    refine zero_one hz u ?_
    simp only [Builtin.zeroCells, Array.toList_map, Array.toList_range, List.mem_map, List.mem_range] at hu
    obtain ⟨j, hj, rfl⟩ := hu
    have hpos : 0 < z.cells.size := by rw [hzs]; exact g0
    rw [getElem!_pos z.cells _ (Nat.mod_lt j hpos)]
    simp
  have hzl : ∀ cnt, (Builtin.zeroCells z.cells cnt).toList.length = cnt * ti.size := fun cnt => by
    rw [Array.length_toList, zeroCells_eq, hzs]
  obtain ⟨newCap, hnc, hrun⟩ : ∃ newCap, n + n2 ≤ newCap ∧ (Builtin.append_ #[sT, xT] o.type #[a.eval x, a.eval y]).run P w =
      .ok (.slice (some ⟨w.heap.size, 0, none⟩) (n + n2) newCap) (w.drew.alloc (.cells ((olds ++ (Builtin.zeroCells z.cells n2).toList) ++ (Builtin.zeroCells z.cells (newCap - (n + n2))).toList).toArray e)) := by
    obtain ⟨i, hi, hi1, hi2, hi3⟩ := hT.info
    have hz' : i.zero = some z := by rw [hi3, hzv]
    refine ⟨grownCap w (n + n2) cap e, ?_, ?_⟩
    · unfold grownCap
      simp only [Question.cut]
      omega
    · have hfit := growslice_fits (bytes := ti.bytes) (show cap < n + n2 by omega) hb
      have hn2b : n2 * ti.bytes ≤ (n + n2) * ti.bytes := Nat.mul_le_mul_right _ (by omega)
      have hpos : 1 ≤ ti.bytes := by omega
      have hn2b2 : n + n2 ≤ (n + n2) * ti.bytes := Nat.le_mul_of_pos_right _ hpos
      have hw : IntKind.i64.wrap (n2 : Int) = n2 := by rw [IntKind.wrap_i64]; omega
      have hneg : ¬ ((n2 : Int) < 0) := by omega
      have h48i : ¬ (281474976710656 < (n2 : Int) * (ti.bytes : Int)) := by
        rw [← Int.natCast_mul]
        omega
      have hn : ¬ (n + n2 ≤ cap) := by omega
      have hns : ¬ (n2 * ti.size = 0) := Nat.mul_ne_zero (by omega) (by omega)
      have h63' : ¬ (9223372036854775807 < (n : Int) + (n2 : Int)) := by omega
      have h48' : ¬ (281474976710656 < Builtin.nextslicecap (n + n2) cap * ti.bytes) := by omega
      rw [hv, ry]
      simp [Builtin.append_, run_underlying hus, run_underlying hux, sizeOf, typeInfo, zeroValue, hi, hz', hi1, hi2, asInt, asIntOf, hw, hn, hneg, hns, h63', h48', h48i, Question.forced, hO', newRow, grownCap]
      try (congr 2; apply Array.ext'; simp [List.append_assoc])
  simp only [Oper.wp, exec_append ho a hrun, Oper.upon_value]
  have hjd := hj.drew
  have hs2 : Src σ.h (l.take n ++ List.replicate n2 .dead) ti.size (olds ++ (Builtin.zeroCells z.cells n2).toList) := by
    simp only [List.drop_zero] at hso
    refine hso.append ⟨by rw [hzl]; simp, hzz n2, fun i x hx => ?_⟩
    rw [List.getElem?_replicate] at hx
    split at hx <;> cases hx
  have hl2 : (l.take n ++ List.replicate n2 PV.dead).length = n + n2 := by simp; omega
  obtain ⟨σ', hB, hloc, hnew, he', hj'⟩ := hjd.alloc (a := a) ⟨he.d, he.v⟩ d (.inl hd1) gives_kill ((olds ++ (Builtin.zeroCells z.cells n2).toList) ++ (Builtin.zeroCells z.cells (newCap - (n + n2))).toList) e 0 (Nat.zero_le _) (.vec ti.size (l.take n ++ List.replicate n2 .dead) none)
    (fun σ' hB hl => MOK.newVec (w := w.drew) g0 (hs2.mono hB.h) (hzz _) (by rw [hl2]; exact hnc) (by rw [hl2, hzl]))
  have hlen : ((olds ++ (Builtin.zeroCells z.cells n2).toList) ++ (Builtin.zeroCells z.cells (newCap - (n + n2))).toList).length = newCap * ti.size := by
    rw [List.length_append, hs2.len, hl2, hzl, Nat.sub_mul]
    have := Nat.mul_le_mul_right ti.size hnc
    omega
  refine kk σ' _ _ ?_ he' hj'
  exact RelP.mkvec (a := some (w.drew.heap.size, 0)) hloc (by show 0 + 0 * ti.size + newCap * ti.size = List.length _; rw [hlen]; omega) (by omega) (.inl (by simp))
theorem step_vec_copy {dT sT e k s i n : Nat} {te : TI} {x y : Operand} {q : PV} {l xs : List PV} {c : Option Nat} (ho : o.op = .call { callee := .builtin .copy, args := #[x, y], argTypes := #[dT, sT] })
    (hd : P.underlying dT = some (.slice e)) (T2 : TOK1 P e te) (hs : te.size = s) (hx : evalO G env x = some (.vec k s i n)) (hm : lk k m = some (.vec s l c)) (hl : i + n ≤ l.length) (hq : evalO G env y = some q) (hxs : SrcP m q s xs) :
    Step P G o env m (.i (.int .i64 ((min xs.length n : Nat) : Int))) env ((k, .vec s (l.take i ++ xs.take (min xs.length n) ++ l.drop (i + min xs.length n)) c) :: rm k m) := by
  intro R σ a w he hj _ next Q kk
  obtain ⟨⟨xb, xc, hxv⟩, news, hsn, hN⟩ := hxs.run (P := P) hj (evalO_rel he hj hq) (min xs.length n) (Nat.min_le_left _ _)
  have hNw := hN w fun _ => rfl
  have rp := evalO_rel he hj hx
  obtain ⟨L, ab, cap, hk, hv, h1, h2, h3⟩ := rel_vec rp
  obtain ⟨b, lo, hi, hk', hle, hown, hmok⟩ := hj.inv.obj k _ hm
  rw [hk] at hk'; cases hk'
  have hmok' := hmok
  obtain ⟨g0, _, gx, cap0, g2, g3, g4, g5⟩ := hmok'
  simp only at h1
  have hxl : (xs.take (min xs.length n)).length = min xs.length n := by rw [List.length_take]; omega
  have hnl : news.length = min xs.length n * s := by rw [hsn.len, hxl]
  have hcn : min xs.length n * s ≤ cap * s := Nat.mul_le_mul_right s (by omega)
  have hfit : lo + i * s + news.length ≤ hi := by rw [hnl]; omega
  have hst := run_storeCells_cells (P := P) b (lo + i * s) news 0 w (fun j hj' => by
      obtain ⟨_, ⟨v, hv⟩, _⟩ := hown (lo + i * s + j) (by omega) (by omega)
      simp [hv]) (fun j hj' => by simpa using (hown (lo + i * s + j) (by omega) (by omega)).2.2) hsn.one
  simp only [Nat.add_zero] at hst
  have hrun : (execOp a.eval o).run P w = .ok (.value (.int .i64 ((min xs.length n : Nat) : Int))) (w.setCells b (lo + i * s) news) := by
    rcases h3 with rfl | ⟨rfl, rfl⟩
    · simp only [Option.map_some] at hv
      simp only [execOp, ho, resolve, Sem.run_bind, Sem.run_pure, Result.andThen_ok, invoke, builtin]
      rw [hxv] at hNw
      simp [Builtin.copy_, run_underlying hd, hv, hxv, Builtin.lenOf, T2.run_size, hs]
      rw [show Nat.min xs.length n = min xs.length n from rfl, hNw]
      simp [hst, goInt]
    · have hn0 : news = [] := List.eq_nil_of_length_eq_zero (by rw [hnl]; simp)
      subst hn0
      simp only [execOp, ho, resolve, Sem.run_bind, Sem.run_pure, Result.andThen_ok, invoke, builtin]
      rw [hxv] at hNw
      simp only [Nat.min_zero] at hNw
      cases ab with
      | none => simp [Builtin.copy_, run_underlying hd, hv, hxv, Builtin.lenOf, T2.run_size, hs, hNw, goInt, World.setCells]
      | some b2 => simp [Builtin.copy_, run_underlying hd, hv, hxv, Builtin.lenOf, T2.run_size, hs, hNw, goInt, World.setCells, storeCells]
  simp only [Oper.wp, hrun, Oper.upon_value]
  refine kk σ _ _ (.i _ _ (.int _ _)) he (hj.setObj hm hk (i * s) news hfit _ rfl fun q1 q2 => ?_)
  have := hmok.vecWrite hsn (by omega) hfit (fun x => World.frozen?_setCells ..) q1 q2
  rw [hxl] at this
  exact this
theorem step_buildVec {t e n d : Nat} {te : TI} {parts : Array (Nat × Operand)} {z : Value} {zx : IV} {l : List IV} (ho : o.op = .buildSlice t n parts) (ht : P.underlying t = some (.slice e)) (T2 : TOK1 P e te) (hd1 : d < 1000) (h0 : 0 < te.size)
    (hz : te.zero = some z) (hx : ofV z = some zx) (hzl : zx.cells.length = te.size) (hp : evalElems G env te.size 0 parts.toList = some l) (hn : l.length = n) (hsm : n * te.size ≤ 16777216) :
    Step P G o env m (.vec d te.size 0 n) (killE [d] env) ((d, .vec te.size (l.map .i) none) :: rm d (killM [d] m)) := by
  intro R σ a w he hj _ next Q kk
  obtain ⟨cl, hco, hrun⟩ := run_buildSlice ho ht T2 hz hx hzl hp hn hsm he hj
  simp only [Oper.wp, hrun, Oper.upon_value]
  obtain ⟨σ', hB, hloc, hnew, he', hj'⟩ := hj.alloc (a := a) he d (.inl hd1) gives_kill (cl ++ []) e 0 (Nat.zero_le _) (.vec te.size (l.map .i) none)
    (fun σ' hB hl => MOK.newVec (w := w) h0 ((Src.ofCells hco).mono hB.h) (by simp) (cap := n) (by simp [hn]) (by simp [hn]))
  rw [List.append_nil] at hj' hloc
  refine kk σ' _ _ ?_ he' hj'
  refine RelP.mkvec (a := some (w.heap.size, 0)) hloc ?_ (Nat.le_refl _) (.inl (by simp))
  show 0 + 0 * te.size + n * te.size = cl.length
  rw [hco.len, hn]; omega
end
end Go.Kn
namespace Go.Kn
open Go
def Sub {α : Type} (l l' : List (Nat × α)) : Prop := ∀ t p, lk t l = some p → lk t l' = some p
section
variable {P : Program} {G : Gl}
theorem evalO_mono {oe env : Env} (h : Sub oe env) {x : Operand} {p : PV} (e : evalO G oe x = some p) : evalO G env x = some p := by
  cases x with
  | tmp t => exact h t p e
  | const v => exact e
  | global g => exact e
  | func f => exact e
theorem evalElems_mono {oe env : Env} (h : Sub oe env) {size : Nat} : ∀ {k : Nat} {ps : List (Nat × Operand)} {l : List IV}, evalElems G oe size k ps = some l → evalElems G env size k ps = some l
  | k, [], l, e => e
  | k, (i, x) :: r, l, e => by
    simp only [evalElems] at e ⊢
    cases hb : Nat.beq i k with
    | false => rw [hb] at e; cases e
    | true =>
      simp only [hb, cond_true] at e ⊢
      cases e1 : evalO G oe x with
      | none => rw [e1] at e; cases e
      | some p =>
        rw [evalO_mono h e1]
        simp only [e1] at e ⊢
        cases e2 : iv? p with
        | none => rw [e2] at e; cases e
        | some y =>
          simp only [e2] at e ⊢
          cases e4 : (Nat.beq y.cells.length size && notTup y) with
          | false => rw [e4] at e; cases e
          | true =>
            simp only [e4, cond_true] at e ⊢
            cases e3 : evalElems G oe size (k + 1) r with
            | none => rw [e3] at e; cases e
            | some l' => rw [evalElems_mono h e3]; rw [e3] at e; exact e
theorem evalB_mono {oe env : Env} (h : Sub oe env) {x : Option Operand} {p : Option Int} (e : evalB G oe x = some p) : evalB G env x = some p := by
  cases x with
  | none => exact e
  | some x =>
    simp only [evalB] at e ⊢
    cases e1 : evalO G oe x with
    | none => rw [e1] at e; cases e
    | some q => rw [evalO_mono h e1]; rw [e1] at e; exact e
theorem SrcP.sub {om m : Mem} (h : Sub om m) {q : PV} {s : Nat} {xs : List PV} (hs : SrcP om q s xs) : SrcP m q s xs := by
  cases hs with
  | iv l h1 h2 => exact .iv l h1 h2
  | vec k i n l c h1 h2 h3 => exact .vec k i n l c h1 (h _ _ h2) h3
theorem shape_of_cell {w : World} {b x : Nat} {v : Value} (h : w.cell? ⟨b, x, none⟩ = some v) : ∃ t n, w.shape? b = some (t, n) ∧ n ≠ 0 := by
  unfold World.cell? at h
  unfold World.shape?
  cases e : w.heap[b]? with
  | none => rw [e] at h; cases h
  | some ob =>
    rw [e] at h
    cases ob with
    | cells c elem fr =>
      refine ⟨elem, c.size, rfl, fun h0 => ?_⟩
      have : c = #[] := Array.eq_empty_of_size_eq_zero h0
      subst this
      simp at h
    | _ => simp at h
theorem overlapsCall {f : FuncId} {fn : Func} {tS tR e : TypeId} {te : TI} {k1 k2 s i1 n1 i2 n2 : Nat} {l1 l2 : List PV} {c1 c2 : Option Nat} {m : Mem} {env : Env} (hf : P.funcs[f]? = some fn) (hname : (fn.name == "runtime.NumGoroutine") = false)
    (hb : fn.body.isNone = true) (hn : Extern.findNext fn = none) (he : Extern.find fn = some (Extern.SlicesOverlaps.overlaps #[tS, tS] #[tR])) (ht : P.underlying tS = some (.slice e)) (hT : TOK1 P e te)
    (hne : k1 ≠ k2) (h1 : lk k1 m = some (.vec s l1 c1)) (h2 : lk k2 m = some (.vec s l2 c2)) (hp1 : 0 < n1) (hp2 : 0 < n2) :
    CallS P G f [.vec k1 s i1 n1, .vec k2 s i2 n2] env m (.i (.bool false)) env m := by
  intro R σ a w vs hE hj hr
  have hl := hr.1
  match vs, hl with
  | [v1, v2], _ =>
    have r1 := hr.2 0 _ v1 rfl rfl
    have r2 := hr.2 1 _ v2 rfl rfl
    obtain ⟨L1, a1, cap1, hk1, rfl, q1, q2, q3⟩ := rel_vec r1
    obtain ⟨L2, a2, cap2, hk2, rfl, p1, p2, p3⟩ := rel_vec r2
    obtain ⟨b1, lo1, hi1, g1, g2, g3, g0, gf1, gx1, _⟩ := hj.inv.obj k1 _ h1
    obtain ⟨b2, lo2, hi2, d1, d2, d3, d0, gf2, gx2, _⟩ := hj.inv.obj k2 _ h2
    rw [g1] at hk1; cases hk1
    rw [d1] at hk2; cases hk2
    rcases q3 with rfl | ⟨q3, _⟩
    case inr => omega
    rcases p3 with rfl | ⟨p3, _⟩
    case inr => omega
    simp only at q1 p1
    have hc1 : 0 < cap1 * s := Nat.mul_pos (by omega) g0
    have hc2 : 0 < cap2 * s := Nat.mul_pos (by omega) g0
    have hb12 := hj.inv.dis k1 k2 _ _ b1 lo1 hi1 b2 lo2 hi2 h1 h2 hne g1 d1 (by omega) (by omega)
    obtain ⟨v, hv, _⟩ := gx1 lo1 (Nat.le_refl _) (by omega)
    obtain ⟨u, hu, _⟩ := gx2 lo2 (Nat.le_refl _) (by omega)
    obtain ⟨tA, kA, hsa, _⟩ := shape_of_cell hv
    obtain ⟨tB, kB, hsb, hkB⟩ := shape_of_cell hu
    refine .inr ⟨.bool false, σ, w, ?_, .i _ _ (.bool false), hE, hj⟩
    rw [run_callFunc_extern hf hname hb hn he]
    simp only [Option.map_some]
    rw [Lib.run_overlaps_apart w tS tR e ht te.size hT.run_size ⟨b1, lo1 + i1 * s, none⟩ ⟨b2, lo2 + i2 * s, none⟩ n1 cap1 n2 cap2 hb12 tA tB kA kB hsa hsb hkB (gf1 (by omega) _) (gf1 (by omega) _)]
    rfl
end
end Go.Kn
namespace Go.Kn
open Go
section
variable {P : Program} {G : Gl} {o : Oper} {env : Env} {m : Mem}
def isNilSl : Value → Bool
  | .slice none n c => Nat.beq n 0 && Nat.beq c 0
  | _ => false
def constPs : List Value → Option (List PV)
  | [] => some []
  | v :: r => match (bif isNilSl v then some (.full []) else (match ofV1 v with
      | some x => some (PV.i x)
      | none => none)) with
    | some p => match constPs r with
      | some l => some (p :: l)
      | none => none
    | none => none
def zeroP : Value → Option PV
  | .agg cs => match constPs cs.toList with
    | some ps => some (.agg ps)
    | none => none
  | v => bif isNilSl v then some (.full []) else none
def hasNil : Value → Bool
  | .agg cs => cs.toList.any isNilSl
  | v => isNilSl v
theorem isNilSl_rel {σ : Gh} {v : Value} (h : isNilSl v = true) : RelP σ (.full []) v ∧ v.oneCell' = true := by
  unfold isNilSl at h
  split at h
  · rename_i n c
    simp only [Bool.and_eq_true] at h
    have h1 := Nat.eq_of_beq_eq_true h.1
    have h2 := Nat.eq_of_beq_eq_true h.2
    subst h1; subst h2
    exact ⟨.full [] none .nilS trivial, rfl⟩
  · cases h
theorem constPs_rel {σ : Gh} : ∀ {vs : List Value} {ps : List PV}, constPs vs = some ps → ps.length = vs.length ∧ (∀ v ∈ vs, v.oneCell' = true) ∧ ∀ (i : Nat) (p : PV) (v : Value), ps[i]? = some p → vs[i]? = some v → RelP σ p v
  | [], ps, e => by simp only [constPs] at e; cases e; exact ⟨rfl, by simp, fun i p v e => by simp at e⟩
  | v :: r, ps, e => by
    simp only [constPs] at e
    have key : ∀ p, (bif isNilSl v then some (.full []) else (match ofV1 v with
      | some x => some (PV.i x)
      | none => none)) = some p → RelP σ p v ∧ v.oneCell' = true := by
      intro p hp
      cases hn : isNilSl v with
      | true => rw [hn] at hp; cases hp; exact isNilSl_rel hn
      | false =>
        rw [hn] at hp
        simp only [cond_false] at hp
        split at hp
        · rename_i x hx
          cases hp
          obtain ⟨h1, h2⟩ := ofV1_rel (h := σ.h) hx
          exact ⟨.i _ _ h1, h2⟩
        · cases hp
    split at e
    · rename_i p hp
      obtain ⟨k1, k2⟩ := key p hp
      split at e
      · rename_i l hl
        cases e
        obtain ⟨a, b, c⟩ := constPs_rel (σ := σ) hl
        refine ⟨by simp [a], by simpa using ⟨k2, b⟩, fun i q u e1 e2 => ?_⟩
        cases i with
        | zero => simp at e1 e2; subst e1; subst e2; exact k1
        | succ i => exact c i q u (by simpa using e1) (by simpa using e2)
      · cases e
    · cases e
theorem zeroP_rel {σ : Gh} {v : Value} {p : PV} (e : zeroP v = some p) : RelP σ p v := by
  unfold zeroP at e
  split at e
  · rename_i cs
    split at e
    · rename_i ps hps
      cases e
      obtain ⟨a, b, c⟩ := constPs_rel (σ := σ) hps
      exact .agg ps cs.toList a b c
    · cases e
  · cases hn : isNilSl v with
    | true => rw [hn] at e; cases e; exact (isNilSl_rel hn).1
    | false => rw [hn] at e; cases e
theorem step_allocZ {d t : Nat} {ti : TI} {z : Value} {p : PV} {ps : List PV} {env1 : Env} {m1 : Mem} (ho : o.op = .alloc t) (hd : o.dst = some d) (T : TOK1 P t ti) (hz : ti.zero = some z) (hx : zeroP z = some p)
    (hp : pcells p = some ps) (hoc : occs d ps = false) (g : Gives d env m env1 m1) : Step P G o env m (.ptr d 0) env1 ((d, .var ps) :: rm d m1) := by
  refine step_newVar (t := t) hd (fun R σ a w he hj => ⟨z, zeroP_rel hx, ?_⟩) hp hoc g
  simp only [execOp, ho, Instr.alloc, Sem.run_bind, T.run_zero hz, Result.andThen_ok, run_newVar, Sem.run_pure]
def aFillP (place : Nat → Option (Nat × Nat)) (cells : List PV) : List (Nat × PV) → Option (List PV)
  | [] => some cells
  | (i, x) :: rest =>
    match place i with
    | none => none
    | some (off, size) => match pcells x with
      | none => none
      | some xs => bif Nat.beq xs.length size && Nat.ble (off + size) cells.length then aFillP place (cells.take off ++ xs ++ cells.drop (off + size)) rest else none
theorem fillP_rel {σ : Gh} {place : Nat → Option (Nat × Nat)} : ∀ (ps : List (Nat × PV)) (vs : List (Nat × Value)) (cs cs' : List PV) (cells : Array Value), ps.length = vs.length →
    (∀ (i : Nat) (p : Nat × PV) (v : Nat × Value), ps[i]? = some p → vs[i]? = some v → p.1 = v.1 ∧ RelP σ p.2 v.2) → RelP σ (.agg cs) (.agg cells) → aFillP place cs ps = some cs' →
    ∃ cells', Instr.fill place cells vs = some cells' ∧ RelP σ (.agg cs') (.agg cells')
  | [], [], cs, cs', cells, _, _, r, e => by
    simp only [aFillP] at e; cases e
    exact ⟨cells, rfl, r⟩
  | (i, x) :: ps, (j, v) :: vs, cs, cs', cells, hl, hr, r, e => by
    obtain ⟨hij, rx⟩ := hr 0 (i, x) (j, v) rfl rfl
    simp only at hij rx
    subst hij
    simp only [aFillP] at e
    cases hp : place i with
    | none => rw [hp] at e; cases e
    | some os =>
      obtain ⟨off, size⟩ := os
      simp only [hp] at e
      cases hxs : pcells x with
      | none => rw [hxs] at e; cases e
      | some xs =>
        simp only [hxs] at e
        cases hb : (Nat.beq xs.length size && Nat.ble (off + size) cs.length) with
        | false => rw [hb] at e; cases e
        | true =>
          rw [hb] at e
          simp only [cond_true] at e
          simp only [Bool.and_eq_true] at hb
          have hb1 := Nat.eq_of_beq_eq_true hb.1
          have hb2 := Nat.le_of_ble_eq_true hb.2
          obtain ⟨cl⟩ := cells
          obtain ⟨g1, g2, g3⟩ : cs.length = cl.length ∧ (∀ u ∈ cl, u.oneCell' = true) ∧ ∀ (i : Nat) (y : PV) (u : Value), cs[i]? = some y → cl[i]? = some u → RelP σ y u := by
            generalize hv : (Value.agg ⟨cl⟩) = V at r
            cases r with
            | agg _ vs' hl h1 hr => cases hv; exact ⟨hl, h1, hr⟩
          obtain ⟨a1, a2⟩ := rel_pcells rx hxs
          have a4 : ∀ u ∈ v.cells.toList, u.oneCell' = true := fun u hu => by
            obtain ⟨k, hk, rfl⟩ := List.mem_iff_getElem.1 hu
            exact (a2 k (xs[k]'(by omega)) _ (List.getElem?_eq_getElem (by omega)) (List.getElem?_eq_getElem hk)).2
          have hsz : v.cells.size = size := by rw [← hb1, a1]; simp
          have hfold := foldl_set v.cells.toList (⟨cl⟩ : Array Value) off 0 (by simp; omega)
          simp only [Nat.add_zero] at hfold
          have hfold2 : v.cells.zipIdx.foldl (fun cs (c, j) => cs.setIfInBounds (off + j) c) (⟨cl⟩ : Array Value) = (⟨cl.take off ++ v.cells.toList ++ cl.drop (off + v.cells.toList.length)⟩ : Array Value) := by
            apply Array.ext'
            rw [← Array.foldl_toList, Array.toList_zipIdx]
            exact hfold
          have hnew : RelP σ (.agg (cs.take off ++ xs ++ cs.drop (off + size))) (.agg (⟨cl.take off ++ v.cells.toList ++ cl.drop (off + v.cells.toList.length)⟩ : Array Value)) := by
            refine .agg _ _ (by simp; omega) ?_ ?_
            · intro u hu
              simp only [List.mem_append] at hu
              rcases hu with (hu | hu) | hu
              · exact g2 u (List.mem_of_mem_take hu)
              · exact a4 u hu
              · exact g2 u (List.mem_of_mem_drop hu)
            · intro k y u e1 e2
              rw [List.append_assoc] at e1 e2
              by_cases k1 : k < off
              · rw [List.getElem?_append_left (by simp; omega)] at e1 e2
                rw [List.getElem?_take, if_pos k1] at e1 e2
                exact g3 k y u e1 e2
              · rw [List.getElem?_append_right (by simp; omega)] at e1 e2
                have m1 : min off cs.length = off := by omega
                have m2 : min off cl.length = off := by omega
                simp only [List.length_take, m1, m2] at e1 e2
                by_cases k2 : k - off < xs.length
                · rw [List.getElem?_append_left (by omega)] at e1 e2
                  exact (a2 _ y u e1 e2).1
                · rw [List.getElem?_append_right (by omega)] at e1 e2
                  rw [List.getElem?_drop] at e1 e2
                  refine g3 (off + size + (k - off - xs.length)) y u e1 ?_
                  rw [← e2]
                  congr 1
                  omega
          obtain ⟨cells', hf, hrel⟩ := fillP_rel ps vs _ cs' _ (by simpa using hl) (fun k p v' h1 h2 => hr (k + 1) p v' (by simpa using h1) (by simpa using h2)) hnew e
          refine ⟨cells', ?_, hrel⟩
          simp only [Instr.fill, hp]
          rw [if_neg (by rw [hsz]; simp; omega), hfold2]
          exact hf
  | [], _ :: _, _, _, _, h, _, _, _ => by simp at h
  | _ :: _, [], _, _, _, h, _, _, _ => by simp at h
def evalPartsP (G : Gl) (env : Env) : List (Nat × Operand) → Option (List (Nat × PV))
  | [] => some []
  | (i, x) :: r => match evalO G env x with
    | none => none
    | some p => match evalPartsP G env r with
      | none => none
      | some l => some ((i, p) :: l)
theorem evalPartsP_rel {R : Ent} {σ : Gh} {a : Act} {w : World} (he : EnvOK σ env a) (hj : J G R σ m w) : ∀ {ps : List (Nat × Operand)} {l : List (Nat × PV)}, evalPartsP G env ps = some l →
    l.length = ps.length ∧ ∀ (i : Nat) (p : Nat × PV) (v : Nat × Value), l[i]? = some p → (ps.map fun (e : Nat × Operand) => (e.1, a.eval e.2))[i]? = some v → p.1 = v.1 ∧ RelP σ p.2 v.2
  | [], l, h => by simp only [evalPartsP] at h; cases h; simp
  | (i, x) :: r, l, h => by
    simp only [evalPartsP] at h
    cases e1 : evalO G env x with
    | none => rw [e1] at h; cases h
    | some p =>
      simp only [e1] at h
      cases e3 : evalPartsP G env r with
      | none => rw [e3] at h; cases h
      | some l' =>
        rw [e3] at h
        cases h
        obtain ⟨a1, a2⟩ := evalPartsP_rel he hj e3
        refine ⟨by simp [a1], fun k q v h1 h2 => ?_⟩
        cases k with
        | zero => simp at h1 h2; subst h1; subst h2; exact ⟨rfl, evalO_rel he hj e1⟩
        | succ k => exact a2 k q v (by simpa using h1) (by simpa using h2)
theorem evalPartsP_mono {oe env : Env} (h : Sub oe env) : ∀ {xs : List (Nat × Operand)} {l : List (Nat × PV)}, evalPartsP G oe xs = some l → evalPartsP G env xs = some l
  | [], l, e => e
  | (i, x) :: r, l, e => by
    simp only [evalPartsP] at e ⊢
    cases e1 : evalO G oe x with
    | none => rw [e1] at e; cases e
    | some p =>
      rw [evalO_mono h e1]
      simp only [e1] at e ⊢
      cases e2 : evalPartsP G oe r with
      | none => rw [e2] at e; cases e
      | some l' => rw [evalPartsP_mono h e2]; rw [e2] at e; exact e
theorem step_buildP {T : Ty} (hT : TOK P T) {t : Nat} {ti : TI} {fs : Array Field} {parts : Array (Nat × Operand)} {z : Value} {zs cs : List PV} {pl : List (Nat × Nat)} {ps : List (Nat × PV)}
    (ho : o.op = .build t parts) (T1 : TOK1 P t ti) (hd : ti.d = .struct fs) (hz : ti.zero = some z) (hx : zeroP z = some (.agg zs)) (hpl : fplaces T fs.toList = some pl)
    (hp : evalPartsP G env parts.toList = some ps) (hf : aFillP (fun (i : Nat) => pl[i]?) zs ps = some cs) : SV P G o env m (.agg cs) := by
  refine fun R σ a w he hj => ?_
  obtain ⟨a1, a2⟩ := evalPartsP_rel he hj hp
  have rz := zeroP_rel (σ := σ) hx
  cases rz with | agg _ vs hl h1 hr =>
  obtain ⟨cells', hfill, hrel⟩ := fillP_rel ps (parts.toList.map fun (e : Nat × Operand) => (e.1, a.eval e.2)) zs cs vs.toArray (by simpa using a1) a2 (.agg _ _ hl h1 hr) hf
  refine ⟨_, hrel, ?_⟩
  have hmap : (fs.mapM fun f => do pure (f.offset, ← sizeOf f.type) : Sem (Array (Nat × Nat))).run P w = .ok pl.toArray w := by
    rw [Array.mapM_eq_mapM_toList]
    simp only [Sem.run_map, run_fplaces hT w hpl, Result.andThen_ok]
  have hplace : (fun (i : Nat) => pl.toArray[i]?) = fun (i : Nat) => pl[i]? := by funext i; simp
  have hpt : (parts.map fun (i, x) => (i, a.eval x)).toList = parts.toList.map fun (e : Nat × Operand) => (e.1, a.eval e.2) := by simp
  simp only [execOp, ho, Instr.build, Sem.run_bind, T1.run_zero hz, T1.run_und, hd, Result.andThen_ok, Value.cells]
  rw [hmap]
  simp only [Result.andThen_ok, hplace, hpt, hfill, Sem.run_pure]
theorem step_load_aggP {t : Nat} {ti : TI} {x : Operand} {k off : Nat} {cells : List PV} (T : TOK1 P t ti) (ha : isAggD ti.d = true) (ho : o.op = .load t x)
    (hp : evalO G env x = some (.ptr k off)) (hm : lk k m = some (.var cells)) (hl : ((cells.drop off).take ti.size).length = ti.size) :
    SV P G o env m (.agg ((cells.drop off).take ti.size)) := by
  refine fun R σ a w he hj => ?_
  have r := evalO_rel he hj hp
  generalize hv : a.eval x = v at r
  cases r with | ptr _ _ L hk =>
  obtain ⟨b, lo, hi', hk', hle, hown, hhi, hcells⟩ := hj.inv.obj k _ hm
  rw [hk] at hk'
  cases hk'
  have key : ∀ (i : Nat) (p : PV), ((cells.drop off).take ti.size)[i]? = some p → ∃ v, w.cell? ⟨b, lo + off + i, none⟩ = some v ∧ RelP σ p v ∧ v.oneCell' = true := by
    intro i p hp'
    have h2 := take_get hp'
    rw [List.getElem?_drop] at h2
    obtain ⟨v, h1, h2, h3⟩ := hcells (off + i) p h2
    exact ⟨v, by rw [Nat.add_assoc]; exact h1, h2, h3⟩
  have hget : ∀ j, j < ti.size → ∃ p, ((cells.drop off).take ti.size)[j]? = some p := fun j hj' => ⟨_, List.getElem?_eq_getElem (by rw [hl]; exact hj')⟩
  let f : Nat → Value := fun i => (w.cell? ⟨b, lo + off + i, none⟩).getD undef
  refine ⟨.agg ((List.range ti.size).map f).toArray, .agg _ _ (by rw [hl]; simp) (fun v hv => ?_) (fun i p v e1 e2 => ?_), ?_⟩
  · simp only [List.mem_map, List.mem_range] at hv
    obtain ⟨i, hi, rfl⟩ := hv
    obtain ⟨p, hp⟩ := hget i hi
    obtain ⟨v, h1, h2, h3⟩ := key i p hp
    simp [f, h1, h3]
  · have hi : i < ti.size := by rw [← hl]; exact (List.getElem?_eq_some_iff.1 e1).1
    simp [hi] at e2
    subst e2
    obtain ⟨v, h1, h2, h3⟩ := key i p e1
    simpa [f, h1] using h2
  · simp only [execOp, ho, Instr.loadAt, hv, Instr.sureAddr, Sem.run_bind, Sem.run_pure, Result.andThen_ok]
    rw [run_loadVar_agg T ha b (lo + off) f w (fun j hj' => ?_)]
    · simp
    · obtain ⟨p, hp⟩ := hget j hj'
      obtain ⟨v, h1, h2, h3⟩ := key j p hp
      simp [f, h1]
end
end Go.Kn
