/- Kn, part 11j: slices of arrays that are variables; the least of two numbers; a field of a struct with parts. No program here. -/
import Derived.Test.YtiibdlpfgmeifaaGreatDoorKn02
set_option autoImplicit false
namespace Go.Kn
open Go
section
variable {P : Program} {G : Gl} {o : Oper} {env : Env} {m : Mem}
theorem step_view_index {t e : Nat} {ti : TI} {x ix : Operand} {k s off n : Nat} {kk : IntKind} {j : Int} (ho : o.op = .indexAddr t x ix) (ht : P.underlying t = some (.slice e)) (T : TOK1 P e ti) (hs : ti.size = s)
    (hp : evalO G env x = some (.view k s off n)) (hi : evalO G env ix = some (.i (.int kk j))) (h0 : 0 ≤ j) (h1 : j < n) : SV P G o env m (.ptr k (off + j.toNat * s)) := by
  refine fun R σ a w he hj => ?_
  have r := evalO_rel he hj hp
  have ri := rel_int (evalO_rel he hj hi)
  generalize hv : a.eval x = v at r
  cases r with | view _ _ _ _ cap L hk hc =>
  refine ⟨_, .ptr k (off + j.toNat * s) L hk, ?_⟩
  simp only [execOp, ho, hv, ri, Sem.run_bind, run_indexAt_slice ht T _ _ _ _ kk j h0 h1, Result.andThen_ok, Sem.run_pure, hs, Nat.add_assoc]
theorem step_view_slice {t e : Nat} {te : TI} {x : Operand} {lo hi : Option Operand} {k s off n : Nat} {l h : Option Int} (ho : o.op = .slice t x lo hi none) (ht : P.underlying t = some (.slice e)) (T2 : TOK1 P e te) (hs : te.size = s)
    (hp : evalO G env x = some (.view k s off n)) (hl : evalB G env lo = some l) (hh : evalB G env hi = some h) (h0 : 0 ≤ l.getD 0) (h1 : l.getD 0 ≤ h.getD n) (h2 : h.getD n ≤ n) (h3 : l.getD 0 = 0 ∨ l.getD 0 < n) :
    SV P G o env m (.view k s (off + (l.getD 0).toNat * s) ((h.getD n).toNat - (l.getD 0).toNat)) := by
  refine fun R σ a w he hj => ?_
  have r := evalO_rel he hj hp
  generalize hv : a.eval x = v at r
  cases r with | view _ _ _ _ cap L hk hc =>
  have hb := run_sliceB (P := P) (len := n) (cap := cap) (evalB_rel he hj hl) (evalB_rel he hj hh) h0 h1 (by omega) w
  refine ⟨_, .view k s (off + (l.getD 0).toNat * s) ((h.getD n).toNat - (l.getD 0).toNat) (cap - (l.getD 0).toNat) L hk (by omega), ?_⟩
  simp only [execOp, ho, hv, Instr.sliceAt, Sem.run_bind, run_underlying ht, Result.andThen_ok, Instr.slice, Option.map_none, hb, T2.run_size, Sem.run_pure, hs]
  by_cases hc2 : cap = (l.getD 0).toNat
  · have hz : (l.getD 0).toNat = 0 := by omega
    rw [if_pos hc2, hz]
    simp
  · rw [if_neg hc2]
    simp only [Option.map_some, add_plain, Nat.add_assoc]
theorem step_view_copy {dT sT e k k2 s off off2 n n2 : Nat} {te : TI} {x y : Operand} {cells cells2 : List PV} (ho : o.op = .call { callee := .builtin .copy, args := #[x, y], argTypes := #[dT, sT] })
    (hd : P.underlying dT = some (.slice e)) (T2 : TOK1 P e te) (hs : te.size = s) (hx : evalO G env x = some (.view k s off n)) (hy : evalO G env y = some (.view k2 s off2 n2)) (hm : lk k m = some (.var cells)) (hm2 : lk k2 m = some (.var cells2))
    (hb : off + n * s ≤ cells.length) (hb2 : off2 + n2 * s ≤ cells2.length) :
    Step P G o env m (.i (.int .i64 ((min n2 n : Nat) : Int))) env
      ((k, .var (cells.take off ++ (cells2.drop off2).take (min n2 n * s) ++ cells.drop (off + ((cells2.drop off2).take (min n2 n * s)).length))) :: rm k m) := by
  intro R σ a w he hj _ next Q kk
  have rx := evalO_rel he hj hx
  have ry := evalO_rel he hj hy
  generalize hvx : a.eval x = vx at rx
  generalize hvy : a.eval y = vy at ry
  cases rx with | view _ _ _ _ cap L hk hcap =>
  cases ry with | view _ _ _ _ cap2 L2 hk2 hcap2 =>
  obtain ⟨b, lo, hi⟩ := L
  obtain ⟨b2, lo2, hi2⟩ := L2
  obtain ⟨b', lo', hi', hk', hle, hown, hhi, hcells⟩ := hj.inv.obj k _ hm
  rw [hk] at hk'; cases hk'
  obtain ⟨b'', lo'', hi'', hk'', hle2, hown2, hhi2, hcells2⟩ := hj.inv.obj k2 _ hm2
  rw [hk2] at hk''; cases hk''
  have hc1 : min n2 n * s ≤ n * s := Nat.mul_le_mul_right s (Nat.min_le_right _ _)
  have hc2 : min n2 n * s ≤ n2 * s := Nat.mul_le_mul_right s (Nat.min_le_left _ _)
  let cnt := min n2 n * s
  let vs : List Value := (List.range cnt).map fun j => (w.cell? ⟨b2, lo2 + off2 + j, none⟩).getD undef
  have hvl : vs.length = cnt := by simp [vs]
  have hpl : ((cells2.drop off2).take cnt).length = cnt := by simp; omega
  have hget : ∀ j, j < cnt → ∃ p u, ((cells2.drop off2).take cnt)[j]? = some p ∧ w.cell? ⟨b2, lo2 + off2 + j, none⟩ = some u ∧ RelP σ p u ∧ u.oneCell' = true ∧ vs[j]? = some u := fun j hj' => by
    have e1 : ((cells2.drop off2).take cnt)[j]? = some (((cells2.drop off2).take cnt)[j]'(by omega)) := List.getElem?_eq_getElem (by omega)
    have e2 := take_get e1
    rw [List.getElem?_drop] at e2
    obtain ⟨u, q1, q2, q3⟩ := hcells2 _ _ e2
    rw [← Nat.add_assoc] at q1
    exact ⟨_, u, e1, q1, q2, q3, by simp [vs, hj', q1]⟩
  have hload : (Builtin.firstCells s (min n2 n) (.slice (some ⟨b2, lo2 + off2, none⟩) n2 cap2)).run P w = .ok vs.toArray w := by
    simp only [Builtin.firstCells]
    have := run_loadCells_list (P := P) w ⟨b2, lo2 + off2, none⟩ vs (fun j u hu => by
      obtain ⟨p, u', _, q1, _, _, q4⟩ := hget j (by rw [← hvl]; exact (List.getElem?_eq_some_iff.1 hu).1)
      rw [hu] at q4; cases q4
      rw [add_plain]; exact q1)
    rw [hvl] at this
    exact this
  have hone : ∀ u ∈ vs, u.oneCell' = true := fun u hu => by
    obtain ⟨j, hj', rfl⟩ := List.mem_iff_getElem.1 hu
    obtain ⟨p, u', _, _, _, q3, q4⟩ := hget j (by rw [← hvl]; exact hj')
    rw [List.getElem?_eq_getElem hj'] at q4; cases q4; exact q3
  have hst := run_storeCells_cells (P := P) b (lo + off) vs 0 w (fun j hj' => by
      obtain ⟨_, ⟨v, hv⟩, _⟩ := hown (lo + off + j) (by omega) (by omega)
      simp [hv]) (fun j hj' => by simpa using (hown (lo + off + j) (by omega) (by omega)).2.2) hone
  simp only [Nat.add_zero] at hst
  have hrun : (execOp a.eval o).run P w = .ok (.value (.int .i64 ((min n2 n : Nat) : Int))) (w.setCells b (lo + off) vs) := by
    simp only [execOp, ho, resolve, Sem.run_bind, Sem.run_pure, Result.andThen_ok, invoke, builtin]
    simp [Builtin.copy_, run_underlying hd, hvx, hvy, Builtin.lenOf, T2.run_size, hs]
    rw [show Nat.min n2 n = min n2 n from rfl, hload]
    simp [hst, goInt]
  simp only [Oper.wp, hrun, Oper.upon_value]
  refine kk σ _ _ (.i _ _ (.int _ _)) he (hj.write hm hk off _ vs (by rw [hpl, hvl]) (by rw [hpl]; omega) (fun i p v e1 e2 => ?_))
  obtain ⟨p', u', q0, _, q2, q3, q4⟩ := hget i (by rw [← hvl]; exact (List.getElem?_eq_some_iff.1 e2).1)
  rw [e1] at q0; cases q0
  rw [e2] at q4; cases q4
  exact ⟨q2, q3⟩
theorem step_min {x y : Operand} {k : IntKind} {a b : Int} {ts : Array TypeId} (ho : o.op = .call { callee := .builtin .min, args := #[x, y], argTypes := ts }) (hx : evalO G env x = some (.i (.int k a))) (hy : evalO G env y = some (.i (.int k b))) :
    SV P G o env m (.i (.int k (if b < a then b else a))) := by
  refine fun R σ ac w he hj => ⟨_, .i _ _ (.int _ _), exec_builtin ho ac fun cs => ?_⟩
  simp [builtin, Builtin.min_, Builtin.min2, rel_int (evalO_rel he hj hx), rel_int (evalO_rel he hj hy)]
def partP (ti : TI) (cs : List PV) (off : Nat) : Option PV :=
  bif isAggD ti.d then (bif Nat.beq ((cs.drop off).take ti.size).length ti.size then some (.agg ((cs.drop off).take ti.size)) else none) else cs[off]?
theorem run_partP {t : Nat} {ti : TI} (T : TOK1 P t ti) {σ : Gh} {cs : List PV} {vs : List Value} (r : RelP σ (.agg cs) (.agg vs.toArray)) {off : Nat} {x : PV} (e : partP ti cs off = some x) (w : World) :
    ∃ v, RelP σ x v ∧ (part t vs.toArray off).run P w = .ok v w := by
  obtain ⟨hl, h1, hr⟩ : cs.length = vs.length ∧ (∀ u ∈ vs, u.oneCell' = true) ∧ ∀ (i : Nat) (y : PV) (u : Value), cs[i]? = some y → vs[i]? = some u → RelP σ y u := by
    generalize hv : (Value.agg vs.toArray) = V at r
    cases r with
    | agg _ vs' hl h1 hr =>
      have : vs = vs' := by simpa using hv
      subst this
      exact ⟨hl, h1, hr⟩
  unfold partP at e
  cases ha : isAggD ti.d with
  | true =>
    simp only [ha, cond_true] at e
    cases hb : Nat.beq ((cs.drop off).take ti.size).length ti.size with
    | false => rw [hb] at e; cases e
    | true =>
      rw [hb] at e
      cases e
      have hb := Nat.eq_of_beq_eq_true hb
      refine ⟨.agg ((vs.drop off).take ti.size).toArray, .agg _ _ (by simp [hl]) (fun u hu => h1 u (List.mem_of_mem_drop (List.mem_of_mem_take hu))) (fun i y u e1 e2 => ?_), run_part_agg T ha vs off w⟩
      have f1 := take_get e1
      have f2 := take_get e2
      rw [List.getElem?_drop] at f1 f2
      exact hr _ y u f1 f2
  | false =>
    simp only [ha, cond_false] at e
    have hi : off < vs.length := by rw [← hl]; exact (List.getElem?_eq_some_iff.1 e).1
    exact ⟨vs[off], hr off x _ e (List.getElem?_eq_getElem hi), run_part_one T ha vs off _ (List.getElem?_eq_getElem hi) w⟩
theorem step_fieldAgg {t f : Nat} {x : Operand} {fs : Array Field} {fl : Field} {ti : TI} {cs : List PV} {y : PV} (ho : o.op = .field t x f) (ht : P.underlying t = some (.struct fs)) (hf : fs[f]? = some fl)
    (T : TOK1 P fl.type ti) (hp : evalO G env x = some (.agg cs)) (e : partP ti cs fl.offset = some y) : SV P G o env m y := by
  refine fun R σ a w he hj => ?_
  have r := evalO_rel he hj hp
  generalize hv : a.eval x = v at r
  have r' := r
  cases r' with | agg _ vs hl h1 hr =>
  obtain ⟨v, hv1, hv2⟩ := run_partP T r e w
  refine ⟨v, hv1, ?_⟩
  simp only [execOp, ho, hv, Instr.field, Sem.run_bind, run_underlying ht, Result.andThen_ok, hf, asAgg, Sem.run_pure, hv2]
end
end Go.Kn
namespace Go.Kn
open Go
abbrev Kont := PV → Env → Mem → Prop
def withO (p : Option PV) (K : PV → Prop) : Prop :=
  match p with
  | some p => K p
  | none => False
def withT (T : Ty) (t : Nat) (K : TI → Prop) : Prop :=
  match lk t T.t with
  | some ti => K ti
  | none => False
theorem withO.intro {p : Option PV} {q : PV} {K : PV → Prop} (h : p = some q) (hk : K q) : withO p K := by
  subst h; exact hk
def withX {α : Type} (p : Option α) (K : α → Prop) : Prop :=
  match p with
  | some p => K p
  | none => False
theorem withX.intro {α : Type} {p : Option α} {q : α} {K : α → Prop} (h : p = some q) (hk : K q) : withX p K := by
  subst h; exact hk
theorem withX.out {α : Type} {p : Option α} {K : α → Prop} (h : withX p K) : ∃ q, p = some q ∧ K q := by
  cases p with
  | none => exact h.elim
  | some q => exact ⟨q, rfl, h⟩
theorem bifI {b : Bool} {A : Prop} (h : b = true) (ha : A) : (bif b then A else False) := by subst h; exact ha
def mulS (i s : Nat) : Nat :=
  match s with
  | 1 => i
  | s => i * s
def addS (off i : Nat) : Nat :=
  match off with
  | 0 => i
  | off => off + i
theorem mulS_eq (i s : Nat) : mulS i s = i * s := by
  unfold mulS; split <;> simp
theorem addS_eq (off i : Nat) : addS off i = off + i := by
  unfold addS; split <;> simp
def condP : Bool → Prop → Prop → Prop
  | true, A, _ => A
  | false, _, B => B
theorem condP.split {b : Bool} {A B : Prop} (h1 : b = true → A) (h2 : b = false → B) : condP b A B := by
  cases b
  · exact h2 rfl
  · exact h1 rfl
theorem condP.out {b : Bool} {A B : Prop} (h : condP b A B) : (b = true ∧ A) ∨ (b = false ∧ B) := by
  cases b
  · exact .inr ⟨rfl, h⟩
  · exact .inl ⟨rfl, h⟩
def giveK (d : Nat) (env : Env) (m : Mem) (K : Env → Mem → Prop) : Prop :=
  bif occE d env || occM d m then K (demE [d] env) (demM [d] m) else K env m
def kIx : IntKind → Nat
  | .i8 => 0 | .i16 => 1 | .i32 => 2 | .i64 => 3 | .u8 => 4 | .u16 => 5 | .u32 => 6 | .u64 => 7
theorem kIx_inj {a b : IntKind} (h : Nat.beq (kIx a) (kIx b) = true) : a = b := by
  cases a <;> cases b <;> first | rfl | (simp [kIx] at h)
def aInt (op : BinOp) (k : IntKind) (a : Int) (k' : IntKind) (b : Int) (K : IV → Prop) : Prop :=
  match op with
  | .shl => 0 ≤ b ∧ K (.int k (k.wrap (a * 2 ^ (min b.toNat k.bits))))
  | .shr => 0 ≤ b ∧ K (.int k (a.fdiv (2 ^ (min b.toNat k.bits))))
  | .quo => b ≠ 0 ∧ (bif Nat.beq (kIx k) (kIx k') then K (.int k (k.wrap (a.tdiv b))) else False)
  | .rem => b ≠ 0 ∧ (bif Nat.beq (kIx k) (kIx k') then K (.int k (a.tmod b)) else False)
  | op => bif Nat.beq (kIx k) (kIx k') then (match iArith op k a b with | some z => K z | none => False) else False
def aStr (op : BinOp) (a b : List UInt8) (K : IV → Prop) : Prop :=
  match op with
  | .add => a.length + b.length ≤ 9223372036854775807 ∧ K (.str (a ++ b))
  | op => match iStr op a b with | some z => K z | none => False
def aBin (P : Program) (op : BinOp) (t : TypeId) (p q : PV) (K : IV → Prop) : Prop :=
  match p with
  | .i (.int k a) => match q with
    | .i (.int k' b) => aInt op k a k' b K
    | _ => False
  | .i (.str a) => match q with
    | .i (.str b) => aStr op a b K
    | _ => False
  | p => match op with
    | .eql => ∃ b, EqOK P t p q b ∧ K (.bool b)
    | .neq => ∃ b, EqOK P t p q b ∧ K (.bool (!b))
    | _ => False
def aLoad (ti : TI) (p : PV) (m : Mem) (K : PV → Prop) : Prop :=
  match p with
  | .ptr k off => match lk k m with
    | some (.var cells) =>
      bif isAggD ti.d then
        (match ivs? ((cells.drop off).take ti.size) with
        | some cs => bif Nat.beq cs.length ti.size then K (.i (.agg cs)) else False
        | none => False)
      else withO cells[off]? K
    | _ => False
  | .i (.rptr cs) =>
    bif isAggD ti.d then (bif Nat.beq (cs.take ti.size).length ti.size then K (.i (.agg (cs.take ti.size))) else False)
    else withX cs[0]? fun c => K (.i c)
  | _ => False
def aStore (ti : TI) (p q : PV) (m : Mem) (K : Mem → Prop) : Prop :=
  match p with
  | .ptr k off => match lk k m with
    | some (.var cells) => match pcells q with
      | some ps => bif Nat.beq ps.length ti.size && Nat.ble (off + ps.length) cells.length then
          K ((k, .var (cells.take off ++ ps ++ cells.drop (off + ps.length))) :: rm k m) else False
      | none => False
    | _ => False
  | _ => False
def aField (T : Ty) (s : Nat) (f : Nat) (K : Field → TI → Prop) : Prop :=
  withT T s fun ts => match ts.d with
    | .struct fs => match fs.toList[f]? with
      | some fl => withT T fl.type fun ti => K fl ti
      | none => False
    | _ => False
def aIndexAddr (T : Ty) (t : Nat) (p : PV) (i : Int) (K : PV → Prop) : Prop :=
  withT T t fun ti => match ti.d with
    | .array n e => withT T e fun te => match p with
      | .ptr k off => (0 ≤ i ∧ i < n) ∧ K (.ptr k (addS off (mulS i.toNat te.size)))
      | .i (.rptr cs) => (0 ≤ i ∧ i < n) ∧ K (.i (.rptr (cs.drop (mulS i.toNat te.size))))
      | _ => False
    | .slice e => withT T e fun te => match iv? p with
      | some (.slice l) => ∃ y, (0 ≤ i ∧ l[i.toNat]? = some y) ∧ (bif Nat.beq y.cells.length te.size then K (.i (.rptr y.cells)) else False)
      | _ => False
    | _ => False
def aIndex (T : Ty) (t : Nat) (p : PV) (i : Int) (K : PV → Prop) : Prop :=
  withT T t fun ti => match ti.d with
    | .string => match p with
      | .i (.str s) => (0 ≤ i ∧ i < s.length) ∧ K (.i (.int .u8 ((s.getD i.toNat 0).toNat : Int)))
      | _ => False
    | .array n e => withT T e fun te => match p with
      | .i (.agg cs) => (0 ≤ i ∧ i < n) ∧ ∃ y, partI te cs (mulS i.toNat te.size) = some y ∧ K (.i y)
      | _ => False
    | _ => False
def aSlice (T : Ty) (t : Nat) (p : PV) (l h : Option Int) (K : PV → Prop) : Prop :=
  withT T t fun ti => match ti.d with
    | .string => match p with
      | .i (.str s) => (0 ≤ l.getD 0 ∧ l.getD 0 ≤ h.getD s.length ∧ h.getD s.length ≤ s.length) ∧ K (.i (.str ((s.take (h.getD s.length).toNat).drop (l.getD 0).toNat)))
      | _ => False
    | .slice e => withT T e fun te => match iv? p with
      | some (.slice ls) => ((0 ≤ l.getD 0 ∧ l.getD 0 ≤ h.getD ls.length ∧ h.getD ls.length ≤ ls.length) ∧ ∀ x ∈ ls, x.cells.length = te.size) ∧
          K (.i (.slice ((ls.take (h.getD ls.length).toNat).drop (l.getD 0).toNat)))
      | _ => False
    | .array n e => withT T e fun te => match p with
      | .ptr k off => (0 ≤ l.getD 0 ∧ l.getD 0 ≤ h.getD n ∧ h.getD n ≤ n ∧ l.getD 0 < n) ∧ K (.view k te.size (off + (l.getD 0).toNat * te.size) ((h.getD n).toNat - (l.getD 0).toNat))
      | _ => False
    | _ => False
def aConv (T : Ty) (s d : Nat) (p : PV) (m : Mem) (K : PV → Prop) : Prop :=
  withT T s fun ts => withT T d fun td => match td.d with
    | .int k' => match p with
      | .i (.int _ n) => K (.i (.int k' (k'.wrap n)))
      | _ => False
    | .string => match ts.d with
      | .string => match p with
        | .i (.str l) => K (.i (.str l))
        | _ => False
      | .slice e => withT T e fun te => match te.d with
        | .int .u8 => match p with
          | .view k 1 off n => match lk k m with
            | some (.var cells) => ∃ l : List UInt8, ((cells.drop off).take n = (u8s l).map .i ∧ l.length = n) ∧ K (.i (.str l))
            | _ => False
          | p => match iv? p with
            | some (.slice xs) => ∃ l : List UInt8, xs = u8s l ∧ K (.i (.str l))
            | _ => False
        | _ => False
      | _ => False
    | _ => False
def evalArgs (G : Gl) (env : Env) : List Operand → Option (List PV)
  | [] => some []
  | x :: r => match evalO G env x with
    | none => none
    | some p => match evalArgs G env r with
      | none => none
      | some l => some (p :: l)
def aCall (P : Program) (G : Gl) (f : PV) (args : Option (List PV)) (env : Env) (m : Mem) (K : Kont) : Prop :=
  match args with
  | none => False
  | some args => match f with
    | .i (.func (.func f) ics) => ∃ r env1 m1, CallS P G f (args ++ ics.map .i) env m r env1 m1 ∧ K r env1 m1
    | .clo (.func f) caps => ∃ r env1 m1, CallS P G f (args ++ caps) env m r env1 m1 ∧ K r env1 m1
    | .bnd (.func f) fs => ∃ r env1 m1, CallS P G f (fs ++ args) env m r env1 m1 ∧ K r env1 m1
    | _ => False
def aInv (P : Program) (G : Gl) (p : PV) (name : String) (args : Option (List PV)) (env : Env) (m : Mem) (K : Kont) : Prop :=
  match args with
  | none => False
  | some args => match p with
    | .ifc t p => ∃ f q, MethS P G t name p f q m ∧ ∃ r env1 m1, CallS P G f (q :: args) env m r env1 m1 ∧ K r env1 m1
    | .i (.iface t y) => ∃ f q, MethS P G t name (.i y) f q m ∧ ∃ r env1 m1, CallS P G f (q :: args) env m r env1 m1 ∧ K r env1 m1
    | _ => False
def aMakeI (T : Ty) (t : Nat) (p : PV) (K : PV → Prop) : Prop :=
  withT T t fun ti => match ti.d with
    | .interface _ => False
    | _ => match iv? p with
      | some x => K (.i (.iface t x))
      | none => K (.ifc t p)
def aAssert (T : Ty) (asserted : Nat) (ok : Bool) (p : PV) (K : PV → Prop) : Prop :=
  withT T asserted fun ti => match ti.d with
    | .interface _ => False
    | _ => match ok with
      | true => False
      | false => match p with
        | .i (.iface t y) => bif Nat.beq t asserted then K (.i y) else False
        | .ifc t q => bif Nat.beq t asserted then K q else False
        | _ => False
def hasSize (n : Nat) : List IV → Prop
  | l => ∀ x ∈ l, x.cells.length = n
def aAppend (T : Ty) (sT xT d : Nat) (p q : PV) (env : Env) (m : Mem) (K : Kont) : Prop :=
  withT T sT fun ts => withT T xT fun tx => match ts.d with
    | .slice e => match tx.d with
      | .slice _ => withT T e fun te => match te.zero with
        | some z => bif Nat.beq z.cells.size te.size && !Nat.beq te.bytes 0 && Nat.blt d 1000 then
            (match iv? q with
            | some (.slice l2) => match p with
              | .tok k s l => bif Nat.beq s te.size then (match lk k m with
                | some .tip => bif Nat.blt k 1000 then ((hasSize te.size l ∧ hasSize te.size l2) ∧ (l.length + l2.length) * te.bytes ≤ 140737488355328) ∧
                    K (.tok k s (l ++ l2)) (demE [k] env) ((k, .tip) :: rm k (demM [k] m)) else False
                | _ => False) else False
              | .full l => ((hasSize te.size l ∧ hasSize te.size l2) ∧ (l.length + l2.length) * te.bytes ≤ 140737488355328) ∧
                  giveK d env m (fun env1 m1 => K (.tok d te.size (l ++ l2)) env1 ((d, .tip) :: rm d m1))
              | _ => False
            | _ => False) else False
        | none => False
      | _ => False
    | _ => False
def aBuiltin (T : Ty) (G : Gl) (b : Builtin) (dst : Option Tmp) (args : List Operand) (ats : List TypeId) (env : Env) (m : Mem) (K : Kont) : Prop :=
  match b, args, ats with
  | .append, [x, y], [sT, xT] => match dst with
    | some d => withO (evalO G env x) fun p => withO (evalO G env y) fun q => aAppend T sT xT d p q env m K
    | none => False
  | .copy, [x, y], [dT, _] => withO (evalO G env x) fun p => withO (evalO G env y) fun q => withT T dT fun td => match td.d with
    | .slice e => withT T e fun _ => match p with
      | .view k 1 off n => match q with
        | .i (.str s) => match lk k m with
          | some (.var cells) => off + n ≤ cells.length ∧
              K (.i (.int .i64 ((min s.length n : Nat) : Int))) env ((k, .var (cells.take off ++ (u8s (s.take (min s.length n))).map .i ++ cells.drop (off + ((u8s (s.take (min s.length n))).map PV.i).length))) :: rm k m)
          | _ => False
        | _ => False
      | _ => False
    | _ => False
  | _, _, _ => False
def seqL (size : Nat) : Nat → List (Nat × IV) → Option (List IV)
  | _, [] => some []
  | k, (i, x) :: r => bif Nat.beq i k && Nat.beq x.cells.length size then (match seqL size (k + 1) r with
    | some l => some (x.cells ++ l)
    | none => none) else none
def aFillS (size : Nat) (cells : List IV) (ps : List (Nat × IV)) : Option (List IV) :=
  match seqL size 0 ps with
  | some l => bif Nat.beq l.length cells.length then some l else aFill (fun i => some (i * size, size)) cells ps
  | none => aFill (fun i => some (i * size, size)) cells ps
theorem seqL_ok {size : Nat} : ∀ {ps : List (Nat × IV)} {k : Nat} {l : List IV}, seqL size k ps = some l →
    ps = ((ps.map (·.2)).zipIdx k).map (fun e => (e.2, e.1)) ∧ l = flatCells (ps.map (·.2)) ∧ ∀ x ∈ ps.map (·.2), x.cells.length = size
  | [], k, l, h => by simp only [seqL] at h; cases h; exact ⟨rfl, rfl, by simp⟩
  | (i, x) :: r, k, l, h => by
    simp only [seqL] at h
    cases hb : (Nat.beq i k && Nat.beq x.cells.length size) with
    | false => rw [hb] at h; cases h
    | true =>
      rw [hb] at h
      simp only [cond_true] at h
      simp only [Bool.and_eq_true] at hb
      have h1 := Nat.eq_of_beq_eq_true hb.1
      have h2 := Nat.eq_of_beq_eq_true hb.2
      subst h1
      split at h
      · rename_i l' hl'
        cases h
        obtain ⟨a1, a2, a3⟩ := seqL_ok hl'
        refine ⟨?_, by rw [a2]; rfl, ?_⟩
        · simp only [List.map_cons, List.zipIdx_cons]
          rw [← a1]
        · intro y hy
          simp only [List.map_cons, List.mem_cons] at hy
          rcases hy with rfl | hy
          · exact h2
          · exact a3 y hy
      · cases h
theorem aFillS_ok {size : Nat} {cells cs : List IV} {ps : List (Nat × IV)} (h : aFillS size cells ps = some cs) : aFill (fun i => some (i * size, size)) cells ps = some cs := by
  unfold aFillS at h
  split at h
  · rename_i l hl
    cases hb : Nat.beq l.length cells.length with
    | false => rw [hb] at h; exact h
    | true =>
      rw [hb] at h
      cases h
      obtain ⟨a1, a2, a3⟩ := seqL_ok hl
      have hlen := Nat.eq_of_beq_eq_true hb
      rw [a2, flat_length size _ a3] at hlen
      have := fill_all size (ps.map (·.2)) 0 cells a3 (by simpa using hlen)
      rw [← a1] at this
      rw [this, a2]
      simp
  · exact h
def aBuild (T : Ty) (G : Gl) (t : Nat) (parts : List (Nat × Operand)) (env : Env) (K : PV → Prop) : Prop :=
  withT T t fun ti => match ti.zero with
    | some z => match ofV z with
      | some (.agg zs) => match evalParts G env parts with
        | some ps => match ti.d with
          | .struct fs => match fplaces T fs.toList with
            | some pl => match aFill (fun (i : Nat) => pl[i]?) zs ps with
              | some cs => K (.i (.agg cs))
              | none => False
            | none => False
          | .array _ e => withT T e fun te => match aFillS te.size zs ps with
            | some cs => K (.i (.agg cs))
            | none => False
          | _ => False
        | none => False
      | _ => False
    | none => False
def aBuildSlice (T : Ty) (G : Gl) (t n : Nat) (parts : List (Nat × Operand)) (env : Env) (K : PV → Prop) : Prop :=
  withT T t fun ti => match ti.d with
    | .slice e => withT T e fun te => match te.zero with
      | some z => match ofV z with
        | some zx => match evalElems G env te.size 0 parts with
          | some l => bif Nat.beq zx.cells.length te.size && Nat.beq l.length n && Nat.ble (n * te.size) 16777216 then K (.full l) else False
          | none => False
        | none => False
      | none => False
    | _ => False
def aNew (d : Nat) (p : PV) (env : Env) (m : Mem) (K : Kont) : Prop :=
  match pcells p with
  | some ps => bif occs d ps then False else giveK d env m fun env1 m1 => K (.ptr d 0) env1 ((d, .var ps) :: rm d m1)
  | none => False
def aFunc (G : Gl) (env : Env) (fn : Fn) (first : Array Operand) (caps : Option (List PV)) (K : PV → Prop) : Prop :=
  match first.toList with
  | [] => match caps with
    | some caps => match ivs? caps with
      | some ics => K (.i (.func fn ics))
      | none => K (.clo fn caps)
    | none => False
  | x :: r => match caps with
    | some [] => match evalArgs G env (x :: r) with
      | some fs => K (.bnd fn fs)
      | none => False
    | _ => False
def aLen (T : Ty) (t : Nat) (p : PV) (K : PV → Prop) : Prop :=
  withT T t fun ti => match ti.d with
    | .string => match p with
      | .i (.str s) => K (.i (.int .i64 (s.length : Int)))
      | _ => False
    | .slice _ => match p with
      | .view _ _ _ n => K (.i (.int .i64 (n : Int)))
      | p => match iv? p with
        | some (.slice l) => K (.i (.int .i64 (l.length : Int)))
        | _ => False
    | .array n _ => K (.i (.int .i64 (n : Int)))
    | _ => False
abbrev KonE := PV → Mem → List Nat → Prop
def offB (i : Nat) (l : Option Int) : Nat :=
  match l with
  | none => i
  | some a => addS i a.toNat
def endB (n : Nat) (h : Option Int) : Nat :=
  match h with
  | none => n
  | some b => b.toNat
def lenB (n : Nat) (l h : Option Int) : Nat :=
  match l with
  | none => endB n h
  | some a => endB n h - a.toNat
def lowB (n : Nat) (l h : Option Int) : Prop :=
  match l, h with
  | none, none => True
  | some a, none => 0 ≤ a ∧ a ≤ n
  | none, some b => 0 ≤ b
  | some a, some b => 0 ≤ a ∧ a ≤ b
def highB (n : Nat) (h : Option Int) : Prop :=
  match h with
  | none => True
  | some b => b ≤ n
theorem offB_eq (i : Nat) (l : Option Int) : offB i l = i + (l.getD 0).toNat := by cases l <;> simp [offB, addS_eq]
theorem endB_eq (n : Nat) (h : Option Int) : endB n h = (h.getD n).toNat := by cases h <;> simp [endB]
theorem lenB_eq (n : Nat) (l h : Option Int) : lenB n l h = (h.getD n).toNat - (l.getD 0).toNat := by cases l <;> simp [lenB, endB_eq]
theorem lowB_out {n : Nat} {l h : Option Int} (g : lowB n l h) : 0 ≤ l.getD 0 ∧ l.getD 0 ≤ h.getD n := by
  cases l <;> cases h <;> simp only [lowB] at g <;> simp <;> omega
theorem highB_out {n : Nat} {h : Option Int} (g : highB n h) : h.getD n ≤ n := by
  cases h <;> simp only [highB] at g <;> simp <;> omega
def withSrc (m : Mem) (q : PV) (s : Nat) (K : List PV → Prop) : Prop :=
  match q with
  | .vec k s' i n => match lk k m with
    | some (.vec s2 l _) => bif Nat.beq s' s && Nat.beq s2 s then i + n ≤ l.length ∧ K ((l.drop i).take n) else False
    | _ => False
  | q => match iv? q with
    | some (.slice l) => hasSize s l ∧ K (l.map .i)
    | _ => False
theorem withSrc.out {m : Mem} {q : PV} {s : Nat} {K : List PV → Prop} (h : withSrc m q s K) : ∃ xs, SrcP m q s xs ∧ K xs := by
  unfold withSrc at h
  split at h
  · rename_i k s' i n
    split at h
    · rename_i s2 l c hm
      cases hb : (Nat.beq s' s && Nat.beq s2 s) with
      | false => rw [hb] at h; exact h.elim
      | true =>
        rw [hb] at h
        simp only [Bool.and_eq_true] at hb
        have h1 := Nat.eq_of_beq_eq_true hb.1
        have h2 := Nat.eq_of_beq_eq_true hb.2
        subst h1; subst h2
        exact ⟨_, .vec k i n l c rfl hm h.1, h.2⟩
    · exact h.elim
  · split at h
    · rename_i l hl
      exact ⟨_, .iv l hl h.1, h.2⟩
    · exact h.elim
def effStore (ti : TI) (p q : PV) (m : Mem) (K : KonE) : Prop :=
  match p with
  | .ep k s i 0 => match lk k m with
    | some (.vec s' l c) => match iv? q with
      | some z => bif Nat.beq s' s && notTup z && Nat.beq z.cells.length s && Nat.beq ti.size s then i < l.length ∧ K .dead [(k, .vec s (l.set i (.i z)) c)] [] else False
      | none => False
    | _ => False
  | _ => False
def effSlice (T : Ty) (t : Nat) (p : PV) (l h : Option Int) (m : Mem) (K : KonE) : Prop :=
  withT T t fun ti => match ti.d with
    | .slice e => withT T e fun te => match p with
      | .vec k s i n => bif Nat.beq te.size s then lowB n l h ∧ (match lk k m with
        | some (.vec s' els (some c)) => bif Nat.beq s' s then ∃ j n', (offB i l = j ∧ lenB n l h = n') ∧ ((highB n h ∧ K (.vec k s j n') [] []) ∨
            ∃ els', (i + endB n h ≤ c ∧ els ++ List.replicate (i + endB n h - els.length) .dead = els') ∧ K (.vec k s j n') [(k, .vec s els' (some c))] []) else False
        | _ => ∃ j n', (offB i l = j ∧ lenB n l h = n') ∧ highB n h ∧ K (.vec k s j n') [] []) else False
      | _ => False
    | _ => False
def isSl : PV → Bool
  | .vec _ _ _ _ => true
  | _ => false
def effSlice0 (T : Ty) (t : Nat) (p : PV) (b c : Option PV) (K : KonE) : Prop :=
  withT T t fun ti => match ti.d with
    | .slice e => withT T e fun _ => match b, c with
      | some (.i (.int _ b)), some (.i (.int _ c)) => bif isSl p then (b = 0 ∧ c = 0) ∧ K (.full []) [] [] else False
      | _, _ => False
    | _ => False
def effBuild (T : Ty) (G : Gl) (t n d : Nat) (parts : List (Nat × Operand)) (env : Env) (K : KonE) : Prop :=
  withT T t fun ti => match ti.d with
    | .slice e => withT T e fun te => match te.zero with
      | some z => match ofV z with
        | some zx => match evalElems G env te.size 0 parts with
          | some l => bif Nat.beq zx.cells.length te.size && Nat.beq l.length n && Nat.ble (n * te.size) 16777216 && Nat.blt 0 te.size && Nat.blt d 1000 then
              K (.vec d te.size 0 n) [(d, .vec te.size (l.map .i) none)] [d] else False
          | none => False
        | none => False
      | none => False
    | _ => False
def appOK (te : TI) (z : Value) (d : Nat) : Bool := Nat.beq z.cells.size te.size && !Nat.beq te.bytes 0 && Nat.blt d 1000 && Nat.blt 0 te.size
def effAppend (T : Ty) (sT xT d : Nat) (p q : PV) (m : Mem) (K : KonE) : Prop :=
  withT T sT fun ts => withT T xT fun tx => match ts.d with
    | .slice e => withT T e fun te => match te.zero with
      | some z => match ofV z with
        | some _ => bif appOK te z d then (match p with
          | .vec k s 0 n => match lk k m with
            | some (.vec s' l c) => bif Nat.beq s te.size && Nat.beq s' te.size then (match tx.d with
              | .slice _ => withSrc m q te.size fun xs => ∃ l' n', (n ≤ l.length ∧ (n + xs.length) * te.bytes ≤ 140737488355328 ∧ l.take n ++ xs = l' ∧ n + xs.length = n') ∧ (match c with
                | none => K (.vec k te.size 0 n') [(k, .vec te.size l' none)] [k]
                | some c => K (.vec k te.size 0 n') [(k, .vec te.size l' none)] [k] ∨
                    (c < n + xs.length ∧ K (.vec d te.size 0 n') [(d, .vec te.size l' none)] [d]))
              | .int _ => match c with
                | some c => match q with
                  | .i (.int _ b) => ∃ (n2 : Nat) (l' : List PV) (n' : Nat), (b = (n2 : Int) ∧ n ≤ l.length ∧ c < n + n2 ∧ (n + n2) * te.bytes ≤ 140737488355328 ∧ l.take n ++ List.replicate n2 .dead = l' ∧ n + n2 = n') ∧
                      K (.vec d te.size 0 n') [(d, .vec te.size l' none)] [d]
                  | _ => False
                | none => False
              | _ => False) else False
            | _ => False
          | .full l => match tx.d with
            | .slice _ => withSrc m q te.size fun xs => ∃ l' n', (hasSize te.size l ∧ (xs = [] → l = []) ∧ (l.length + xs.length) * te.bytes ≤ 140737488355328 ∧ l.map .i ++ xs = l' ∧ l.length + xs.length = n') ∧
                K (.vec d te.size 0 n') [(d, .vec te.size l' none)] [d]
            | _ => False
          | _ => False) else False
        | none => False
      | none => False
    | _ => False
def effCopy (T : Ty) (dT : Nat) (p q : PV) (m : Mem) (K : KonE) : Prop :=
  withT T dT fun td => match td.d with
    | .slice e => withT T e fun te => match p with
      | .vec k s i n => match lk k m with
        | some (.vec s' l c) => bif Nat.beq te.size s && Nat.beq s' s then i + n ≤ l.length ∧ withSrc m q s fun xs => ∃ l', l.take i ++ xs.take (min xs.length n) ++ l.drop (i + min xs.length n) = l' ∧
            K (.i (.int .i64 ((min xs.length n : Nat) : Int))) [(k, .vec s l' c)] [] else False
        | _ => False
      | _ => False
    | _ => False
def effCap (T : Ty) (t : Nat) (p : PV) (m : Mem) (K : KonE) : Prop :=
  withT T t fun ti => match ti.d with
    | .slice _ => match p with
      | .vec k s i _ => match lk k m with
        | some (.vec s' _ (some c)) => bif Nat.beq s' s then K (.i (.int .i64 ((c - i : Nat) : Int))) [] [] else False
        | _ => False
      | _ => False
    | _ => False
def isVec : PV → Bool
  | .vec _ _ _ _ => true
  | _ => false
def isEp : PV → Bool
  | .ep _ _ _ _ => true
  | _ => false
def isFull : PV → Bool
  | .full _ => true
  | _ => false
def optQ (f : PV → Bool) (p : Option PV) : Bool :=
  match p with
  | some p => f p
  | none => false
def effQ (T : Ty) (G : Gl) (o : Oper) (env : Env) : Bool :=
  match o.op with
  | .store _ x _ => optQ isEp (evalO G env x)
  | .slice _ x _ _ mx => mx.isSome || optQ isVec (evalO G env x)
  | .buildSlice _ _ _ => match o.dst with
    | some d => T.v.elem d
    | none => false
  | .call c => match c.callee with
    | .builtin .append => match c.args.toList with
      | [x, _] => optQ isVec (evalO G env x) || (match o.dst with
        | some d => T.v.elem d
        | none => false)
      | _ => false
    | .builtin .copy => match c.args.toList with
      | [x, _] => optQ isVec (evalO G env x)
      | _ => false
    | .builtin .cap => true
    | _ => false
  | _ => false
def aEff (T : Ty) (G : Gl) (o : Oper) (env : Env) (m : Mem) (K : KonE) : Prop :=
  match o.op with
  | .store t x y => withT T t fun ti => withO (evalO G env x) fun p => withO (evalO G env y) fun q => effStore ti p q m K
  | .slice t x lo hi mx => withO (evalO G env x) fun p => match mx with
    | none => match evalB G env lo with
      | some l => match evalB G env hi with
        | some h => effSlice T t p l h m K
        | none => False
      | none => False
    | some mx => match lo, hi with
      | none, some hi => effSlice0 T t p (evalO G env hi) (evalO G env mx) K
      | _, _ => False
  | .buildSlice t n parts => match o.dst with
    | some d => effBuild T G t n d parts.toList env K
    | none => False
  | .call c => match c.callee, c.args.toList, c.argTypes.toList with
    | .builtin .append, [x, y], [sT, xT] => match o.dst with
      | some d => withO (evalO G env x) fun p => withO (evalO G env y) fun q => effAppend T sT xT d p q m K
      | none => False
    | .builtin .copy, [x, y], [dT, _] => withO (evalO G env x) fun p => withO (evalO G env y) fun q => effCopy T dT p q m K
    | .builtin .cap, [x], [t] => withO (evalO G env x) fun p => effCap T t p m K
    | _, _, _ => False
  | _ => False
def elIndex (T : Ty) (t : Nat) (p : PV) (i : Int) (K : PV → Prop) : Prop :=
  withT T t fun ti => match ti.d with
    | .array n e => withT T e fun te => match p with
      | .ep k s j off => (0 ≤ i ∧ i < n) ∧ K (.ep k s j (addS off (mulS i.toNat te.size)))
      | _ => False
    | .slice e => withT T e fun te => match p with
      | .vec k s j n => bif Nat.beq te.size s then (0 ≤ i ∧ i < n) ∧ K (.ep k s (addS j i.toNat) 0) else False
      | .view k s off n => bif Nat.beq te.size s then (0 ≤ i ∧ i < n) ∧ K (.ptr k (addS off (mulS i.toNat s))) else False
      | _ => False
    | _ => False
def elLoad (ti : TI) (p : PV) (m : Mem) (K : PV → Prop) : Prop :=
  match p with
  | .ep k s i off => match lk k m with
    | some (.vec s' l _) => bif Nat.beq s' s then ∃ y, l[i]? = some (.i y) ∧
        (bif isAggD ti.d then (bif Nat.beq ((y.cells.drop off).take ti.size).length ti.size then K (.i (.agg ((y.cells.drop off).take ti.size))) else False)
        else (match y.cells[off]? with
          | some z => K (.i z)
          | none => False)) else False
    | _ => False
  | .ptr k off => match lk k m with
    | some (.var cells) => bif isAggD ti.d && Nat.beq ((cells.drop off).take ti.size).length ti.size then K (.agg ((cells.drop off).take ti.size)) else False
    | _ => False
  | _ => False
def offV (off s : Nat) (l : Option Int) : Nat :=
  match l with
  | none => off
  | some a => addS off (mulS a.toNat s)
theorem offV_eq (off s : Nat) (l : Option Int) : offV off s l = off + (l.getD 0).toNat * s := by
  cases l <;> simp [offV, addS_eq, mulS_eq]
def elSlice (T : Ty) (t : Nat) (p : PV) (l h : Option Int) (K : PV → Prop) : Prop :=
  withT T t fun ti => match ti.d with
    | .slice e => withT T e fun te => match p with
      | .view k s off n => bif Nat.beq te.size s then (lowB n l h ∧ highB n h ∧ (match l with
        | none => True
        | some a => a = 0 ∨ a < n)) ∧ K (.view k s (offV off s l) (lenB n l h)) else False
      | _ => False
    | _ => False
def elCopy (T : Ty) (dT : Nat) (p q : PV) (m : Mem) (K : KonE) : Prop :=
  withT T dT fun td => match td.d with
    | .slice e => withT T e fun te => match p with
      | .view k s off n => match q with
        | .view k2 s2 off2 n2 => bif Nat.beq te.size s && Nat.beq s2 s then (match lk k m with
          | some (.var cells) => match lk k2 m with
            | some (.var cells2) => ∃ cells', (off + n * s ≤ cells.length ∧ off2 + n2 * s ≤ cells2.length ∧ cells.take off ++ (cells2.drop off2).take (min n2 n * s) ++ cells.drop (off + ((cells2.drop off2).take (min n2 n * s)).length) = cells') ∧
              K (.i (.int .i64 ((min n2 n : Nat) : Int))) [(k, .var cells')] []
            | _ => False
          | _ => False) else False
        | .i (.str l) => match s with
          | 1 => match lk k m with
            | some (.var cells) => ∃ cells', (off + n ≤ cells.length ∧ cells.take off ++ (u8s (l.take (min l.length n))).map .i ++ cells.drop (off + ((u8s (l.take (min l.length n))).map PV.i).length) = cells') ∧
              K (.i (.int .i64 ((min l.length n : Nat) : Int))) [(k, .var cells')] []
            | _ => False
          | _ => False
        | _ => False
      | _ => False
    | _ => False
def elBuild (T : Ty) (G : Gl) (t : Nat) (parts : List (Nat × Operand)) (env : Env) (K : PV → Prop) : Prop :=
  withT T t fun ti => match ti.zero with
    | some z => match zeroP z with
      | some (.agg zs) => match evalPartsP G env parts with
        | some ps => match ti.d with
          | .struct fs => match fplaces T fs.toList with
            | some pl => match aFillP (fun (i : Nat) => pl[i]?) zs ps with
              | some cs => K (.agg cs)
              | none => False
            | none => False
          | _ => False
        | none => False
      | _ => False
    | none => False
def elAlloc (T : Ty) (t d : Nat) (K : KonE) : Prop :=
  withT T t fun ti => match ti.zero with
    | some z => match zeroP z with
      | some p => match pcells p with
        | some ps => bif occs d ps || !Nat.blt d 1000 then False else K (.ptr d 0) [(d, .var ps)] [d]
        | none => False
      | none => False
    | none => False
def zeroNil (T : Ty) (t : Nat) : Bool :=
  match lk t T.t with
  | some ti => match ti.zero with
    | some z => hasNil z
    | none => false
  | none => false
def isElx : PV → Bool
  | .vec _ _ _ _ => true
  | .ep _ _ _ _ => true
  | .view _ _ _ _ => true
  | _ => false
def isAggP : PV → Bool
  | .agg _ => true
  | _ => false
def isView : PV → Bool
  | .view _ _ _ _ => true
  | _ => false
def elQ (T : Ty) (G : Gl) (o : Oper) (env : Env) (m : Mem) : Bool :=
  match o.op with
  | .alloc t => zeroNil T t
  | .build t parts => (evalParts G env parts.toList).isNone || zeroNil T t
  | .load t x => match evalO G env x with
    | some (.ep _ _ _ _) => true
    | some (.ptr k off) => match lk t T.t with
      | some ti => isAggD ti.d && (match lk k m with
        | some (.var cells) => (ivs? ((cells.drop off).take ti.size)).isNone
        | _ => false)
      | none => false
    | _ => false
  | .indexAddr _ x _ => optQ isElx (evalO G env x)
  | .fieldAddr _ x _ => optQ isEp (evalO G env x)
  | .field _ x _ => optQ isAggP (evalO G env x)
  | .slice _ x _ _ mx => mx.isNone && optQ isView (evalO G env x)
  | .call c => match c.callee with
    | .builtin .len => match c.args.toList with
      | [x] => optQ isVec (evalO G env x)
      | _ => false
    | .builtin .min => true
    | .builtin .copy => match c.args.toList with
      | [x, y] => optQ isView (evalO G env x)
      | _ => false
    | _ => false
  | _ => false
def aEl (T : Ty) (G : Gl) (o : Oper) (env : Env) (m : Mem) (K : KonE) : Prop :=
  match o.op with
  | .alloc t => match o.dst with
    | some d => elAlloc T t d K
    | none => False
  | .build t parts => elBuild T G t parts.toList env fun r => K r [] []
  | .load t x => withT T t fun ti => withO (evalO G env x) fun p => elLoad ti p m fun r => K r [] []
  | .indexAddr t x ix => withO (evalO G env x) fun p => withO (evalO G env ix) fun q => match q with
    | .i (.int _ i) => elIndex T t p i fun r => K r [] []
    | _ => False
  | .fieldAddr s x f => withO (evalO G env x) fun p => aField T s f fun fl ti => bif Nat.beq ti.size 0 then False else (match p with
    | .ep k sz i off => K (.ep k sz i (off + fl.offset)) [] []
    | _ => False)
  | .field t x f => withO (evalO G env x) fun p => aField T t f fun fl ti => match p with
    | .agg cs => withO (partP ti cs fl.offset) fun r => K r [] []
    | _ => False
  | .slice t x lo hi mx => withO (evalO G env x) fun p => match mx with
    | none => match evalB G env lo with
      | some l => match evalB G env hi with
        | some h => elSlice T t p l h fun r => K r [] []
        | none => False
      | none => False
    | some _ => False
  | .call c => match c.callee, c.args.toList, c.argTypes.toList with
    | .builtin .len, [x], [t] => withT T t fun ti => withO (evalO G env x) fun p => match ti.d with
      | .slice _ => match p with
        | .vec _ _ _ n => K (.i (.int .i64 (n : Int))) [] []
        | _ => False
      | _ => False
    | .builtin .min, [x, y], _ => withO (evalO G env x) fun p => withO (evalO G env y) fun q => match p with
      | .i (.int k a) => match q with
        | .i (.int k' b) => bif Nat.beq (kIx k') (kIx k) then K (.i (.int k (if b < a then b else a))) [] [] else False
        | _ => False
      | _ => False
    | .builtin .copy, [x, y], [dT, _] => withO (evalO G env x) fun p => withO (evalO G env y) fun q => elCopy T dT p q m K
    | _, _, _ => False
  | _ => False
def aopV (P : Program) (T : Ty) (G : Gl) (o : Oper) (env : Env) (m : Mem) (K : PV → Prop) : Prop :=
  match o.op with
  | .move x => withO (evalO G env x) K
  | .assign x => withO (evalO G env x) K
  | .pick c x y => withO (evalO G env c) fun p => match p with
    | .i (.bool t) => condP t (withO (evalO G env x) K) (withO (evalO G env y) K)
    | _ => False
  | .build t parts => aBuild T G t parts.toList env K
  | .load t x => withT T t fun ti => withO (evalO G env x) fun p => aLoad ti p m K
  | .nilCheck x => withO (evalO G env x) fun p => match p with
    | .ptr k f => K (.ptr k f)
    | .i (.rptr cs) => K (.i (.rptr cs))
    | _ => False
  | .binOp op t x y _ => withO (evalO G env x) fun p => withO (evalO G env y) fun q => aBin P op t p q fun z => K (.i z)
  | .unOp op _ x => withO (evalO G env x) fun p => match op with
    | .not => match p with
      | .i (.bool b) => K (.i (.bool (!b)))
      | _ => False
    | .neg => match p with
      | .i (.int k n) => K (.i (.int k (k.wrap (0 - n))))
      | _ => False
    | .xor => match p with
      | .i (.int k n) => K (.i (.int k (Go.bits .xor k (if k.signed then -1 else k.max) n)))
      | _ => False
    | _ => False
  | .convert s d x => withO (evalO G env x) fun p => aConv T s d p m K
  | .slice t x lo hi mx => match mx with
    | none => withO (evalO G env x) fun p => match evalB G env lo with
      | some l => match evalB G env hi with
        | some h => aSlice T t p l h K
        | none => False
      | none => False
    | some _ => False
  | .fieldAddr s x f => withO (evalO G env x) fun p => aField T s f fun fl ti => bif Nat.beq ti.size 0 then False else (match p with
    | .ptr k off => K (.ptr k (off + fl.offset))
    | .i (.rptr cs) => K (.i (.rptr (cs.drop fl.offset)))
    | _ => False)
  | .field t x f => withO (evalO G env x) fun p => aField T t f fun fl ti => match p with
    | .i (.agg cs) => match partI ti cs fl.offset with
      | some y => K (.i y)
      | none => False
    | _ => False
  | .indexAddr t x ix => withO (evalO G env x) fun p => withO (evalO G env ix) fun q => match q with
    | .i (.int _ i) => aIndexAddr T t p i K
    | _ => False
  | .index t x ix => withO (evalO G env x) fun p => withO (evalO G env ix) fun q => match q with
    | .i (.int _ i) => aIndex T t p i K
    | _ => False
  | .extract x n => withO (evalO G env x) fun p => match p with
    | .i (.tup xs) => match xs[n]? with
      | some y => K (.i y)
      | none => False
    | .tup xs => match xs[n]? with
      | some y => K y
      | none => False
    | _ => False
  | .makeFunc fn first caps => aFunc G env fn first (evalArgs G env caps.toList) K
  | .makeInterface t x => withO (evalO G env x) fun p => aMakeI T t p K
  | .typeAssert x _ asserted ok => withO (evalO G env x) fun p => aAssert T asserted ok p K
  | .call c => match c.callee with
    | .builtin .len => match c.args.toList with
      | [x] => match c.argTypes.toList with
        | [t] => withO (evalO G env x) fun p => aLen T t p K
        | _ => False
      | _ => False
    | _ => False
  | _ => False
def aop0 (P : Program) (T : Ty) (G : Gl) (o : Oper) (env : Env) (m : Mem) (K : Kont) : Prop :=
  match o.op with
  | .alloc t => match o.dst with
    | some d => withT T t fun ti => match ti.zero with
      | some z => match ofV z with
        | some x => aNew d (.i x) env m K
        | none => False
      | none => False
    | none => False
  | .box _ y => match o.dst with
    | some d => withO (evalO G env y) fun p => aNew d p env m K
    | none => False
  | .buildSlice t n parts => aBuildSlice T G t n parts.toList env fun p => K p env m
  | .store t x y => withT T t fun ti => withO (evalO G env x) fun p => withO (evalO G env y) fun q => aStore ti p q m fun m1 => K .dead env m1
  | .call c => match c.callee with
    | .builtin .append => aBuiltin T G .append o.dst c.args.toList c.argTypes.toList env m K
    | .builtin .copy => aBuiltin T G .copy o.dst c.args.toList c.argTypes.toList env m K
    | .builtin _ => aopV P T G o env m fun r => K r env m
    | .value f => withO (evalO G env f) fun p => aCall P G p (evalArgs G env c.args.toList) env m K
    | .invoke x name => withO (evalO G env x) fun p => aInv P G p name (evalArgs G env c.args.toList) env m K
  | _ => aopV P T G o env m fun r => K r env m
def killK (κ : List Nat) (env : Env) (m : Mem) (K : Env → Mem → Prop) : Prop :=
  match κ with
  | [] => K env m
  | κ => bif (env.any fun e => occL κ e.2) || (m.any fun e => (match e.2 with
      | .var cells => cells.any (occL κ)
      | _ => false)) then K (killE κ env) (killM κ m) else K env m
def aop (P : Program) (T : Ty) (G : Gl) (o : Oper) (env : Env) (m : Mem) (K : Kont) : Prop :=
  bif effQ T G o env then aEff T G o env m (fun r w κ => killK κ env m fun env1 m1 => K r env1 (setM w m1)) else
  bif elQ T G o env m then aEl T G o env m (fun r w κ => killK κ env m fun env1 m1 => K r env1 (setM w m1)) else aop0 P T G o env m K
section
variable {P : Program} {T : Ty} {G : Gl} {o : Oper} {env : Env} {m : Mem}
def OkV (P : Program) (G : Gl) (o : Oper) (env : Env) (m : Mem) (K : PV → Prop) : Prop := ∃ r, SV P G o env m r ∧ K r
theorem withO.out {p : Option PV} {K : PV → Prop} (h : withO p K) : ∃ q, p = some q ∧ K q := by
  cases p with
  | none => exact h.elim
  | some q => exact ⟨q, rfl, h⟩
theorem withT.out {t : Nat} {K : TI → Prop} (h : withT T t K) : ∃ ti, lk t T.t = some ti ∧ K ti := by
  unfold withT at h
  cases e : lk t T.t with
  | none => rw [e] at h; exact h.elim
  | some ti => rw [e] at h; exact ⟨ti, rfl, h⟩
theorem giveK.out {d : Nat} {K : Env → Mem → Prop} (h : giveK d env m K) : ∃ env1 m1, Gives d env m env1 m1 ∧ K env1 m1 := by
  unfold giveK at h
  cases e : (occE d env || occM d m) with
  | true => rw [e] at h; exact ⟨_, _, gives_dem, h⟩
  | false =>
    rw [e] at h
    simp only [Bool.or_eq_false_iff] at e
    exact ⟨_, _, gives_plain e.1 e.2, h⟩
theorem evalArgs_rel : ∀ {xs : List Operand} {ps : List PV}, evalArgs G env xs = some ps → ∀ (R : Ent) (σ : Gh) (a : Act) (w : World), EnvOK σ env a → J G R σ m w → RelPs σ ps (xs.map a.eval)
  | [], ps, h, R, σ, a, w, he, hj => by simp only [evalArgs] at h; cases h; exact ⟨rfl, fun i p v e => by simp at e⟩
  | x :: r, ps, h, R, σ, a, w, he, hj => by
    simp only [evalArgs] at h
    cases e1 : evalO G env x with
    | none => rw [e1] at h; cases h
    | some p =>
      simp only [e1] at h
      cases e2 : evalArgs G env r with
      | none => rw [e2] at h; cases h
      | some l =>
        rw [e2] at h
        cases h
        have ih := evalArgs_rel e2 R σ a w he hj
        refine ⟨by simp [ih.1], fun i q v h1 h2 => ?_⟩
        cases i with
        | zero => simp at h1 h2; subst h1; subst h2; exact evalO_rel he hj e1
        | succ i => exact ih.2 i q v (by simpa using h1) (by simpa using h2)
theorem bif_true {b : Bool} {A : Prop} (h : bif b then A else False) : b = true ∧ A := by
  cases b
  · exact h.elim
  · exact ⟨rfl, h⟩
section
variable {K : PV → Prop}
theorem aInt_ok {op : BinOp} {t yT : TypeId} {x y : Operand} {k k' : IntKind} {a b : Int} (ho : o.op = .binOp op t x y yT) (hp : evalO G env x = some (.i (.int k a))) (hq : evalO G env y = some (.i (.int k' b)))
    (h : aInt op k a k' b fun z => K (.i z)) : OkV P G o env m K := by
  unfold aInt at h
  split at h
  · exact ⟨_, step_iShift ho hp hq rfl h.1, h.2⟩
  · exact ⟨_, step_iShift ho hp hq rfl h.1, h.2⟩
  · obtain ⟨h1, h2⟩ := h
    obtain ⟨e, h2⟩ := bif_true h2
    rw [← kIx_inj e] at hq
    exact ⟨_, step_iDiv ho rfl hp hq h1, h2⟩
  · obtain ⟨h1, h2⟩ := h
    obtain ⟨e, h2⟩ := bif_true h2
    rw [← kIx_inj e] at hq
    exact ⟨_, step_iRem ho rfl hp hq h1, h2⟩
  · obtain ⟨e, h2⟩ := bif_true h
    rw [← kIx_inj e] at hq
    split at h2
    · rename_i z hz
      exact ⟨_, step_iArith ho hp hq hz, h2⟩
    · exact h2.elim
theorem step_iStr' {op : BinOp} {xT yT : TypeId} {x y : Operand} {a b : List UInt8} {z : IV} (ho : o.op = .binOp op xT x y yT) (hop : op ≠ .add) (hp : evalO G env x = some (.i (.str a)))
    (hq : evalO G env y = some (.i (.str b))) (h : iStr op a b = some z) : SV P G o env m (.i z) := by
  refine step_bin ho hp hq fun σ w u v hu hv => ?_
  rw [rel_str hu, rel_str hv]
  have hg : ∀ op, (eqGuard op xT x y (.string ⟨a.toArray⟩) (.string ⟨b.toArray⟩)).run P w = .ok () w := fun op => run_eqGuard_scalar op xT x y _ _ w (by simp) (by simp)
  cases op <;> simp only [iStr] at h <;> first
    | (cases h; done)
    | exact absurd rfl hop
    | (cases h; refine ⟨_, .bool _, ?_⟩; simp only [Sem.run_bind, hg, Result.andThen_ok]; simp only [binOp, Op.stringOp, toList_mk]; rfl)
theorem aStr_ok {op : BinOp} {t yT : TypeId} {x y : Operand} {a b : List UInt8} (ho : o.op = .binOp op t x y yT) (hp : evalO G env x = some (.i (.str a))) (hq : evalO G env y = some (.i (.str b)))
    (h : aStr op a b fun z => K (.i z)) : OkV P G o env m K := by
  unfold aStr at h
  split at h
  · exact ⟨_, step_iStr ho hp hq rfl h.1, h.2⟩
  · rename_i op' hne
    split at h
    · rename_i z hz
      exact ⟨_, step_iStr' ho (fun e => hne e) hp hq hz, h⟩
    · exact h.elim
theorem aBin_ok {op : BinOp} {t yT : TypeId} {x y : Operand} {p q : PV} (ho : o.op = .binOp op t x y yT) (hp : evalO G env x = some p) (hq : evalO G env y = some q)
    (h : aBin P op t p q fun z => K (.i z)) : OkV P G o env m K := by
  unfold aBin at h
  split at h
  · split at h
    · exact aInt_ok ho hp hq h
    · exact h.elim
  · split at h
    · exact aStr_ok ho hp hq h
    · exact h.elim
  · split at h
    · obtain ⟨b, h1, h2⟩ := h
      exact ⟨_, step_eql ho hp hq h1, h2⟩
    · obtain ⟨b, h1, h2⟩ := h
      exact ⟨_, step_neq ho hp hq h1, h2⟩
    · exact h.elim
theorem head_cons {α : Type} {l : List α} {c : α} (h : l[0]? = some c) : ∃ r, l = c :: r := by
  cases l with
  | nil => cases h
  | cons a r => cases h; exact ⟨r, rfl⟩
theorem aLoad_ok {t : Nat} {ti : TI} {x : Operand} {p : PV} (T1 : TOK1 P t ti) (ho : o.op = .load t x) (hp : evalO G env x = some p) (h : aLoad ti p m K) : OkV P G o env m K := by
  unfold aLoad at h
  split at h
  · split at h
    · rename_i cells hm
      cases ha : isAggD ti.d with
      | true =>
        simp only [ha, cond_true] at h
        split at h
        · rename_i cs hcs
          obtain ⟨e, h⟩ := bif_true h
          exact ⟨_, step_load_agg T1 ha ho hp hm hcs (Nat.eq_of_beq_eq_true e), h⟩
        · exact h.elim
      | false =>
        simp only [ha, cond_false] at h
        obtain ⟨q, hq, h⟩ := withO.out h
        exact ⟨_, step_load_one T1 ha ho hp hm hq, h⟩
    · exact h.elim
  · cases ha : isAggD ti.d with
    | true =>
      simp only [ha, cond_true] at h
      obtain ⟨e, h⟩ := bif_true h
      exact ⟨_, step_load_ragg T1 ha ho hp (Nat.eq_of_beq_eq_true e), h⟩
    | false =>
      simp only [ha, cond_false] at h
      obtain ⟨c, hc, h⟩ := withX.out h
      obtain ⟨r, hr⟩ := head_cons hc
      rw [hr] at hp
      exact ⟨_, step_load_rone T1 ha ho hp, h⟩
  · exact h.elim
theorem aField.out (hT : TOK P T) {s f : Nat} {K : Field → TI → Prop} (h : aField T s f K) : ∃ fs fl ti, P.underlying s = some (.struct fs) ∧ fs[f]? = some fl ∧ TOK1 P fl.type ti ∧ K fl ti := by
  obtain ⟨ts, e1, h⟩ := withT.out h
  split at h
  · rename_i fs hfs
    split at h
    · rename_i fl hfl
      obtain ⟨ti, e2, h⟩ := withT.out h
      exact ⟨fs, fl, ti, by rw [← hfs]; exact (hT _ _ e1).und, by simpa using hfl, hT _ _ e2, h⟩
    · exact h.elim
  · exact h.elim
theorem aIndexAddr_ok (hT : TOK P T) {t : Nat} {x ix : Operand} {p : PV} {k : IntKind} {i : Int} (ho : o.op = .indexAddr t x ix) (hp : evalO G env x = some p) (hq : evalO G env ix = some (.i (.int k i)))
    (h : aIndexAddr T t p i K) : OkV P G o env m K := by
  obtain ⟨ti, e1, h⟩ := withT.out h
  have hu := (hT _ _ e1).und
  split at h
  · rename_i n e hd
    rw [hd] at hu
    obtain ⟨te, e2, h⟩ := withT.out h
    simp only [addS_eq, mulS_eq] at h
    split at h
    · exact ⟨_, step_indexAddr_ptr ho hu (hT _ _ e2) hp hq h.1.1 h.1.2, h.2⟩
    · exact ⟨_, step_indexAddr_rptr ho hu (hT _ _ e2) hp hq h.1.1 h.1.2, h.2⟩
    · exact h.elim
  · rename_i e hd
    rw [hd] at hu
    obtain ⟨te, e2, h⟩ := withT.out h
    split at h
    · rename_i l hl
      obtain ⟨y, h1, h2⟩ := h
      obtain ⟨e3, h2⟩ := bif_true h2
      exact ⟨_, step_indexAddr_slice ho hu (hT _ _ e2) hp hl hq h1.1 h1.2 (Nat.eq_of_beq_eq_true e3), h2⟩
    · exact h.elim
  · exact h.elim
theorem aIndex_ok (hT : TOK P T) {t : Nat} {x ix : Operand} {p : PV} {k : IntKind} {i : Int} (ho : o.op = .index t x ix) (hp : evalO G env x = some p) (hq : evalO G env ix = some (.i (.int k i)))
    (h : aIndex T t p i K) : OkV P G o env m K := by
  obtain ⟨ti, e1, h⟩ := withT.out h
  have hu := (hT _ _ e1).und
  split at h
  · rename_i hd
    rw [hd] at hu
    split at h
    · exact ⟨_, step_index_str ho hu hp hq h.1.1 h.1.2, h.2⟩
    · exact h.elim
  · rename_i n e hd
    rw [hd] at hu
    obtain ⟨te, e2, h⟩ := withT.out h
    simp only [mulS_eq] at h
    split at h
    · obtain ⟨h1, y, h2, h3⟩ := h
      exact ⟨_, step_index_arr ho hu (hT _ _ e2) hp hq h1.1 h1.2 h2, h3⟩
    · exact h.elim
  · exact h.elim
theorem aSlice_ok (hT : TOK P T) {t : Nat} {x : Operand} {lo hi : Option Operand} {p : PV} {l hh : Option Int} (ho : o.op = .slice t x lo hi none) (hp : evalO G env x = some p) (hl : evalB G env lo = some l)
    (hhi : evalB G env hi = some hh) (h : aSlice T t p l hh K) : OkV P G o env m K := by
  obtain ⟨ti, e1, h⟩ := withT.out h
  have hu := (hT _ _ e1).und
  split at h
  · rename_i hd
    rw [hd] at hu
    split at h
    · exact ⟨_, step_slice_str ho hu hp hl hhi h.1.1 h.1.2.1 h.1.2.2, h.2⟩
    · exact h.elim
  · rename_i e hd
    rw [hd] at hu
    obtain ⟨te, e2, h⟩ := withT.out h
    split at h
    · rename_i ls hls
      exact ⟨_, step_slice_slice ho hu (hT _ _ e2) hp hls h.1.2 hl hhi h.1.1.1 h.1.1.2.1 h.1.1.2.2, h.2⟩
    · exact h.elim
  · rename_i n e hd
    rw [hd] at hu
    obtain ⟨te, e2, h⟩ := withT.out h
    split at h
    · exact ⟨_, step_slice_arr ho hu (hT _ _ e2) hp hl hhi h.1.1 h.1.2.1 h.1.2.2.1 h.1.2.2.2, h.2⟩
    · exact h.elim
  · exact h.elim
theorem aConv_ok (hT : TOK P T) {s d : Nat} {x : Operand} {p : PV} (ho : o.op = .convert s d x) (hp : evalO G env x = some p) (h : aConv T s d p m K) : OkV P G o env m K := by
  obtain ⟨ts, e1, h⟩ := withT.out h
  obtain ⟨td, e2, h⟩ := withT.out h
  have hus := (hT _ _ e1).und
  have hud := (hT _ _ e2).und
  split at h
  · rename_i k' hd
    rw [hd] at hud
    split at h
    · exact ⟨_, step_conv_int ho hus hud hp, h⟩
    · exact h.elim
  · rename_i hd
    rw [hd] at hud
    split at h
    · rename_i hs
      rw [hs] at hus
      split at h
      · exact ⟨_, step_conv_str ho hus hud hp, h⟩
      · exact h.elim
    · rename_i e hs
      rw [hs] at hus
      obtain ⟨te, e3, h⟩ := withT.out h
      have hue := (hT _ _ e3).und
      split at h
      · rename_i h8
        rw [h8] at hue
        split at h
        · split at h
          · rename_i cells hm
            obtain ⟨l, ⟨h1, rfl⟩, h2⟩ := h
            exact ⟨_, step_conv_view ho hus hue hud hp hm h1, h2⟩
          · exact h.elim
        · split at h
          · rename_i xs hxs
            obtain ⟨l, rfl, h2⟩ := h
            exact ⟨_, step_conv_bytes ho hus hue hud hp hxs, h2⟩
          · exact h.elim
      · exact h.elim
    · exact h.elim
  · exact h.elim
theorem aBuild_ok (hT : TOK P T) {t : Nat} {parts : Array (Nat × Operand)} (ho : o.op = .build t parts) (h : aBuild T G t parts.toList env K) : OkV P G o env m K := by
  obtain ⟨ti, e1, h⟩ := withT.out h
  split at h
  · rename_i z hz
    split at h
    · rename_i zs hzs
      split at h
      · rename_i ps hps
        split at h
        · rename_i fs hd
          split at h
          · rename_i pl hpl
            split at h
            · rename_i cs hcs
              exact ⟨_, step_build_struct hT ho (hT _ _ e1) hd hz hzs hpl hps hcs, h⟩
            · exact h.elim
          · exact h.elim
        · rename_i n e hd
          obtain ⟨te, e2, h⟩ := withT.out h
          split at h
          · rename_i cs hcs
            exact ⟨_, step_build_array ho (hT _ _ e1) hd (hT _ _ e2) hz hzs hps (aFillS_ok hcs), h⟩
          · exact h.elim
        · exact h.elim
      · exact h.elim
    · exact h.elim
  · exact h.elim
theorem step_func {fn : Fn} {first caps : Array Operand} {ps : List PV} {r : PV} (ho : o.op = .makeFunc fn first caps) (hf : first.toList = []) (hc : evalArgs G env caps.toList = some ps)
    (hr : r = .clo fn ps ∨ ∃ ics, ivs? ps = some ics ∧ r = .i (.func fn ics)) : SV P G o env m r := by
  refine fun R σ a w he hj => ?_
  have hA := evalArgs_rel hc R σ a w he hj
  have hf' : first = #[] := by apply Array.ext'; simpa using hf
  have hmap : caps.map a.eval = (caps.toList.map a.eval).toArray := by apply Array.ext'; simp
  refine ⟨.func fn #[] (caps.toList.map a.eval).toArray, ?_, by simp only [execOp, ho, Instr.makeFunc, hf', hmap, Sem.run_bind, Sem.run_pure, Result.andThen_ok]; simp⟩
  rcases hr with rfl | ⟨ics, hi, rfl⟩
  · exact .clo fn ps _ hA.1 hA.2
  · have := hA.iv hi
    refine .i _ _ (.func fn ics _ (by simpa using this.1) fun i x v e1 e2 => ?_)
    have h3 := this.2 i (.i x) v (by simp [e1]) e2
    cases h3; assumption
theorem step_funcB {fn : Fn} {first caps : Array Operand} {fs : List PV} (ho : o.op = .makeFunc fn first caps) (hf : evalArgs G env first.toList = some fs) (hc : evalArgs G env caps.toList = some []) :
    SV P G o env m (.bnd fn fs) := by
  refine fun R σ a w he hj => ?_
  have hA := evalArgs_rel hf R σ a w he hj
  have hB := evalArgs_rel hc R σ a w he hj
  have hcl : caps.toList.map a.eval = [] := List.eq_nil_of_length_eq_zero (by rw [← hB.1]; rfl)
  have hc' : caps.map a.eval = #[] := by apply Array.ext'; simpa using hcl
  have hmap : first.map a.eval = (first.toList.map a.eval).toArray := by apply Array.ext'; simp
  exact ⟨.func fn (first.toList.map a.eval).toArray #[], .bnd fn fs _ hA.1 hA.2, by simp only [execOp, ho, Instr.makeFunc, hc', hmap, Sem.run_bind, Sem.run_pure, Result.andThen_ok]⟩
theorem aMakeI_ok (hT : TOK P T) {t : Nat} {x : Operand} {p : PV} (ho : o.op = .makeInterface t x) (hp : evalO G env x = some p) (h : aMakeI T t p K) : OkV P G o env m K := by
  obtain ⟨ti, e1, h⟩ := withT.out h
  have hrun : ∀ (a : Act) (w : World), (∀ ms, ti.d ≠ .interface ms) → (execOp a.eval o).run P w = .ok (.value (.iface t (a.eval x))) w := by
    intro a w hd
    simp only [execOp, ho, Instr.makeInterface, Sem.run_bind, (hT _ _ e1).run_und, Result.andThen_ok]
    cases hdd : ti.d <;> simp [hdd] at hd ⊢
  split at h
  · exact h.elim
  · rename_i hd
    have hd' : ∀ ms, ti.d ≠ .interface ms := fun ms e => hd ms e
    split at h
    · rename_i y hy
      exact ⟨_, fun R σ a w he hj => ⟨_, .i _ _ (.iface t y _ ((evalO_rel he hj hp).iv hy)), hrun a w hd'⟩, h⟩
    · exact ⟨_, fun R σ a w he hj => ⟨_, .ifc t p _ (evalO_rel he hj hp), hrun a w hd'⟩, h⟩
theorem aAssert_ok (hT : TOK P T) {xT asserted : Nat} {ok : Bool} {x : Operand} {p : PV} (ho : o.op = .typeAssert x xT asserted ok) (hp : evalO G env x = some p) (h : aAssert T asserted ok p K) : OkV P G o env m K := by
  obtain ⟨ti, e1, h⟩ := withT.out h
  have hrun : ∀ (a : Act) (w : World) (v : Value), ok = false → a.eval x = .iface asserted v → (∀ ms, ti.d ≠ .interface ms) → (execOp a.eval o).run P w = .ok (.value v) w := by
    intro a w v hok hv hd
    simp only [execOp, ho, hok, Instr.typeAssert, Sem.run_bind, (hT _ _ e1).run_und, Result.andThen_ok, hv]
    cases hdd : ti.d <;> simp [hdd] at hd ⊢
  split at h
  · exact h.elim
  · rename_i hd
    have hd' : ∀ ms, ti.d ≠ .interface ms := fun ms e => hd ms e
    split at h
    · exact h.elim
    · split at h
      · obtain ⟨e, h2⟩ := bif_true h
        have := Nat.eq_of_beq_eq_true e
        subst this
        refine ⟨_, fun R σ a w he hj => ?_, h2⟩
        have r := evalO_rel he hj hp
        generalize hv : a.eval x = v at r
        cases r with | i _ _ r =>
        cases r with | iface _ _ v hr => exact ⟨v, .i _ _ hr, hrun a w v rfl hv hd'⟩
      · obtain ⟨e, h2⟩ := bif_true h
        have := Nat.eq_of_beq_eq_true e
        subst this
        refine ⟨_, fun R σ a w he hj => ?_, h2⟩
        have r := evalO_rel he hj hp
        generalize hv : a.eval x = v at r
        cases r with | ifc _ _ v hr => exact ⟨v, hr, hrun a w v rfl hv hd'⟩
      · exact h.elim
theorem aLen_ok (hT : TOK P T) {t : Nat} {x : Operand} {p : PV} (ho : o.op = .call { callee := .builtin .len, args := #[x], argTypes := #[t] }) (hp : evalO G env x = some p)
    (h : aLen T t p K) : OkV P G o env m K := by
  obtain ⟨ti, e1, h⟩ := withT.out h
  have hu := (hT _ _ e1).und
  split at h
  · rename_i hd
    rw [hd] at hu
    split at h
    · exact ⟨_, step_len_str ho hu hp, h⟩
    · exact h.elim
  · rename_i e hd
    rw [hd] at hu
    split at h
    · exact ⟨_, step_len_view ho hu hp, h⟩
    · split at h
      · rename_i l hl
        exact ⟨_, step_len_slice ho hu hp hl, h⟩
      · exact h.elim
  · rename_i n e hd
    rw [hd] at hu
    exact ⟨_, step_len_arr ho hu hp, h⟩
  · exact h.elim
theorem list_one {α : Type} {a : Array α} {x : α} (h : a.toList = [x]) : a = #[x] := by
  apply Array.ext'; simpa using h
theorem list_two {α : Type} {a : Array α} {x y : α} (h : a.toList = [x, y]) : a = #[x, y] := by
  apply Array.ext'; simpa using h
theorem aopV_ok (hT : TOK P T) (h : aopV P T G o env m K) : OkV P G o env m K := by
  unfold aopV at h
  split at h
  · rename_i x ho
    obtain ⟨p, hp, h⟩ := withO.out h
    exact ⟨_, step_move (.inl ho) hp, h⟩
  · rename_i x ho
    obtain ⟨p, hp, h⟩ := withO.out h
    exact ⟨_, step_move (.inr ho) hp, h⟩
  · rename_i c x y ho
    obtain ⟨p, hp, h⟩ := withO.out h
    split at h
    · rcases condP.out h with ⟨rfl, h⟩ | ⟨rfl, h⟩
      · obtain ⟨q, hq, h⟩ := withO.out h
        exact ⟨_, step_pick_true ho hp hq, h⟩
      · obtain ⟨q, hq, h⟩ := withO.out h
        exact ⟨_, step_pick_false ho hp hq, h⟩
    · exact h.elim
  · rename_i t parts ho
    exact aBuild_ok hT ho h
  · rename_i t x ho
    obtain ⟨ti, e1, h⟩ := withT.out h
    obtain ⟨p, hp, h⟩ := withO.out h
    exact aLoad_ok (hT _ _ e1) ho hp h
  · rename_i x ho
    obtain ⟨p, hp, h⟩ := withO.out h
    split at h
    · exact ⟨_, step_nilCheck ho hp (.inl ⟨_, _, rfl⟩), h⟩
    · exact ⟨_, step_nilCheck ho hp (.inr ⟨_, rfl⟩), h⟩
    · exact h.elim
  · rename_i op t x y yT ho
    obtain ⟨p, hp, h⟩ := withO.out h
    obtain ⟨q, hq, h⟩ := withO.out h
    exact aBin_ok ho hp hq h
  · rename_i op t x ho
    obtain ⟨p, hp, h⟩ := withO.out h
    split at h
    · split at h
      · exact ⟨_, step_not ho hp, h⟩
      · exact h.elim
    · split at h
      · exact ⟨_, step_neg ho hp, h⟩
      · exact h.elim
    · split at h
      · exact ⟨_, step_com ho hp, h⟩
      · exact h.elim
    · exact h.elim
  · rename_i s d x ho
    obtain ⟨p, hp, h⟩ := withO.out h
    exact aConv_ok hT ho hp h
  · rename_i t x lo hi mx ho
    split at h
    · obtain ⟨p, hp, h⟩ := withO.out h
      split at h
      · rename_i l hl
        split at h
        · rename_i hh hhi
          exact aSlice_ok hT ho hp hl hhi h
        · exact h.elim
      · exact h.elim
    · exact h.elim
  · rename_i s x f ho
    obtain ⟨p, hp, h⟩ := withO.out h
    obtain ⟨fs, fl, ti, h1, h2, h3, h⟩ := aField.out hT h
    cases hz : Nat.beq ti.size 0 with
    | true => rw [hz] at h; exact h.elim
    | false =>
      rw [hz] at h
      simp only [cond_false] at h
      have hz' : ti.size ≠ 0 := fun e => by rw [e] at hz; simp at hz
      split at h
      · exact ⟨_, step_fieldP ho h1 h2 h3 hz' hp, h⟩
      · exact ⟨_, step_fieldR ho h1 h2 h3 hz' hp, h⟩
      · exact h.elim
  · rename_i t x f ho
    obtain ⟨p, hp, h⟩ := withO.out h
    obtain ⟨fs, fl, ti, h1, h2, h3, h⟩ := aField.out hT h
    split at h
    · split at h
      · rename_i y hy
        exact ⟨_, step_field ho h1 h2 h3 hp hy, h⟩
      · exact h.elim
    · exact h.elim
  · rename_i t x ix ho
    obtain ⟨p, hp, h⟩ := withO.out h
    obtain ⟨q, hq, h⟩ := withO.out h
    split at h
    · exact aIndexAddr_ok hT ho hp hq h
    · exact h.elim
  · rename_i t x ix ho
    obtain ⟨p, hp, h⟩ := withO.out h
    obtain ⟨q, hq, h⟩ := withO.out h
    split at h
    · exact aIndex_ok hT ho hp hq h
    · exact h.elim
  · rename_i x n ho
    obtain ⟨p, hp, h⟩ := withO.out h
    split at h
    · split at h
      · rename_i y hy
        exact ⟨_, step_extract ho hp hy, h⟩
      · exact h.elim
    · split at h
      · rename_i y hy
        exact ⟨_, step_extractP ho hp hy, h⟩
      · exact h.elim
    · exact h.elim
  · rename_i fn first caps ho
    unfold aFunc at h
    split at h
    · rename_i hf
      split at h
      · rename_i ps hps
        split at h
        · rename_i ics hi
          exact ⟨_, step_func ho hf hps (.inr ⟨ics, hi, rfl⟩), h⟩
        · exact ⟨_, step_func ho hf hps (.inl rfl), h⟩
      · exact h.elim
    · rename_i y r hf
      split at h
      · rename_i hcaps
        split at h
        · rename_i fs hfs
          exact ⟨_, step_funcB ho (by rw [hf]; exact hfs) hcaps, h⟩
        · exact h.elim
      · exact h.elim
  · rename_i t x ho
    obtain ⟨p, hp, h⟩ := withO.out h
    exact aMakeI_ok hT ho hp h
  · rename_i x xT asserted ok ho
    obtain ⟨p, hp, h⟩ := withO.out h
    exact aAssert_ok hT ho hp h
  · rename_i c ho
    obtain ⟨callee, args, ats⟩ := c
    simp only at h
    split at h
    · split at h
      · rename_i x hx
        split at h
        · rename_i t ht
          rw [list_one hx, list_one ht] at ho
          obtain ⟨p, hp, h⟩ := withO.out h
          exact aLen_ok hT ho hp h
        · exact h.elim
      · exact h.elim
    · exact h.elim
  · exact h.elim
end
section
variable {K : Kont}
def Ok (P : Program) (G : Gl) (o : Oper) (env : Env) (m : Mem) (K : Kont) : Prop := ∃ r env1 m1, Step P G o env m r env1 m1 ∧ K r env1 m1
theorem OkV.ok (h : OkV P G o env m fun r => K r env m) : Ok P G o env m K := by
  obtain ⟨r, h1, h2⟩ := h
  exact ⟨r, env, m, h1.step, h2⟩
theorem aStore_ok {t : Nat} {ti : TI} {x y : Operand} {p q : PV} (T1 : TOK1 P t ti) (ho : o.op = .store t x y) (hp : evalO G env x = some p) (hq : evalO G env y = some q)
    (h : aStore ti p q m fun m1 => K .dead env m1) : Ok P G o env m K := by
  unfold aStore at h
  split at h
  · split at h
    · rename_i cells hm
      split at h
      · rename_i ps hps
        obtain ⟨e, h⟩ := bif_true h
        simp only [Bool.and_eq_true] at e
        exact ⟨_, _, _, step_store T1 ho hp hq hps hm (Nat.eq_of_beq_eq_true e.1) (Nat.le_of_ble_eq_true e.2), h⟩
      · exact h.elim
    · exact h.elim
  · exact h.elim
theorem aCall_ok {f : Operand} {xs : Array Operand} {ats : Array TypeId} {p : PV} (ho : o.op = .call { callee := .value f, args := xs, argTypes := ats }) (hp : evalO G env f = some p)
    (h : aCall P G p (evalArgs G env xs.toList) env m K) : Ok P G o env m K := by
  unfold aCall at h
  cases ea : evalArgs G env xs.toList with
  | none => rw [ea] at h; exact h.elim
  | some args =>
    simp only [ea] at h
    split at h
    · obtain ⟨r, env1, m1, h1, h2⟩ := h
      exact ⟨r, env1, m1, step_call ho (.inr ⟨_, hp, rfl⟩) (evalArgs_rel ea) h1, h2⟩
    · obtain ⟨r, env1, m1, h1, h2⟩ := h
      exact ⟨r, env1, m1, step_call ho (.inl hp) (evalArgs_rel ea) h1, h2⟩
    · obtain ⟨r, env1, m1, h1, h2⟩ := h
      exact ⟨r, env1, m1, step_bnd ho hp (evalArgs_rel ea) h1, h2⟩
    · exact h.elim
theorem aInv_ok {x : Operand} {name : String} {xs : Array Operand} {ats : Array TypeId} {p : PV} (ho : o.op = .call { callee := .invoke x name, args := xs, argTypes := ats }) (hp : evalO G env x = some p)
    (h : aInv P G p name (evalArgs G env xs.toList) env m K) : Ok P G o env m K := by
  unfold aInv at h
  cases ea : evalArgs G env xs.toList with
  | none => rw [ea] at h; exact h.elim
  | some args =>
    simp only [ea] at h
    split at h
    · obtain ⟨f, q, hM, r, env1, m1, h1, h2⟩ := h
      exact ⟨r, env1, m1, step_inv ho (.inl hp) (evalArgs_rel ea) hM h1, h2⟩
    · obtain ⟨f, q, hM, r, env1, m1, h1, h2⟩ := h
      exact ⟨r, env1, m1, step_inv ho (.inr ⟨_, hp, rfl⟩) (evalArgs_rel ea) hM h1, h2⟩
    · exact h.elim
theorem aAppend_ok (hT : TOK P T) {sT xT d : Nat} {x y : Operand} {p q : PV} (ho : o.op = .call { callee := .builtin .append, args := #[x, y], argTypes := #[sT, xT] }) (hd : o.dst = some d)
    (hp : evalO G env x = some p) (hq : evalO G env y = some q) (h : aAppend T sT xT d p q env m K) : Ok P G o env m K := by
  obtain ⟨ts, e1, h⟩ := withT.out h
  obtain ⟨tx, e2, h⟩ := withT.out h
  have hus := (hT _ _ e1).und
  have hux := (hT _ _ e2).und
  split at h
  · rename_i e hds
    rw [hds] at hus
    split at h
    · rename_i e' hdx
      rw [hdx] at hux
      obtain ⟨te, e3, h⟩ := withT.out h
      split at h
      · rename_i z hz
        obtain ⟨e4, h⟩ := bif_true h
        simp only [Bool.and_eq_true] at e4
        have A : AppT P sT xT e te z := ⟨hus, ⟨_, hux⟩, hT _ _ e3, hz, Nat.eq_of_beq_eq_true e4.1.1⟩
        have hbb : te.bytes ≠ 0 := by
          intro h0
          simp [h0] at e4
        have hd1 : d < 1000 := by simpa [Nat.blt_eq] using e4.2
        split at h
        · rename_i l2 hl2
          split at h
          · rename_i k s l
            obtain ⟨e5, h⟩ := bif_true h
            have hs := Nat.eq_of_beq_eq_true e5
            subst hs
            split at h
            · rename_i hm
              obtain ⟨e6, h⟩ := bif_true h
              exact ⟨_, _, _, step_append A hbb ho (.inr ⟨d, hd⟩) (by simpa [Nat.blt_eq] using e6) hp hq hl2 (.inl ⟨rfl, hm⟩) h.1.1.1 h.1.1.2 h.1.2 gives_dem, h.2⟩
            · exact h.elim
          · obtain ⟨h1, h2⟩ := h
            obtain ⟨env1, m1, g, h2⟩ := giveK.out h2
            exact ⟨_, _, _, step_append A hbb ho (.inl hd) hd1 hp hq hl2 (.inr rfl) h1.1.1 h1.1.2 h1.2 g, h2⟩
          · exact h.elim
        · exact h.elim
      · exact h.elim
    · exact h.elim
  · exact h.elim
theorem aBuiltin_ok (hT : TOK P T) {b : Builtin} {xs : Array Operand} {ats : Array TypeId} (ho : o.op = .call { callee := .builtin b, args := xs, argTypes := ats })
    (h : aBuiltin T G b o.dst xs.toList ats.toList env m K) : Ok P G o env m K := by
  unfold aBuiltin at h
  split at h
  · rename_i x y sT xT hx ht
    rw [list_two hx, list_two ht] at ho
    split at h
    · rename_i d hd
      obtain ⟨p, hp, h⟩ := withO.out h
      obtain ⟨q, hq, h⟩ := withO.out h
      exact aAppend_ok hT ho hd hp hq h
    · exact h.elim
  · rename_i x y dT sT hx ht
    rw [list_two hx, list_two ht] at ho
    obtain ⟨p, hp, h⟩ := withO.out h
    obtain ⟨q, hq, h⟩ := withO.out h
    obtain ⟨td, e1, h⟩ := withT.out h
    have hu := (hT _ _ e1).und
    split at h
    · rename_i e hd
      rw [hd] at hu
      obtain ⟨te, e2, h⟩ := withT.out h
      split at h
      · split at h
        · split at h
          · rename_i cells hm
            exact ⟨_, _, _, step_copy_str ho hu (hT _ _ e2) hp hq hm h.1, h.2⟩
          · exact h.elim
        · exact h.elim
      · exact h.elim
    · exact h.elim
  · exact h.elim
theorem aBuildSlice_ok (hT : TOK P T) {t n : Nat} {parts : Array (Nat × Operand)} (ho : o.op = .buildSlice t n parts) (h : aBuildSlice T G t n parts.toList env fun p => K p env m) : Ok P G o env m K := by
  obtain ⟨ti, e1, h⟩ := withT.out h
  have hu := (hT _ _ e1).und
  split at h
  · rename_i e hd
    rw [hd] at hu
    obtain ⟨te, e2, h⟩ := withT.out h
    split at h
    · rename_i z hz
      split at h
      · rename_i zx hzx
        split at h
        · rename_i l hl
          obtain ⟨e3, h⟩ := bif_true h
          simp only [Bool.and_eq_true] at e3
          exact ⟨_, _, _, step_buildSlice ho hu (hT _ _ e2) hz hzx (Nat.eq_of_beq_eq_true e3.1.1) hl (Nat.eq_of_beq_eq_true e3.1.2) (Nat.le_of_ble_eq_true e3.2), h⟩
        · exact h.elim
      · exact h.elim
    · exact h.elim
  · exact h.elim
theorem aop0_ok (hT : TOK P T) (h : aop0 P T G o env m K) : Ok P G o env m K := by
  unfold aop0 at h
  split at h
  · rename_i t ho
    split at h
    · rename_i d hd
      obtain ⟨ti, e1, h⟩ := withT.out h
      split at h
      · rename_i z hz
        split at h
        · rename_i x hx
          unfold aNew at h
          split at h
          · rename_i ps hps
            cases hoc : occs d ps with
            | true => rw [hoc] at h; exact h.elim
            | false =>
              rw [hoc] at h
              simp only [cond_false] at h
              obtain ⟨env1, m1, g, h⟩ := giveK.out h
              exact ⟨_, _, _, step_alloc ho hd (hT _ _ e1) hz hx hps hoc g, h⟩
          · exact h.elim
        · exact h.elim
      · exact h.elim
    · exact h.elim
  · rename_i t y ho
    split at h
    · rename_i d hd
      obtain ⟨p, hp, h⟩ := withO.out h
      unfold aNew at h
      split at h
      · rename_i ps hps
        cases hoc : occs d ps with
        | true => rw [hoc] at h; exact h.elim
        | false =>
          rw [hoc] at h
          simp only [cond_false] at h
          obtain ⟨env1, m1, g, h⟩ := giveK.out h
          exact ⟨_, _, _, step_box ho hd hp hps hoc g, h⟩
      · exact h.elim
    · exact h.elim
  · rename_i t n parts ho
    exact aBuildSlice_ok hT ho h
  · rename_i t x y ho
    obtain ⟨ti, e1, h⟩ := withT.out h
    obtain ⟨p, hp, h⟩ := withO.out h
    obtain ⟨q, hq, h⟩ := withO.out h
    exact aStore_ok (hT _ _ e1) ho hp hq h
  · rename_i c ho
    obtain ⟨callee, args, ats⟩ := c
    simp only at h
    split at h
    · exact aBuiltin_ok hT ho h
    · exact aBuiltin_ok hT ho h
    · exact (aopV_ok hT h).ok
    · obtain ⟨p, hp, h⟩ := withO.out h
      exact aCall_ok ho hp h
    · obtain ⟨p, hp, h⟩ := withO.out h
      exact aInv_ok ho hp h
  · exact (aopV_ok hT h).ok
def StepE (P : Program) (G : Gl) (o : Oper) (env : Env) (m : Mem) (r : PV) (w : Mem) (κ : List Nat) : Prop :=
  ∀ (env1 : Env) (m1 : Mem), Sub env env1 → Sub m m1 → Step P G o env1 m1 r (killE κ env1) (setM w (killM κ m1))
theorem bif_andT {b : Bool} {A : Prop} (h : bif b then A else False) : b = true ∧ A := bif_true h
theorem aEff_ok (hT : TOK P T) {K : KonE} (h : aEff T G o env m K) : ∃ r w κ, StepE P G o env m r w κ ∧ K r w κ := by
  unfold aEff at h
  split at h
  · rename_i t x y ho
    replace h := withT.out h
    obtain ⟨ti, e1, h⟩ := h
    replace h := withO.out h
    obtain ⟨p, hp, h⟩ := h
    replace h := withO.out h
    obtain ⟨q, hq, h⟩ := h
    unfold effStore at h
    split at h
    · split at h
      · rename_i s' l c hm
        split at h
        · rename_i z hz
          replace h := bif_true h
          obtain ⟨e, h⟩ := h
          simp only [Bool.and_eq_true] at e
          have a1 := Nat.eq_of_beq_eq_true e.1.1.1
          subst a1
          exact ⟨_, _, _, fun env1 m1 he hm1 => step_ep_store (hT _ _ e1) ho (evalO_mono he hp) (evalO_mono he hq) hz e.1.1.2 (hm1 _ _ hm) (Nat.eq_of_beq_eq_true e.1.2) (Nat.eq_of_beq_eq_true e.2) h.1, h.2⟩
        · exact h.elim
      · exact h.elim
    · exact h.elim
  · rename_i t x lo hi mx ho
    replace h := withO.out h
    obtain ⟨p, hp, h⟩ := h
    split at h
    · split at h
      · rename_i l hl
        split at h
        · rename_i hh hhh
          unfold effSlice at h
          replace h := withT.out h
          obtain ⟨ti, e1, h⟩ := h
          have hu := (hT _ _ e1).und
          split at h
          · rename_i e hd
            rw [hd] at hu
            replace h := withT.out h
            obtain ⟨te, e2, h⟩ := h
            split at h
            · rename_i k s i n
              replace h := bif_true h
              obtain ⟨e3, hlow, h⟩ := h
              have e3 := Nat.eq_of_beq_eq_true e3
              obtain ⟨b1, b2⟩ := lowB_out hlow
              simp only [offB_eq, lenB_eq, endB_eq] at h
              have hin : ∀ {r : PV}, r = .vec k s (i + (l.getD 0).toNat) ((hh.getD n).toNat - (l.getD 0).toNat) → highB n hh → StepE P G o env m r [] [] := by
                rintro r rfl hhi env1 m1 he hm1
                exact (step_vec_slice ho hu (hT _ _ e2) e3 (evalO_mono he hp) (evalB_mono he hl) (evalB_mono he hhh) b1 b2 (highB_out hhi)).step
              split at h
              · rename_i s' els c hm
                replace h := bif_true h
                obtain ⟨e4, h⟩ := h
                have e4 := Nat.eq_of_beq_eq_true e4
                subst e4
                obtain ⟨j, n', ⟨rfl, rfl⟩, h⟩ := h
                rcases h with ⟨h1, h2⟩ | ⟨els', ⟨h1, rfl⟩, h2⟩
                · exact ⟨_, _, _, hin rfl h1, h2⟩
                · exact ⟨_, _, _, fun env1 m1 he hm1 => step_vec_ext ho hu (hT _ _ e2) e3 (evalO_mono he hp) (hm1 _ _ hm) (evalB_mono he hl) (evalB_mono he hhh) b1 b2 h1, h2⟩
              · obtain ⟨j, n', ⟨rfl, rfl⟩, h⟩ := h
                exact ⟨_, _, _, hin rfl h.1, h.2⟩
            · exact h.elim
          · exact h.elim
        · exact h.elim
      · exact h.elim
    · split at h
      · unfold effSlice0 at h
        replace h := withT.out h
        obtain ⟨ti, e1, h⟩ := h
        have hu := (hT _ _ e1).und
        split at h
        · rename_i e hd
          rw [hd] at hu
          replace h := withT.out h
          obtain ⟨te, e2, h⟩ := h
          split at h
          · rename_i kb b kc c hb hc
            replace h := bif_true h
            obtain ⟨e3, ⟨b0, c0⟩, h⟩ := h
            subst b0; subst c0
            have hpp : ∃ k s i n, p = .vec k s i n := by
              unfold isSl at e3
              split at e3
              · exact ⟨_, _, _, _, rfl⟩
              · cases e3
            exact ⟨_, _, _, fun env1 m1 he hm1 => (step_slice0 ho hu (hT _ _ e2) (evalO_mono he hp) hpp (evalO_mono he hb) (evalO_mono he hc)).step, h⟩
          · exact h.elim
        · exact h.elim
      · exact h.elim
  · rename_i t n parts ho
    split at h
    · rename_i d hdst
      unfold effBuild at h
      replace h := withT.out h
      obtain ⟨ti, e1, h⟩ := h
      have hu := (hT _ _ e1).und
      split at h
      · rename_i e hd
        rw [hd] at hu
        replace h := withT.out h
        obtain ⟨te, e2, h⟩ := h
        split at h
        · rename_i z hz
          split at h
          · rename_i zx hzx
            split at h
            · rename_i l hl
              replace h := bif_true h
              obtain ⟨e3, h⟩ := h
              simp only [Bool.and_eq_true, Nat.blt_eq] at e3
              refine ⟨_, _, _, fun env1 m1 he hm1 => step_buildVec ho hu (hT _ _ e2) e3.2 e3.1.2 hz hzx (Nat.eq_of_beq_eq_true e3.1.1.1.1) (evalElems_mono he hl) (Nat.eq_of_beq_eq_true e3.1.1.1.2) (Nat.le_of_ble_eq_true e3.1.1.2), h⟩
            · exact h.elim
          · exact h.elim
        · exact h.elim
      · exact h.elim
    · exact h.elim
  · rename_i c ho
    obtain ⟨callee, args, ats⟩ := c
    simp only at h
    split at h
    · rename_i x y sT xT hx ht
      rw [list_two hx, list_two ht] at ho
      split at h
      · rename_i d hdst
        replace h := withO.out h
        obtain ⟨p, hp, h⟩ := h
        replace h := withO.out h
        obtain ⟨q, hq, h⟩ := h
        unfold effAppend at h
        replace h := withT.out h
        obtain ⟨ts, e1, h⟩ := h
        replace h := withT.out h
        obtain ⟨tx, e2, h⟩ := h
        have hus := (hT _ _ e1).und
        have hux := (hT _ _ e2).und
        split at h
        · rename_i e hds
          rw [hds] at hus
          replace h := withT.out h
          obtain ⟨te, e3, h⟩ := h
          split at h
          · rename_i z hz
            split at h
            · rename_i zx hzx
              replace h := bif_true h
              obtain ⟨e4, h⟩ := h
              simp only [appOK, Bool.and_eq_true, Bool.not_eq_true', Nat.blt_eq] at e4
              obtain ⟨⟨⟨f1, f2⟩, f3⟩, f4⟩ := e4
              have hbb : te.bytes ≠ 0 := by
                intro h0
                simp [h0] at f2
              split at h
              · rename_i k s n
                split at h
                · rename_i s' l c hm
                  replace h := bif_true h
                  obtain ⟨e5, h⟩ := h
                  simp only [Bool.and_eq_true] at e5
                  have g1 := Nat.eq_of_beq_eq_true e5.1
                  have g2 := Nat.eq_of_beq_eq_true e5.2
                  subst g1; subst g2
                  split at h
                  · rename_i e' hdx
                    rw [hdx] at hux
                    have A : AppT P sT xT e te z := ⟨hus, ⟨_, hux⟩, hT _ _ e3, hz, Nat.eq_of_beq_eq_true f1⟩
                    replace h := withSrc.out h
                    obtain ⟨xs, hxs, l', n', ⟨h1, h2, rfl, rfl⟩, h⟩ := h
                    split at h
                    · exact ⟨_, _, _, fun env1 m1 he hm1 => step_vec_append A hzx hbb ho (evalO_mono he hp) (hm1 _ _ hm) h1 (evalO_mono he hq) (hxs.sub hm1) h2, h⟩
                    · rcases h with h | ⟨h3, h⟩
                      · exact ⟨_, _, _, fun env1 m1 he hm1 => step_vec_append A hzx hbb ho (evalO_mono he hp) (hm1 _ _ hm) h1 (evalO_mono he hq) (hxs.sub hm1) h2, h⟩
                      · exact ⟨_, _, _, fun env1 m1 he hm1 => step_vec_append_new A hzx hbb f3 ho (evalO_mono he hp) (hm1 _ _ hm) h1 (evalO_mono he hq) (hxs.sub hm1) h3 h2, h⟩
                  · rename_i ik hdx
                    rw [hdx] at hux
                    split at h
                    · split at h
                      · rename_i kb b
                        obtain ⟨n2, l', n', ⟨h1, h2, h3, h4, rfl, rfl⟩, h⟩ := h
                        subst h1
                        exact ⟨_, _, _, fun env1 m1 he hm1 => step_vec_append_zeros hus hux (hT _ _ e3) hz (Nat.eq_of_beq_eq_true f1) hzx f3 ho (evalO_mono he hp) (hm1 _ _ hm) h2 (evalO_mono he hq) h3 h4 hbb, h⟩
                      · exact h.elim
                    · exact h.elim
                  · exact h.elim
                · exact h.elim
              · rename_i l
                split at h
                · rename_i e' hdx
                  rw [hdx] at hux
                  have A : AppT P sT xT e te z := ⟨hus, ⟨_, hux⟩, hT _ _ e3, hz, Nat.eq_of_beq_eq_true f1⟩
                  replace h := withSrc.out h
                  obtain ⟨xs, hxs, l', n', ⟨h1, h2, h3, rfl, rfl⟩, h⟩ := h
                  exact ⟨_, _, _, fun env1 m1 he hm1 => step_vec_make A hzx hbb f4 f3 ho (evalO_mono he hp) h1 (evalO_mono he hq) (hxs.sub hm1) h2 h3, h⟩
                · exact h.elim
              · exact h.elim
            · exact h.elim
          · exact h.elim
        · exact h.elim
      · exact h.elim
    · rename_i x y dT sT hx ht
      rw [list_two hx, list_two ht] at ho
      replace h := withO.out h
      obtain ⟨p, hp, h⟩ := h
      replace h := withO.out h
      obtain ⟨q, hq, h⟩ := h
      unfold effCopy at h
      replace h := withT.out h
      obtain ⟨td, e1, h⟩ := h
      have hu := (hT _ _ e1).und
      split at h
      · rename_i e hd
        rw [hd] at hu
        replace h := withT.out h
        obtain ⟨te, e2, h⟩ := h
        split at h
        · rename_i k s i n
          split at h
          · rename_i s' l c hm
            replace h := bif_true h
            obtain ⟨e3, h1, h⟩ := h
            simp only [Bool.and_eq_true] at e3
            have g1 := Nat.eq_of_beq_eq_true e3.1
            have g2 := Nat.eq_of_beq_eq_true e3.2
            subst g1; subst g2
            replace h := withSrc.out h
            obtain ⟨xs, hxs, l', rfl, h⟩ := h
            exact ⟨_, _, _, fun env1 m1 he hm1 => step_vec_copy ho hu (hT _ _ e2) rfl (evalO_mono he hp) (hm1 _ _ hm) h1 (evalO_mono he hq) (hxs.sub hm1), h⟩
          · exact h.elim
        · exact h.elim
      · exact h.elim
    · rename_i x t hx ht
      rw [list_one hx, list_one ht] at ho
      replace h := withO.out h
      obtain ⟨p, hp, h⟩ := h
      unfold effCap at h
      replace h := withT.out h
      obtain ⟨ti, e1, h⟩ := h
      have hu := (hT _ _ e1).und
      split at h
      · rename_i e hd
        rw [hd] at hu
        split at h
        · rename_i k s i n
          split at h
          · rename_i s' l c hm
            replace h := bif_true h
            obtain ⟨e3, h⟩ := h
            have e3 := Nat.eq_of_beq_eq_true e3
            subst e3
            exact ⟨_, _, _, fun env1 m1 he hm1 => (step_vec_cap ho hu (evalO_mono he hp) (hm1 _ _ hm)).step, h⟩
          · exact h.elim
        · exact h.elim
      · exact h.elim
    · exact h.elim
  · exact h.elim
theorem aEl_ok (hT : TOK P T) {K : KonE} (h : aEl T G o env m K) : ∃ r w κ, StepE P G o env m r w κ ∧ K r w κ := by
  have val : ∀ {r : PV}, (∀ (env1 : Env) (m1 : Mem), Sub env env1 → Sub m m1 → SV P G o env1 m1 r) → K r [] [] → ∃ r w κ, StepE P G o env m r w κ ∧ K r w κ :=
    fun hs hk => ⟨_, _, _, fun env1 m1 he hm => (hs env1 m1 he hm).step, hk⟩
  unfold aEl at h
  split at h
  · rename_i t ho
    split at h
    · rename_i d hd
      unfold elAlloc at h
      obtain ⟨ti, e1, h⟩ := withT.out h
      split at h
      · rename_i z hz
        split at h
        · rename_i p hp
          split at h
          · rename_i ps hps
            cases hoc : occs d ps with
            | true => rw [hoc] at h; exact h.elim
            | false =>
              rw [hoc] at h
              exact ⟨_, _, _, fun env1 m1 he hm => step_allocZ ho hd (hT _ _ e1) hz hp hps hoc gives_kill, by
                cases hb : Nat.blt d 1000 with
                | true => rw [hb] at h; exact h
                | false => rw [hb] at h; exact h.elim⟩
          · exact h.elim
        · exact h.elim
      · exact h.elim
    · exact h.elim
  · rename_i t parts ho
    unfold elBuild at h
    obtain ⟨ti, e1, h⟩ := withT.out h
    split at h
    · rename_i z hz
      split at h
      · rename_i zs hzs
        split at h
        · rename_i ps hps
          split at h
          · rename_i fs hd
            split at h
            · rename_i pl hpl
              split at h
              · rename_i cs hcs
                exact val (fun env1 m1 he hm => step_buildP hT ho (hT _ _ e1) hd hz hzs hpl (evalPartsP_mono he hps) hcs) h
              · exact h.elim
            · exact h.elim
          · exact h.elim
        · exact h.elim
      · exact h.elim
    · exact h.elim
  · rename_i t x ho
    obtain ⟨ti, e1, h⟩ := withT.out h
    obtain ⟨p, hp, h⟩ := withO.out h
    unfold elLoad at h
    split at h
    · split at h
      · rename_i s' l c hm
        replace h := bif_true h
        obtain ⟨e2, y, hy, h⟩ := h
        have e2 := Nat.eq_of_beq_eq_true e2
        subst e2
        cases ha : isAggD ti.d with
        | true =>
          simp only [ha, cond_true] at h
          obtain ⟨e3, h⟩ := bif_true h
          exact val (fun env1 m1 he hm1 => step_ep_load_agg (hT _ _ e1) ha ho (evalO_mono he hp) (hm1 _ _ hm) hy (Nat.eq_of_beq_eq_true e3)) h
        | false =>
          simp only [ha, cond_false] at h
          split at h
          · rename_i z hz
            exact val (fun env1 m1 he hm1 => step_ep_load_one (hT _ _ e1) ha ho (evalO_mono he hp) (hm1 _ _ hm) hy hz) h
          · exact h.elim
      · exact h.elim
    · split at h
      · rename_i cells hm
        obtain ⟨e2, h⟩ := bif_true h
        simp only [Bool.and_eq_true] at e2
        exact val (fun env1 m1 he hm1 => step_load_aggP (hT _ _ e1) e2.1 ho (evalO_mono he hp) (hm1 _ _ hm) (Nat.eq_of_beq_eq_true e2.2)) h
      · exact h.elim
    · exact h.elim
  · rename_i t x ix ho
    obtain ⟨p, hp, h⟩ := withO.out h
    obtain ⟨q, hq, h⟩ := withO.out h
    split at h
    · unfold elIndex at h
      obtain ⟨ti, e1, h⟩ := withT.out h
      have hu := (hT _ _ e1).und
      split at h
      · rename_i n e hd
        rw [hd] at hu
        obtain ⟨te, e2, h⟩ := withT.out h
        simp only [addS_eq, mulS_eq] at h
        split at h
        · exact val (fun env1 m1 he hm1 => step_ep_index ho hu (hT _ _ e2) (evalO_mono he hp) (evalO_mono he hq) h.1.1 h.1.2) h.2
        · exact h.elim
      · rename_i e hd
        rw [hd] at hu
        obtain ⟨te, e2, h⟩ := withT.out h
        simp only [addS_eq, mulS_eq] at h
        split at h
        · obtain ⟨e3, h⟩ := bif_true h
          exact val (fun env1 m1 he hm1 => step_vec_index ho hu (hT _ _ e2) (Nat.eq_of_beq_eq_true e3) (evalO_mono he hp) (evalO_mono he hq) h.1.1 h.1.2) h.2
        · obtain ⟨e3, h⟩ := bif_true h
          exact val (fun env1 m1 he hm1 => step_view_index ho hu (hT _ _ e2) (Nat.eq_of_beq_eq_true e3) (evalO_mono he hp) (evalO_mono he hq) h.1.1 h.1.2) h.2
        · exact h.elim
      · exact h.elim
    · exact h.elim
  · rename_i s x f ho
    obtain ⟨p, hp, h⟩ := withO.out h
    obtain ⟨fs, fl, ti, h1, h2, h3, h⟩ := aField.out hT h
    cases hz : Nat.beq ti.size 0 with
    | true => rw [hz] at h; exact h.elim
    | false =>
      rw [hz] at h
      simp only [cond_false] at h
      have hz' : ti.size ≠ 0 := fun e => by rw [e] at hz; simp at hz
      split at h
      · exact val (fun env1 m1 he hm1 => step_ep_field ho h1 h2 h3 hz' (evalO_mono he hp)) h
      · exact h.elim
  · rename_i t x f ho
    obtain ⟨p, hp, h⟩ := withO.out h
    obtain ⟨fs, fl, ti, h1, h2, h3, h⟩ := aField.out hT h
    split at h
    · obtain ⟨r, hr, h⟩ := withO.out h
      exact val (fun env1 m1 he hm1 => step_fieldAgg ho h1 h2 h3 (evalO_mono he hp) hr) h
    · exact h.elim
  · rename_i t x lo hi mx ho
    obtain ⟨p, hp, h⟩ := withO.out h
    split at h
    · split at h
      · rename_i l hl
        split at h
        · rename_i hh hhh
          unfold elSlice at h
          replace h := withT.out h
          obtain ⟨ti, e1, h⟩ := h
          have hu := (hT _ _ e1).und
          split at h
          · rename_i e hd
            rw [hd] at hu
            replace h := withT.out h
            obtain ⟨te, e2, h⟩ := h
            split at h
            · rename_i k s off n
              replace h := bif_true h
              obtain ⟨e3, ⟨b1, b2, b3⟩, h⟩ := h
              obtain ⟨c1, c2⟩ := lowB_out b1
              rw [offV_eq, lenB_eq] at h
              refine val (fun env1 m1 he hm1 => step_view_slice ho hu (hT _ _ e2) (Nat.eq_of_beq_eq_true e3) (evalO_mono he hp) (evalB_mono he hl) (evalB_mono he hhh) c1 c2 (highB_out b2) ?_) h
              cases l with
              | none => exact .inl rfl
              | some a => exact b3
            · exact h.elim
          · exact h.elim
        · exact h.elim
      · exact h.elim
    · exact h.elim
  · rename_i c ho
    obtain ⟨callee, args, ats⟩ := c
    simp only at h
    split at h
    · rename_i x t hx ht
      rw [list_one hx, list_one ht] at ho
      obtain ⟨ti, e1, h⟩ := withT.out h
      obtain ⟨p, hp, h⟩ := withO.out h
      have hu := (hT _ _ e1).und
      split at h
      · rename_i e hd
        rw [hd] at hu
        split at h
        · exact val (fun env1 m1 he hm1 => step_vec_len ho hu (evalO_mono he hp)) h
        · exact h.elim
      · exact h.elim
    · rename_i x y hx
      rw [list_two hx] at ho
      obtain ⟨p, hp, h⟩ := withO.out h
      obtain ⟨q, hq, h⟩ := withO.out h
      split at h
      · split at h
        · obtain ⟨e3, h⟩ := bif_true h
          rw [kIx_inj e3] at hq
          exact val (fun env1 m1 he hm1 => step_min ho (evalO_mono he hp) (evalO_mono he hq)) h
        · exact h.elim
      · exact h.elim
    · rename_i x y dT sT hx ht
      rw [list_two hx, list_two ht] at ho
      obtain ⟨p, hp, h⟩ := withO.out h
      obtain ⟨q, hq, h⟩ := withO.out h
      unfold elCopy at h
      replace h := withT.out h
      obtain ⟨td, e1, h⟩ := h
      have hu := (hT _ _ e1).und
      split at h
      · rename_i e hd
        rw [hd] at hu
        replace h := withT.out h
        obtain ⟨te, e2, h⟩ := h
        split at h
        · split at h
          · replace h := bif_true h
            obtain ⟨e3, h⟩ := h
            simp only [Bool.and_eq_true] at e3
            have g1 := Nat.eq_of_beq_eq_true e3.1
            have g2 := Nat.eq_of_beq_eq_true e3.2
            subst g1; subst g2
            split at h
            · rename_i cells hm
              split at h
              · rename_i cells2 hm2
                obtain ⟨cells', ⟨h1, h2, rfl⟩, h⟩ := h
                exact ⟨_, _, _, fun env1 m1 he hm1 => step_view_copy ho hu (hT _ _ e2) rfl (evalO_mono he hp) (evalO_mono he hq) (hm1 _ _ hm) (hm1 _ _ hm2) h1 h2, h⟩
              · exact h.elim
            · exact h.elim
          · split at h
            · split at h
              · rename_i cells hm
                obtain ⟨cells', ⟨h1, rfl⟩, h⟩ := h
                exact ⟨_, _, _, fun env1 m1 he hm1 => step_copy_str ho hu (hT _ _ e2) (evalO_mono he hp) (evalO_mono he hq) (hm1 _ _ hm) h1, h⟩
              · exact h.elim
            · exact h.elim
          · exact h.elim
        · exact h.elim
      · exact h.elim
    · exact h.elim
  · exact h.elim
theorem EnvOK.eqv {σ : Gh} {env env' : Env} {a : Act} (h : EnvOK σ env a) (he : ∀ t, lk t env' = lk t env) : EnvOK σ env' a := ⟨h.d, fun t p e => h.v t p (by rw [← he]; exact e)⟩
theorem J.eqv {R : Ent} {σ : Gh} {m m' : Mem} {w : World} (hj : J G R σ m w) (he : ∀ t, lk t m' = lk t m) : J G R σ m' w where
  inv := ⟨hj.inv.hh, fun k o e => hj.inv.obj k o (by rw [← he]; exact e), fun k k' o o' b lo hi b' lo' hi' e e' => hj.inv.dis k k' o o' b lo hi b' lo' hi' (by rw [← he]; exact e) (by rw [← he]; exact e')⟩
  glob := hj.glob
  hm := hj.hm
  os := hj.os
  tape := hj.tape
  out := hj.out
  sz := hj.sz
  old := hj.old
  hn := hj.hn
  own := fun k o b lo hi e => hj.own k o b lo hi (by rw [← he]; exact e)
  kp := hj.kp
  kn := fun k o L h1 e h2 => hj.kn k o L h1 (by rw [← he]; exact e) h2
theorem Step.eqv {r : PV} {env1 env2 : Env} {m1 m2 : Mem} (h : Step P G o env m r env1 m1) (he : ∀ t, lk t env2 = lk t env1) (hm : ∀ k, lk k m2 = lk k m1) : Step P G o env m r env2 m2 := by
  intro R σ a w hE hj hd next Q kk
  exact h R σ a w hE hj hd next Q fun σ' v w' hr hE' hj' => kk σ' v w' hr (hE'.eqv he) (hj'.eqv hm)
theorem any_false {α : Type} {f : α → Bool} {l : List (Nat × α)} (h : (l.any fun x => f x.2) = false) {t : Nat} {p : α} (e : lk t l = some p) : f p = false := by
  have := List.any_eq_false.1 h _ (lk_mem e)
  simpa using this
theorem killK_out {κ : List Nat} {K : Env → Mem → Prop} (h : killK κ env m K) : ∃ env1 m1, (∀ t, lk t env1 = lk t (killE κ env)) ∧ (∀ k, lk k m1 = lk k (killM κ m)) ∧ K env1 m1 := by
  unfold killK at h
  split at h
  · exact ⟨env, m, fun _ => rfl, fun _ => rfl, h⟩
  · cases hb : ((env.any fun e => occL κ e.2) || (m.any fun e => (match e.2 with
      | .var cells => cells.any (occL κ)
      | _ => false))) with
    | true =>
      rw [hb] at h
      exact ⟨_, _, fun _ => rfl, fun _ => rfl, h⟩
    | false =>
      rw [hb] at h
      simp only [Bool.or_eq_false_iff] at hb
      refine ⟨env, m, fun t => ?_, fun k => ?_, h⟩
      · rw [lk_killE]
        cases e : lk t env with
        | none => rfl
        | some p =>
          have := any_false (f := fun p => occL κ p) hb.1 e
          simp [kill, this]
      · rw [lk_killM]
        cases e : lk k m with
        | none => rfl
        | some ob =>
          cases ob with
          | var cells =>
            have h2 := any_false (f := fun o => match o with
              | .var cells => cells.any (occL κ)
              | _ => false) hb.2 e
            have h3 : cells.any (occL κ) = false := h2
            have : ∀ (l : List PV), l.any (occL κ) = false → l.map (kill κ) = l := by
              intro l
              induction l with
              | nil => intro _; rfl
              | cons p r ih =>
                intro e
                simp only [List.any_cons, Bool.or_eq_false_iff] at e
                simp [kill, e.1, ih e.2]
            simp [killO, this cells h3]
          | _ => rfl
theorem aop_ok (hT : TOK P T) (h : aop P T G o env m K) : Ok P G o env m K := by
  unfold aop at h
  cases hq : effQ T G o env with
  | true =>
    rw [hq] at h
    obtain ⟨r, w, κ, hs, h⟩ := aEff_ok hT h
    obtain ⟨env1, m1, he, hm, h⟩ := killK_out h
    refine ⟨r, env1, setM w m1, (hs env m (fun _ _ e => e) (fun _ _ e => e)).eqv he (fun k => ?_), h⟩
    rw [lk_setM, lk_setM, hm]
  | false =>
    rw [hq] at h
    simp only [cond_false] at h
    cases hq2 : elQ T G o env m with
    | true =>
      rw [hq2] at h
      obtain ⟨r, w, κ, hs, h⟩ := aEl_ok hT h
      obtain ⟨env1, m1, he, hm, h⟩ := killK_out h
      refine ⟨r, env1, setM w m1, (hs env m (fun _ _ e => e) (fun _ _ e => e)).eqv he (fun k => ?_), h⟩
      rw [lk_setM, lk_setM, hm]
    | false =>
      rw [hq2] at h
      exact aop0_ok hT h
end
end
end Go.Kn
namespace Go.Kn
open Go
abbrev EQ := Exit → Env → Mem → Prop
def QQ (G : Gl) (n : Nat) (R : Ent) (Q : EQ) : Exit → Act → World → Prop :=
  fun e a w => ∃ σ env m, Q e env m ∧ EnvOK σ env a ∧ J G R σ m w ∧ a.tmps.size = n
def CW (P : Program) (G : Gl) (n : Nat) (c : Code) (env : Env) (m : Mem) (Q : EQ) : Prop :=
  ∀ (R : Ent) (σ : Gh) (a : Act) (w : World), EnvOK σ env a → J G R σ m w → a.tmps.size = n → c.wp P (QQ G n R Q) a w
def dstOK (n : Nat) (d : Option Tmp) : Bool :=
  match d with
  | some d => Nat.blt d n && Nat.blt d 1000
  | none => true
def condG (want b : Bool) (A B : Prop) : Prop :=
  match want with
  | true => condP b A B
  | false => condP b B A
theorem condG.out {want b : Bool} {A B : Prop} (h : condG want b A B) : (b = want ∧ A) ∨ (b = !want ∧ B) := by
  cases want <;> cases b <;> simp only [condG, condP] at h <;> first | exact .inl ⟨rfl, h⟩ | exact .inr ⟨rfl, h⟩
def putK (env : Env) (dst : Option Tmp) (r : PV) (K : Env → Prop) : Prop :=
  match dst with
  | some d => K ((d, r) :: env)
  | none => K env
theorem putK_eq (env : Env) (dst : Option Tmp) (r : PV) (K : Env → Prop) : putK env dst r K = K (put env dst r) := by cases dst <;> rfl
def awpOpsN : Env → Mem → (Env → Mem → Prop) → Prop := fun env m K => K env m
def awpOpsS (P : Program) (T : Ty) (G : Gl) (n : Nat) (all : List Oper) (o : Oper) (ih : Env → Mem → (Env → Mem → Prop) → Prop) : Env → Mem → (Env → Mem → Prop) → Prop := fun env m K =>
    bif dstOK n o.dst then
      (match o.guard with
      | none => aop P T G o env m fun r env1 m1 => putK env1 o.dst r fun env2 => ih env2 m1 K
      | some (j, want) => match (all[j]?).bind (·.dst) with
        | some t => match lk t env with
          | some (.i (.bool b)) => condG want b
              (aop P T G o ((t, .i (.bool want)) :: env) m fun r env1 m1 => putK env1 o.dst r fun env2 => ih env2 m1 K)
              (putK ((t, .i (.bool (!want))) :: env) o.dst (.tup []) fun env2 => ih env2 m K)
          | some (.tup []) => putK env o.dst (.tup []) fun env2 => ih env2 m K
          | _ => False
        | none => False)
    else False
noncomputable def awpOps (P : Program) (T : Ty) (G : Gl) (n : Nat) (all : List Oper) (l : List Oper) : Env → Mem → (Env → Mem → Prop) → Prop :=
  @List.rec Oper (fun _ => Env → Mem → (Env → Mem → Prop) → Prop) awpOpsN (fun o _ ih => awpOpsS P T G n all o ih) l
theorem awpOps_nil (P : Program) (T : Ty) (G : Gl) (n : Nat) (all : List Oper) (env : Env) (m : Mem) (K : Env → Mem → Prop) : awpOps P T G n all [] env m K = K env m := rfl
theorem awpOps_cons (P : Program) (T : Ty) (G : Gl) (n : Nat) (all : List Oper) (o : Oper) (rest : List Oper) (env : Env) (m : Mem) (K : Env → Mem → Prop) :
    awpOps P T G n all (o :: rest) env m K = awpOpsS P T G n all o (awpOps P T G n all rest) env m K := rfl
section
variable {P : Program} {T : Ty} {G : Gl} {n : Nat}
theorem EnvOK.cons {σ : Gh} {env : Env} {a : Act} {t : Nat} {p : PV} (h : EnvOK σ env a) (e : lk t env = some p) : EnvOK σ ((t, p) :: env) a := by
  refine ⟨h.d, fun u q e' => ?_⟩
  by_cases hu : u = t
  · subst hu; rw [lk_cons_self] at e'; cases e'; exact h.v u _ e
  · rw [lk_cons_other hu] at e'; exact h.v u q e'
theorem step_wpList {o : Oper} {env env1 : Env} {m m1 : Mem} {r : PV} (hs : Step P G o env m r env1 m1) (hd : dstOK n o.dst = true) {R : Ent} {σ : Gh} {a : Act} {w : World}
    (he : EnvOK σ env a) (hj : J G R σ m w) (hn : a.tmps.size = n) {next : Act → World → Prop} {Q : Exit → Act → World → Prop}
    (k : ∀ (σ' : Gh) (a' : Act) (w' : World), EnvOK σ' (put env1 o.dst r) a' → J G R σ' m1 w' → a'.tmps.size = n → next a' w') : o.wp P a w next Q := by
  have hlt : ∀ d, o.dst = some d → d < n ∧ d < 1000 := fun d e => by
    rw [e] at hd
    simp only [dstOK, Bool.and_eq_true, Nat.blt_eq] at hd
    exact hd
  refine hs R σ a w he hj (fun d e => (hlt d e).2) next Q fun σ' v w' hr he' hj' => k σ' _ w' (he'.put hr fun d e => ?_) hj' (by rw [Act.put_size]; exact hn)
  rw [hn]; exact (hlt d e).1
theorem rel_undef (σ : Gh) : RelP σ (.tup []) undef := .tup [] [] rfl (by simp)
theorem rel_tup0 {σ : Gh} {v : Value} (r : RelP σ (.tup []) v) : v = .tuple #[] := by
  cases r with | tup _ vs hl _ =>
  cases vs with
  | nil => rfl
  | cons => simp at hl
theorem awpOps_ok (hT : TOK P T) {ops : Array Oper} {Q : Exit → Act → World → Prop} {R : Ent} {K : Env → Mem → Prop} (hK : ∀ (σ : Gh) (env : Env) (m : Mem) (a : Act) (w : World), K env m → EnvOK σ env a → J G R σ m w → a.tmps.size = n → Q .normal a w) :
    ∀ (l : List Oper) (env : Env) (m : Mem), awpOps P T G n ops.toList l env m K → ∀ (σ : Gh) (a : Act) (w : World), EnvOK σ env a → J G R σ m w → a.tmps.size = n → wpList P ops Q l a w
  | [], env, m, h, σ, a, w, he, hj, hn => hK σ env m a w h he hj hn
  | o :: rest, env, m, h, σ, a, w, he, hj, hn => by
    simp only [awpOps_cons, awpOpsS, putK_eq] at h
    obtain ⟨hd, h⟩ := bif_true h
    unfold wpList
    split at h
    · rename_i hg
      rw [if_pos (by simp [Region.wanted, hg])]
      left
      obtain ⟨r, env1, m1, hs, h⟩ := aop_ok hT h
      exact step_wpList hs hd he hj hn fun σ' a' w' he' hj' hn' => awpOps_ok hT hK rest _ _ h σ' a' w' he' hj' hn'
    · rename_i j want hg
      split at h
      · rename_i t ht
        split at h
        · rename_i b hb
          obtain ⟨v, hv, hr⟩ := he.v t _ hb
          have hvb := rel_bool hr
          subst hvb
          have hy : yielded ops a.tmps j = some b := by
            have h1 : (ops[j]?).bind (·.dst) = some t := by rw [← ht]; simp
            simp [yielded, h1, hv]
          rcases condG.out h with ⟨e, h2⟩ | ⟨e, h2⟩
          · subst e
            rw [if_pos (by simp [Region.wanted, hg, hy])]
            left
            obtain ⟨r, env1, m1, hs, h⟩ := aop_ok hT h2
            exact step_wpList hs hd (he.cons hb) hj hn fun σ' a' w' he' hj' hn' => awpOps_ok hT hK rest _ _ h σ' a' w' he' hj' hn'
          · subst e
            rw [if_neg (by simp [Region.wanted, hg, hy])]
            refine awpOps_ok hT hK rest _ _ h2 σ _ w ((he.cons hb).put (rel_undef σ) fun d e => ?_) hj (by rw [Act.put_size]; exact hn)
            rw [hn]
            rw [e] at hd
            simp only [dstOK, Bool.and_eq_true, Nat.blt_eq] at hd
            exact hd.1
        · rename_i hb
          obtain ⟨v, hv, hr⟩ := he.v t _ hb
          have hvb := rel_tup0 hr
          subst hvb
          have hy : yielded ops a.tmps j = none := by
            have h1 : (ops[j]?).bind (·.dst) = some t := by rw [← ht]; simp
            simp [yielded, h1, hv]
          rw [if_neg (by simp [Region.wanted, hg, hy])]
          refine awpOps_ok hT hK rest _ _ h σ _ w (he.put (rel_undef σ) fun d e => ?_) hj (by rw [Act.put_size]; exact hn)
          rw [hn]
          rw [e] at hd
          simp only [dstOK, Bool.and_eq_true, Nat.blt_eq] at hd
          exact hd.1
        · exact h.elim
      · exact h.elim
def LoopW (P : Program) (G : Gl) (n : Nat) (c : Code) (env : Env) (m : Mem) (Q : EQ) : Prop := CW P G n (.loop c) env m Q
def DrawW (P : Program) (G : Gl) (n : Nat) (id : Nat) (ops : Array Oper) (env : Env) (m : Mem) (Q : EQ) : Prop := CW P G n (.region id ops true) env m Q
abbrev CP := EQ → Env → Mem → Prop
def cNormal : CP := fun Q env m => Q .normal env m
def cRet : CP := fun Q env m => Q .ret env m
def cExit (id : Nat) : CP := fun Q env m => Q (.exit id) env m
def cFalse : CP := fun _ _ _ => False
def cSeq (a b : CP) : CP := fun Q env m => a (fun e env m => match e with
    | .normal => b Q env m
    | e => Q e env m) env m
def cCond (G : Gl) (c : Operand) (a b : CP) : CP := fun Q env m => withO (evalO G env c) fun p => match p with
    | .i (.bool t) => condP t (a Q env m) (b Q env m)
    | _ => False
def cBlock (id : Nat) (c : CP) : CP := fun Q env m => c (fun e env m => match e with
    | .exit id' => bif Nat.beq id' id then Q .normal env m else Q (.exit id') env m
    | e => Q e env m) env m
noncomputable def cRegion (P : Program) (T : Ty) (G : Gl) (n : Nat) (id : Nat) (ops : Array Oper) (d : Bool) : CP := fun Q env m => match d with
    | false => awpOps P T G n ops.toList ops.toList env m (Q .normal)
    | true => DrawW P G n id ops env m Q
def cLoop (P : Program) (G : Gl) (n : Nat) (c : Code) : CP := fun Q env m => LoopW P G n c env m Q
noncomputable def awpC (P : Program) (T : Ty) (G : Gl) (n : Nat) (c : Code) : CP :=
  @Code.rec (fun _ => CP) cNormal (fun id ops d => cRegion P T G n id ops d) (fun _ _ a b => cSeq a b) (fun c _ _ a b => cCond G c a b) (fun id _ c => cBlock id c) (fun c _ => cLoop P G n c)
    (fun _ _ _ _ _ _ => cFalse) (fun id => cExit id) (fun _ _ => cFalse) (fun _ => cNormal) (fun _ => cFalse) cRet (fun _ => cFalse) c
section
variable (P : Program) (T : Ty) (G : Gl) (n : Nat) (Q : EQ) (env : Env) (m : Mem)
theorem awpC_seq (a b : Code) : awpC P T G n (.seq a b) Q env m = awpC P T G n a (fun e env m => match e with
    | .normal => awpC P T G n b Q env m
    | e => Q e env m) env m := rfl
theorem awpC_cond (c : Operand) (a b : Code) : awpC P T G n (.cond c a b) Q env m = withO (evalO G env c) fun p => match p with
    | .i (.bool t) => condP t (awpC P T G n a Q env m) (awpC P T G n b Q env m)
    | _ => False := rfl
theorem awpC_block (id : Nat) (c : Code) : awpC P T G n (.block id c) Q env m = awpC P T G n c (fun e env m => match e with
    | .exit id' => bif Nat.beq id' id then Q .normal env m else Q (.exit id') env m
    | e => Q e env m) env m := rfl
theorem awpC_region (id : Nat) (ops : Array Oper) (d : Bool) : awpC P T G n (.region id ops d) Q env m = match d with
    | false => awpOps P T G n ops.toList ops.toList env m (Q .normal)
    | true => DrawW P G n id ops env m Q := rfl
end
theorem CW.mono {c : Code} {env : Env} {m : Mem} {Q Q' : EQ} (h : CW P G n c env m Q) (hq : ∀ e env m, Q e env m → Q' e env m) : CW P G n c env m Q' := by
  intro R σ a w he hj hn
  refine wp_mono (h R σ a w he hj hn) ?_
  rintro e a w ⟨σ, env, m, q, r⟩
  exact ⟨σ, env, m, hq _ _ _ q, r⟩
theorem awpC_ok (hT : TOK P T) : ∀ (c : Code) (Q : EQ) (env : Env) (m : Mem), awpC P T G n c Q env m → CW P G n c env m Q
  | .skip, Q, env, m, h => fun R σ a w he hj hn => wp_skip ⟨σ, env, m, h, he, hj, hn⟩
  | .label _, Q, env, m, h => fun R σ a w he hj hn => wp_label ⟨σ, env, m, h, he, hj, hn⟩
  | .ret, Q, env, m, h => fun R σ a w he hj hn => wp_ret ⟨σ, env, m, h, he, hj, hn⟩
  | .exit id, Q, env, m, h => fun R σ a w he hj hn => wp_exit ⟨σ, env, m, h, he, hj, hn⟩
  | .seq c d, Q, env, m, h => fun R σ a w he hj hn => by
    simp only [awpC_seq] at h
    refine wp_seq (wp_mono (awpC_ok hT c _ env m h R σ a w he hj hn) ?_)
    rintro e a w ⟨σ, env, m, q, he, hj, hn⟩
    cases e with
    | normal => exact awpC_ok hT d Q env m q R σ a w he hj hn
    | _ => exact ⟨σ, env, m, q, he, hj, hn⟩
  | .cond x c d, Q, env, m, h => fun R σ a w he hj hn => by
    simp only [awpC_cond] at h
    obtain ⟨p, hp, h⟩ := withO.out h
    split at h
    · rename_i t
      have hb := rel_bool (evalO_rel he hj hp)
      refine wp_cond hb ?_
      rcases condP.out h with ⟨rfl, h⟩ | ⟨rfl, h⟩
      · exact awpC_ok hT c Q env m h R σ a w he hj hn
      · exact awpC_ok hT d Q env m h R σ a w he hj hn
    · exact h.elim
  | .block id c, Q, env, m, h => fun R σ a w he hj hn => by
    simp only [awpC_block] at h
    refine wp_block (wp_mono (awpC_ok hT c _ env m h R σ a w he hj hn) ?_)
    rintro e a w ⟨σ, env, m, q, he, hj, hn⟩
    cases e with
    | exit id' =>
      simp only [Exit.inBlock]
      by_cases hid : id' = id
      · subst hid
        simp only [Nat.beq_refl, cond_true] at q
        rw [if_pos rfl]
        exact ⟨σ, env, m, q, he, hj, hn⟩
      · rw [if_neg hid]
        simp only [beq_ne hid, cond_false] at q
        exact ⟨σ, env, m, q, he, hj, hn⟩
    | _ => exact ⟨σ, env, m, q, he, hj, hn⟩
  | .region id ops d, Q, env, m, h => fun R σ a w he hj hn => by
    cases d with
    | false =>
      simp only [awpC_region] at h
      exact wp_region_list (awpOps_ok hT (K := Q .normal) (fun σ env m a w q he hj hn => ⟨σ, env, m, q, he, hj, hn⟩) _ env m h σ a w he hj hn)
    | true =>
      simp only [awpC_region] at h
      exact h R σ a w he hj hn
  | .loop c, Q, env, m, h => h
  | .scope c, Q, env, m, h => h.elim
  | .rangeFunc .., Q, env, m, h => h.elim
  | .goto _, Q, env, m, h => h.elim
  | .refuse _, Q, env, m, h => h.elim
theorem least {p : Nat → Prop} {k : Nat} (h : p k) : ∃ j, p j ∧ ∀ i, p i → j ≤ i := by
  induction k using Nat.strongRecOn with
  | _ k ih =>
    by_cases hk : ∃ i, i < k ∧ p i
    · obtain ⟨i, hi, hp⟩ := hk
      exact ih i hi hp
    · exact ⟨k, h, fun i hi => Nat.le_of_not_lt fun hlt => hk ⟨i, hlt, hi⟩⟩
theorem wp_loop_count {c : Code} {Q : Exit → Act → World → Prop} (I : Nat → Act → World → Prop) {k : Nat} {a : Act} {w : World} (h0 : I k a w)
    (round : ∀ k a w, I k a w → c.wp P (Exit.then (fun a' w' => ∃ j, j < k ∧ I j a' w') Q) a w) : (Code.loop c).wp P Q a w := by
  classical
  let μ : Act → World → Nat := fun a w => if h : ∃ k, I k a w then Classical.choose (least (p := fun k => I k a w) (Classical.choose_spec h)) else 0
  have hμ : ∀ a w k, I k a w → I (μ a w) a w ∧ μ a w ≤ k := fun a w k hk => by
    have hex : ∃ k, I k a w := ⟨k, hk⟩
    have hs := Classical.choose_spec (least (p := fun k => I k a w) (Classical.choose_spec hex))
    simp only [μ, dif_pos hex]
    exact ⟨hs.1, hs.2 k hk⟩
  refine wp_loop (fun a w => ∃ k, I k a w) μ ⟨k, h0⟩ ?_
  rintro a w ⟨k, hk⟩
  refine wp_mono (round (μ a w) a w (hμ a w k hk).1) ?_
  intro e a' w' q
  cases e with
  | normal =>
    obtain ⟨j, hj, hI⟩ := q
    exact ⟨⟨j, hI⟩, Nat.lt_of_le_of_lt (hμ a' w' j hI).2 hj⟩
  | _ => exact q
inductive PLe : PV → PV → Prop where
  | refl (p : PV) : PLe p p
  | tok (k s : Nat) (l : List IV) : PLe (.tok k s l) (.i (.slice l))
  | full (l : List IV) : PLe (.full l) (.i (.slice l))
  | dead (p : PV) : PLe p .dead
theorem PLe.rel {σ : Gh} {p q : PV} {v : Value} (h : PLe p q) (r : RelP σ p v) : RelP σ q v := by
  cases h with
  | refl => exact r
  | tok k s l => cases r; exact .i _ _ ‹_›
  | full l => cases r; exact .i _ _ ‹_›
  | dead p => exact .dead v
structure SLe (env : Env) (m : Mem) (env' : Env) (m' : Mem) : Prop where
  e : ∀ x ∈ env', ∃ p, lk x.1 env = some p ∧ PLe p x.2
  m : ∀ x ∈ m', lk x.1 m = some x.2
theorem EnvOK.le {σ : Gh} {env env' : Env} {a : Act} (h : EnvOK σ env a) (hl : ∀ x ∈ env', ∃ p, lk x.1 env = some p ∧ PLe p x.2) : EnvOK σ env' a := by
  refine ⟨h.d, fun t p e => ?_⟩
  obtain ⟨q, h1, h2⟩ := hl _ (lk_mem e)
  obtain ⟨v, hv, r⟩ := h.v t q h1
  exact ⟨v, hv, h2.rel r⟩
theorem J.le {R : Ent} {σ : Gh} {m m' : Mem} {w : World} (h : J G R σ m w) (hl : ∀ x ∈ m', lk x.1 m = some x.2) : J G R σ m' w where
  inv := ⟨h.inv.hh, fun k o e => h.inv.obj k o (hl _ (lk_mem e)), fun k k' o o' b lo hi b' lo' hi' e e' => h.inv.dis k k' o o' b lo hi b' lo' hi' (hl _ (lk_mem e)) (hl _ (lk_mem e'))⟩
  glob := h.glob
  hm := h.hm
  os := h.os
  tape := h.tape
  out := h.out
  sz := h.sz
  old := h.old
  hn := h.hn
  own := fun k o b lo hi e => h.own k o b lo hi (hl _ (lk_mem e))
  kp := h.kp
  kn := fun k o L e1 e2 e3 => h.kn k o L e1 (hl _ (lk_mem e2)) e3
theorem CW.weak {c : Code} {env env' : Env} {m m' : Mem} {Q : EQ} (hl : SLe env m env' m') (h : CW P G n c env' m' Q) : CW P G n c env m Q :=
  fun R σ a w he hj hn => h R σ a w (he.le hl.e) (hj.le hl.m) hn
theorem loopW {c : Code} {env : Env} {m : Mem} {Q : EQ} (I : Nat → Env → Mem → Prop) (k : Nat) {env0 : Env} {m0 : Mem} (hl : SLe env m env0 m0) (h0 : I k env0 m0)
    (round : ∀ k env m, I k env m → CW P G n c env m (fun e env' m' => match e with
      | .normal => ∃ j env1 m1, j < k ∧ SLe env' m' env1 m1 ∧ I j env1 m1
      | e => Q e env' m')) : LoopW P G n c env m Q := by
  refine CW.weak hl ?_
  intro R σ a w he hj hn
  refine wp_loop_count (fun k a w => ∃ σ env m, I k env m ∧ EnvOK σ env a ∧ J G R σ m w ∧ a.tmps.size = n) ⟨σ, env0, m0, h0, he, hj, hn⟩ ?_
  rintro k a w ⟨σ, env, m, hI, he, hj, hn⟩
  refine wp_mono (round k env m hI R σ a w he hj hn) ?_
  rintro e a w ⟨σ, env, m, q, he, hj, hn⟩
  cases e with
  | normal =>
    obtain ⟨j, env1, m1, hlt, hle, hI⟩ := q
    exact ⟨j, hlt, σ, env1, m1, hI, he.le hle.e, hj.le hle.m, hn⟩
  | _ => exact ⟨σ, env, m, q, he, hj, hn⟩
def envArgs : Nat → List PV → Env
  | _, [] => []
  | k, p :: r => (k, p) :: envArgs (k + 1) r
theorem envArgs_lk : ∀ {ps : List PV} {k t : Nat} {p : PV}, lk t (envArgs k ps) = some p → k ≤ t ∧ ps[t - k]? = some p
  | [], k, t, p, h => by cases h
  | q :: r, k, t, p, h => by
    simp only [envArgs, lk] at h
    cases hb : Nat.beq k t with
    | true =>
      rw [hb] at h
      cases h
      have := Nat.eq_of_beq_eq_true hb
      subst this
      exact ⟨Nat.le_refl _, by simp⟩
    | false =>
      rw [hb] at h
      obtain ⟨h1, h2⟩ := envArgs_lk (k := k + 1) h
      refine ⟨by omega, ?_⟩
      rw [show t - k = (t - (k + 1)) + 1 by omega]
      simpa using h2
def resultOf (T : Ty) (env : Env) (m : Mem) : ResultVar → Option PV
  | .tmp t => lk t env
  | .cell a t => match lk a env with
    | some (.ptr k 0) => match lk t T.t with
      | some ti => match lk k m with
        | some (.var cells) => bif isAggD ti.d then
            (match ivs? (cells.take ti.size) with
            | some cs => bif Nat.beq cs.length ti.size then some (.i (.agg cs)) else none
            | none => none)
          else cells[0]?
        | _ => none
      | none => none
    | _ => none
def resultsOf (T : Ty) (env : Env) (m : Mem) : List ResultVar → Option (List PV)
  | [] => some []
  | x :: r => match resultOf T env m x with
    | none => none
    | some p => match resultsOf T env m r with
      | none => none
      | some l => some (p :: l)
def packI : List PV → Option IV
  | [p] => iv? p
  | ps => match ivs? ps with
    | some xs => some (.tup xs)
    | none => none
def retI (T : Ty) (rs : List ResultVar) (x : IV) : EQ := fun e env m =>
  match e with
  | .normal => match resultsOf T env m rs with
    | some ps => packI ps = some x
    | none => False
  | .ret => match resultsOf T env m rs with
    | some ps => packI ps = some x
    | none => False
  | _ => False
def rvRun (tmps : Array Value) : ResultVar → Sem Value
  | .tmp t => pure (tmps.getD t undef)
  | .cell b t => do loadVar t (← asAddr (tmps.getD b undef))
theorem resultOf_run (hT : TOK P T) {R : Ent} {σ : Gh} {env : Env} {m : Mem} {a : Act} {w : World} (he : EnvOK σ env a) (hj : J G R σ m w) {x : ResultVar} {p : PV} (h : resultOf T env m x = some p) :
    ∃ v, RelP σ p v ∧ (rvRun a.tmps x).run P w = .ok v w := by
  cases x with
  | tmp t =>
    obtain ⟨v, hv, r⟩ := he.v t p h
    exact ⟨v, r, by simp [rvRun, Array.getD_eq_getD_getElem?, hv]⟩
  | cell b t =>
    simp only [resultOf] at h
    split at h
    · rename_i k hk
      split at h
      · rename_i ti hti
        have T1 := hT _ _ hti
        split at h
        · rename_i cells hm
          have hopt : ∃ o : Oper, o.op = .load t (.tmp b) := ⟨{ (default : Oper) with op := .load t (.tmp b) }, rfl⟩
          obtain ⟨o, ho⟩ := hopt
          have hsv : SV P G o env m p := by
            cases ha : isAggD ti.d with
            | true =>
              simp only [ha, cond_true] at h
              split at h
              · rename_i cs hcs
                cases hb : Nat.beq cs.length ti.size with
                | false => rw [hb] at h; cases h
                | true => rw [hb] at h; cases h; exact step_load_agg T1 ha ho hk hm (by simpa using hcs) (Nat.eq_of_beq_eq_true hb)
              · cases h
            | false =>
              simp only [ha, cond_false] at h
              exact step_load_one T1 ha ho hk hm h
          obtain ⟨v, hv, hr⟩ := hsv R σ a w he hj
          refine ⟨v, hv, ?_⟩
          obtain ⟨u, hu, ru⟩ := he.v b _ hk
          cases ru with | ptr _ _ L hL =>
          simp only [execOp, ho, Instr.loadAt, Act.eval, Array.getD_eq_getD_getElem?, hu, Option.getD_some, Instr.sureAddr, Sem.run_bind, Sem.run_pure, Result.andThen_ok] at hr
          simp only [rvRun, Array.getD_eq_getD_getElem?, hu, Option.getD_some, asAddr, Sem.run_bind, Sem.run_pure, Result.andThen_ok]
          revert hr
          cases (loadVar t { block := L.1, off := L.2.1 + 0, spot := none }).run P w with
          | ok u' w' => intro hr; simp at hr; simp [hr]
          | halt x w' => intro hr; simp at hr
        · cases h
      · cases h
    · cases h
theorem resultsOf_run (hT : TOK P T) {R : Ent} {σ : Gh} {env : Env} {m : Mem} {a : Act} {w : World} (he : EnvOK σ env a) (hj : J G R σ m w) : ∀ {rs : List ResultVar} {ps : List PV}, resultsOf T env m rs = some ps →
    ∃ vs : List Value, RelPs σ ps vs ∧ (rs.mapM (rvRun a.tmps)).run P w = .ok vs w
  | [], ps, h => by simp only [resultsOf] at h; cases h; exact ⟨[], ⟨rfl, fun i p v e => by simp at e⟩, by simp⟩
  | x :: r, ps, h => by
    simp only [resultsOf] at h
    cases e1 : resultOf T env m x with
    | none => rw [e1] at h; cases h
    | some p =>
      simp only [e1] at h
      cases e2 : resultsOf T env m r with
      | none => rw [e2] at h; cases h
      | some l =>
        rw [e2] at h
        cases h
        obtain ⟨v, hv, hr⟩ := resultOf_run hT he hj e1
        obtain ⟨vs, hvs, hrs⟩ := resultsOf_run hT he hj e2
        refine ⟨v :: vs, ⟨by simp [hvs.1], fun i q u h1 h2 => ?_⟩, ?_⟩
        · cases i with
          | zero => simp at h1 h2; subst h1; subst h2; exact hv
          | succ i => exact hvs.2 i q u (by simpa using h1) (by simpa using h2)
        · simp only [List.mapM_cons, Sem.run_bind]
          rw [hr]
          simp only [Result.andThen_ok]
          rw [hrs]
          simp
def packV : List Value → Value
  | [v] => v
  | vs => .tuple vs.toArray
theorem results_run (hT : TOK P T) {fn : Func} {R : Ent} {σ : Gh} {env : Env} {m : Mem} {a : Act} {w : World} (he : EnvOK σ env a) (hj : J G R σ m w) {ps : List PV} (h : resultsOf T env m fn.results.toList = some ps) :
    ∃ vs : List Value, RelPs σ ps vs ∧ (results fn a.tmps).run P w = .ok (packV vs) w := by
  obtain ⟨vs, h1, h2⟩ := resultsOf_run (P := P) hT he hj h
  refine ⟨vs, h1, ?_⟩
  have h3 : (fn.results.mapM (rvRun a.tmps)).run P w = .ok vs.toArray w := by
    rw [Array.mapM_eq_mapM_toList]
    simp only [Sem.run_map]
    rw [h2]
    rfl
  have h4 : results fn a.tmps = (do
      let vs ← fn.results.mapM (rvRun a.tmps)
      pure (if h : vs.size = 1 then vs[0] else .tuple vs)) := rfl
  rw [h4, Sem.run_bind, h3]
  simp only [Result.andThen_ok, Sem.run_pure]
  match vs with
  | [] => rfl
  | [v] => rfl
  | _ :: _ :: _ => simp [packV]
theorem packI_rel {σ : Gh} {ps : List PV} {vs : List Value} {x : IV} (h : packI ps = some x) (r : RelPs σ ps vs) : RelI σ.h x (packV vs) := by
  have hlen := r.1
  match ps, vs, r, hlen, h with
  | [p], [v], r, _, h => exact (r.2 0 p v rfl rfl).iv (by simpa [packI] using h)
  | [], [], r, _, h =>
    simp only [packI, ivs?] at h
    cases h
    exact .tup [] [] rfl (by simp)
  | p :: q :: ps, u :: v :: vs, r, _, h =>
    simp only [packI] at h
    split at h
    · rename_i xs hxs
      cases h
      have := r.iv hxs
      refine .tup xs _ (by simpa using this.1) fun i x v e1 e2 => ?_
      have h3 := this.2 i (.i x) v (by simp [e1]) e2
      cases h3; assumption
    · cases h
theorem CW.go (hT : TOK P T) {c : Code} {env : Env} {m : Mem} {Q : EQ} (h : awpC P T G n c Q env m) : CW P G n c env m Q := awpC_ok hT c Q env m h
theorem CW.next (hT : TOK P T) {c d : Code} {env : Env} {m : Mem} {Q : EQ} (h : awpC P T G n c (fun e env m => match e with | .normal => CW P G n d env m Q | e => Q e env m) env m) : CW P G n (.seq c d) env m Q := by
  intro R σ a w he hj hn
  refine wp_seq (wp_mono (awpC_ok hT c _ _ _ h R σ a w he hj hn) ?_)
  rintro e a' w' ⟨σ', env', m', q, he', hj', hn'⟩
  cases e with
  | normal => exact q R σ' a' w' he' hj' hn'
  | _ => exact ⟨σ', env', m', q, he', hj', hn'⟩
theorem pureW_of (hT : TOK P T) {f : FuncId} {fn : Func} {c : Code} {as0 : List IV} {x : IV} (hf : P.funcs[f]? = some fn) (hb : fn.body = some c) (hn : (Nat.ble as0.length fn.ntmps && !(fn.name == "runtime.NumGoroutine")) = true)
    (h : CW P G fn.ntmps c (envArgs 0 (as0.map .i)) [] (retI T fn.results.toList x)) : PureC P G f as0 x := by
  simp only [Bool.and_eq_true, Bool.not_eq_true'] at hn
  refine .inl ⟨⟨fn, c, hf, hb, hn.2⟩, ?_⟩
  intro σ w vs hj hr
  refine calls_of_wp hf hb ?_
  have hl : vs.length = as0.length := by rw [← hr.1]; simp
  have he : EnvOK σ (envArgs 0 (as0.map .i)) { tmps := vs.toArray ++ Array.replicate (fn.ntmps - vs.toArray.size) undef, defers := [] } := by
    refine ⟨rfl, fun t p e => ?_⟩
    obtain ⟨_, e2⟩ := envArgs_lk e
    simp only [Nat.sub_zero] at e2
    have ht : t < vs.length := by
      rw [← hr.1]; exact (List.getElem?_eq_some_iff.1 e2).1
    refine ⟨vs[t], ?_, hr.2 t p _ e2 (List.getElem?_eq_getElem ht)⟩
    rw [Array.getElem?_append_left (by simpa using ht)]
    simp [ht]
  have hn' := Nat.le_of_ble_eq_true hn.1
  refine wp_mono (h (Ent.at σ [] w) σ _ w he hj (by simp; omega)) ?_
  have key : ∀ (a : Act) (w' : World) (σ' : Gh) (env : Env) (m : Mem) (ps : List PV), resultsOf T env m fn.results.toList = some ps → packI ps = some x → EnvOK σ' env a → J G (Ent.at σ [] w) σ' m w' →
      a.defers = [] ∧ ∃ v, (results fn a.tmps).run P w' = .ok v w' ∧ ∃ u σ'', Ending.returned v = .returned u ∧ RelP σ'' (.i x) u ∧ J G (Ent.at σ [] w) σ'' [] w' := by
    intro a w' σ' env m ps hps hp he' hj'
    obtain ⟨us, g1, g2⟩ := results_run (P := P) hT he' hj' hps
    exact ⟨he'.d, _, g2, _, σ', rfl, .i _ _ (packI_rel hp g1), hj'.le (by simp)⟩
  rintro e a w' ⟨σ', env, m, q, he', hj', _⟩
  cases e with
  | normal =>
    simp only [retI] at q
    split at q
    · rename_i ps hps; exact key a w' σ' env m ps hps q he' hj'
    · exact q.elim
  | ret =>
    simp only [retI] at q
    split at q
    · rename_i ps hps; exact key a w' σ' env m ps hps q he' hj'
    · exact q.elim
  | _ => exact q.elim
theorem pureC_of (hT : TOK P T) {f : FuncId} {fn : Func} {c : Code} {as0 : List IV} {x : IV} (hf : P.funcs[f]? = some fn) (hb : fn.body = some c) (hn : (Nat.ble as0.length fn.ntmps && !(fn.name == "runtime.NumGoroutine")) = true)
    (h : awpC P T G fn.ntmps c (retI T fn.results.toList x) (envArgs 0 (as0.map .i)) []) : PureC P G f as0 x :=
  pureW_of hT hf hb hn (CW.go hT h)
end
end Go.Kn
