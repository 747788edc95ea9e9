/- The walk over commits: plain. -/
import Derived.Test.YtiibdlpfgmeifaaGreatDoorKn11
import Derived.Test.YtiibdlpfgmeifaaGreatDoorKn07
import Derived.Carry
import Derived.ChangeArms
import Derived.OpenShut
import Derived.Test.YtiibdlpfgmeifaaGreatDoorTie
import Derived.Test.YtiibdlpfgmeifaaGreatDoorCards
import Derived.ProofKit
import Derived.LaidMore
import Derived.Stop.Joined
import Derived.SevenTiedAt
import Derived.Test.YtiibdlpfgmeifaaGreatDoorKn10
set_option autoImplicit false
set_option maxRecDepth 100000
namespace Go.Kn
open Go Go.Proofs
def pushL (m : List RItem) (R : List Id) (n : Nat) (y : Id) : List Id := upL (aheadB m) n (R.take n ++ [y]) n
def popL (m : List RItem) (R : List Id) (n : Nat) : List Id := downL (aheadB m) (n - 1) (n - 1) (swapL R 0 (n - 1)) 0
theorem ahead_tot (m : List RItem) {a b : Id} (h1 : aheadB m a b = false) (h2 : aheadB m b a = false) : a = b := by
  unfold aheadB at *
  by_cases e : (objR m a).time = (objR m b).time
  · simp [e, idLt] at h1 h2
    exact Id.key_inj (by omega)
  · simp [e, Ne.symm e] at h1 h2
    omega
def bestO (m : List RItem) (l : List Id) : Option Id := l.foldl (fun b x => match b with
  | none => some x
  | some c => if aheadB m x c then some x else some c) none
def MinO (m : List RItem) (l : List Id) (b : Option Id) : Prop :=
  match b with
  | none => l = []
  | some y => y ∈ l ∧ ∀ x ∈ l, aheadB m x y = false
theorem bestO_spec (m : List RItem) (l : List Id) : MinO m l (bestO m l) := by
  have ho := ahead_ok m
  have : ∀ (l done : List Id) (b : Option Id), MinO m done b → MinO m (done ++ l) (l.foldl (fun b x => match b with
    | none => some x
    | some c => if aheadB m x c then some x else some c) b) := by
    intro l
    induction l with
    | nil => intro done b h; simpa using h
    | cons x l ih =>
      intro done b h
      rw [List.foldl_cons, show done ++ x :: l = (done ++ [x]) ++ l by simp]
      refine ih _ _ ?_
      cases b with
      | none =>
        simp only [MinO] at h ⊢
        subst h
        refine ⟨by simp, fun z hz => ?_⟩
        have : z = x := by simpa using hz
        subst this; exact ho.irr _
      | some c =>
        simp only [MinO] at h
        cases e : aheadB m x c with
        | true =>
          show MinO m (done ++ [x]) (if aheadB m x c = true then some x else some c)
          rw [if_pos e]
          refine ⟨by simp, fun z hz => ?_⟩
          rcases List.mem_append.1 hz with q | q
          · have := h.2 z q
            exact ho.trans _ _ _ (ho.asym _ _ e) this
          · have : z = x := by simpa using q
            subst this; exact ho.irr _
        | false =>
          show MinO m (done ++ [x]) (if aheadB m x c = true then some x else some c)
          rw [if_neg (by rw [e]; decide)]
          refine ⟨List.mem_append_left _ h.1, fun z hz => ?_⟩
          rcases List.mem_append.1 hz with q | q
          · exact h.2 z q
          · have : z = x := by simpa using q
            subst this; exact e
  simpa [bestO] using this l [] none rfl
theorem bestO_uniq (m : List RItem) {l : List Id} {y : Id} (h1 : y ∈ l) (h2 : ∀ x ∈ l, aheadB m x y = false) : bestO m l = some y := by
  have h := bestO_spec m l
  cases e : bestO m l with
  | none => rw [e] at h; simp only [MinO] at h; subst h; cases h1
  | some z =>
    rw [e] at h
    simp only [MinO] at h
    rw [ahead_tot m (h2 z h.1) (h.2 y h1)]
theorem bestO_none (m : List RItem) {l : List Id} (h : l = []) : bestO m l = none := by subst h; rfl
def offR (m : List RItem) (s : List Id) (p : Id) : List Id := if (objR m p).kind = 3 then addD s p else s
def walkF (m : List RItem) (cut : List Id) : Nat → List Id → List Id → List Id
  | 0, _, out => out
  | f + 1, seen, out => match bestO m (seen.filter fun x => !inB out x) with
    | none => out
    | some y => walkF m cut f (if inB cut y then seen else (objR m y).parents.foldl (offR m) seen) (out ++ [y])
def walkR (m : List RItem) (cut frm : List Id) : List Id := walkF m cut (m.length + 1) (endsR m frm) []
structure SInv (m : List RItem) (seen out : List Id) : Prop where
  nd : seen.Nodup
  k3 : ∀ x ∈ seen, (objR m x).kind = 3
  ond : out.Nodup
  osub : ∀ x ∈ out, x ∈ seen
theorem k3_has {m : List RItem} {x : Id} (h : (objR m x).kind = 3) : hasM m x = true := by
  cases e : hasM m x with
  | true => rfl
  | false => rw [objR_none e] at h; cases h
theorem SInv.len {m : List RItem} {seen out : List Id} (h : SInv m seen out) : seen.length ≤ m.length := by
  have := nodup_len_le (b := m.map RItem.id) h.nd fun x hx => has_mem (k3_has (h.k3 x hx))
  simpa using this
theorem SInv.olen {m : List RItem} {seen out : List Id} (h : SInv m seen out) : out.length ≤ m.length := by
  have := nodup_len_le (b := seen) h.ond h.osub
  have := h.len
  omega
theorem SInv.off {m : List RItem} {seen out : List Id} (h : SInv m seen out) (p : Id) : SInv m (offR m seen p) out := by
  unfold offR
  split
  · rename_i hk
    exact ⟨addD_nodup h.nd p, fun x hx => (mem_addD.1 hx).elim (h.k3 x) fun e => by subst e; exact hk, h.ond, fun x hx => mem_addD.2 (.inl (h.osub x hx))⟩
  · exact h
theorem SInv.offs {m : List RItem} {out : List Id} (l : List Id) : ∀ {seen : List Id}, SInv m seen out → SInv m (l.foldl (offR m) seen) out := by
  induction l with
  | nil => exact fun h => h
  | cons p l ih => exact fun h => ih (h.off p)
theorem SInv.tell {m : List RItem} {seen out : List Id} (h : SInv m seen out) {y : Id} (hy : y ∈ seen) (hn : y ∉ out) : SInv m seen (out ++ [y]) :=
  ⟨h.nd, h.k3, List.nodup_append.2 ⟨h.ond, by simp, fun a ha b hb => by rw [List.mem_singleton] at hb; subst hb; exact fun e => hn (e ▸ ha)⟩, fun x hx => by
    rcases List.mem_append.1 hx with q | q
    · exact h.osub x q
    · rw [List.mem_singleton] at q; subst q; exact hy⟩
theorem ends_sinv (m : List RItem) (frm : List Id) : SInv m (endsR m frm) [] := by
  have : ∀ (l : List Id) (s : List Id), SInv m s [] → SInv m (l.foldl (endsS m) s) [] := by
    intro l
    induction l with
    | nil => exact fun _ h => h
    | cons p l ih =>
      intro s h
      refine ih _ ?_
      unfold endsS
      cases endR m p with
      | none => exact h
      | some e => have := h.off e; exact this
  exact this frm [] ⟨List.nodup_nil, by simp, List.nodup_nil, by simp⟩
theorem left_mem {seen out : List Id} {x : Id} : x ∈ (seen.filter fun x => !inB out x) ↔ x ∈ seen ∧ x ∉ out := by
  rw [List.mem_filter]
  constructor
  · rintro ⟨h1, h2⟩
    exact ⟨h1, fun e => by rw [inB_iff.2 e] at h2; cases h2⟩
  · rintro ⟨h1, h2⟩
    refine ⟨h1, ?_⟩
    cases e : inB out x with
    | false => rfl
    | true => exact absurd (inB_iff.1 e) h2
structure WSt where
  n : Nat
  R : List Id
  S : List Id
structure WInv (m : List RItem) (s : WSt) (seen out : List Id) : Prop where
  si : SInv m seen out
  rs : RiseK s.S
  ms : ∀ x, x ∈ s.S ↔ x ∈ seen
  hn : s.n ≤ s.R.length
  nd : s.R.Nodup
  hp : HeapI (aheadB m) s.R s.n
  mem : ∀ x, x ∈ s.R.take s.n ↔ x ∈ seen ∧ x ∉ out
  rl : s.R.length ≤ m.length
theorem WInv.n_le {m : List RItem} {s : WSt} {seen out : List Id} (h : WInv m s seen out) : s.n ≤ m.length := by have := h.hn; have := h.rl; omega
def offerS (m : List RItem) (s : WSt) (y : Id) : WSt := if (objR m y).kind = 3 ∧ hasK s.S y = false then ⟨s.n + 1, pushL m s.R s.n y, addK s.S y⟩ else s
theorem WInv.offer {m : List RItem} {s : WSt} {seen out : List Id} (h : WInv m s seen out) (y : Id) : WInv m (offerS m s y) (offR m seen y) out := by
  have ho := ahead_ok m
  by_cases hk : (objR m y).kind = 3
  · have hoff : offR m seen y = addD seen y := by rw [offR, if_pos hk]
    rw [hoff]
    have hsi := h.si.off y
    rw [hoff] at hsi
    cases hS : hasK s.S y with
    | true =>
      have hy : y ∈ seen := (h.ms y).1 (inB_iff.1 hS)
      have : addD seen y = seen := by rw [addD, if_pos (inB_iff.2 hy)]
      rw [offerS, if_neg (by rw [hS]; simp), this]
      exact h
    | false =>
      have hy : y ∉ seen := fun e => by
        have := inB_iff.2 ((h.ms y).2 e)
        rw [show inB s.S y = hasK s.S y from rfl, hS] at this; cases this
      have hyo : y ∉ out := fun e => hy (h.si.osub y e)
      have hR : y ∉ s.R.take s.n := fun e => hy ((h.mem y).1 e).1
      rw [offerS, if_pos ⟨hk, hS⟩]
      have hll : (s.R.take s.n ++ [y]).length = s.n + 1 := by have := h.hn; simp; omega
      have hg : ∀ k, k < s.n → gt0 (s.R.take s.n ++ [y]) k = gt0 s.R k := fun k hk => by
        have := h.hn
        rw [gt0, gt0, List.getD_eq_getElem?_getD, List.getD_eq_getElem?_getD, List.getElem?_append_left (by simp; omega), List.getElem?_take, if_pos hk]
      have hup : UpI (aheadB m) (s.R.take s.n ++ [y]) s.n := by
        refine ⟨fun k h0 hk hne => ?_, fun k h0 hk hp _ => ?_⟩
        · rw [hg k (by omega), hg _ (by omega)]; exact h.hp k h0 (by omega)
        · omega
      obtain ⟨a, b, c, d⟩ := upL_ok ho s.n (s.R.take s.n ++ [y]) s.n (by omega) (Nat.le_refl _) hup
      rw [hll] at a b
      have hnd : (s.R.take s.n ++ [y]).Nodup := List.nodup_append.2 ⟨h.nd.sublist (List.take_sublist _ _), by simp, fun a ha b hb => by rw [List.mem_singleton] at hb; subst hb; exact fun e => hR (e ▸ ha)⟩
      have hmem : ∀ x, x ∈ (pushL m s.R s.n y).take (s.n + 1) ↔ x ∈ addD seen y ∧ x ∉ out := fun x => by
        rw [List.take_of_length_le (by rw [pushL, a]; exact Nat.le_refl _), pushL, c x, List.mem_append, List.mem_singleton, h.mem, mem_addD]
        constructor
        · rintro (q | q)
          · exact ⟨.inl q.1, q.2⟩
          · subst q; exact ⟨.inr rfl, hyo⟩
        · rintro ⟨q | q, q2⟩
          · exact .inl ⟨q, q2⟩
          · exact .inr q
      refine ⟨hsi, rise_addK h.rs y, fun x => by rw [mem_addK, mem_addD, h.ms], by rw [pushL, a]; exact Nat.le_refl _, d hnd, b, hmem, ?_⟩
      have hle := hsi.len
      have h5 := nodup_len_le (a := s.R.take s.n ++ [y]) (b := addD seen y) hnd fun x hx => by
        rcases List.mem_append.1 hx with q | q
        · exact mem_addD.2 (.inl ((h.mem x).1 q).1)
        · rw [List.mem_singleton] at q; exact mem_addD.2 (.inr q)
      rw [pushL, a]
      omega
  · rw [offerS, if_neg (fun e => hk e.1), offR, if_neg hk]
    exact h
theorem WInv.offers {m : List RItem} {out : List Id} (l : List Id) : ∀ {s : WSt} {seen : List Id}, WInv m s seen out → WInv m (l.foldl (offerS m) s) (l.foldl (offR m) seen) out := by
  induction l with
  | nil => exact fun h => h
  | cons p l ih => exact fun h => ih (h.offer p)
theorem take_gt0 {R : List Id} {n : Nat} (h0 : 0 < n) (hn : n ≤ R.length) : gt0 R 0 ∈ R.take n := by
  rw [mem_gt0]
  refine ⟨0, by simp; omega, ?_⟩
  rw [gt0, gt0, List.getD_eq_getElem?_getD, List.getD_eq_getElem?_getD, List.getElem?_take, if_pos h0]
theorem WInv.best {m : List RItem} {s : WSt} {seen out : List Id} (h : WInv m s seen out) (h0 : 0 < s.n) : bestO m (seen.filter fun x => !inB out x) = some (gt0 s.R 0) := by
  refine bestO_uniq m (left_mem.2 ((h.mem _).1 (take_gt0 h0 h.hn))) fun x hx => ?_
  have := (h.mem x).2 (left_mem.1 hx)
  obtain ⟨k, hk, rfl⟩ := mem_gt0.1 this
  have hk' : k < s.n := by simp at hk; omega
  have hg : gt0 (s.R.take s.n) k = gt0 s.R k := by
    rw [gt0, gt0, List.getD_eq_getElem?_getD, List.getD_eq_getElem?_getD, List.getElem?_take, if_pos hk']
  rw [hg]
  exact h.hp.min (ahead_ok m) k hk'
theorem WInv.none {m : List RItem} {s : WSt} {seen out : List Id} (h : WInv m s seen out) (h0 : s.n = 0) : bestO m (seen.filter fun x => !inB out x) = .none := by
  refine bestO_none m ?_
  cases e : (seen.filter fun x => !inB out x) with
  | nil => rfl
  | cons x r =>
    have : x ∈ (seen.filter fun x => !inB out x) := by rw [e]; simp
    have := (h.mem x).2 (left_mem.1 this)
    rw [h0] at this
    simp at this
theorem popL_facts {m : List RItem} {s : WSt} {seen out : List Id} (h : WInv m s seen out) (h0 : 0 < s.n) :
    (popL m s.R s.n).length = s.R.length ∧ gt0 (popL m s.R s.n) (s.n - 1) = gt0 s.R 0 ∧ WInv m ⟨s.n - 1, popL m s.R s.n, s.S⟩ seen (out ++ [gt0 s.R 0]) := by
  have ho := ahead_ok m
  have hn := h.hn
  have hfirst := (h.mem _).1 (take_gt0 h0 hn)
  have g := fun k => swapL_get (L := s.R) (i := 0) (j := s.n - 1) (by omega) (by omega) k
  have hd : DnI (aheadB m) (swapL s.R 0 (s.n - 1)) (s.n - 1) 0 := by
    refine ⟨fun k hk0 hk hne => ?_, fun k _ _ _ h => by omega⟩
    rw [g, g, if_neg (by omega), if_neg (by omega), if_neg (by omega), if_neg (by omega)]
    exact h.hp k hk0 (by omega)
  obtain ⟨a, b, c, d, e⟩ := downL_ok ho (n := s.n - 1) (s.n - 1) (swapL s.R 0 (s.n - 1)) 0 (by rw [swapL_len]; omega) (by omega) hd
  rw [swapL_len] at a
  refine ⟨a, ?_, ⟨h.si.tell hfirst.1 hfirst.2, h.rs, h.ms, by rw [popL, a]; simp only; omega, d (swapL_nodup (by omega) (by omega) h.nd), b, fun x => ?_, by rw [popL, a]; exact h.rl⟩⟩
  · rw [popL, e _ (Nat.le_refl _), g, if_pos rfl]
  · rw [popL, c x]
    have hinj := nodup_gt0.1 h.nd
    constructor
    · intro hx
      obtain ⟨k, hk, rfl⟩ := mem_gt0.1 hx
      have hk' : k < s.n - 1 := by simp [swapL_len] at hk; omega
      have hgt : gt0 ((swapL s.R 0 (s.n - 1)).take (s.n - 1)) k = gt0 (swapL s.R 0 (s.n - 1)) k := by
        rw [gt0, gt0, List.getD_eq_getElem?_getD, List.getD_eq_getElem?_getD, List.getElem?_take, if_pos hk']
      rw [hgt, g, if_neg (by omega)]
      have key : ∀ j, j < s.n → j ≠ 0 → gt0 s.R j ∈ seen ∧ gt0 s.R j ∉ out ++ [gt0 s.R 0] := by
        intro j hj hj0
        have hm : gt0 s.R j ∈ s.R.take s.n := by
          rw [mem_gt0]
          refine ⟨j, by simp; omega, ?_⟩
          rw [gt0, gt0, List.getD_eq_getElem?_getD, List.getD_eq_getElem?_getD, List.getElem?_take, if_pos hj]
        have := (h.mem _).1 hm
        refine ⟨this.1, fun q => ?_⟩
        rcases List.mem_append.1 q with q | q
        · exact this.2 q
        · rw [List.mem_singleton] at q
          exact hj0 (hinj j 0 (by omega) (by omega) q)
      split
      · exact key (s.n - 1) (by omega) (by omega)
      · rename_i hk0
        exact key k (by omega) hk0
    · rintro ⟨h1, h2⟩
      have h3 := (h.mem x).2 ⟨h1, fun q => h2 (List.mem_append_left _ q)⟩
      have h4 : x ≠ gt0 s.R 0 := fun q => h2 (List.mem_append_right _ (by simp [q]))
      obtain ⟨k, hk, rfl⟩ := mem_gt0.1 h3
      have hk' : k < s.n := by simp at hk; omega
      have hgt : gt0 (s.R.take s.n) k = gt0 s.R k := by
        rw [gt0, gt0, List.getD_eq_getElem?_getD, List.getD_eq_getElem?_getD, List.getElem?_take, if_pos hk']
      rw [hgt] at h4 ⊢
      have hk0 : k ≠ 0 := fun q => h4 (by rw [q])
      rw [mem_gt0]
      by_cases hkn : k = s.n - 1
      · refine ⟨0, by simp [swapL_len]; omega, ?_⟩
        rw [gt0, List.getD_eq_getElem?_getD, List.getElem?_take, if_pos (by omega), ← List.getD_eq_getElem?_getD]
        show gt0 (swapL s.R 0 (s.n - 1)) 0 = _
        rw [g, if_neg (by omega), if_pos rfl, hkn]
      · refine ⟨k, by simp [swapL_len]; omega, ?_⟩
        rw [gt0, List.getD_eq_getElem?_getD, List.getElem?_take, if_pos (by omega), ← List.getD_eq_getElem?_getD]
        show gt0 (swapL s.R 0 (s.n - 1)) k = _
        rw [g, if_neg hkn, if_neg hk0]
end Go.Kn
set_option maxRecDepth 100000
namespace Go.Kn
open Go Go.Proofs
variable {G : Gl}
theorem m_Len (a : Addr) (args : Array Value) (w : World) : (callMethod (.iface Tn.p_graph_queue (.pointer (some a))) "Len" args).run Pg w = (do let u ← loadVar Tn.graph_queue a; callFunc Fn.graph_queue_Len (#[u] ++ args)).run Pg w := by kernel_rfl
theorem m_Less (a : Addr) (args : Array Value) (w : World) : (callMethod (.iface Tn.p_graph_queue (.pointer (some a))) "Less" args).run Pg w = (do let u ← loadVar Tn.graph_queue a; callFunc Fn.graph_queue_Less (#[u] ++ args)).run Pg w := by kernel_rfl
theorem m_Swap (a : Addr) (args : Array Value) (w : World) : (callMethod (.iface Tn.p_graph_queue (.pointer (some a))) "Swap" args).run Pg w = (do let u ← loadVar Tn.graph_queue a; callFunc Fn.graph_queue_Swap (#[u] ++ args)).run Pg w := by kernel_rfl
theorem m_Push (v : Value) (args : Array Value) (w : World) : (callMethod (.iface Tn.p_graph_queue v) "Push" args).run Pg w = (callFunc Fn.graph_queue_Push (#[v] ++ args)).run Pg w := by kernel_rfl
theorem m_Pop (v : Value) (args : Array Value) (w : World) : (callMethod (.iface Tn.p_graph_queue v) "Pop" args).run Pg w = (callFunc Fn.graph_queue_Pop (#[v] ++ args)).run Pg w := by kernel_rfl
theorem par_eq {j : Nat} (h : j < 4611686018427387904) : IntKind.i64.wrap ((IntKind.i64.wrap ((j : Int) - 1)).tdiv 2) = (((j - 1) / 2 : Nat) : Int) := by
  by_cases h0 : j = 0
  · subst h0; decide
  · rw [wrap_i64 (a := (j : Int) - 1) (by omega) (by omega), show (j : Int) - 1 = ((j - 1 : Nat) : Int) by omega]
    rw [show ((j - 1 : Nat) : Int).tdiv 2 = (((j - 1) / 2 : Nat) : Int) from rfl, wrap_nat (by omega)]
def qI : PV := .ifc Tn.p_graph_queue (.ptr 1000 1)
theorem queue_T : TOK1 Pg Tn.graph_queue (((lk Tn.graph_queue T.t).getD default)) := T_ok _ _ rfl
theorem meth_Less {m : List RItem} {n : Nat} {R S : List Id} {mm : Mem} (h : lk 1000 mm = some (.var [.i (stR m), .vec 1001 104 0 n, .vec 1002 32 0 S.length])) : MethS Pg G Tn.p_graph_queue "Less" (.ptr 1000 1) Fn.graph_queue_Less (.vec 1001 104 0 n) mm :=
  MethS.val queue_T rfl m_Less h rfl
theorem meth_Swap {m : List RItem} {n : Nat} {R S : List Id} {mm : Mem} (h : lk 1000 mm = some (.var [.i (stR m), .vec 1001 104 0 n, .vec 1002 32 0 S.length])) : MethS Pg G Tn.p_graph_queue "Swap" (.ptr 1000 1) Fn.graph_queue_Swap (.vec 1001 104 0 n) mm :=
  MethS.val queue_T rfl m_Swap h rfl
theorem meth_Len {m : List RItem} {n : Nat} {R S : List Id} {mm : Mem} (h : lk 1000 mm = some (.var [.i (stR m), .vec 1001 104 0 n, .vec 1002 32 0 S.length])) : MethS Pg G Tn.p_graph_queue "Len" (.ptr 1000 1) Fn.graph_queue_Len (.vec 1001 104 0 n) mm :=
  MethS.val queue_T rfl m_Len h rfl
theorem wkCall {f : FuncId} {m : List RItem} {n n' : Nat} {R R' S S' : List Id} {cs args : List PV} {x : IV} {env : Env} {mm : Mem} (h : Body Pg f ∧ AC Pg G f cs (wkM m n R S) (.i x) (wkM m n' R' S'))
    (ha : argOK (rho [(1000, 1000), (1001, 1001), (1002, 1002)]) cs args) (h1 : ∃ o, lk 1000 mm = some o ∧ MLe o (renO (rho [(1000, 1000), (1001, 1001), (1002, 1002)]) (.var [.i (stR m), .vec 1001 104 0 n, .vec 1002 32 0 S.length])))
    (h2 : lk 1001 mm = some (.vec 104 (nodesP m R) none)) (h3 : lk 1002 mm = some (.vec 32 (idsP S) none)) :
    CallS Pg G f args env mm (.i x) (killE [1001, 1002] env) (setM (wkM m n' R' S') (killM [1001, 1002] mm)) :=
  lendCall (ρ := [(1000, 1000), (1001, 1001), (1002, 1002)]) h.1 h.2 ha (wkAs h1 h2 h3 rfl) rfl
theorem lessCall {m : List RItem} {n i j : Nat} {R : List Id} {env : Env} {mm : Mem} (h2 : lk 1001 mm = some (.vec 104 (nodesP m R) none)) (hn : n ≤ R.length) (hi : i < n) (hj : j < n) :
    CallS Pg G Fn.graph_queue_Less [.vec 1001 104 0 n, .i (.int .i64 (i : Int)), .i (.int .i64 (j : Int))] env mm (.i (.bool (aheadB m (gt0 R i) (gt0 R j)))) env mm :=
  have hz := queue_Less_frz (G := G) m R h2 hn hi hj
  frzCall hz.c hz.flat hz.args (fun _ _ e => e) (fun h => h)
theorem swap_len2 {R : List Id} {i j k : Nat} (h : R.length = k) : (swapL R i j).length = k := by rw [swapL_len]; exact h
def upE (j : Nat) : Env := [(0, qI), (1, .i (.int .i64 (j : Int)))]
def upE2 (j : Nat) : Env := [(0, qI), (1, .i (.int .i64 (j : Int))), (4, .i (.int .i64 (((j - 1) / 2 : Nat) : Int)))]
set_option maxHeartbeats 1000000 in
theorem heap_up_ok (m : List RItem) (R S : List Id) (hR : R.length < 1000000) {j : Nat} (hj : j < R.length) :
    Body Pg Fn.container_heap_up ∧ AC Pg G Fn.container_heap_up [qI, .i (.int .i64 (j : Int))] (wkM m R.length R S) (.i (.tup [])) (wkM m R.length (upL (aheadB m) j R j) S) := by
  refine acW_of T_ok Fd.container_heap_up rfl (by kernel_rfl) ?_
  refine CW.blk ?_
  refine loopXW 0 (S := Nat × List Id × Nat) (S' := List Id) (fun s => upE s.2.2) (fun s => wkM m R.length s.2.1 S) (fun s => s.2.2) (fun s => s.2.1.length = R.length ∧ s.2.2 < R.length ∧ s.2.2 ≤ s.1 ∧ upL (aheadB m) s.1 s.2.1 s.2.2 = upL (aheadB m) j R j)
    (fun _ => []) (fun L => wkM m R.length L S) (fun L => L = upL (aheadB m) j R j) (j, R, j) ⟨rfl, rfl, trivial⟩ ⟨rfl, rfl, rfl, trivial⟩ ⟨rfl, hj, Nat.le_refl _, rfl⟩ ?_ ?_
  · rintro ⟨f, L, k⟩ ⟨h1, h2, h3, h4⟩
    simp only at h1 h2 h3 h4
    refine CW.blk ?_
    refine CW.cut T_ok (S := Unit) (fun _ => upE2 k) (fun _ => wkM m R.length L S) (fun _ => True) ?_ ?_
    · refine ⟨by decide, ?_⟩
      exact ⟨(), trivial, ⟨rfl, rfl, congrArg (fun n => some (PV.i (IV.int .i64 n))) (par_eq (j := k) (by omega)), trivial⟩, ⟨rfl, rfl, rfl, trivial⟩⟩
    intro _ _
    refine CW.go T_ok ?_
    refine condP.split (fun g => ?_) (fun g => ?_)
    · have g' : (k - 1) / 2 = k := by
        have h : ((((k - 1) / 2 : Nat) : Int) == (k : Int)) = true := g
        have := eq_of_beq h; omega
      exact ⟨L, by rw [← h4, upL_stop (.inl g')], trivial, ⟨rfl, rfl, rfl, trivial⟩⟩
    · have g' : (k - 1) / 2 ≠ k := by
        have h : ((((k - 1) / 2 : Nat) : Int) == (k : Int)) = false := g
        intro e; rw [e] at h; simp at h
      refine ⟨_, _, meth_Less (R := R) (S := S) (m := m) rfl, _, _, _, lessCall (i := k) (j := (k - 1) / 2) rfl (by omega) h2 (by omega), ?_⟩
      cases hl : aheadB m (gt0 L k) (gt0 L ((k - 1) / 2)) with
      | false => exact ⟨L, by rw [← h4, upL_stop (.inr hl)], trivial, ⟨rfl, rfl, rfl, trivial⟩⟩
      | true =>
        have hn : ¬ ((k - 1) / 2 = k ∨ aheadB m (gt0 L k) (gt0 L ((k - 1) / 2)) = false) := by rintro (e | e); exact g' e; rw [hl] at e; cases e
        obtain ⟨f', rfl⟩ : ∃ f', f = f' + 1 := ⟨f - 1, by omega⟩
        rw [upL_go hn] at h4
        have hsw := queue_Swap_ok (G := G) m L S (n := R.length) (i := (k - 1) / 2) (j := k) (by omega) (by omega) h2
        refine ⟨_, _, meth_Swap (R := R) (S := S) (m := m) rfl, _, _, _, wkCall hsw ⟨rfl, rfl, rfl, rfl⟩ ⟨_, rfl, MLe.refl _⟩ rfl rfl, ?_⟩
        exact ⟨(f', swapL L ((k - 1) / 2) k, (k - 1) / 2), ⟨by simp only; omega, swap_len2 h1, by simp only; omega, by simp only; omega, h4⟩, ⟨rfl, rfl, trivial⟩, ⟨rfl, rfl, rfl, trivial⟩⟩
  · rintro L rfl
    exact retSame (ps := []) ⟨[], rfl, rfl⟩ (wkAs ⟨_, rfl, MLe.refl _⟩ rfl rfl rfl)
def dnE (n i : Nat) : Env := [(0, qI), (1, .i (.int .i64 0)), (2, .i (.int .i64 (n : Int))), (7, .i (.int .i64 (i : Int)))]
def dnE2 (n i : Nat) : Env := [(0, qI), (1, .i (.int .i64 0)), (2, .i (.int .i64 (n : Int))), (7, .i (.int .i64 (i : Int))), (8, .i (.int .i64 ((2 * i + 1 : Nat) : Int)))]
def dnE3 (n i c : Nat) : Env := [(0, qI), (1, .i (.int .i64 0)), (2, .i (.int .i64 (n : Int))), (7, .i (.int .i64 (i : Int))), (9, .i (.int .i64 (c : Int)))]
def dnE4 (n i : Nat) : Env := [(0, qI), (1, .i (.int .i64 0)), (2, .i (.int .i64 (n : Int))), (7, .i (.int .i64 (i : Int))), (8, .i (.int .i64 ((2 * i + 1 : Nat) : Int))), (9, .i (.int .i64 ((2 * i + 1 : Nat) : Int)))]
def dnE5 (n i : Nat) : Env := [(0, qI), (1, .i (.int .i64 0)), (2, .i (.int .i64 (n : Int))), (7, .i (.int .i64 (i : Int))), (8, .i (.int .i64 ((2 * i + 1 : Nat) : Int))), (9, .i (.int .i64 ((2 * i + 1 : Nat) : Int))), (10, .i (.int .i64 ((2 * i + 2 : Nat) : Int)))]
theorem dbl_eq {i : Nat} (h : i < 1000000) : IntKind.i64.wrap (IntKind.i64.wrap (2 * (i : Int)) + 1) = ((2 * i + 1 : Nat) : Int) := by
  rw [wrap_i64 (a := 2 * (i : Int)) (by omega) (by omega), wrap_i64 (by omega) (by omega)]; omega
set_option maxHeartbeats 4000000 in
theorem heap_down_ok (m : List RItem) (R S : List Id) {N n : Nat} (hN : N ≤ R.length) (hR : R.length < 1000000) (hn : n ≤ N) :
    Body Pg Fn.container_heap_down ∧ AC Pg G Fn.container_heap_down [qI, .i (.int .i64 0), .i (.int .i64 (n : Int))] (wkM m N R S) (.i (.bool (decide (((downX (aheadB m) n n R 0 : Nat) : Int) > 0)))) (wkM m N (downL (aheadB m) n n R 0) S) := by
  refine acW_of T_ok Fd.container_heap_down rfl (by kernel_rfl) ?_
  refine CW.next T_ok ?_
  refine CW.next T_ok ?_
  refine CW.seq ?_
  refine CW.blk ?_
  refine loopXW 0 (S := Nat × List Id × Nat) (S' := List Id × Nat) (fun s => dnE n s.2.2) (fun s => wkM m N s.2.1 S) (fun s => n - s.2.2)
    (fun s => s.2.1.length = R.length ∧ s.2.2 ≤ n ∧ n ≤ s.1 + s.2.2 ∧ downL (aheadB m) n s.1 s.2.1 s.2.2 = downL (aheadB m) n n R 0 ∧ downX (aheadB m) n s.1 s.2.1 s.2.2 = downX (aheadB m) n n R 0)
    (fun x => dnE n x.2) (fun x => wkM m N x.1 S) (fun x => x.1 = downL (aheadB m) n n R 0 ∧ x.2 = downX (aheadB m) n n R 0) (n, R, 0) ⟨rfl, rfl, rfl, rfl, trivial⟩ ⟨rfl, rfl, rfl, trivial⟩ ⟨rfl, by simp, by simp, rfl, rfl⟩ ?_ ?_
  · rintro ⟨f, L, i⟩ ⟨h1, h2, h3, h4, h5⟩
    simp only at h1 h2 h3 h4 h5
    refine CW.blk ?_
    refine CW.cut T_ok (S := Unit) (fun _ => dnE2 n i) (fun _ => wkM m N L S) (fun _ => True) ?_ ?_
    · exact ⟨(), trivial, ⟨rfl, rfl, rfl, rfl, congrArg (fun n => some (PV.i (IV.int .i64 n))) (dbl_eq (i := i) (by omega)), trivial⟩, ⟨rfl, rfl, rfl, trivial⟩⟩
    intro _ _
    refine CW.next T_ok ?_
    refine condP.split (fun g => ?_) (fun g => ?_)
    · have g' : n ≤ 2 * i + 1 := by have h : ((2 * i + 1 : Nat) : Int) ≥ (n : Int) := of_decide_eq_true g; omega
      exact ⟨(L, i), ⟨by rw [← h4, downL_stop1 g'], by rw [← h5, downX_stop1 g']⟩, ⟨rfl, rfl, rfl, rfl, trivial⟩, ⟨rfl, rfl, rfl, trivial⟩⟩
    · have g' : ¬ n ≤ 2 * i + 1 := by have h : ¬ ((2 * i + 1 : Nat) : Int) ≥ (n : Int) := of_decide_eq_false g; omega
      refine CW.cut T_ok (S := Unit) (fun _ => dnE4 n i) (fun _ => wkM m N L S) (fun _ => True) ?_ ?_
      · exact ⟨(), trivial, ⟨rfl, rfl, rfl, rfl, rfl, rfl, trivial⟩, ⟨rfl, rfl, rfl, trivial⟩⟩
      intro _ _
      refine CW.cutW (S := Unit) (fun _ => dnE3 n i (childL (aheadB m) L n i)) (fun _ => wkM m N L S) (fun _ => True) ?_ ?_
      · refine CW.cut T_ok (S := Unit) (fun _ => dnE5 n i) (fun _ => wkM m N L S) (fun _ => True) ?_ ?_
        · exact ⟨(), trivial, ⟨rfl, rfl, rfl, rfl, rfl, rfl, i_succ (i := 2 * i + 1) (by omega), trivial⟩, ⟨rfl, rfl, rfl, trivial⟩⟩
        intro _ _
        refine CW.go T_ok ?_
        refine condP.split (fun g2 => ?_) (fun g2 => ?_)
        · have g2' : 2 * i + 2 < n := by have h : ((2 * i + 2 : Nat) : Int) < (n : Int) := of_decide_eq_true g2; omega
          refine ⟨_, _, meth_Less (R := R) (S := S) (m := m) rfl, _, _, _, lessCall (i := 2 * i + 2) (j := 2 * i + 1) rfl (by omega) (by omega) (by omega), ?_⟩
          cases hl : aheadB m (gt0 L (2 * i + 2)) (gt0 L (2 * i + 1)) with
          | true =>
            have hc : childL (aheadB m) L n i = 2 * i + 2 := by rw [childL, if_pos ⟨g2', hl⟩]
            rw [hc]
            exact ⟨(), trivial, ⟨rfl, rfl, rfl, rfl, rfl, trivial⟩, ⟨rfl, rfl, rfl, trivial⟩⟩
          | false =>
            have hc : childL (aheadB m) L n i = 2 * i + 1 := by rw [childL, if_neg (fun e => by rw [hl] at e; cases e.2)]
            rw [hc]
            exact ⟨(), trivial, ⟨rfl, rfl, rfl, rfl, rfl, trivial⟩, ⟨rfl, rfl, rfl, trivial⟩⟩
        · have g2' : ¬ 2 * i + 2 < n := by have h : ¬ ((2 * i + 2 : Nat) : Int) < (n : Int) := of_decide_eq_false g2; omega
          have hc : childL (aheadB m) L n i = 2 * i + 1 := by rw [childL, if_neg (fun e => g2' e.1)]
          rw [hc]
          exact ⟨(), trivial, ⟨rfl, rfl, rfl, rfl, rfl, trivial⟩, ⟨rfl, rfl, rfl, trivial⟩⟩
      intro _ _
      have hcl := child_lt (lt := aheadB m) (L := L) (n := n) (i := i) (by omega)
      have hce := child_eq (lt := aheadB m) L n i
      have hst := @downL_stop2 _ _ (aheadB m) n f L i
      have hxt := @downX_stop2 _ _ (aheadB m) n f L i
      have hgo := fun f' => @downL_go _ _ (aheadB m) n f' L i g'
      have hxo := fun f' => @downX_go _ _ (aheadB m) n f' L i g'
      generalize childL (aheadB m) L n i = c at *
      refine CW.go T_ok ?_
      refine ⟨_, _, meth_Less (R := R) (S := S) (m := m) rfl, _, _, _, lessCall (i := c) (j := i) rfl (by omega) (by omega) (by omega), ?_⟩
      cases hl : aheadB m (gt0 L c) (gt0 L i) with
      | false => exact ⟨(L, i), ⟨by rw [← h4, hst hl], by rw [← h5, hxt hl]⟩, ⟨rfl, rfl, rfl, rfl, trivial⟩, ⟨rfl, rfl, rfl, trivial⟩⟩
      | true =>
        obtain ⟨f', rfl⟩ : ∃ f', f = f' + 1 := ⟨f - 1, by omega⟩
        rw [hgo f' hl] at h4
        rw [hxo f' hl] at h5
        have hsw := queue_Swap_ok (G := G) m L S (n := N) (i := i) (j := c) (by omega) (by omega) (by omega)
        refine ⟨_, _, meth_Swap (R := R) (S := S) (m := m) rfl, _, _, _, wkCall hsw ⟨rfl, rfl, rfl, rfl⟩ ⟨_, rfl, MLe.refl _⟩ rfl rfl, ?_⟩
        exact ⟨(f', swapL L i c, c), ⟨by simp only; omega, swap_len2 h1, by simp only; omega, by simp only; omega, h4, h5⟩, ⟨rfl, rfl, rfl, rfl, trivial⟩, ⟨rfl, rfl, rfl, trivial⟩⟩
  · rintro ⟨L, x⟩ ⟨h1, h2⟩
    simp only at h1 h2
    subst h1; subst h2
    refine CW.go T_ok ?_
    exact retSame rfl (wkAs ⟨_, rfl, MLe.refl _⟩ rfl rfl rfl)
theorem heap_Push_ok (m : List RItem) (R S : List Id) {n : Nat} (hn : n ≤ R.length) (hR : R.length < 900000) (y : Id) :
    Body Pg Fn.container_heap_Push ∧ AC Pg G Fn.container_heap_Push [qI, .i (.iface Tn.graph_node (encNode m y))] (wkM m n R S) (.i (.tup [])) (wkM m (n + 1) (pushL m R n y) S) := by
  have hl : (R.take n ++ [y]).length = n + 1 := by simp; omega
  have hp := queue_Push_ok (G := G) m R S hn (by omega) y
  have hlen := queue_Len_ok (G := G) m (n + 1) (R.take n ++ [y]) S
  have hup := heap_up_ok (G := G) m (R.take n ++ [y]) S (by omega) (j := n) (by omega)
  rw [hl] at hup
  refine acW_of T_ok Fd.container_heap_Push rfl (by kernel_rfl) ?_
  refine CW.cut T_ok (S := Unit) (fun _ => [(0, qI)]) (fun _ => wkM m (n + 1) (R.take n ++ [y]) S) (fun _ => True) ?_ ?_
  · refine ⟨_, _, MethS.ptr m_Push _ _, _, _, _, wkCall hp ⟨rfl, rfl, rfl⟩ ⟨_, rfl, MLe.refl _⟩ rfl rfl, ?_⟩
    exact ⟨(), trivial, ⟨rfl, trivial⟩, ⟨rfl, rfl, rfl, trivial⟩⟩
  intro _ _
  refine CW.go T_ok ?_
  refine ⟨_, _, meth_Len (R := R) (S := S) (m := m) rfl, _, _, _, wkCall hlen ⟨rfl, rfl⟩ ⟨_, rfl, MLe.refl _⟩ rfl rfl, ?_⟩
  have hw : IntKind.i64.wrap (((n + 1 : Nat) : Int) - 1) = (n : Int) := by rw [wrap_i64 (by omega) (by omega)]; omega
  refine ⟨_, _, _, wkCall hup ⟨rfl, congrArg (fun n => some (IV.int .i64 n)) hw, rfl⟩ ⟨_, rfl, MLe.refl _⟩ rfl rfl, ?_⟩
  exact retSame (ps := []) ⟨[], rfl, rfl⟩ (wkAs ⟨_, rfl, MLe.refl _⟩ rfl rfl rfl)
theorem heap_Pop_ok (m : List RItem) (R S : List Id) {n : Nat} (h0 : 0 < n) (hn : n ≤ R.length) (hR : R.length < 900000) (hlen : (popL m R n).length = R.length) :
    Body Pg Fn.container_heap_Pop ∧ AC Pg G Fn.container_heap_Pop [qI] (wkM m n R S) (.i (.iface Tn.graph_node (encNode m (gt0 (popL m R n) (n - 1))))) (wkM m (n - 1) (popL m R n) S) := by
  have hw : IntKind.i64.wrap ((n : Int) - 1) = ((n - 1 : Nat) : Int) := by rw [wrap_i64 (by omega) (by omega)]; omega
  have hLen := queue_Len_ok (G := G) m n R S
  have hsw := queue_Swap_ok (G := G) m R S (n := n) (i := 0) (j := n - 1) hn h0 (by omega)
  have hd := heap_down_ok (G := G) m (swapL R 0 (n - 1)) S (N := n) (n := n - 1) (by rw [swapL_len]; exact hn) (by rw [swapL_len]; omega) (by omega)
  have hp := queue_Pop_ok (G := G) m (popL m R n) S (n := n) h0 (by omega) (by omega)
  refine acW_of T_ok Fd.container_heap_Pop rfl (by kernel_rfl) ?_
  refine CW.next T_ok ?_
  refine CW.cut T_ok (S := Unit) (fun _ => [(0, qI), (3, .i (.int .i64 ((n - 1 : Nat) : Int)))]) (fun _ => wkM m n R S) (fun _ => True) ?_ ?_
  · refine ⟨_, _, meth_Len (R := R) (S := S) (m := m) rfl, _, _, _, wkCall hLen ⟨rfl, rfl⟩ ⟨_, rfl, MLe.refl _⟩ rfl rfl, ?_⟩
    exact ⟨(), trivial, ⟨rfl, congrArg (fun n => some (PV.i (IV.int .i64 n))) hw, trivial⟩, ⟨rfl, rfl, rfl, trivial⟩⟩
  intro _ _
  refine CW.cut T_ok (S := Unit) (fun _ => [(0, qI), (3, .i (.int .i64 ((n - 1 : Nat) : Int)))]) (fun _ => wkM m n (swapL R 0 (n - 1)) S) (fun _ => True) ?_ ?_
  · refine ⟨_, _, meth_Swap (R := R) (S := S) (m := m) rfl, _, _, _, wkCall hsw ⟨rfl, rfl, rfl, rfl⟩ ⟨_, rfl, MLe.refl _⟩ rfl rfl, ?_⟩
    exact ⟨(), trivial, ⟨rfl, rfl, trivial⟩, ⟨rfl, rfl, rfl, trivial⟩⟩
  intro _ _
  refine CW.cut T_ok (S := Unit) (fun _ => [(0, qI)]) (fun _ => wkM m n (popL m R n) S) (fun _ => True) ?_ ?_
  · refine ⟨_, _, _, wkCall hd ⟨rfl, rfl, rfl, rfl⟩ ⟨_, rfl, MLe.refl _⟩ rfl rfl, ?_⟩
    exact ⟨(), trivial, ⟨rfl, trivial⟩, ⟨rfl, rfl, rfl, trivial⟩⟩
  intro _ _
  refine CW.go T_ok ?_
  refine ⟨_, _, MethS.ptr m_Pop _ _, _, _, _, wkCall hp ⟨rfl, rfl⟩ ⟨_, rfl, MLe.refl _⟩ rfl rfl, ?_⟩
  exact retSame rfl (wkAs ⟨_, rfl, MLe.refl _⟩ rfl rfl rfl)
end Go.Kn
set_option maxRecDepth 100000
namespace Go.Kn
open Go Go.Proofs
variable {G : Gl}
theorem wkM_ins (m : List RItem) (n : Nat) (R S : List Id) (y : Id) : wkM m n R (S.take (lowK S y) ++ y :: S.drop (lowK S y)) =
    [(1000, .var [.i (stR m), .vec 1001 104 0 n, .vec 1002 32 0 (S.length + 1)]), (1001, .vec 104 (nodesP m R) none), (1002, .vec 32 (idsP (S.take (lowK S y) ++ y :: S.drop (lowK S y))) none)] := by
  rw [wkM, insK_len]
set_option maxHeartbeats 1000000 in
theorem add_okW (m : List RItem) (n : Nat) (R S : List Id) (y : Id) (hr : RiseK S) (hl : S.length < 900000) :
    Body Pg Fn.graph_set_add ∧ AC Pg G Fn.graph_set_add [.ptr 1000 2, .i (encId y)] (wkM m n R S) (.i (.bool (!hasK S y))) (wkM m n R (addK S y)) := by
  have hb := bsRow_ok (G := G) S y hr (by omega) (m := [(1002, .vec 32 (idsP S) none)]) (k := 1002) rfl
  refine acW_of (T_ok.vec [23]) Fd.graph_set_add rfl (by kernel_rfl) ?_
  refine CW.next (T_ok.vec [23]) ?_
  refine CW.cut (T_ok.vec [23]) (S := Unit) (fun _ => [(0, .ptr 1000 2), (3, .ptr 3 0), (5, .i (.int .i64 (lowK S y : Int))), (6, .i (.bool (hasK S y)))]) (fun _ => (3, .var ((idC y).map .i)) :: wkM m n R S) (fun _ => True) ?_ ?_
  · refine drawW (T_ok.vec [23]) (by decide +kernel) ?_
    refine .inr ⟨_, _, hb, ?_⟩
    refine ⟨by kernel_rfl, ?_⟩
    exact ⟨(), trivial, ⟨rfl, rfl, rfl, rfl, trivial⟩, ⟨rfl, rfl, rfl, rfl, trivial⟩⟩
  intro _ _
  refine CW.go (T_ok.vec [23]) ?_
  cases hh : hasK S y with
  | true =>
    have h1 : addK S y = S := by simp [addK, hh]
    rw [h1]
    exact retSame rfl (wkAs ⟨_, rfl, MLe.refl _⟩ rfl rfl rfl)
  | false =>
    have h1 : addK S y = S.take (lowK S y) ++ y :: S.drop (lowK S y) := by simp [addK, hh]
    have hins := insert_id (G := G) (l := S.map encId) (x := encId y) (i := lowK S y) (by simpa using lowK_le S y) (fun z hz => by
      obtain ⟨a, _, rfl⟩ := List.mem_map.1 hz; exact encId_len a) (encId_len _) (by simp; omega)
    rw [insK_enc S y, List.length_map] at hins
    rw [h1, wkM_ins]
    refine drawW (T_ok.vec [23]) (by decide +kernel) ?_
    refine .inl ⟨[(1000, 1002), (1001, 23)], _, _, _, _, ⟨hins.1, hins.2, ⟨rfl, rfl, rfl, rfl⟩, MemL.as ⟨⟨_, rfl, MLe.vecEq rfl⟩, ⟨_, rfl, MLe.vecEq rfl⟩, trivial⟩ rfl, rfl⟩, ?_⟩
    refine ⟨by kernel_rfl, ?_⟩
    exact retSame rfl (MemL.as ⟨⟨_, rfl, MLe.refl _⟩, ⟨_, rfl, MLe.vecEq rfl⟩, ⟨_, rfl, MLe.vecEq rfl⟩, trivial⟩ rfl)
def wkS (m : List RItem) (s : WSt) : Mem := wkM m s.n s.R s.S
set_option maxHeartbeats 2000000 in
theorem offer_ok (H : SameDec) (m : List RItem) (h : Corr m) (hm : m.length < 100000) (s : WSt) (y : Id) (hr : RiseK s.S) (hS : s.S.length < 900000) (hn : s.n ≤ s.R.length) (hR : s.R.length < 900000) :
    Body Pg Fn.graph_walker_offer ∧ AC Pg G Fn.graph_walker_offer [.ptr 1000 0, .i (encId y)] (wkS m s) (.i (.tup [])) (wkS m (offerS m s y)) := by
  obtain ⟨n, R, S⟩ := s
  simp only at hr hS hn hR
  have hobj := objectR (G := G) H h (by omega) y
  have hadd := add_okW (G := G) m n R S y hr hS
  have hpush := heap_Push_ok (G := G) m R (addK S y) hn hR y
  refine acW_of T_ok Fd.graph_walker_offer rfl (by kernel_rfl) ?_
  refine CW.next T_ok ?_
  refine CW.cut T_ok (S := Unit) (fun _ => [(0, .ptr 1000 0), (3, .ptr 3 0), (4, .ptr 4 0), (5, .i (.bool (hasM m y)))]) (fun _ => (3, .var ((idC y).map .i)) :: (4, obM (objR m y)) :: wkM m n R S) (fun _ => True) ?_ ?_
  · refine drawW T_ok (by decide +kernel) ?_
    refine ⟨_, _, ⟨rfl, hobj⟩, ?_⟩
    refine ⟨by kernel_rfl, ?_⟩
    exact ⟨(), trivial, ⟨rfl, rfl, rfl, rfl, trivial⟩, ⟨rfl, rfl, rfl, rfl, rfl, trivial⟩⟩
  intro _ _
  refine CW.go T_ok ?_
  refine drawW T_ok (by decide +kernel) ?_
  cases hh : hasM m y with
  | false =>
    have hk : ¬ ((objR m y).kind = 3 ∧ hasK S y = false) := fun e => by rw [k3_has e.1] at hh; cases hh
    refine ⟨by kernel_rfl, ?_⟩
    rw [offerS, if_neg hk]
    exact retSame (ps := []) ⟨[], rfl, rfl⟩ (wkAs ⟨_, rfl, MLe.refl _⟩ rfl rfl rfl)
  | true =>
    refine condP.split (fun g => ?_) (fun g => ?_)
    · have g' := kind_eq (o := objR m y) g
      refine .inl ⟨[(1000, 1000), (1001, 1001), (1002, 1002)], _, _, _, _, ⟨hadd.1, hadd.2, ⟨rfl, rfl, rfl⟩, wkAs ⟨_, rfl, MLe.refl _⟩ rfl rfl rfl, rfl⟩, ?_⟩
      refine ⟨by kernel_rfl, ?_⟩
      cases hs : hasK S y with
      | true =>
        have hk : ¬ ((objR m y).kind = 3 ∧ hasK S y = false) := fun e => by rw [hs] at e; cases e.2
        have ha : addK S y = S := by simp [addK, hs]
        rw [ha]
        rw [offerS, if_neg hk]
        exact retSame (ps := []) ⟨[], rfl, rfl⟩ (wkAs ⟨_, rfl, MLe.refl _⟩ rfl rfl rfl)
      | false =>
        refine drawW T_ok (by decide +kernel) ?_
        refine .inl ⟨[(1000, 1000), (1001, 1001), (1002, 1002)], _, _, _, _, ⟨hpush.1, hpush.2, ⟨rfl, rfl, rfl⟩, wkAs ⟨_, rfl, MLe.refl _⟩ rfl rfl rfl, rfl⟩, ?_⟩
        refine ⟨by kernel_rfl, ?_⟩
        rw [offerS, if_pos ⟨g', hs⟩]
        exact retSame (ps := []) ⟨[], rfl, rfl⟩ (wkAs ⟨_, rfl, MLe.refl _⟩ rfl rfl rfl)
    · have g' := kind_ne (o := objR m y) g
      have hk : ¬ ((objR m y).kind = 3 ∧ hasK S y = false) := fun e => g' e.1
      refine ⟨by kernel_rfl, ?_⟩
      rw [offerS, if_neg hk]
      exact retSame (ps := []) ⟨[], rfl, rfl⟩ (wkAs ⟨_, rfl, MLe.refl _⟩ rfl rfl rfl)
theorem next_ok (m : List RItem) (s : WSt) (h0 : 0 < s.n) (hn : s.n ≤ s.R.length) (hR : s.R.length < 900000) (hlen : (popL m s.R s.n).length = s.R.length) :
    Body Pg Fn.graph_walker_next ∧ AC Pg G Fn.graph_walker_next [.ptr 1000 0] (wkS m s) (.i (encNode m (gt0 s.R 0))) (wkS m ⟨s.n - 1, popL m s.R s.n, s.S⟩) := by
  obtain ⟨n, R, S⟩ := s
  simp only at h0 hn hR hlen
  have hpop := heap_Pop_ok (G := G) m R S h0 hn hR hlen
  refine acW_of T_ok Fd.graph_walker_next rfl (by kernel_rfl) ?_
  refine CW.next T_ok ?_
  refine CW.go T_ok ?_
  refine ⟨⟨by decide, by show (0 : Int) < n; omega⟩, ?_⟩
  refine ⟨encNode m (gt0 R 0), ?_, ?_⟩
  · show (nodesP m R)[addS 0 (0 : Int).toNat]? = _
    rw [addS_eq]; exact nodesP_get (by show 0 < R.length; omega)
  refine ⟨_, _, _, wkCall hpop ⟨rfl, rfl⟩ ⟨_, rfl, MLe.refl _⟩ rfl rfl, ?_⟩
  exact retSame rfl (wkAs ⟨_, rfl, MLe.refl _⟩ rfl rfl rfl)
def wk20 (m : List RItem) (s : WSt) : Mem := [(20, .var [.i (stR m), .vec 903 104 0 s.n, .vec 904 32 0 s.S.length]), (903, .vec 104 (nodesP m s.R) none), (904, .vec 32 (idsP s.S) none)]
def wk20t (m : List RItem) (s : WSt) : Mem := [(20, .var [.i (stR m), .vec 903 104 0 s.n, .vec 904 32 0 s.S.length]), (903, .vec 104 (nodesP m s.R) none), (904, .vec 32 (idsP s.S) none), (900, .tip)]
def offB' : PV := .bnd (.func Fn.graph_walker_offer) [.ptr 20 0]
theorem w20Call {f : FuncId} {m : List RItem} {s s' : WSt} {cs args : List PV} {x : IV} {env : Env} {mm : Mem} (h : Body Pg f ∧ AC Pg G f cs (wkS m s) (.i x) (wkS m s'))
    (ha : argOK (rho [(1000, 20), (1001, 903), (1002, 904)]) cs args) (h1 : ∃ o, lk 20 mm = some o ∧ MLe o (renO (rho [(1000, 20), (1001, 903), (1002, 904)]) (.var [.i (stR m), .vec 1001 104 0 s.n, .vec 1002 32 0 s.S.length])))
    (h2 : lk 903 mm = some (.vec 104 (nodesP m s.R) none)) (h3 : lk 904 mm = some (.vec 32 (idsP s.S) none)) :
    CallS Pg G f args env mm (.i x) (killE [903, 904] env) (setM (wk20 m s') (killM [903, 904] mm)) :=
  lendCall (ρ := [(1000, 20), (1001, 903), (1002, 904)]) h.1 h.2 ha (wkAs h1 h2 h3 rfl) rfl
def endsW (m : List RItem) (s : WSt) (y : Id) : WSt :=
  match endR m y with
  | some e => offerS m s e
  | none => s
theorem WInv.ends {m : List RItem} {out : List Id} (l : List Id) : ∀ {s : WSt} {seen : List Id}, WInv m s seen out → WInv m (l.foldl (endsW m) s) (l.foldl (endsS m) seen) out := by
  induction l with
  | nil => exact fun h => h
  | cons p l ih =>
    intro s seen h
    refine ih ?_
    unfold endsW endsS
    cases endR m p with
    | none => exact h
    | some e => exact h.offer e
theorem WInv.start (m : List RItem) : WInv m ⟨0, [], []⟩ [] [] :=
  ⟨⟨List.nodup_nil, by simp, List.nodup_nil, by simp⟩, List.Pairwise.nil, by simp, Nat.le_refl _, List.nodup_nil, fun k _ h => by simp at h, by simp, by simp⟩
theorem WInv.s_le {m : List RItem} {s : WSt} {seen out : List Id} (h : WInv m s seen out) : s.S.length ≤ m.length := by
  have h1 := nodup_len_le (b := seen) h.rs.nodup fun x hx => (h.ms x).1 hx
  have := h.si.len
  omega
def w1E (m : List RItem) (frm cut : List Id) (i : Nat) : Env := [(0, .i (stR m)), (2, .i (.slice (cut.map encId))), (7, .ptr 20 0), (8, offB'), (23, .i (.slice (frm.map encId))), (24, .i (.int .i64 (frm.length : Int))), (25, .i (.int .i64 (i : Int)))]
def w2E (m : List RItem) (cut : List Id) : Env := [(0, .i (stR m)), (2, .i (.slice (cut.map encId))), (7, .ptr 20 0), (8, offB')]
def w3E (cut out : List Id) : Env := [(7, .ptr 20 0), (8, offB'), (13, .i (.slice ((sortK cut).map encId))), (14, .tok 900 32 (out.map encId))]
def w4E (cut out : List Id) (y : Id) : Env := [(7, .ptr 20 0), (8, offB'), (13, .i (.slice ((sortK cut).map encId))), (14, .tok 900 32 (out.map encId)), (15, .ptr 15 0)]
def w5E (cut out ps : List Id) (i : Nat) : Env := [(7, .ptr 20 0), (8, offB'), (13, .i (.slice ((sortK cut).map encId))), (14, .tok 900 32 (out.map encId)), (61, .i (.slice (ps.map encId))), (62, .i (.int .i64 (ps.length : Int))), (63, .i (.int .i64 (i : Int)))]
structure LSt where
  f : Nat
  s : WSt
  seen : List Id
  out : List Id
set_option maxHeartbeats 4000000 in
theorem graph_Walk_ok (H : SameDec) (m : List RItem) (h : Corr m) (hm : m.length < 100000) (frm cut : List Id) (hf : frm.length < 100000) (hc : cut.length < 100000) :
    PureC Pg G Fn.graph_Walk [stR m, .slice (frm.map encId), .slice (cut.map encId)] (.slice ((walkR m cut frm).map encId)) := by
  refine pureW_of T_ok Fd.graph_Walk rfl (by kernel_rfl) ?_
  refine CW.next T_ok ?_
  refine CW.next T_ok ?_
  refine CW.tok0 903 rfl rfl (env' := [(0, .i (stR m)), (1, .i (.slice (frm.map encId))), (2, .i (.slice (cut.map encId))), (7, .ptr 20 0)]) (m' := [(20, .var [.i (stR m), .vec 903 104 0 0, .full []]), (903, .vec 104 [] none)])
    ⟨⟨_, rfl, .refl _⟩, ⟨_, rfl, .refl _⟩, ⟨_, rfl, .refl _⟩, ⟨_, rfl, .refl _⟩, trivial⟩
    ⟨.inr ⟨by decide, _, rfl, .var _ _ ⟨.refl _, .vec 104, .refl _, rfl⟩⟩, .inl ⟨rfl, .vec' rfl⟩, trivial⟩ ?_
  refine CW.tok0 904 rfl rfl (env' := [(0, .i (stR m)), (1, .i (.slice (frm.map encId))), (2, .i (.slice (cut.map encId))), (7, .ptr 20 0)]) (m' := wk20 m ⟨0, [], []⟩)
    ⟨⟨_, rfl, .refl _⟩, ⟨_, rfl, .refl _⟩, ⟨_, rfl, .refl _⟩, ⟨_, rfl, .refl _⟩, trivial⟩
    ⟨.inr ⟨by decide, _, rfl, .var _ _ ⟨.refl _, .refl _, .vec 32, rfl⟩⟩, .inr ⟨by decide, _, rfl, .refl _⟩, .inl ⟨rfl, .vec' rfl⟩, trivial⟩ ?_
  refine CW.next T_ok ?_
  refine CW.cut T_ok (S := WSt) (fun _ => w2E m cut) (fun s => wk20 m s) (fun s => WInv m s (endsR m frm) []) ?_ ?_
  · refine loopX T_ok 0 (S := Nat) (S' := Unit) (fun i => w1E m frm cut i) (fun i => wk20 m ((frm.take i).foldl (endsW m) ⟨0, [], []⟩)) (fun i => frm.length - i) (fun i => i ≤ frm.length) (fun _ => w2E m cut) (fun _ => wk20 m (frm.foldl (endsW m) ⟨0, [], []⟩)) (fun _ => True) 0
      ⟨rfl, rfl, rfl, rfl, rfl, lenM _ _, rfl, trivial⟩ ⟨rfl, rfl, rfl, trivial⟩ (by omega) ?_ ?_
    · intro i hi
      refine condP.split (fun g => ?_) (fun g => ?_)
      · have g' : i < frm.length := by have h : (i : Int) < (frm.length : Int) := of_decide_eq_true g; omega
        have hI := (WInv.start m).ends (frm.take i)
        have hs : (frm.take (i + 1)).foldl (endsW m) ⟨0, [], []⟩ = endsW m ((frm.take i).foldl (endsW m) ⟨0, [], []⟩) frm[i] := by rw [List.take_succ_eq_append_getElem g', List.foldl_append]; rfl
        generalize (frm.take i).foldl (endsW m) ⟨0, [], []⟩ = s at *
        have hsl := hI.s_le
        have hrl := hI.rl
        have hE := graph_End_ok (G := G) H m h (by omega) frm[i]
        have hd : endsW m s frm[i] = match endR m frm[i] with
          | some e => offerS m s e
          | none => s := rfl
        rw [hd] at hs
        refine ⟨encId frm[i], idx_get encId g', ?_⟩
        cases he : endR m frm[i] with
        | none =>
          rw [he] at hE hs
          refine ⟨_, _, _, pureCall hE rfl, ?_⟩
          refine ⟨i + 1, ⟨by omega, by omega⟩, ⟨rfl, rfl, rfl, rfl, rfl, rfl, i_succ (by omega), trivial⟩, ?_⟩
          rw [hs]
          exact ⟨rfl, rfl, rfl, trivial⟩
        | some e =>
          rw [he] at hE hs
          refine ⟨_, _, _, pureCall hE rfl, ?_⟩
          have hof := offer_ok (G := G) H m h hm s e hI.rs (by omega) hI.hn (by omega)
          refine ⟨_, _, _, w20Call hof ⟨rfl, rfl, rfl⟩ ⟨_, rfl, MLe.refl _⟩ rfl rfl, ?_⟩
          refine ⟨i + 1, ⟨by omega, by omega⟩, ⟨rfl, rfl, rfl, rfl, rfl, rfl, i_succ (by omega), trivial⟩, ?_⟩
          rw [hs]
          exact ⟨rfl, rfl, rfl, trivial⟩
      · have g' : i = frm.length := by have h : ¬ (i : Int) < (frm.length : Int) := of_decide_eq_false g; omega
        subst g'
        rw [List.take_length]
        exact ⟨(), trivial, ⟨rfl, rfl, rfl, rfl, trivial⟩, ⟨rfl, rfl, rfl, trivial⟩⟩
    · intro _ _
      exact ⟨frm.foldl (endsW m) ⟨0, [], []⟩, (WInv.start m).ends frm, ⟨rfl, rfl, rfl, rfl, trivial⟩, ⟨rfl, rfl, rfl, trivial⟩⟩
  intro s0 hI0
  have hof := graph_of_ok (G := G) cut (by omega)
  have hsk := sortK_len cut
  refine CW.next T_ok ?_
  refine ⟨_, _, _, pureCall (.inl hof) rfl, ?_⟩
  refine CW.next T_ok ?_
  refine CW.tok0 900 rfl rfl (env' := w3E cut []) (m' := wk20t m s0) ⟨⟨_, rfl, .refl _⟩, ⟨_, rfl, .refl _⟩, ⟨_, rfl, .refl _⟩, ⟨_, rfl, .tok 32⟩, trivial⟩
    ⟨.inr ⟨by decide, _, rfl, .refl _⟩, .inr ⟨by decide, _, rfl, .refl _⟩, .inr ⟨by decide, _, rfl, .refl _⟩, .inl ⟨rfl, .tip⟩, trivial⟩ ?_
  refine CW.cut T_ok (S := Unit) (fun _ => [(14, .tok 900 32 ((walkR m cut frm).map encId))]) (fun _ => [(900, .tip)]) (fun _ => True) ?_ ?_
  · refine loopX T_ok 2 (S := LSt) (S' := Unit) (fun x => w3E cut x.out) (fun x => wk20t m x.s) (fun x => x.f) (fun x => WInv m x.s x.seen x.out ∧ x.f + x.out.length = m.length + 1 ∧ walkF m cut x.f x.seen x.out = walkR m cut frm)
      (fun _ => [(14, .tok 900 32 ((walkR m cut frm).map encId))]) (fun _ => [(900, .tip)]) (fun _ => True) ⟨m.length + 1, s0, endsR m frm, []⟩ ⟨rfl, rfl, rfl, rfl, trivial⟩ ⟨rfl, rfl, rfl, rfl, trivial⟩ ⟨hI0, rfl, rfl⟩ ?_ ?_
    · rintro ⟨f, s, seen, out⟩ ⟨hI, hfo, hw⟩
      simp only at hI hfo hw
      have hol := hI.si.olen
      have hsl := hI.s_le
      have hrl := hI.rl
      have hnl := hI.n_le
      obtain ⟨f', rfl⟩ : ∃ f', f = f' + 1 := ⟨f - 1, by omega⟩
      rw [walkF] at hw
      have hlen := queue_Len_ok (G := G) m s.n s.R s.S
      refine ⟨_, _, _, w20Call (s := s) (s' := s) hlen ⟨rfl, rfl⟩ ⟨_, rfl, MLe.refl _⟩ rfl rfl, ?_⟩
      refine condP.split (fun g => ?_) (fun g => ?_)
      · have h0 : 0 < s.n := by have h : (s.n : Int) > 0 := of_decide_eq_true g; omega
        obtain ⟨p1, p2, p3⟩ := popL_facts hI h0
        rw [hI.best h0] at hw
        simp only at hw
        have hnx := next_ok (G := G) m s h0 hI.hn (by omega) p1
        obtain ⟨o1, o2⟩ := objR_small1 h (gt0 s.R 0)
        generalize gt0 s.R 0 = y at *
        refine ⟨_, _, _, w20Call hnx ⟨rfl, rfl⟩ ⟨_, rfl, MLe.refl _⟩ rfl rfl, ?_⟩
        refine ⟨⟨⟨hasSize_id _, hasSize_one (encId_len y)⟩, szOK (by simp; omega) (by kernel_rfl)⟩, ?_⟩
        have hg := graph_has_ok (G := G) (sortK cut) y (rise_sortK cut) (by omega)
        rw [hasK_sort] at hg
        refine ⟨_, _, _, pureCall hg rfl, ?_⟩
        generalize WSt.mk (s.n - 1) (popL m s.R s.n) s.S = s1 at *
        cases hin : inB cut y with
        | true =>
          rw [hin] at hw
          exact ⟨⟨f', s1, seen, out ++ [y]⟩, ⟨by simp only; omega, p3, by simp; omega, by simpa using hw⟩, ⟨rfl, rfl, rfl, tok_snoc, trivial⟩, ⟨rfl, rfl, rfl, rfl, trivial⟩⟩
        | false =>
          rw [hin] at hw
          simp only [Bool.false_eq_true, if_false] at hw
          have hps := p3.offers (objR m y).parents
          generalize hpp : (objR m y).parents = ps at *
          refine loopX T_ok 4 (S := Nat) (S' := Unit) (fun i => w5E cut (out ++ [y]) ps i) (fun i => wk20t m ((ps.take i).foldl (offerS m) s1)) (fun i => ps.length - i) (fun i => i ≤ ps.length) (fun _ => w3E cut (out ++ [y])) (fun _ => wk20t m (ps.foldl (offerS m) s1)) (fun _ => True) 0
            ?_ ⟨rfl, rfl, rfl, rfl, trivial⟩ (by omega) ?_ ?_
          · refine ⟨rfl, rfl, rfl, tok_snoc, ?_, ?_, rfl, trivial⟩
            · rw [← hpp]; rfl
            · rw [← hpp]; exact lenM _ _
          · intro i hi
            refine condP.split (fun g => ?_) (fun g => ?_)
            · have g' : i < ps.length := by have h : (i : Int) < (ps.length : Int) := of_decide_eq_true g; omega
              have hIi := p3.offers (ps.take i)
              have hs : (ps.take (i + 1)).foldl (offerS m) s1 = offerS m ((ps.take i).foldl (offerS m) s1) ps[i] := by rw [List.take_succ_eq_append_getElem g', List.foldl_append]; rfl
              generalize (ps.take i).foldl (offerS m) s1 = si at *
              have a1 := hIi.s_le
              have a2 := hIi.rl
              have hof := offer_ok (G := G) H m h hm si ps[i] hIi.rs (by omega) hIi.hn (by omega)
              refine ⟨encId ps[i], idx_get encId g', ?_⟩
              refine ⟨_, _, _, w20Call hof ⟨rfl, rfl, rfl⟩ ⟨_, rfl, MLe.refl _⟩ rfl rfl, ?_⟩
              refine ⟨i + 1, ⟨by omega, by omega⟩, ⟨rfl, rfl, rfl, rfl, rfl, rfl, i_succ (by omega), trivial⟩, ?_⟩
              rw [hs]
              exact ⟨rfl, rfl, rfl, rfl, trivial⟩
            · have g' : i = ps.length := by have h : ¬ (i : Int) < (ps.length : Int) := of_decide_eq_false g; omega
              subst g'
              rw [List.take_length]
              exact ⟨(), trivial, ⟨rfl, rfl, rfl, rfl, trivial⟩, ⟨rfl, rfl, rfl, rfl, trivial⟩⟩
          · intro _ _
            exact ⟨⟨f', ps.foldl (offerS m) s1, ps.foldl (offR m) seen, out ++ [y]⟩, ⟨by simp only; omega, hps, by simp; omega, hw⟩, ⟨rfl, rfl, rfl, rfl, trivial⟩, ⟨rfl, rfl, rfl, rfl, trivial⟩⟩
      · have h0 : s.n = 0 := by have h : ¬ (s.n : Int) > 0 := of_decide_eq_false g; omega
        rw [hI.none h0] at hw
        simp only at hw
        refine ⟨(), trivial, ⟨?_, trivial⟩, ⟨rfl, trivial⟩⟩
        rw [← hw]; rfl
    · intro _ _
      exact ⟨(), trivial, ⟨rfl, trivial⟩, ⟨rfl, trivial⟩⟩
  intro _ _
  refine CW.go T_ok ?_
  rfl
end Go.Kn
set_option maxRecDepth 100000
namespace Go.Kn
open Go Go.Proofs
variable {G : Gl}
structure Seed where
  kind : UInt8
  refs : List UInt8
  time : Nat
  text : List UInt8
  tlt : time < 65536
def encSeed (x : Seed) : IV := .agg [.int .u8 (x.kind.toNat : Int), .slice (u8s x.refs), .int .u16 (x.time : Int), .str x.text]
def seedOK (x : Seed) : Bool := decide (x.refs.length ≤ 10 ∧ x.text.length ≤ 300)
def fewB (k : Nat) (l : List Seed) : Bool := (l.take k).all seedOK && decide (l.length ≤ k)
theorem lenS (l : List Seed) : ((l.map encSeed).length : Int) = (l.length : Int) := by simp
theorem lenU (l : List UInt8) : ((u8s l).length : Int) = (l.length : Int) := by simp [u8s]
theorem ref11_Few_ok (k : Nat) (hk : k < 1000) (l : List Seed) : PureC Pg G Fn.ref11_Few [.slice (l.map encSeed), .int .i64 (k : Int)] (.bool (fewB k l)) := by
  refine pureC_of T_ok Fd.ref11_Few rfl (by kernel_rfl) ?_
  refine loopX T_ok 0 (S := Nat) (S' := Unit) (fun i => [(0, .i (.slice (l.map encSeed))), (1, .i (.int .i64 (k : Int))), (5, .i (.int .i64 (i : Int)))]) (fun _ => []) (fun i => k - i)
    (fun i => i ≤ l.length ∧ i ≤ k ∧ (l.take i).all seedOK = true) (fun _ => [(0, .i (.slice (l.map encSeed))), (1, .i (.int .i64 (k : Int)))]) (fun _ => []) (fun _ => (l.take k).all seedOK = true) 0 ⟨rfl, rfl, rfl, trivial⟩ trivial ⟨by omega, by omega, rfl⟩ ?_ ?_
  · rintro i ⟨h1, h2, h3⟩
    have hex : ¬ (i < l.length ∧ i < k) → (l.take k).all seedOK = true := by
      intro q
      by_cases hi : i = k
      · subst hi; exact h3
      · have : l.take k = l.take i := by rw [List.take_of_length_le (by omega), List.take_of_length_le (by omega)]
        rw [this]; exact h3
    refine condP.split (fun g => ?_) (fun g => ?_)
    · have g1 : i < l.length := by have := of_decide_eq_true g; rw [lenS] at this; omega
      refine condP.split (fun g2 => ?_) (fun g2 => ?_)
      · have g2' : i < k := by have : (i : Int) < k := of_decide_eq_true g2; omega
        refine ⟨encSeed l[i], ⟨by omega, by simp [g1]⟩, ?_⟩
        have hno : ¬ (l[i].refs.length ≤ 10 ∧ l[i].text.length ≤ 300) → some (IV.bool false) = some (.bool (fewB k l)) := by
          intro q
          have : (l.take k).all seedOK = false := by
            rw [List.all_eq_false]
            exact ⟨l[i], by rw [List.mem_take_iff_getElem]; exact ⟨i, by omega, rfl⟩, by simp only [seedOK, decide_eq_true_eq]; exact q⟩
          rw [fewB, this]; rfl
        refine condP.split (fun g3 => ?_) (fun g3 => ?_)
        · have g3' : ((u8s l[i].refs).length : Int) > 10 := of_decide_eq_true g3
          rw [lenU] at g3'
          exact hno (by omega)
        · have g3' : ¬ ((u8s l[i].refs).length : Int) > 10 := of_decide_eq_false g3
          rw [lenU] at g3'
          refine ⟨encSeed l[i], ⟨by omega, by simp [g1]⟩, ?_⟩
          refine condP.split (fun g4 => ?_) (fun g4 => ?_)
          · have g4' : (l[i].text.length : Int) > 300 := of_decide_eq_true g4
            exact hno (by omega)
          · have g4' : ¬ (l[i].text.length : Int) > 300 := of_decide_eq_false g4
            refine ⟨i + 1, ⟨by omega, by omega, by omega, ?_⟩, ⟨rfl, rfl, congrArg (fun n => some (PV.i (IV.int .i64 n))) (int_succ (by omega)), trivial⟩, trivial⟩
            rw [List.take_succ_eq_append_getElem g1, List.all_append, h3]
            simp only [Bool.true_and, List.all_cons, List.all_nil, Bool.and_true, seedOK, decide_eq_true_eq]
            omega
      · refine ⟨(), ?_, ⟨rfl, rfl, trivial⟩, trivial⟩
        have : ¬ (i : Int) < k := of_decide_eq_false g2
        exact hex (by omega)
    · refine ⟨(), ?_, ⟨rfl, rfl, trivial⟩, trivial⟩
      have : ¬ (i : Int) < ((l.map encSeed).length : Int) := of_decide_eq_false g
      rw [lenS] at this
      exact hex (by omega)
  · intro _ h
    show some (IV.bool (decide (((l.map encSeed).length : Int) ≤ (k : Int)))) = _
    rw [fewB, h, lenS]
    congr 2
    simp only [Bool.true_and, decide_eq_decide]
    omega
theorem tmod_nat (a b : Nat) : Int.tmod (a : Int) (b : Int) = ((a % b : Nat) : Int) := (Int.ofNat_tmod a b).symm
def nameR (n : Nat) : List UInt8 := [UInt8.ofNat (97 + n % 20)]
theorem ref11_name_ok (n : Nat) (hn : n < 1000) : PureC Pg G Fn.ref11_name [.int .i64 (n : Int)] (.str (nameR n)) := by
  refine pureC_of T_ok Fd.ref11_name rfl (by kernel_rfl) ?_
  refine ⟨by decide, ?_⟩
  refine ⟨_, u8s_one _, ?_⟩
  show some (IV.str [UInt8.ofNat _]) = _
  have h : (n : Int).tmod 20 = ((n % 20 : Nat) : Int) := tmod_nat n 20
  have h2 : n % 20 < 20 := Nat.mod_lt _ (by decide)
  rw [h, wrap_i64 (by omega) (by omega), nameR]
  congr 4
  omega
def pickB (m : List RItem) (k : Int) (y : Id) : Bool := decide (kindR m y = k) || decide (k = 0) || decide (k = 9) && decide (kindR m y < 3)
def pickL (m : List RItem) (ids : List Id) (k : Int) : List Id := ids.filter (pickB m k)
theorem pickL_yes {m : List RItem} {ids : List Id} {k : Int} {i : Nat} (h : i < ids.length) (e : pickB m k ids[i] = true) : pickL m (ids.take (i + 1)) k = pickL m (ids.take i) k ++ [ids[i]] := by
  rw [pickL, pickL, List.take_succ_eq_append_getElem h, List.filter_append]; simp [e]
theorem pickL_no {m : List RItem} {ids : List Id} {k : Int} {i : Nat} (h : i < ids.length) (e : pickB m k ids[i] = false) : pickL m (ids.take (i + 1)) k = pickL m (ids.take i) k := by
  rw [pickL, pickL, List.take_succ_eq_append_getElem h, List.filter_append]; simp [e]
theorem pickL_len (m : List RItem) (ids : List Id) (k : Int) : (pickL m ids k).length ≤ ids.length := List.length_filter_le _ _
def pickR (m : List RItem) (ids : List Id) (n : Nat) (k : Int) : Option Id := (pickL m ids k)[(pickL m ids k).length - 1 - n % (pickL m ids k).length]?
def pickV : Option Id → IV
  | some y => .tup [encId y, .bool true]
  | none => .tup [encId Id.none, .bool false]
def pickE (m : List RItem) (ids : List Id) (n : Nat) (k : Int) (i : Nat) : Env :=
  [(1, .i (.slice (ids.map encId))), (2, .i (.int .i64 (n : Int))), (3, .i (.int .i64 k)), (4, .ptr 4 0), (8, .ptr 8 0), (10, .tok 66 32 ((pickL m (ids.take i) k).map encId)), (11, .i (.int .i64 (i : Int)))]
def pickM (m : List RItem) : Mem := [(4, .var [.i (.slice (m.map encRItem))]), (8, .var ((idC Id.none).map .i)), (66, .tip)]
theorem ref11_pick_ok (m : List RItem) (ids : List Id) (n : Nat) (k : Int) (hm : m.length < 1000000) (hi : ids.length < 1000000) :
    PureC Pg G Fn.ref11_pick [encSt m, .slice (ids.map encId), .int .i64 (n : Int), .int .i64 k] (pickV (pickR m ids n k)) := by
  refine pureC_of T_ok Fd.ref11_pick rfl (by kernel_rfl) ?_
  refine LoopW.tok0 66 rfl rfl (env' := pickE m ids n k 0) (m' := pickM m)
    ⟨⟨_, rfl, .refl _⟩, ⟨_, rfl, .refl _⟩, ⟨_, rfl, .refl _⟩, ⟨_, rfl, .refl _⟩, ⟨_, rfl, .refl _⟩, ⟨_, rfl, .tok 32⟩, ⟨_, rfl, .refl _⟩, trivial⟩
    ⟨.inr ⟨by decide, _, rfl, .refl _⟩, .inr ⟨by decide, _, rfl, .refl _⟩, .inl ⟨rfl, .tip⟩, trivial⟩ ?_
  refine loopX T_ok 0 (S := Nat) (S' := Unit) (fun i => pickE m ids n k i) (fun _ => pickM m) (fun i => ids.length - i) (fun i => i ≤ ids.length)
    (fun _ => pickE m ids n k ids.length) (fun _ => pickM m) (fun _ => True) 0 ⟨rfl, rfl, rfl, rfl, rfl, rfl, rfl, trivial⟩ ⟨rfl, rfl, rfl, trivial⟩ (by omega) ?_ ?_
  · intro i h
    refine condP.split (fun g => ?_) (fun g => ?_)
    · have g' : i < ids.length := by have h : (i : Int) < ((ids.map encId).length : Int) := of_decide_eq_true g; rw [lenI] at h; omega
      refine drawW T_ok (by decide +kernel) ?_
      refine ⟨encId ids[i], ⟨by omega, by simp [g']⟩, ?_⟩
      refine ⟨_, _, ⟨rfl, ref11_Kind_ok m ids[i] hm⟩, ?_⟩
      refine ⟨by kernel_rfl, ?_⟩
      refine condP.split (fun q1 => ?_) (fun q1 => ?_)
      · have q1' : kindR m ids[i] = k := by simpa using q1
        refine ⟨encId ids[i], ⟨by omega, by simp [g']⟩, ?_⟩
        refine ⟨⟨⟨hasSize_id _, fun x hx => by have := List.mem_singleton.1 hx; subst this; exact encId_len _⟩, szOK (by have := pickL_len m (ids.take i) k; simp at *; omega) (by kernel_rfl)⟩, ?_⟩
        refine ⟨i + 1, ⟨by omega, by omega⟩, ⟨rfl, rfl, rfl, rfl, rfl, ?_, congrArg (fun n => some (PV.i (IV.int .i64 n))) (int_succ (by omega)), trivial⟩, ⟨rfl, rfl, rfl, trivial⟩⟩
        rw [pickL_yes g' (by simp [pickB, q1']), List.map_append]; rfl
      · have q1' : ¬ kindR m ids[i] = k := by simpa using q1
        refine condP.split (fun q2 => ?_) (fun q2 => ?_)
        · have q2' : k = 0 := by simpa using q2
          refine ⟨encId ids[i], ⟨by omega, by simp [g']⟩, ?_⟩
          refine ⟨⟨⟨hasSize_id _, fun x hx => by have := List.mem_singleton.1 hx; subst this; exact encId_len _⟩, szOK (by have := pickL_len m (ids.take i) k; simp at *; omega) (by kernel_rfl)⟩, ?_⟩
          refine ⟨i + 1, ⟨by omega, by omega⟩, ⟨rfl, rfl, rfl, rfl, rfl, ?_, congrArg (fun n => some (PV.i (IV.int .i64 n))) (int_succ (by omega)), trivial⟩, ⟨rfl, rfl, rfl, trivial⟩⟩
          rw [pickL_yes g' (by simp [pickB, q2']), List.map_append]; rfl
        · have q2' : ¬ k = 0 := by simpa using q2
          refine condP.split (fun q3 => ?_) (fun q3 => ?_)
          · have q3' : k = 9 := by simpa using q3
            refine condP.split (fun q4 => ?_) (fun q4 => ?_)
            · have q4' : kindR m ids[i] < 3 := by simpa using q4
              refine ⟨encId ids[i], ⟨by omega, by simp [g']⟩, ?_⟩
              refine ⟨⟨⟨hasSize_id _, fun x hx => by have := List.mem_singleton.1 hx; subst this; exact encId_len _⟩, szOK (by have := pickL_len m (ids.take i) k; simp at *; omega) (by kernel_rfl)⟩, ?_⟩
              refine ⟨i + 1, ⟨by omega, by omega⟩, ⟨rfl, rfl, rfl, rfl, rfl, ?_, congrArg (fun n => some (PV.i (IV.int .i64 n))) (int_succ (by omega)), trivial⟩, ⟨rfl, rfl, rfl, trivial⟩⟩
              rw [pickL_yes g' (by simp [pickB, q3', q4']), List.map_append]; rfl
            · have q4' : ¬ kindR m ids[i] < 3 := of_decide_eq_false q4
              refine ⟨i + 1, ⟨by omega, by omega⟩, ⟨rfl, rfl, rfl, rfl, rfl, ?_, congrArg (fun n => some (PV.i (IV.int .i64 n))) (int_succ (by omega)), trivial⟩, ⟨rfl, rfl, rfl, trivial⟩⟩
              rw [pickL_no g' (by simp [pickB, q1', q2', q4'])]; rfl
          · have q3' : ¬ k = 9 := by simpa using q3
            refine ⟨i + 1, ⟨by omega, by omega⟩, ⟨rfl, rfl, rfl, rfl, rfl, ?_, congrArg (fun n => some (PV.i (IV.int .i64 n))) (int_succ (by omega)), trivial⟩, ⟨rfl, rfl, rfl, trivial⟩⟩
            rw [pickL_no g' (by simp [pickB, q1', q2', q3'])]; rfl
    · have g' : i = ids.length := by have h : ¬ (i : Int) < ((ids.map encId).length : Int) := of_decide_eq_false g; rw [lenI] at h; omega
      subst g'
      exact ⟨(), trivial, ⟨rfl, rfl, rfl, rfl, rfl, rfl, rfl, trivial⟩, ⟨rfl, rfl, rfl, trivial⟩⟩
  · intro _ _
    have hlen := pickL_len m ids k
    have hp : pickR m ids n k = (pickL m ids k)[(pickL m ids k).length - 1 - n % (pickL m ids k).length]? := rfl
    have htk : ids.take ids.length = ids := List.take_length
    rw [pickE, htk]
    rw [hp]
    generalize pickL m ids k = L at *
    have hL : ((L.map encId).length : Int) = (L.length : Int) := by simp
    refine condP.split (fun g => ?_) (fun g => ?_)
    · have g' : L = [] := by simpa using g
      subst g'
      rfl
    · have g' : L ≠ [] := by simpa using g
      have hpos : 0 < L.length := List.length_pos_iff.2 g'
      refine ⟨by show ¬ ((L.map encId).length : Int) = 0; omega, ?_⟩
      have hmod : n % L.length < L.length := Nat.mod_lt _ hpos
      have hx : IntKind.i64.wrap (IntKind.i64.wrap (((L.map encId).length : Int) - 1) - (n : Int).tmod ((L.map encId).length : Int)) = ((L.length - 1 - n % L.length : Nat) : Int) := by
        rw [hL, tmod_nat, wrap_i64 (a := (L.length : Int) - 1) (by omega) (by omega), wrap_i64 (by omega) (by omega)]
        omega
      have hlt : L.length - 1 - n % L.length < L.length := by omega
      rw [List.getElem?_eq_getElem hlt]
      refine ⟨encId L[L.length - 1 - n % L.length], ⟨?_, ?_⟩, ?_⟩
      · show (0 : Int) ≤ IntKind.i64.wrap (IntKind.i64.wrap (((L.map encId).length : Int) - 1) - (n : Int).tmod ((L.map encId).length : Int))
        rw [hx]; omega
      · show (L.map encId)[(IntKind.i64.wrap (IntKind.i64.wrap (((L.map encId).length : Int) - 1) - (n : Int).tmod ((L.map encId).length : Int))).toNat]? = _
        rw [hx]; simp [hlt]
      · rfl
theorem fewB_ok {k : Nat} {l : List Seed} (h : fewB k l = true) : l.length ≤ k ∧ ∀ x ∈ l, x.text.length ≤ 300 := by
  simp only [fewB, Bool.and_eq_true, decide_eq_true_eq] at h
  refine ⟨h.2, fun x hx => ?_⟩
  rw [List.take_of_length_le h.2] at h
  have := List.all_eq_true.1 h.1 x hx
  simp only [seedOK, decide_eq_true_eq] at this
  exact this.2
end Go.Kn
set_option maxRecDepth 100000
namespace Go.Kn
open Go Go.Proofs
variable {G : Gl}
def entM (m : List RItem) (ids : List Id) (x : Seed) : Nat → List Entry
  | 0 => []
  | i + 1 => entM m ids x i ++ (match pickR m ids (x.refs.getD i 0).toNat 9 with
    | some y => [⟨nameR i, kindR m y, y⟩]
    | none => [])
def parM (m : List RItem) (ids : List Id) (x : Seed) : Nat → List Id
  | 0 => []
  | i + 1 => parM m ids x i ++ (match pickR m ids (x.refs.getD i 0).toNat 3 with
    | some y => if (parM m ids x i).length = i then [y] else []
    | none => [])
def ofM (m : List RItem) (x : Seed) (y : Id) : Int := if 1 < x.refs.length ∧ x.refs.getD 1 0 = 250 then IntKind.i64.wrap (1 + (kindR m y).tmod 4) else kindR m y
def make1R (m : List RItem) (ids : List Id) (x : Seed) : Obj :=
  if x.kind.toNat % 4 = 1 then { Obj.ofKind 2 with entries := entM m ids x (min x.refs.length 5) }
  else if x.kind.toNat % 4 = 2 then match pickR m ids x.time 2 with
    | none => Obj.ofKind 0
    | some t => { Obj.ofKind 3 with tree := t, time := x.time, text := x.text, parents := parM m ids x (min x.refs.length 4) }
  else if x.kind.toNat % 4 = 3 then if x.refs = [] then Obj.ofKind 0 else match pickR m ids (x.refs.getD 0 0).toNat 0 with
    | none => Obj.ofKind 0
    | some y => { Obj.ofKind 4 with target := y, of := ofM m x y, name := [116] }
  else { Obj.ofKind 1 with data := x.text }
theorem entM_small (m : List RItem) (ids : List Id) (x : Seed) : ∀ i, (entM m ids x i).length ≤ i ∧ ∀ e ∈ entM m ids x i, e.name.length ≤ 1
  | 0 => by simp [entM]
  | i + 1 => by
    obtain ⟨h1, h2⟩ := entM_small m ids x i
    rw [entM]
    cases pickR m ids (x.refs.getD i 0).toNat 9 with
    | none => simp only [List.append_nil]; exact ⟨by omega, h2⟩
    | some y =>
      refine ⟨by simp; omega, fun e he => ?_⟩
      rcases List.mem_append.1 he with he | he
      · exact h2 e he
      · have := List.mem_singleton.1 he; subst this; simp [nameR]
theorem parM_len (m : List RItem) (ids : List Id) (x : Seed) : ∀ i, (parM m ids x i).length ≤ i
  | 0 => by simp [parM]
  | i + 1 => by
    have h1 := parM_len m ids x i
    rw [parM]
    cases pickR m ids (x.refs.getD i 0).toNat 3 with
    | none => simp; omega
    | some y => simp only [List.length_append]; split <;> simp <;> omega
theorem make1R_small (m : List RItem) (ids : List Id) (x : Seed) (h : x.text.length ≤ 300) : Small (make1R m ids x) := by
  unfold make1R
  split
  · have := entM_small m ids x (min x.refs.length 5)
    constructor <;> simp [Obj.ofKind]
    · omega
    · intro e he; have := this.2 e he; omega
  · split
    · split
      · constructor <;> simp [Obj.ofKind]
      · have := parM_len m ids x (min x.refs.length 4)
        have := x.tlt
        constructor <;> simp [Obj.ofKind] <;> omega
    · split
      · split
        · constructor <;> simp [Obj.ofKind]
        · split
          · constructor <;> simp [Obj.ofKind]
          · constructor <;> simp [Obj.ofKind]
      · constructor <;> simp [Obj.ofKind]; omega
def mkE (ids : List Id) (j s : Nat) (i : Nat) : Env := [(1, .i (.slice (ids.map encId))), (3, .ptr 3 0), (5, .ptr 5 0), (6, .ptr 6 0), (j, .ptr j 0), (s, .i (.int .i64 (i : Int)))]
def mkM (m : List RItem) (x : Seed) (j d : Nat) (o : Obj) (es ps : PV) : Mem :=
  [(3, .var [.i (.slice (m.map encRItem))]), (5, .var ((encSeed x).cells.map .i)), (6, .var (objCells (Obj.ofKind 0) (.full []) (.full []))), (j, .var (objCells o es ps)), (d, .tip)]
theorem mE_tok {k : Int} : TLes 67 (objCells (Obj.ofKind k) (.full []) (.full [])) (objCells (Obj.ofKind k) (.tok 67 34 []) (.full [])) :=
  ⟨.refl _, .refl _, .tok 34, TLes.refl _⟩
theorem mP_tok {o : Obj} : TLes 68 (objCells o (.full []) (.full [])) (objCells o (.full []) (.tok 68 32 [])) :=
  ⟨.refl _, .refl _, .refl _, (TLes.refl _).append ⟨.tok 32, TLes.refl _⟩⟩
def comCells (t : Id) (n : Int) (s : List UInt8) : List PV :=
  .i (.int .i64 3) :: .i (.str []) :: .full [] :: ((idC t).map .i ++ .full [] :: .i (.int .u32 n) :: .i (.str s) :: ((idC Id.none).map .i ++ [.i (.int .i64 0), .i (.str [])]))
set_option maxHeartbeats 4000000 in
set_option maxRecDepth 100000 in
theorem ref11_make1_ok (m : List RItem) (ids : List Id) (x : Seed) (hm : m.length < 1000000) (hi : ids.length < 1000000) :
    PureC Pg G Fn.ref11_make1 [encSt m, .slice (ids.map encId), encSeed x] (encObj (make1R m ids x)) := by
  have fin : ∀ o, make1R m ids x = o → some (encObj o) = some (encObj (make1R m ids x)) := fun o h => by rw [h]
  refine pureC_of T_ok Fd.ref11_make1 rfl (by kernel_rfl) ?_
  refine ⟨by decide, ?_⟩
  refine condP.split (fun k1 => ?_) (fun k1 => ?_)
  · have k1' : x.kind.toNat % 4 = 1 := by
      have h : (x.kind.toNat : Int).tmod 4 = 1 := by simpa using k1
      rw [show (x.kind.toNat : Int).tmod 4 = ((x.kind.toNat % 4 : Nat) : Int) from tmod_nat _ 4] at h; omega
    refine LoopW.tok0 67 rfl rfl (env' := mkE ids 7 8 0) (m' := mkM m x 7 67 (Obj.ofKind 2) (.tok 67 34 []) (.full []))
      ⟨⟨_, rfl, .refl _⟩, ⟨_, rfl, .refl _⟩, ⟨_, rfl, .refl _⟩, ⟨_, rfl, .refl _⟩, ⟨_, rfl, .refl _⟩, ⟨_, rfl, .refl _⟩, trivial⟩
      ⟨.inr ⟨by decide, _, rfl, .refl _⟩, .inr ⟨by decide, _, rfl, .refl _⟩, .inr ⟨by decide, _, rfl, .refl _⟩, .inr ⟨by decide, _, rfl, .var _ _ mE_tok⟩, .inl ⟨rfl, .tip⟩, trivial⟩ ?_
    refine loopX T_ok 1 (S := Nat) (S' := Unit) (fun i => mkE ids 7 8 i) (fun i => mkM m x 7 67 (Obj.ofKind 2) (.tok 67 34 ((entM m ids x i).map encEntry)) (.full [])) (fun i => 5 - i) (fun i => i ≤ x.refs.length ∧ i ≤ 5)
      (fun _ => [(6, .ptr 6 0), (7, .ptr 7 0)]) (fun _ => mkM m x 7 67 (Obj.ofKind 2) (.tok 67 34 ((entM m ids x (min x.refs.length 5)).map encEntry)) (.full [])) (fun _ => True) 0 ⟨rfl, rfl, rfl, rfl, rfl, rfl, trivial⟩ ⟨rfl, rfl, rfl, rfl, rfl, trivial⟩ ⟨by omega, by omega⟩ ?_ ?_
    · rintro i ⟨h1, h2⟩
      have hex : ¬ (i < x.refs.length ∧ i < 5) → i = min x.refs.length 5 := by omega
      have hgo : i = min x.refs.length 5 → entM m ids x (min x.refs.length 5) = entM m ids x i := fun e => by rw [← e]
      refine condP.split (fun g => ?_) (fun g => ?_)
      · have g1 : i < x.refs.length := by have h : (i : Int) < ((u8s x.refs).length : Int) := of_decide_eq_true g; rw [lenU] at h; omega
        refine condP.split (fun g2 => ?_) (fun g2 => ?_)
        · have g2' : i < 5 := by have h : (i : Int) < 5 := of_decide_eq_true g2; omega
          have hlt := (x.refs.getD i 0).toNat_lt
          have hw : IntKind.i64.wrap ((x.refs.getD i 0).toNat : Int) = ((x.refs.getD i 0).toNat : Int) := wrap_i64 (by omega) (by omega)
          have hpk := ref11_pick_ok (G := G) m ids (x.refs.getD i 0).toNat 9 hm hi
          have he : entM m ids x (i + 1) = entM m ids x i ++ (match pickR m ids (x.refs.getD i 0).toNat 9 with
            | some y => [⟨nameR i, kindR m y, y⟩]
            | none => []) := rfl
          have hsm := (entM_small m ids x i).1
          generalize entM m ids x i = es at *
          cases hp : pickR m ids (x.refs.getD i 0).toNat 9 with
          | none =>
            rw [hp] at hpk he
            refine drawW T_ok (by decide +kernel) ?_
            refine ⟨.int .u8 ((x.refs.getD i 0).toNat : Int), ⟨by omega, by simp [u8s, g1]⟩, ?_⟩
            refine ⟨_, _, ⟨congrArg (fun n => [encSt m, .slice (ids.map encId), .int .i64 n, .int .i64 9]) hw, hpk⟩, ?_⟩
            refine ⟨by kernel_rfl, ?_⟩
            refine ⟨i + 1, ⟨by omega, by omega, by omega⟩, ⟨rfl, rfl, rfl, rfl, rfl, congrArg (fun n => some (PV.i (IV.int .i64 n))) (int_succ (by omega)), trivial⟩, ⟨rfl, rfl, rfl, ?_, rfl, trivial⟩⟩
            rw [he, List.append_nil]; rfl
          | some y =>
            rw [hp] at hpk he
            refine drawW T_ok (by decide +kernel) ?_
            refine ⟨.int .u8 ((x.refs.getD i 0).toNat : Int), ⟨by omega, by simp [u8s, g1]⟩, ?_⟩
            refine ⟨_, _, ⟨congrArg (fun n => [encSt m, .slice (ids.map encId), .int .i64 n, .int .i64 9]) hw, hpk⟩, ?_⟩
            refine ⟨by kernel_rfl, ?_⟩
            refine drawW T_ok (by decide +kernel) ?_
            refine ⟨_, _, ⟨rfl, ref11_name_ok i (by omega)⟩, ?_⟩
            refine ⟨_, _, ⟨rfl, ref11_Kind_ok m y hm⟩, ?_⟩
            refine ⟨⟨⟨hasSize_ent _, fun x hx => by have := List.mem_singleton.1 hx; subst this; rfl⟩, szOK (by simp; omega) (by kernel_rfl)⟩, ?_⟩
            refine ⟨by kernel_rfl, ?_⟩
            refine ⟨i + 1, ⟨by omega, by omega, by omega⟩, ⟨rfl, rfl, rfl, rfl, rfl, congrArg (fun n => some (PV.i (IV.int .i64 n))) (int_succ (by omega)), trivial⟩, ⟨rfl, rfl, rfl, ?_, rfl, trivial⟩⟩
            rw [he, List.map_append]; rfl
        · have g2' : ¬ (i : Int) < 5 := of_decide_eq_false g2
          rw [hgo (hex (by omega))]
          exact ⟨(), trivial, ⟨rfl, rfl, trivial⟩, ⟨rfl, rfl, rfl, rfl, rfl, trivial⟩⟩
      · have g' : ¬ (i : Int) < ((u8s x.refs).length : Int) := of_decide_eq_false g
        rw [lenU] at g'
        rw [hgo (hex (by omega))]
        exact ⟨(), trivial, ⟨rfl, rfl, trivial⟩, ⟨rfl, rfl, rfl, rfl, rfl, trivial⟩⟩
    · intro _ _
      exact fin { Obj.ofKind 2 with entries := entM m ids x (min x.refs.length 5) } (by rw [make1R, if_pos k1'])
  · have k1' : ¬ x.kind.toNat % 4 = 1 := by
      have h : ¬ (x.kind.toNat : Int).tmod 4 = 1 := by simpa using k1
      rw [show (x.kind.toNat : Int).tmod 4 = ((x.kind.toNat % 4 : Nat) : Int) from tmod_nat _ 4] at h; omega
    refine condP.split (fun k2 => ?_) (fun k2 => ?_)
    · have k2' : x.kind.toNat % 4 = 2 := by
        have h : (x.kind.toNat : Int).tmod 4 = 2 := by simpa using k2
        rw [show (x.kind.toNat : Int).tmod 4 = ((x.kind.toNat % 4 : Nat) : Int) from tmod_nat _ 4] at h; omega
      have htl := x.tlt
      have hwt : IntKind.i64.wrap (x.time : Int) = (x.time : Int) := wrap_i64 (by omega) (by omega)
      have hwu : IntKind.u32.wrap (x.time : Int) = (x.time : Int) := wrap_u32 (by omega) (by omega)
      have hpk := ref11_pick_ok (G := G) m ids x.time 2 hm hi
      refine ⟨_, _, _, pureCall hpk (congrArg (fun n => some [encSt m, .slice (ids.map encId), .int .i64 n, .int .i64 2]) hwt), ?_⟩
      cases hp : pickR m ids x.time 2 with
      | none => exact fin (Obj.ofKind 0) (by rw [make1R, if_neg k1', if_pos k2', hp])
      | some t =>
        have hcc : some (MO.var (comCells t (IntKind.u32.wrap (x.time : Int)) x.text)) = some (MO.var (objCells { Obj.ofKind 3 with tree := t, time := x.time, text := x.text } (.full []) (.full []))) := by
          rw [hwu]; rfl
        refine LoopW.tok0 68 rfl rfl (env' := mkE ids 13 14 0) (m' := mkM m x 13 68 { Obj.ofKind 3 with tree := t, time := x.time, text := x.text } (.full []) (.tok 68 32 []))
          ⟨⟨_, rfl, .refl _⟩, ⟨_, rfl, .refl _⟩, ⟨_, rfl, .refl _⟩, ⟨_, rfl, .refl _⟩, ⟨_, rfl, .refl _⟩, ⟨_, rfl, .refl _⟩, trivial⟩
          ⟨.inr ⟨by decide, _, rfl, .refl _⟩, .inr ⟨by decide, _, rfl, .refl _⟩, .inr ⟨by decide, _, rfl, .refl _⟩, .inr ⟨by decide, .var (objCells { Obj.ofKind 3 with tree := t, time := x.time, text := x.text } (.full []) (.full [])), hcc, .var _ _ mP_tok⟩, .inl ⟨rfl, .tip⟩, trivial⟩ ?_
        refine loopX T_ok 3 (S := Nat) (S' := Unit) (fun i => mkE ids 13 14 i) (fun i => mkM m x 13 68 { Obj.ofKind 3 with tree := t, time := x.time, text := x.text } (.full []) (.tok 68 32 ((parM m ids x i).map encId))) (fun i => 4 - i) (fun i => i ≤ x.refs.length ∧ i ≤ 4)
          (fun _ => [(6, .ptr 6 0), (13, .ptr 13 0)]) (fun _ => mkM m x 13 68 { Obj.ofKind 3 with tree := t, time := x.time, text := x.text } (.full []) (.tok 68 32 ((parM m ids x (min x.refs.length 4)).map encId))) (fun _ => True) 0 ⟨rfl, rfl, rfl, rfl, rfl, rfl, trivial⟩ ⟨rfl, rfl, rfl, rfl, rfl, trivial⟩ ⟨by omega, by omega⟩ ?_ ?_
        · rintro i ⟨h1, h2⟩
          have hex : ¬ (i < x.refs.length ∧ i < 4) → i = min x.refs.length 4 := by omega
          have hgo : i = min x.refs.length 4 → parM m ids x (min x.refs.length 4) = parM m ids x i := fun e => by rw [← e]
          refine condP.split (fun g => ?_) (fun g => ?_)
          · have g1 : i < x.refs.length := by have h : (i : Int) < ((u8s x.refs).length : Int) := of_decide_eq_true g; rw [lenU] at h; omega
            refine condP.split (fun g2 => ?_) (fun g2 => ?_)
            · have g2' : i < 4 := by have h : (i : Int) < 4 := of_decide_eq_true g2; omega
              have hlt := (x.refs.getD i 0).toNat_lt
              have hw : IntKind.i64.wrap ((x.refs.getD i 0).toNat : Int) = ((x.refs.getD i 0).toNat : Int) := wrap_i64 (by omega) (by omega)
              have hpk := ref11_pick_ok (G := G) m ids (x.refs.getD i 0).toNat 3 hm hi
              have he : parM m ids x (i + 1) = parM m ids x i ++ (match pickR m ids (x.refs.getD i 0).toNat 3 with
                | some y => if (parM m ids x i).length = i then [y] else []
                | none => []) := rfl
              have hsm := parM_len m ids x i
              generalize parM m ids x i = ps at *
              cases hp : pickR m ids (x.refs.getD i 0).toNat 3 with
              | none =>
                rw [hp] at hpk he
                refine drawW T_ok (by decide +kernel) ?_
                refine ⟨.int .u8 ((x.refs.getD i 0).toNat : Int), ⟨by omega, by simp [u8s, g1]⟩, ?_⟩
                refine ⟨_, _, ⟨congrArg (fun n => [encSt m, .slice (ids.map encId), .int .i64 n, .int .i64 3]) hw, hpk⟩, ?_⟩
                refine ⟨by kernel_rfl, ?_⟩
                refine ⟨i + 1, ⟨by omega, by omega, by omega⟩, ⟨rfl, rfl, rfl, rfl, rfl, congrArg (fun n => some (PV.i (IV.int .i64 n))) (int_succ (by omega)), trivial⟩, ⟨rfl, rfl, rfl, ?_, rfl, trivial⟩⟩
                rw [he, List.append_nil]; rfl
              | some y =>
                rw [hp] at hpk he
                refine drawW T_ok (by decide +kernel) ?_
                refine ⟨.int .u8 ((x.refs.getD i 0).toNat : Int), ⟨by omega, by simp [u8s, g1]⟩, ?_⟩
                refine ⟨_, _, ⟨congrArg (fun n => [encSt m, .slice (ids.map encId), .int .i64 n, .int .i64 3]) hw, hpk⟩, ?_⟩
                refine ⟨by kernel_rfl, ?_⟩
                have hL : ((ps.map encId).length : Int) = (ps.length : Int) := by simp
                refine condP.split (fun g3 => ?_) (fun g3 => ?_)
                · have g3' : ps.length = i := by
                    have h : ((ps.map encId).length : Int) = (i : Int) := by simpa using g3
                    rw [hL] at h; omega
                  simp only [g3', if_true] at he
                  refine ⟨⟨⟨hasSize_id _, fun x hx => by have := List.mem_singleton.1 hx; subst this; exact encId_len _⟩, szOK (by simp; omega) (by kernel_rfl)⟩, ?_⟩
                  refine ⟨i + 1, ⟨by omega, by omega, by omega⟩, ⟨rfl, rfl, rfl, rfl, rfl, congrArg (fun n => some (PV.i (IV.int .i64 n))) (int_succ (by omega)), trivial⟩, ⟨rfl, rfl, rfl, ?_, rfl, trivial⟩⟩
                  rw [he, List.map_append]; rfl
                · have g3' : ¬ ps.length = i := by
                    have h : ¬ ((ps.map encId).length : Int) = (i : Int) := by simpa using g3
                    rw [hL] at h; omega
                  simp only [g3', if_false, List.append_nil] at he
                  refine ⟨i + 1, ⟨by omega, by omega, by omega⟩, ⟨rfl, rfl, rfl, rfl, rfl, congrArg (fun n => some (PV.i (IV.int .i64 n))) (int_succ (by omega)), trivial⟩, ⟨rfl, rfl, rfl, ?_, rfl, trivial⟩⟩
                  rw [he]; rfl
            · have g2' : ¬ (i : Int) < 4 := of_decide_eq_false g2
              rw [hgo (hex (by omega))]
              exact ⟨(), trivial, ⟨rfl, rfl, trivial⟩, ⟨rfl, rfl, rfl, rfl, rfl, trivial⟩⟩
          · have g' : ¬ (i : Int) < ((u8s x.refs).length : Int) := of_decide_eq_false g
            rw [lenU] at g'
            rw [hgo (hex (by omega))]
            exact ⟨(), trivial, ⟨rfl, rfl, trivial⟩, ⟨rfl, rfl, rfl, rfl, rfl, trivial⟩⟩
        · intro _ _
          exact fin { Obj.ofKind 3 with tree := t, time := x.time, text := x.text, parents := parM m ids x (min x.refs.length 4) } (by rw [make1R, if_neg k1', if_pos k2', hp])
    · have k2' : ¬ x.kind.toNat % 4 = 2 := by
        have h : ¬ (x.kind.toNat : Int).tmod 4 = 2 := by simpa using k2
        rw [show (x.kind.toNat : Int).tmod 4 = ((x.kind.toNat % 4 : Nat) : Int) from tmod_nat _ 4] at h; omega
      refine condP.split (fun k3 => ?_) (fun k3 => ?_)
      · have k3' : x.kind.toNat % 4 = 3 := by
          have h : (x.kind.toNat : Int).tmod 4 = 3 := by simpa using k3
          rw [show (x.kind.toNat : Int).tmod 4 = ((x.kind.toNat % 4 : Nat) : Int) from tmod_nat _ 4] at h; omega
        refine condP.split (fun k4 => ?_) (fun k4 => ?_)
        · have k4' : x.refs = [] := by simpa [u8s] using k4
          exact fin (Obj.ofKind 0) (by rw [make1R, if_neg k1', if_neg k2', if_pos k3', if_pos k4'])
        · have k4' : x.refs ≠ [] := by simpa [u8s] using k4
          have hpos : 0 < x.refs.length := List.length_pos_iff.2 k4'
          have hlt := (x.refs.getD 0 0).toNat_lt
          have hw : IntKind.i64.wrap ((x.refs.getD 0 0).toNat : Int) = ((x.refs.getD 0 0).toNat : Int) := wrap_i64 (by omega) (by omega)
          have hpk := ref11_pick_ok (G := G) m ids (x.refs.getD 0 0).toNat 0 hm hi
          cases hp : pickR m ids (x.refs.getD 0 0).toNat 0 with
          | none =>
            rw [hp] at hpk
            refine drawW T_ok (by decide +kernel) ?_
            refine ⟨.int .u8 ((x.refs.getD 0 0).toNat : Int), ⟨by omega, by simp [u8s, hpos]⟩, ?_⟩
            refine ⟨_, _, ⟨congrArg (fun n => [encSt m, .slice (ids.map encId), .int .i64 n, .int .i64 0]) hw, hpk⟩, ?_⟩
            refine ⟨by kernel_rfl, ?_⟩
            exact fin (Obj.ofKind 0) (by rw [make1R, if_neg k1', if_neg k2', if_pos k3', if_neg k4', hp])
          | some y =>
            rw [hp] at hpk
            have hR : make1R m ids x = { Obj.ofKind 4 with target := y, of := ofM m x y, name := [116] } := by rw [make1R, if_neg k1', if_neg k2', if_pos k3', if_neg k4', hp]
            refine drawW T_ok (by decide +kernel) ?_
            refine ⟨.int .u8 ((x.refs.getD 0 0).toNat : Int), ⟨by omega, by simp [u8s, hpos]⟩, ?_⟩
            refine ⟨_, _, ⟨congrArg (fun n => [encSt m, .slice (ids.map encId), .int .i64 n, .int .i64 0]) hw, hpk⟩, ?_⟩
            refine ⟨by kernel_rfl, ?_⟩
            refine ⟨_, _, _, pureCall (ref11_Kind_ok m y hm) rfl, ?_⟩
            refine condP.split (fun g => ?_) (fun g => ?_)
            · have g' : 1 < x.refs.length := by have h : ((u8s x.refs).length : Int) > 1 := of_decide_eq_true g; rw [lenU] at h; omega
              refine ⟨.int .u8 ((x.refs.getD 1 0).toNat : Int), ⟨by omega, by simp [u8s, g']⟩, ?_⟩
              refine condP.split (fun g2 => ?_) (fun g2 => ?_)
              · have g2' : x.refs.getD 1 0 = 250 := by
                  have h : ((x.refs.getD 1 0).toNat : Int) = 250 := by simpa using g2
                  exact UInt8.toNat_inj.1 (by show _ = 250; omega)
                refine ⟨by decide, ?_⟩
                exact fin { Obj.ofKind 4 with target := y, of := IntKind.i64.wrap (1 + (kindR m y).tmod 4), name := [116] } (by rw [hR, ofM, if_pos ⟨g', g2'⟩])
              · have g2' : x.refs.getD 1 0 ≠ 250 := by
                  intro e
                  have h : ¬ ((x.refs.getD 1 0).toNat : Int) = 250 := by simpa using g2
                  rw [e] at h; exact h rfl
                exact fin { Obj.ofKind 4 with target := y, of := kindR m y, name := [116] } (by rw [hR, ofM, if_neg fun e => g2' e.2])
            · have g' : ¬ 1 < x.refs.length := by have h : ¬ ((u8s x.refs).length : Int) > 1 := of_decide_eq_false g; rw [lenU] at h; omega
              exact fin { Obj.ofKind 4 with target := y, of := kindR m y, name := [116] } (by rw [hR, ofM, if_neg fun e => g' e.1])
      · have k3' : ¬ x.kind.toNat % 4 = 3 := by
          have h : ¬ (x.kind.toNat : Int).tmod 4 = 3 := by simpa using k3
          rw [show (x.kind.toNat : Int).tmod 4 = ((x.kind.toNat % 4 : Nat) : Int) from tmod_nat _ 4] at h; omega
        exact fin { Obj.ofKind 1 with data := x.text } (by rw [make1R, if_neg k1', if_neg k2', if_neg k3'])
end Go.Kn
set_option maxRecDepth 100000
namespace Go.Kn
open Go Go.Proofs
variable {G : Gl}
def growS (s : List RItem × List Id) (x : Seed) : List RItem × List Id :=
  match encodeR (make1R s.1 s.2 x) with
  | none => s
  | some t => if (withR s.1 t).2.2 then ((withR s.1 t).1, s.2 ++ [(withR s.1 t).2.1]) else s
def growR (l : List Seed) : List RItem × List Id := l.foldl growS ([], [])
theorem growR_succ {l : List Seed} {i : Nat} (h : i < l.length) : growR (l.take (i + 1)) = growS (growR (l.take i)) l[i] := by
  rw [growR, growR, List.take_succ_eq_append_getElem h, List.foldl_append]; rfl
theorem encodeR_len {o : Obj} {t : List UInt8} (h : encodeR o = some t) : t.length ≤ 4096 := by
  unfold encodeR at h
  split at h
  · cases h
  · split at h
    · cases h
    · cases h; omega
theorem withR_len (m : List RItem) (t : List UInt8) : (withR m t).1.length ≤ m.length + 1 := by
  unfold withR
  cases decodeR t with
  | none => simp
  | some o =>
    simp only
    split
    · simp
    · have := wAt_le m (sha t)
      simp [insR]; omega
theorem growS_len (s : List RItem × List Id) (x : Seed) : (growS s x).1.length ≤ s.1.length + 1 ∧ (growS s x).2.length ≤ s.2.length + 1 := by
  unfold growS
  split
  · omega
  · split
    · exact ⟨withR_len _ _, by simp⟩
    · omega
theorem growR_len (l : List Seed) : ∀ i, i ≤ l.length → (growR (l.take i)).1.length ≤ i ∧ (growR (l.take i)).2.length ≤ i
  | 0, _ => by simp [growR]
  | i + 1, h => by
    have h1 := growR_len l i (by omega)
    rw [growR_succ (by omega)]
    have := growS_len (growR (l.take i)) l[i]
    omega
theorem growS_corr (H : SameDec) {s : List RItem × List Id} (h : Corr s.1) (x : Seed) : Corr (growS s x).1 := by
  unfold growS
  split
  · exact h
  · rename_i t e
    split
    · exact (put_corr H h (by have := encodeR_len e; omega)).1
    · exact h
theorem growR_corr (H : SameDec) (l : List Seed) : Corr (growR l).1 := by
  have : ∀ s : List RItem × List Id, Corr s.1 → Corr (l.foldl growS s).1 := by
    induction l with
    | nil => exact fun s h => h
    | cons x l ih => exact fun s h => ih _ (growS_corr H h x)
  exact this _ Corr.nil
def grE (l : List Seed) (s : List RItem × List Id) (i : Nat) : Env := [(0, .i (.slice (l.map encSeed))), (2, .ptr 2 0), (4, .ptr 4 0), (5, .tok 69 32 (s.2.map encId)), (6, .i (.int .i64 (i : Int)))]
def grM (s : List RItem × List Id) : Mem := [(2, .var [.full []]), (4, .var [.i (.slice (s.1.map encRItem))]), (69, .tip)]
set_option maxHeartbeats 1000000 in
set_option maxRecDepth 100000 in
theorem ref11_Grow_ok (l : List Seed) (hl : l.length ≤ 100) (ht : ∀ x ∈ l, x.text.length ≤ 300) :
    PureC Pg G Fn.ref11_Grow [.slice (l.map encSeed)] (.tup [encSt (growR l).1, .slice ((growR l).2.map encId)]) := by
  refine pureC_of T_ok Fd.ref11_Grow rfl (by kernel_rfl) ?_
  refine LoopW.tok0 69 rfl rfl (env' := grE l ([], []) 0) (m' := grM ([], []))
    ⟨⟨_, rfl, .refl _⟩, ⟨_, rfl, .refl _⟩, ⟨_, rfl, .refl _⟩, ⟨_, rfl, .tok 32⟩, ⟨_, rfl, .refl _⟩, trivial⟩
    ⟨.inr ⟨by decide, _, rfl, .refl _⟩, .inr ⟨by decide, _, rfl, .var _ _ ⟨.le _ _ (.full _), rfl⟩⟩, .inl ⟨rfl, .tip⟩, trivial⟩ ?_
  refine loopX T_ok 0 (S := Nat) (S' := Unit) (fun i => grE l (growR (l.take i)) i) (fun i => grM (growR (l.take i))) (fun i => l.length - i) (fun i => i ≤ l.length)
    (fun _ => grE l (growR l) l.length) (fun _ => grM (growR l)) (fun _ => True) 0 ⟨rfl, rfl, rfl, rfl, rfl, trivial⟩ ⟨rfl, rfl, rfl, trivial⟩ (by omega) ?_ ?_
  · intro i hi
    refine condP.split (fun g => ?_) (fun g => ?_)
    · have g' : i < l.length := by have h : (i : Int) < ((l.map encSeed).length : Int) := of_decide_eq_true g; rw [lenS] at h; omega
      obtain ⟨hm, hd⟩ := growR_len l i hi
      have hs := growR_succ g'
      have hx : l[i].text.length ≤ 300 := ht _ (List.getElem_mem g')
      generalize growR (l.take i) = s at *
      have hmk := ref11_make1_ok (G := G) s.1 s.2 l[i] (by omega) (by omega)
      have hsm := make1R_small s.1 s.2 l[i] hx
      have hen := ref04_Encode_ok (G := G) _ hsm
      have hgs : growS s l[i] = match encodeR (make1R s.1 s.2 l[i]) with
        | none => s
        | some t => if (withR s.1 t).2.2 then ((withR s.1 t).1, s.2 ++ [(withR s.1 t).2.1]) else s := rfl
      rw [hgs] at hs
      generalize make1R s.1 s.2 l[i] = o at *
      cases he : encodeR o with
      | none =>
        rw [he] at hs hen
        refine drawW T_ok (by decide +kernel) ?_
        refine ⟨encSeed l[i], ⟨by omega, by simp [g']⟩, ?_⟩
        refine ⟨_, _, ⟨rfl, hmk⟩, ?_⟩
        refine ⟨_, _, ⟨rfl, hen⟩, ?_⟩
        refine ⟨by kernel_rfl, ?_⟩
        refine ⟨i + 1, ⟨by omega, by omega⟩, ⟨rfl, rfl, rfl, ?_, congrArg (fun n => some (PV.i (IV.int .i64 n))) (int_succ (by omega)), trivial⟩, ⟨rfl, ?_, rfl, trivial⟩⟩
        · rw [hs]; rfl
        · rw [hs]; rfl
      | some t =>
        have htl := encodeR_len he
        rw [he] at hs hen
        have hw := ref11_With_ok (G := G) s.1 t (by omega) (by omega)
        refine drawW T_ok (by decide +kernel) ?_
        refine ⟨encSeed l[i], ⟨by omega, by simp [g']⟩, ?_⟩
        refine ⟨_, _, ⟨rfl, hmk⟩, ?_⟩
        refine ⟨_, _, ⟨rfl, hen⟩, ?_⟩
        refine ⟨by kernel_rfl, ?_⟩
        refine ⟨_, _, _, pureCall hw rfl, ?_⟩
        simp only at hs
        generalize withR s.1 t = r at *
        obtain ⟨m2, y, ok⟩ := r
        cases ok with
        | false =>
          refine ⟨i + 1, ⟨by omega, by omega⟩, ⟨rfl, rfl, rfl, ?_, congrArg (fun n => some (PV.i (IV.int .i64 n))) (int_succ (by omega)), trivial⟩, ⟨rfl, ?_, rfl, trivial⟩⟩
          · rw [hs]; rfl
          · rw [hs]; rfl
        | true =>
          refine ⟨⟨⟨hasSize_id _, fun x hx => by have := List.mem_singleton.1 hx; subst this; exact encId_len _⟩, szOK (by simp; omega) (by kernel_rfl)⟩, ?_⟩
          refine ⟨i + 1, ⟨by omega, by omega⟩, ⟨rfl, rfl, rfl, ?_, congrArg (fun n => some (PV.i (IV.int .i64 n))) (int_succ (by omega)), trivial⟩, ⟨rfl, ?_, rfl, trivial⟩⟩
          · rw [hs]
            show _ = some (PV.tok 69 32 ((s.2 ++ [y]).map encId))
            rw [List.map_append]; rfl
          · rw [hs]; rfl
    · have g' : i = l.length := by have h : ¬ (i : Int) < ((l.map encSeed).length : Int) := of_decide_eq_false g; rw [lenS] at h; omega
      subst g'
      rw [List.take_length]
      exact ⟨(), trivial, ⟨rfl, rfl, rfl, rfl, rfl, trivial⟩, ⟨rfl, rfl, rfl, trivial⟩⟩
  · intro _ _
    rfl
end Go.Kn
set_option maxRecDepth 100000
namespace Go.Kn
open Go Go.Proofs
variable {G : Gl}
theorem Corr.get {m : List RItem} (h : Corr m) {i : Nat} (hi : i < m.length) : m[i].ok := h.ok _ (List.getElem_mem hi)
theorem Corr.lt {m : List RItem} (h : Corr m) {i j : Nat} (hij : i < j) (hj : j < m.length) : m[i].id.key < m[j].id.key :=
  h.rising.get hij (a := toItem m[i]) (b := toItem m[j]) (by rw [List.getElem?_map, List.getElem?_eq_getElem (by omega)]; rfl) (by rw [List.getElem?_map, List.getElem?_eq_getElem hj]; rfl)
theorem hasI_false {l : List Item} {y : Id} (h : ∀ a ∈ l, a.id ≠ y) : hasI l y = false := by
  rw [hasI, List.any_eq_false]
  intro a ha
  simpa using h a ha
theorem dec_ok (H : SameDec) {x : RItem} (hx : x.ok) : decodeP x.text = some x.o := by
  rw [H _ (by have := hx.len; omega)]; exact hx.dec
theorem put_next (H : SameDec) {m : List RItem} (h : Corr m) {i : Nat} (hi : i < m.length) : putL ((m.take i).map toItem) m[i].text = (m.take (i + 1)).map toItem := by
  have hlt : ∀ a ∈ (m.take i).map toItem, a.id.key < m[i].id.key := by
    intro a ha
    obtain ⟨b, hb, rfl⟩ := List.mem_map.1 ha
    obtain ⟨k, hk, rfl⟩ := List.getElem_of_mem hb
    rw [List.getElem_take]
    have : k < i := by simp at hk; omega
    exact h.lt this hi
  rw [putL, dec_ok H (h.get hi)]
  simp only
  rw [← (h.get hi).id, hasI_false fun a ha e => by have := hlt a ha; rw [e] at this; omega]
  have hlow : lowI ((m.take i).map toItem) m[i].id = i := lowI_eq (by simp; omega) (fun k x _ e => hlt x (List.mem_of_getElem? e)) (fun k x hk e => by
    have := (List.getElem?_eq_some_iff.1 e).1
    simp at this; omega)
  simp only [Bool.false_eq_true, if_false, insI, hlow]
  rw [List.take_succ_eq_append_getElem hi, List.map_append, List.take_of_length_le (by simp; omega), List.drop_of_length_le (by simp; omega)]
  rfl
theorem put_prev (H : SameDec) {m : List RItem} (h : Corr m) {i : Nat} (hi : i < m.length) : putL ((m.drop (i + 1)).map toItem) m[i].text = (m.drop i).map toItem := by
  have hlt : ∀ a ∈ (m.drop (i + 1)).map toItem, m[i].id.key < a.id.key := by
    intro a ha
    obtain ⟨b, hb, rfl⟩ := List.mem_map.1 ha
    obtain ⟨k, hk, rfl⟩ := List.getElem_of_mem hb
    rw [List.getElem_drop]
    exact h.lt (by omega) (by simp at hk; omega)
  rw [putL, dec_ok H (h.get hi)]
  simp only
  rw [← (h.get hi).id, hasI_false fun a ha e => by have := hlt a ha; rw [e] at this; omega]
  have hlow : lowI ((m.drop (i + 1)).map toItem) m[i].id = 0 := lowI_eq (by omega) (fun k x hk _ => by omega) (fun k x _ e => Nat.le_of_lt (hlt x (List.mem_of_getElem? e)))
  simp only [Bool.false_eq_true, if_false, insI, hlow]
  rw [List.drop_eq_getElem_cons hi]
  rfl
theorem put_id (H : SameDec) {x : RItem} (hx : x.ok) : putV x.text = .tup [encId x.id, .int .i64 0] := by
  rw [putV, dec_ok H hx, hx.id]
theorem rising_take {m : List RItem} (h : Corr m) (i : Nat) : Rising ((m.take i).map toItem) := by
  have := h.rising
  rw [Rising] at *
  rw [List.map_take]; exact List.Pairwise.sublist (List.take_sublist _ _) this
theorem rising_drop {m : List RItem} (h : Corr m) (i : Nat) : Rising ((m.drop i).map toItem) := by
  have := h.rising
  rw [Rising] at *
  rw [List.map_drop]; exact List.Pairwise.sublist (List.drop_sublist _ _) this
def s2M (l : List Item) : Mem := [(500, .var [.vec 501 33 0 l.length]), (501, .vec 33 (itemsP l) none)]
def ofM' (m : List RItem) (i : Nat) : Mem := (1, .var [.i (.slice (m.map encRItem))]) :: s2M ((m.take i).map toItem)
set_option maxRecDepth 100000 in
theorem law11_Of_ok (H : SameDec) (m : List RItem) (h : Corr m) (hl : m.length < 10000) : Body Pg Fn.law11_Of ∧ AC Pg G0 Fn.law11_Of [.i (encSt m)] [] (.ptr 1000 0) (stM (m.map toItem)) := by
  refine acW_of T_ok Fd.law11_Of rfl (by kernel_rfl) ?_
  refine CW.next T_ok ?_
  refine CW.next T_ok ?_
  refine ⟨_, _, _, lendCall (args := []) (ρ := [(1000, 500), (1001, 501)]) (new_ok (G := G0)).1 new_ok.2 rfl (MemL.as trivial rfl) rfl, ?_⟩
  refine CW.next T_ok ?_
  refine ⟨_, eqPtrNil 500 0, ?_⟩
  refine CW.go T_ok ?_
  refine loopX T_ok 0 (S := Nat) (S' := Unit) (fun i => [(1, .ptr 1 0), (3, .ptr 500 0), (4, .i (.int .i64 (i : Int)))]) (fun i => ofM' m i) (fun i => m.length - i) (fun i => i ≤ m.length)
    (fun _ => [(3, .ptr 500 0)]) (fun _ => s2M (m.map toItem)) (fun _ => True) 0 ⟨rfl, rfl, rfl, trivial⟩ ⟨rfl, rfl, rfl, trivial⟩ (by omega) ?_ ?_
  · intro i hi
    refine condP.split (fun g => ?_) (fun g => ?_)
    · have g' : i < m.length := by have h : (i : Int) < ((m.map encRItem).length : Int) := of_decide_eq_true g; rw [lenR] at h; omega
      refine ⟨encRItem m[i], ⟨by omega, by simp [g']⟩, ?_⟩
      have hput := put_ok ((m.take i).map toItem) m[i].text (rising_take h i) (by simp; omega) (by have := (h.get g').len; omega)
      rw [put_next H h g', put_id H (h.get g')] at hput
      refine ⟨_, _, _, lendCall (ρ := [(1000, 500), (1001, 501)]) hput.1 hput.2 ⟨rfl, rfl, rfl⟩ (stAs rfl rfl rfl) rfl, ?_⟩
      refine drawW T_ok (by decide +kernel) ?_
      refine ⟨encRItem m[i], ⟨by omega, by simp [g']⟩, ?_⟩
      refine ⟨_, eqId m[i].id m[i].id, ?_⟩
      refine ⟨by kernel_rfl, ?_⟩
      rw [decide_eq_true rfl]
      exact ⟨i + 1, ⟨by omega, by omega⟩, ⟨rfl, rfl, congrArg (fun n => some (PV.i (IV.int .i64 n))) (int_succ (by omega)), trivial⟩, ⟨rfl, rfl, rfl, trivial⟩⟩
    · have g' : i = m.length := by have h : ¬ (i : Int) < ((m.map encRItem).length : Int) := of_decide_eq_false g; rw [lenR] at h; omega
      subst g'
      rw [ofM', List.take_length]
      exact ⟨(), trivial, ⟨rfl, trivial⟩, ⟨rfl, rfl, trivial⟩⟩
  · intro _ _
    exact ⟨[(1000, 500), (1001, 501)], [], ⟨trivial, rfl, MemL.as ⟨⟨_, rfl, MLe.refl _⟩, ⟨_, rfl, MLe.vecEq rfl⟩, trivial⟩ rfl, rfl⟩⟩
end Go.Kn
set_option maxRecDepth 100000
namespace Go.Kn
open Go Go.Proofs
variable {G : Gl}
structure Hist where
  seeds : List Seed
  out : List UInt8
  frm : List UInt8
  cut : List UInt8
def encHist (h : Hist) : IV := .agg [.slice (h.seeds.map encSeed), .slice (u8s h.out), .slice (u8s h.frm), .slice (u8s h.cut)]
def idB (b : UInt8) : Id := ⟨b :: List.replicate 31 0, by simp⟩
def idAt (all : List Id) (b : UInt8) : Id := if all = [] ∨ 200 ≤ b.toNat then idB b else gt0 all (all.length - 1 - b.toNat % all.length)
def idsL (all : List Id) (l : List UInt8) : List Id := l.map (idAt all)
def laE (all out : List Id) (l : List UInt8) (i : Nat) : Env := [(0, .i (.slice (all.map encId))), (1, .i (.slice (u8s l))), (5, .tok 900 32 (out.map encId)), (6, .i (.int .i64 (i : Int)))]
theorem u8_wrap (b : UInt8) : IntKind.i64.wrap (b.toNat : Int) = (b.toNat : Int) := by have := b.toNat_lt; rw [wrap_i64 (by omega) (by omega)]
theorem idB_enc (b : UInt8) : encId (idB b) = .agg (.int .u8 (b.toNat : Int) :: List.replicate 31 (.int .u8 0)) := rfl
theorem law12_Ids_ok (all : List Id) (l : List UInt8) (ha : all.length < 1000000) (hl : l.length < 1000000) : PureC Pg G Fn.law12_Ids [.slice (all.map encId), .slice (u8s l)] (.slice ((idsL all l).map encId)) := by
  refine pureC_of T_ok Fd.law12_Ids rfl (by kernel_rfl) ?_
  refine LoopW.tok0 900 rfl rfl (env' := laE all [] l 0) (m' := [(900, .tip)]) ⟨⟨_, rfl, .refl _⟩, ⟨_, rfl, .refl _⟩, ⟨_, rfl, .tok 32⟩, ⟨_, rfl, .refl _⟩, trivial⟩ ⟨.inl ⟨rfl, .tip⟩, trivial⟩ ?_
  refine loopX T_ok 0 (S := Nat) (S' := Unit) (fun i => laE all (idsL all (l.take i)) l i) (fun _ => [(900, .tip)]) (fun i => l.length - i) (fun i => i ≤ l.length) (fun _ => [(5, .tok 900 32 ((idsL all l).map encId))]) (fun _ => [(900, .tip)]) (fun _ => True) 0
    ⟨rfl, rfl, rfl, rfl, trivial⟩ ⟨rfl, trivial⟩ (by omega) ?_ ?_
  · intro i hi
    refine condP.split (fun g => ?_) (fun g => ?_)
    · have g' : i < l.length := by have h : (i : Int) < ((u8s l).length : Int) := of_decide_eq_true g; rw [lenU] at h; omega
      have hs : idsL all (l.take (i + 1)) = idsL all (l.take i) ++ [idAt all l[i]] := by rw [idsL, List.take_succ_eq_append_getElem g', List.map_append]; rfl
      have hlo : (idsL all (l.take i)).length ≤ i := by simp [idsL]; omega
      have hb := l[i].toNat_lt
      have hget : 0 ≤ (i : Int) ∧ (u8s l)[(i : Int).toNat]? = some (.int .u8 (l[i].toNat : Int)) := ⟨by omega, by simp [u8s, g']⟩
      generalize idsL all (l.take i) = out at *
      refine condP.split (fun g2 => ?_) (fun g2 => ?_)
      · have g2' : all = [] := by
          have h : (((all.map encId).length : Int) == 0) = true := g2
          have := eq_of_beq h
          rw [List.length_map] at this
          exact List.eq_nil_of_length_eq_zero (by omega)
        have he : idAt all l[i] = idB l[i] := by rw [idAt, if_pos (.inl g2')]
        refine ⟨_, hget, ?_⟩
        refine ⟨⟨⟨hasSize_id _, hasSize_one (encId_len (idB l[i]))⟩, szOK (by simp; omega) (by kernel_rfl)⟩, ?_⟩
        refine ⟨i + 1, ⟨by omega, by omega⟩, ⟨rfl, rfl, ?_, i_succ (by omega), trivial⟩, ⟨rfl, trivial⟩⟩
        rw [hs, he, List.map_append]; rfl
      · have g2' : all ≠ [] := by
          have h : (((all.map encId).length : Int) == 0) = false := g2
          intro e; subst e; exact absurd h (by decide)
        have hpos : 0 < all.length := List.length_pos_iff.2 g2'
        refine ⟨_, hget, ?_⟩
        refine condP.split (fun g3 => ?_) (fun g3 => ?_)
        · have g3' : 200 ≤ l[i].toNat := by
            have h : IntKind.i64.wrap (l[i].toNat : Int) ≥ 200 := of_decide_eq_true g3
            rw [u8_wrap] at h; omega
          have he : idAt all l[i] = idB l[i] := by rw [idAt, if_pos (.inr g3')]
          refine ⟨_, hget, ?_⟩
          refine ⟨⟨⟨hasSize_id _, hasSize_one (encId_len (idB l[i]))⟩, szOK (by simp; omega) (by kernel_rfl)⟩, ?_⟩
          refine ⟨i + 1, ⟨by omega, by omega⟩, ⟨rfl, rfl, ?_, i_succ (by omega), trivial⟩, ⟨rfl, trivial⟩⟩
          rw [hs, he, List.map_append]; rfl
        · have g3' : ¬ 200 ≤ l[i].toNat := by
            have h : ¬ IntKind.i64.wrap (l[i].toNat : Int) ≥ 200 := of_decide_eq_false g3
            rw [u8_wrap] at h; omega
          have hix : all.length - 1 - l[i].toNat % all.length < all.length := by omega
          have he : idAt all l[i] = all[all.length - 1 - l[i].toNat % all.length] := by
            rw [idAt, if_neg (by rintro (h | h); exact g2' h; exact g3' h), gt0_eq hix]
          have hw : IntKind.i64.wrap (IntKind.i64.wrap (((all.map encId).length : Int) - 1) - (IntKind.i64.wrap (l[i].toNat : Int)).tmod ((all.map encId).length : Int)) = ((all.length - 1 - l[i].toNat % all.length : Nat) : Int) := by
            rw [u8_wrap, List.length_map, wrap_i64 (a := (all.length : Int) - 1) (by omega) (by omega), show (l[i].toNat : Int).tmod (all.length : Int) = ((l[i].toNat % all.length : Nat) : Int) from tmod_nat _ _]
            have := Nat.mod_lt l[i].toNat hpos
            rw [wrap_i64 (by omega) (by omega)]; omega
          refine ⟨_, hget, ?_⟩
          refine ⟨?_, ?_⟩
          · show ((all.map encId).length : Int) ≠ 0
            rw [List.length_map]; omega
          refine ⟨encId all[all.length - 1 - l[i].toNat % all.length], ?_, ?_⟩
          · show 0 ≤ IntKind.i64.wrap (IntKind.i64.wrap (((all.map encId).length : Int) - 1) - (IntKind.i64.wrap (l[i].toNat : Int)).tmod ((all.map encId).length : Int)) ∧ (all.map encId)[(IntKind.i64.wrap (IntKind.i64.wrap (((all.map encId).length : Int) - 1) - (IntKind.i64.wrap (l[i].toNat : Int)).tmod ((all.map encId).length : Int))).toNat]? = _
            rw [hw]; exact idx_get encId hix
          refine ⟨⟨⟨hasSize_id _, hasSize_one (encId_len all[all.length - 1 - l[i].toNat % all.length])⟩, szOK (by simp; omega) (by kernel_rfl)⟩, ?_⟩
          refine ⟨i + 1, ⟨by omega, by omega⟩, ⟨rfl, rfl, ?_, i_succ (by omega), trivial⟩, ⟨rfl, trivial⟩⟩
          rw [hs, he, List.map_append]; rfl
    · have g' : i = l.length := by have h : ¬ (i : Int) < ((u8s l).length : Int) := of_decide_eq_false g; rw [lenU] at h; omega
      subst g'
      rw [List.take_length]
      exact ⟨(), trivial, ⟨rfl, trivial⟩, ⟨rfl, trivial⟩⟩
  · intro _ _
    rfl
end Go.Kn
namespace Go.Kn
open Go
def hAll (w : World) : Hp := fun b o => w.cell? ⟨b, o, none⟩
def CellsR (h : Hp) (xs : List IV) (cs : List Value) : Prop := xs.length = cs.length ∧ ∀ (i : Nat) (x : IV) (v : Value), xs[i]? = some x → cs[i]? = some v → RelI h x v ∧ v.oneCell' = true
theorem CellsR.nil (h : Hp) : CellsR h [] [] := ⟨rfl, fun i x v e => by simp at e⟩
theorem CellsR.cons {h : Hp} {x : IV} {v : Value} {xs : List IV} {cs : List Value} (r : RelI h x v) (h1 : v.oneCell' = true) (hr : CellsR h xs cs) : CellsR h (x :: xs) (v :: cs) := by
  refine ⟨by simp [hr.1], fun i y u e1 e2 => ?_⟩
  cases i with
  | zero => simp at e1 e2; subst e1; subst e2; exact ⟨r, h1⟩
  | succ i => exact hr.2 i y u (by simpa using e1) (by simpa using e2)
theorem list_choose {α : Type} {P : Nat → α → Prop} : ∀ (n : Nat), (∀ i, i < n → ∃ y, P i y) → ∃ l : List α, l.length = n ∧ ∀ i y, l[i]? = some y → P i y
  | 0, _ => ⟨[], rfl, fun i y e => by simp at e⟩
  | n + 1, h => by
    obtain ⟨l, hl, hp⟩ := list_choose n fun i hi => h i (by omega)
    obtain ⟨y, hy⟩ := h n (by omega)
    refine ⟨l ++ [y], by simp [hl], fun i z e => ?_⟩
    by_cases hi : i < l.length
    · rw [List.getElem?_append_left hi] at e; exact hp i z e
    · rw [List.getElem?_append_right (by omega)] at e
      have hin : i = n := by
        have := (List.getElem?_eq_some_iff.1 e).1
        simp at this; omega
      subst hin
      simp [hl] at e
      subst e; exact hy
section
variable {H : Type} {enc : TypeId × Value → H} {P : Program} {w : World} {held : Bool} {fuel : Nat} {t : TypeId} {cs : List Value} {x : DataW H × List MemPlace}
theorem open_int {k : IntKind} (ht : P.underlying t = some (.int k)) (h : DataW.trod enc P w 0 (fun _ => true) held fuel t cs = some x) :
    ∃ n, (k.min ≤ n ∧ n ≤ k.max) ∧ CellsR (hAll w) [.int k n] cs := by
  obtain ⟨n, rfl, _, hw⟩ := DataW.trod_int ht h
  refine ⟨n, ?_, .cons (.int k n) rfl (.nil _)⟩
  simpa [Lit.wf] using hw
theorem open_str (ht : P.underlying t = some .string) (h : DataW.trod enc P w 0 (fun _ => true) held fuel t cs = some x) :
    ∃ s : List UInt8, CellsR (hAll w) [.str s] cs := by
  obtain ⟨s, rfl, _, _⟩ := DataW.trod_string ht h
  refine ⟨s.data.toList, .cons ?_ rfl (.nil _)⟩
  have : s = ⟨s.data.toList.toArray⟩ := by simp
  conv => rhs; rw [this]
  exact .str _
theorem open_sl {α : Type} (encA : α → IV) {e : TypeId} (ht : P.underlying t = some (.slice e)) {s : Nat} (hs : P.cellsOf e = s) (hs0 : 0 < s) (hsz : ∀ y, (encA y).cells.length = s)
    (hel : ∀ (n : Nat) (cs' : List Value) (x' : DataW H × List MemPlace), DataW.trod enc P w 0 (fun _ => true) held n e cs' = some x' → ∃ y : α, CellsR (hAll w) (encA y).cells cs')
    (h : DataW.trod enc P w 0 (fun _ => true) held fuel t cs = some x) : ∃ l : List α, CellsR (hAll w) [.slice (l.map encA)] cs := by
  rcases DataW.trod_slice ht h with ⟨rfl, _⟩ | ⟨a, len, cap, elems, rest, n, _, rfl, _, _, hlc, _, hlen, hg, hsp, _⟩
  · exact ⟨[], .cons .nilS rfl (.nil _)⟩
  · rw [hs] at hg
    have hE : ∀ i, i < len → ∃ y : α, ∃ cs', w.cells? 0 (a.add (i * s)) s = some cs' ∧ CellsR (hAll w) (encA y).cells cs' := by
      intro i hi
      have h1 := hg i hi
      rw [List.getElem?_eq_getElem (by omega)] at h1
      obtain ⟨cs', h2, h3⟩ := Option.bind_eq_some_iff.1 h1
      obtain ⟨y, hy⟩ := hel n cs' _ h3
      exact ⟨y, cs', h2, hy⟩
    obtain ⟨l, hl, hp⟩ := list_choose len hE
    refine ⟨l, .cons ?_ rfl (.nil _)⟩
    have hll : (l.map encA).length = len := by simp [hl]
    obtain ⟨b, o, sp⟩ := a
    cases sp with
    | some k =>
      have h0 : ∀ cs', w.cells? 0 ((⟨b, o, some k⟩ : Addr).add (0 * s)) s ≠ some cs' := by
        intro cs' hc
        obtain ⟨_, h2, h3⟩ := World.cells?_some hc
        have h4 := h3 0 hs0
        rw [List.getElem?_eq_getElem (by omega)] at h4
        rw [show (0 * s) = 0 by omega, show ((⟨b, o, some k⟩ : Addr).add 0).add 0 = ⟨b, o, some k⟩ by simp [Addr.add]] at h4
        unfold World.cell? at h4
        split at h4 <;> simp at h4
      have hlen0 : len = 0 := by
        by_cases hz : len = 0
        · exact hz
        · obtain ⟨y, cs', h2, _⟩ := hE 0 (by omega)
          exact absurd h2 (h0 cs')
      subst hlen0
      have hcap0 : cap = 0 := by
        by_cases hz : cap = 0
        · exact hz
        · obtain ⟨r1, r2⟩ := hsp rfl
          have h1 := r2 0 (by omega)
          rw [hs, List.getElem?_eq_getElem (by omega)] at h1
          obtain ⟨cs', h2, _⟩ := Option.bind_eq_some_iff.1 h1
          exact absurd h2 (h0 cs')
      subst hcap0
      have : l = [] := List.eq_nil_of_length_eq_zero hl
      subst this
      exact .oddS b o k
    | none =>
      classical
      let f : Nat → Nat → Value := fun i j => (w.cell? ⟨b, o + i * s + j, none⟩).getD undef
      have hget : ∀ (i : Nat) (y : IV), (l.map encA)[i]? = some y → y.cells.length = s ∧ ∀ j z, y.cells[j]? = some z → w.cell? ⟨b, o + i * s + j, none⟩ = some (f i j) ∧ RelI (hAll w) z (f i j) ∧ (f i j).oneCell' = true := by
        intro i y hy
        rw [List.getElem?_map] at hy
        cases hli : l[i]? with
        | none => rw [hli] at hy; cases hy
        | some u =>
          rw [hli] at hy
          cases hy
          refine ⟨hsz u, fun j z hz => ?_⟩
          obtain ⟨cs', h2, h3, h4⟩ := hp i u hli
          obtain ⟨_, h6, h7⟩ := World.cells?_some h2
          have hj : j < s := by
            have := (List.getElem?_eq_some_iff.1 hz).1
            rw [hsz] at this; exact this
          have h8 := h7 j hj
          rw [List.getElem?_eq_getElem (by omega), add_plain, add_plain] at h8
          obtain ⟨h9, h10⟩ := h4 j z _ hz (List.getElem?_eq_getElem (by omega))
          have hf : f i j = cs'[j] := by simp only [f, h8, Option.getD_some]
          rw [hf]
          exact ⟨h8, h9, h10⟩
      rw [← hll] at hlc ⊢
      exact .slice b o cap s (l.map encA) f hlc (fun i y hy => (hget i y hy).1) (fun i y j z hy hz => ((hget i y hy).2 j z hz).2.2) (fun i y j z hy hz => ((hget i y hy).2 j z hz).1) (fun i y j z hy hz => ((hget i y hy).2 j z hz).2.1)
end
section
variable {P : Program} {T : Ty} {G : Gl}
theorem entry_callsR {f : FuncId} {as0 : List IV} {x : IV} (h : Body P f ∧ AC P G f (as0.map .i) [] (.i x) []) {w : World} {vs : List Value} (hg : ∀ g cs, lk g G = some cs → RelI (hAll w) (.rptr cs) (.pointer (some ⟨g, 0, none⟩)))
    (ha : as0.length = vs.length ∧ ∀ (i : Nat) (x : IV) (v : Value), as0[i]? = some x → vs[i]? = some v → RelI (hAll w) x v) : Calls P f vs.toArray w fun e w' => ∃ v, e = .returned v ∧ (∃ h', RelI h' x v) ∧ RowKit.Below w.heap.size w w' := by
  have hj : J G (Ent.at ⟨hAll w, fun _ => none⟩ [] w) ⟨hAll w, fun _ => none⟩ [] w := {
    inv := InvM.nil fun b o v e => e
    glob := hg
    hm := Hp.le_refl _
    os := rfl
    tape := rfl
    out := rfl
    sz := Nat.le_refl _
    old := fun _ _ _ => rfl
    hn := fun _ _ _ _ e => e
    own := fun _ _ _ _ _ e => (nomatch e)
    kp := fun _ _ _ e => by simp [Ent.at, lk] at e
    kn := fun _ _ _ _ e => (nomatch e) }
  refine (h.2 _ w vs hj ⟨by simp [ha.1], fun i p v e1 e2 => ?_⟩).mono ?_
  · rw [List.getElem?_map] at e1
    cases hi : as0[i]? with
    | none => rw [hi] at e1; cases e1
    | some y => rw [hi] at e1; cases e1; exact .i _ _ (ha.2 i y v hi e2)
  · rintro e w' ⟨v, σ', rfl, rv, hj'⟩
    refine ⟨v, rfl, ?_, ⟨hj'.os, hj'.tape, hj'.out, hj'.sz, fun k hk => hj'.old k hk fun ⟨_, _, _, _, e, _⟩ => (nomatch e)⟩⟩
    cases rv with
    | i _ _ r => exact ⟨_, r⟩
theorem entry_calls {f : FuncId} {as0 : List IV} {x : IV} (h : Body P f ∧ AC P G f (as0.map .i) [] (.i x) []) {w : World} {vs : List Value} (hg : ∀ g cs, lk g G = some cs → RelI (hAll w) (.rptr cs) (.pointer (some ⟨g, 0, none⟩)))
    (ha : CellsR (hAll w) as0 vs) : Calls P f vs.toArray w fun e w' => ∃ v, e = .returned v ∧ (∃ h', RelI h' x v) ∧ RowKit.Below w.heap.size w w' := by
  have hj : J G (Ent.at ⟨hAll w, fun _ => none⟩ [] w) ⟨hAll w, fun _ => none⟩ [] w := {
    inv := InvM.nil fun b o v e => e
    glob := hg
    hm := Hp.le_refl _
    os := rfl
    tape := rfl
    out := rfl
    sz := Nat.le_refl _
    old := fun _ _ _ => rfl
    hn := fun _ _ _ _ e => e
    own := fun _ _ _ _ _ e => (nomatch e)
    kp := fun _ _ _ e => by simp [Ent.at, lk] at e
    kn := fun _ _ _ _ e => (nomatch e) }
  refine (h.2 _ w vs hj ⟨by simp [ha.1], fun i p v e1 e2 => ?_⟩).mono ?_
  · rw [List.getElem?_map] at e1
    cases hi : as0[i]? with
    | none => rw [hi] at e1; cases e1
    | some y => rw [hi] at e1; cases e1; exact .i _ _ (ha.2 i y v hi e2).1
  · rintro e w' ⟨v, σ', rfl, rv, hj'⟩
    refine ⟨v, rfl, ?_, ⟨hj'.os, hj'.tape, hj'.out, hj'.sz, fun k hk => hj'.old k hk fun ⟨_, _, _, _, e, _⟩ => (nomatch e)⟩⟩
    cases rv with
    | i _ _ r => exact ⟨_, r⟩
end
theorem open_arr {H : Type} {enc : TypeId × Value → H} {P : Program} {w : World} {base : Nat} {sp : Nat → Bool} {held : Bool} {fuel : Nat} {t : TypeId} {cs : List Value} {x : DataW H × List MemPlace}
    {n : Nat} {e : TypeId} {k : IntKind} (ht : P.underlying t = some (.array n e)) (he : P.underlying e = some (.int k)) (hc : P.cellsOf e = 1) (hct : P.cellsOf t = n)
    {ns : List Int} (hx : x.1 = .agg (ns.map fun z => .lit (.int k z))) (h : DataW.trod enc P w base sp held fuel t cs = some x) : cs = ns.map (Value.int k) := by
  obtain ⟨xs, m, _, rfl, hl, hxl, hg⟩ := DataW.trod_array ht h
  rw [hct] at hl
  rw [hc] at hg
  simp only [DataW.agg.injEq] at hx
  have hnl : ns.length = n := by have := congrArg List.length hx; simp at this; omega
  apply List.ext_getElem (by simp; omega)
  intro i h1 h2
  have hi : i < n := by omega
  have h3 := hg i hi
  rw [List.getElem?_eq_getElem (by omega)] at h3
  have h4 : (cs.drop (i * 1)).take 1 = [cs[i]] := by
    rw [Nat.mul_one, List.drop_eq_getElem_cons (by omega)]; rfl
  rw [h4] at h3
  obtain ⟨z, h5, h6, _⟩ := DataW.trod_int he h3
  have h7 : cs[i] = .int k z := by simpa using h5
  have h8 : (xs.map (·.1))[i]? = (ns.map fun z => (DataW.lit (.int k z) : DataW H))[i]? := by rw [hx]
  rw [List.getElem?_map, List.getElem?_map, List.getElem?_eq_getElem (by omega), List.getElem?_eq_getElem (by omega)] at h8
  rw [h6] at h8
  simp only [Option.map_some, Option.some.injEq, DataW.lit.injEq, Lit.int.injEq, true_and] at h8
  rw [h7, List.getElem_map, h8]
end Go.Kn
set_option maxRecDepth 100000
namespace Go.Proofs.YtiibdlpfgmeifaaGreatDoor
open Go.ChangeShapes Go.WideShapes Go.RowKit
abbrev laidL : List (String × DataW Unit) := [("knapsack/sha256.constants", Rows.laid_knapsack_sha256_constants)]
theorem own : ownKnob Tryz.prog.godebug = none := by kernel_rfl
theorem gK : Tryz.prog.globalNamed "knapsack/sha256.constants" = some Kn.Gv.sha256_constants := by kernel_rfl
theorem tK : (Tryz.prog.globals[(Kn.Gv.sha256_constants : Nat)]?).map (·.type) = some Kn.Tn.arr64_uint32 := by kernel_rfl
theorem uArr : Tryz.prog.underlying Kn.Tn.arr64_uint32 = some (.array 64 Kn.Tn.uint32) := by kernel_rfl
theorem uU32 : Tryz.prog.underlying Kn.Tn.uint32 = some (.int .u32) := by kernel_rfl
theorem uSeeds : Tryz.prog.underlying Kn.Tn.sl_ref11_Seed = some (.slice Kn.Tn.ref11_Seed) := by kernel_rfl
theorem uBytes : Tryz.prog.underlying Kn.Tn.sl_uint8 = some (.slice Kn.Tn.uint8) := by kernel_rfl
theorem uU8 : Tryz.prog.underlying Kn.Tn.uint8 = some (.int .u8) := by kernel_rfl
theorem uU16 : Tryz.prog.underlying Kn.Tn.uint16 = some (.int .u16) := by kernel_rfl
theorem uStr : Tryz.prog.underlying Kn.Tn.string = some .string := by kernel_rfl
theorem uBool : Tryz.prog.underlying Kn.Tn.bool = some .bool := by kernel_rfl
theorem laidOut : laidOutB Tryz.prog = true := by kernel_rfl
theorem door_met (os : Os) (args : Array Value) : laidMetH Tryz.prog laidL ((World.doorLaid Tryz.prog 400 os).forCall (fun _ _ => 0) ⟨#[], args, []⟩).memory :=
  laidMetH_of_parts3 (fuel := 8) (laidMet_of_run' 8 (by kernel_rfl) (by kernel_rfl)) (by kernel_rfl) (by kernel_rfl)
theorem glob_of_laid {W : World} (h : laidMetH Tryz.prog laidL W) : ∀ g cs, Kn.lk g Kn.G0 = some cs → Kn.RelI (Kn.hAll W) (.rptr cs) (.pointer (some ⟨g, 0, none⟩)) := by
  rw [MakeChecks.laidMetH_plain _ _ _ (by kernel_rfl)] at h
  obtain ⟨ps, ⟨g0, t0, cs0, f0, p0, q0, hg0, ht0, hv0, hd0, _, _⟩, _, _⟩ := h
  obtain rfl := Option.some.inj (gK.symm.trans hg0)
  obtain rfl := Option.some.inj (tK.symm.trans ht0)
  have hcs := Kn.open_arr (ns := Kn.kL.map fun z => (z.toNat : Int)) uArr uU32 (by kernel_rfl) (by kernel_rfl) (by rfl) hd0
  intro g cs e
  simp only [Kn.G0, Kn.lk] at e
  cases hb : Nat.beq Kn.Gv.sha256_constants g with
  | false => rw [hb] at e; cases e
  | true =>
    rw [hb] at e
    cases e
    have hg := Nat.eq_of_beq_eq_true hb
    subst hg
    have hget : ∀ i x, (Kn.w32 64 Kn.kF)[i]? = some x → x = .int .u32 ((Kn.kF i).toNat : Int) ∧ i < 64 := by
      intro i x e
      have hi : i < 64 := by
        have := (List.getElem?_eq_some_iff.1 e).1
        rwa [Kn.w32_len] at this
      simp [Kn.w32, hi] at e
      exact ⟨e.symm, hi⟩
    have hcell : ∀ i, i < 64 → W.cell? ⟨0, i, none⟩ = some (.int .u32 ((Kn.kF i).toNat : Int)) := by
      intro i hi
      have h1 := World.var?_cell hg0 hv0 i
      rw [h1, ← Array.getElem?_toList, hcs, List.map_map, List.getElem?_map]
      have hl : Kn.kL.length = 64 := rfl
      rw [List.getElem?_eq_getElem (by omega)]
      simp [Kn.kF, List.getD_eq_getElem?_getD, List.getElem?_eq_getElem (show i < Kn.kL.length by omega)]
    refine .rptr 0 0 _ (fun i => .int .u32 ((Kn.kF i).toNat : Int)) (fun i x e => rfl) (fun i x e => ?_) (fun i x e => ?_)
    · rw [Nat.zero_add]; exact hcell i (hget i x e).2
    · rw [(hget i x e).1]; exact .int _ _
section
variable {H : Type} {enc : TypeId × Value → H} {W : World} {held : Bool}
theorem four {cs : List Value} (h : cs.length = 4) : ∃ v0 v1 v2 v3, cs = [v0, v1, v2, v3] := by
  match cs, h with
  | [v0, v1, v2, v3], _ => exact ⟨v0, v1, v2, v3, rfl⟩
theorem u8_read {n : Nat} {cs : List Value} {x : DataW H × List MemPlace} (h : DataW.trod enc Tryz.prog W 0 (fun _ => true) held n Kn.Tn.uint8 cs = some x) : ∃ b : UInt8, Kn.CellsR (Kn.hAll W) [.int .u8 (b.toNat : Int)] cs := by
  obtain ⟨k, ⟨h1, h2⟩, h3⟩ := Kn.open_int uU8 h
  have e1 : IntKind.u8.min = 0 := by decide
  have e2 : IntKind.u8.max = 255 := by decide
  rw [e1] at h1; rw [e2] at h2
  refine ⟨UInt8.ofNat k.toNat, ?_⟩
  rw [show ((UInt8.ofNat k.toNat).toNat : Int) = k by simp; omega]
  exact h3
theorem bytes_read {n : Nat} {cs : List Value} {x : DataW H × List MemPlace} (h : DataW.trod enc Tryz.prog W 0 (fun _ => true) held n Kn.Tn.sl_uint8 cs = some x) : ∃ l : List UInt8, Kn.CellsR (Kn.hAll W) [.slice (Kn.u8s l)] cs :=
  Kn.open_sl (fun b : UInt8 => Kn.IV.int .u8 (b.toNat : Int)) uBytes (show Tryz.prog.cellsOf Kn.Tn.uint8 = 1 by kernel_rfl) (by decide) (fun _ => rfl) (fun _ _ _ hx => u8_read hx) h
theorem seed_read {n : Nat} {cs : List Value} {x : DataW H × List MemPlace} (h : DataW.trod enc Tryz.prog W 0 (fun _ => true) held n Kn.Tn.ref11_Seed cs = some x) : ∃ y : Kn.Seed, Kn.CellsR (Kn.hAll W) (Kn.encSeed y).cells cs := by
  obtain ⟨xs, m, _, _, hl, hxl, hg⟩ := DataW.trod_struct (show Tryz.prog.underlying Kn.Tn.ref11_Seed = some (.struct _) from (Kn.T_ok Kn.Tn.ref11_Seed _ rfl).und) h
  have c0 : Tryz.prog.cellsOf Kn.Tn.ref11_Seed = 4 := by kernel_rfl
  have c5 : Tryz.prog.cellsOf Kn.Tn.uint8 = 1 := by kernel_rfl
  have c77 : Tryz.prog.cellsOf Kn.Tn.sl_uint8 = 1 := by kernel_rfl
  have c78 : Tryz.prog.cellsOf Kn.Tn.uint16 = 1 := by kernel_rfl
  have c9 : Tryz.prog.cellsOf Kn.Tn.string = 1 := by kernel_rfl
  rw [c0] at hl
  have hxl : xs.length = 4 := hxl
  have h0 : DataW.trod enc Tryz.prog W 0 (fun _ => true) held m Kn.Tn.uint8 ((cs.drop 0).take (Tryz.prog.cellsOf Kn.Tn.uint8)) = xs[0]? := hg 0 _ rfl
  have h1 : DataW.trod enc Tryz.prog W 0 (fun _ => true) held m Kn.Tn.sl_uint8 ((cs.drop 1).take (Tryz.prog.cellsOf Kn.Tn.sl_uint8)) = xs[1]? := hg 1 _ rfl
  have h2 : DataW.trod enc Tryz.prog W 0 (fun _ => true) held m Kn.Tn.uint16 ((cs.drop 2).take (Tryz.prog.cellsOf Kn.Tn.uint16)) = xs[2]? := hg 2 _ rfl
  have h3 : DataW.trod enc Tryz.prog W 0 (fun _ => true) held m Kn.Tn.string ((cs.drop 3).take (Tryz.prog.cellsOf Kn.Tn.string)) = xs[3]? := hg 3 _ rfl
  rw [c5, List.getElem?_eq_getElem (by omega)] at h0
  rw [c77, List.getElem?_eq_getElem (by omega)] at h1
  rw [c78, List.getElem?_eq_getElem (by omega)] at h2
  rw [c9, List.getElem?_eq_getElem (by omega)] at h3
  obtain ⟨v0, v1, v2, v3, rfl⟩ := four hl
  obtain ⟨b, r0⟩ := u8_read (cs := [v0]) h0
  obtain ⟨l, r1⟩ := bytes_read (cs := [v1]) h1
  obtain ⟨k, ⟨k1, k2⟩, r2⟩ := Kn.open_int (cs := [v2]) uU16 h2
  obtain ⟨s, r3⟩ := Kn.open_str (cs := [v3]) uStr h3
  have e1 : IntKind.u16.min = 0 := by decide
  have e2 : IntKind.u16.max = 65535 := by decide
  rw [e1] at k1; rw [e2] at k2
  refine ⟨⟨b, l, k.toNat, s, by omega⟩, ?_⟩
  have ek : ((k.toNat : Nat) : Int) = k := by omega
  show Kn.CellsR (Kn.hAll W) [.int .u8 (b.toNat : Int), .slice (Kn.u8s l), .int .u16 ((k.toNat : Nat) : Int), .str s] [v0, v1, v2, v3]
  rw [ek]
  obtain ⟨q0, q0'⟩ := r0.2 0 _ _ rfl rfl
  obtain ⟨q1, q1'⟩ := r1.2 0 _ _ rfl rfl
  obtain ⟨q2, q2'⟩ := r2.2 0 _ _ rfl rfl
  obtain ⟨q3, q3'⟩ := r3.2 0 _ _ rfl rfl
  exact .cons q0 q0' (.cons q1 q1' (.cons q2 q2' (.cons q3 q3' (.nil _))))
theorem seeds_read {n : Nat} {cs : List Value} {x : DataW H × List MemPlace} (h : DataW.trod enc Tryz.prog W 0 (fun _ => true) held n Kn.Tn.sl_ref11_Seed cs = some x) : ∃ l : List Kn.Seed, Kn.CellsR (Kn.hAll W) [.slice (l.map Kn.encSeed)] cs :=
  Kn.open_sl Kn.encSeed uSeeds (show Tryz.prog.cellsOf Kn.Tn.ref11_Seed = 4 by kernel_rfl) (by decide) (fun _ => rfl) (fun _ _ _ hx => seed_read hx) h
theorem hist_read {n : Nat} {cs : List Value} {x : DataW H × List MemPlace} (h : DataW.trod enc Tryz.prog W 0 (fun _ => true) held n Kn.Tn.law12_History cs = some x) : ∃ y : Kn.Hist, Kn.CellsR (Kn.hAll W) (Kn.encHist y).cells cs := by
  obtain ⟨xs, m, _, _, hl, hxl, hg⟩ := DataW.trod_struct (show Tryz.prog.underlying Kn.Tn.law12_History = some (.struct _) from (Kn.T_ok Kn.Tn.law12_History _ rfl).und) h
  have c0 : Tryz.prog.cellsOf Kn.Tn.law12_History = 4 := by kernel_rfl
  have c1 : Tryz.prog.cellsOf Kn.Tn.sl_ref11_Seed = 1 := by kernel_rfl
  have c2 : Tryz.prog.cellsOf Kn.Tn.sl_uint8 = 1 := by kernel_rfl
  rw [c0] at hl
  have hxl : xs.length = 4 := hxl
  have h0 : DataW.trod enc Tryz.prog W 0 (fun _ => true) held m Kn.Tn.sl_ref11_Seed ((cs.drop 0).take (Tryz.prog.cellsOf Kn.Tn.sl_ref11_Seed)) = xs[0]? := hg 0 _ rfl
  have h1 : DataW.trod enc Tryz.prog W 0 (fun _ => true) held m Kn.Tn.sl_uint8 ((cs.drop 1).take (Tryz.prog.cellsOf Kn.Tn.sl_uint8)) = xs[1]? := hg 1 _ rfl
  have h2 : DataW.trod enc Tryz.prog W 0 (fun _ => true) held m Kn.Tn.sl_uint8 ((cs.drop 2).take (Tryz.prog.cellsOf Kn.Tn.sl_uint8)) = xs[2]? := hg 2 _ rfl
  have h3 : DataW.trod enc Tryz.prog W 0 (fun _ => true) held m Kn.Tn.sl_uint8 ((cs.drop 3).take (Tryz.prog.cellsOf Kn.Tn.sl_uint8)) = xs[3]? := hg 3 _ rfl
  rw [c1, List.getElem?_eq_getElem (by omega)] at h0
  rw [c2, List.getElem?_eq_getElem (by omega)] at h1 h2 h3
  obtain ⟨v0, v1, v2, v3, rfl⟩ := four hl
  obtain ⟨l0, r0⟩ := seeds_read (cs := [v0]) h0
  obtain ⟨l1, r1⟩ := bytes_read (cs := [v1]) h1
  obtain ⟨l2, r2⟩ := bytes_read (cs := [v2]) h2
  obtain ⟨l3, r3⟩ := bytes_read (cs := [v3]) h3
  refine ⟨⟨l0, l1, l2, l3⟩, ?_⟩
  show Kn.CellsR (Kn.hAll W) [.slice (l0.map Kn.encSeed), .slice (Kn.u8s l1), .slice (Kn.u8s l2), .slice (Kn.u8s l3)] [v0, v1, v2, v3]
  obtain ⟨q0, q0'⟩ := r0.2 0 _ _ rfl rfl
  obtain ⟨q1, q1'⟩ := r1.2 0 _ _ rfl rfl
  obtain ⟨q2, q2'⟩ := r2.2 0 _ _ rfl rfl
  obtain ⟨q3, q3'⟩ := r3.2 0 _ _ rfl rfl
  exact .cons q0 q0' (.cons q1 q1' (.cons q2 q2' (.cons q3 q3' (.nil _))))
theorem one_rel {x : Kn.IV} {v : Value} (h : Kn.CellsR (Kn.hAll W) [x] [v]) : Kn.RelI (Kn.hAll W) x v := (h.2 0 _ _ rfl rfl).1
theorem agg_rel {xs : List Kn.IV} {cs : Array Value} (h : Kn.CellsR (Kn.hAll W) xs cs.toList) : Kn.RelI (Kn.hAll W) (.agg xs) (.agg cs) := by
  have e : cs = cs.toList.toArray := by simp
  conv => rhs; rw [e]
  refine .agg xs cs.toList h.1 (fun v hv => ?_) fun i x v e1 e2 => (h.2 i x v e1 e2).1
  obtain ⟨i, hi, rfl⟩ := List.getElem_of_mem hv
  exact (h.2 i (xs[i]'(by rw [h.1]; exact hi)) _ (List.getElem?_eq_getElem _) (List.getElem?_eq_getElem hi)).2
end
end Go.Proofs.YtiibdlpfgmeifaaGreatDoor
set_option maxRecDepth 100000
namespace Go.Kn
open Go Go.Proofs
variable {G : Gl}
theorem ref12_ahead_ok (m : List RItem) (hm : m.length < 1000000) (a b : Id) : PureC Pg G Fn.ref12_ahead [encSt m, encId a, encId b] (.bool (aheadB m a b)) := by
  refine pureC_of T_ok Fd.ref12_ahead rfl (by kernel_rfl) ?_
  refine ⟨_, _, _, pureCall (ref11_Object_ok m a hm) rfl, ?_⟩
  refine ⟨_, _, _, pureCall (ref11_Object_ok m b hm) rfl, ?_⟩
  refine condP.split (fun g => ?_) (fun g => ?_)
  · have g' : (objR m a).time ≠ (objR m b).time := by
      have h : (((objR m a).time : Int) != ((objR m b).time : Int)) = true := g
      exact fun e => bne_iff_ne.1 h (by rw [e])
    rw [aheadB, if_pos g']
    show some (IV.bool (decide (((objR m a).time : Int) > ((objR m b).time : Int)))) = _
    simp
  · have g' : (objR m a).time = (objR m b).time := by
      have h : (((objR m a).time : Int) != ((objR m b).time : Int)) = false := g
      have h2 : ((objR m a).time : Int) = ((objR m b).time : Int) := by simpa using h
      omega
    refine ⟨_, _, _, pureCall (ref02_Less_ok a b) rfl, ?_⟩
    rw [aheadB, if_neg (by simpa using g')]
    rfl
def BestI (m : List RItem) (seen out : List Id) (i : Nat) (b : Option Nat) : Prop :=
  match b with
  | none => ∀ j (h : j < seen.length), j < i → seen[j] ∈ out
  | some k => k < i ∧ ∃ h : k < seen.length, seen[k] ∉ out ∧ ∀ j (h' : j < seen.length), j < i → seen[j] ∉ out → aheadB m seen[j] seen[k] = false
def bestN : Option Nat → Int
  | none => -1
  | some k => (k : Int)
theorem BestI.done {m : List RItem} {seen out : List Id} {b : Option Nat} (h : BestI m seen out seen.length b) : bestO m (seen.filter fun x => !inB out x) = b.map fun k => gt0 seen k := by
  cases b with
  | none =>
    refine bestO_none m ?_
    cases e : (seen.filter fun x => !inB out x) with
    | nil => rfl
    | cons x r =>
      have : x ∈ (seen.filter fun x => !inB out x) := by rw [e]; simp
      obtain ⟨h1, h2⟩ := left_mem.1 this
      obtain ⟨j, hj, rfl⟩ := List.getElem_of_mem h1
      exact absurd (h j hj hj) h2
  | some k =>
    obtain ⟨_, hk, h1, h2⟩ := h
    rw [Option.map_some, gt0_eq hk]
    refine bestO_uniq m (left_mem.2 ⟨List.getElem_mem _, h1⟩) fun x hx => ?_
    obtain ⟨h3, h4⟩ := left_mem.1 hx
    obtain ⟨j, hj, rfl⟩ := List.getElem_of_mem h3
    exact h2 j hj hj h4
def rwE (frm cut seen out : List Id) : Env := [(2, .i (.slice (cut.map encId))), (3, .ptr 3 0), (7, .tok 901 32 (seen.map encId)), (8, .tok 900 32 (out.map encId))]
def rwE2 (cut seen out : List Id) (b : Option Nat) (i : Nat) : Env := [(2, .i (.slice (cut.map encId))), (3, .ptr 3 0), (7, .tok 901 32 (seen.map encId)), (8, .tok 900 32 (out.map encId)), (9, .i (.int .i64 (bestN b))), (10, .i (.int .i64 (i : Int)))]
def rwE3 (cut seen out ps : List Id) (en : Bool) (i : Nat) : Env := [(2, .i (.slice (cut.map encId))), (3, .ptr 3 0), (7, .tok 901 32 (seen.map encId)), (8, .tok 900 32 (out.map encId)), (13, .i (.bool en)), (14, .i (.slice (ps.map encId))), (15, .i (.int .i64 (i : Int)))]
def rwM (m : List RItem) : Mem := [(3, mS m), (900, .tip), (901, .tip)]
structure VSt where
  f : Nat
  seen : List Id
  out : List Id
set_option maxHeartbeats 4000000 in
theorem ref12_Walk_ok (m : List RItem) (h : Corr m) (hm : m.length < 100000) (frm cut : List Id) (hf : frm.length < 100000) (hc : cut.length < 100000) :
    PureC Pg G Fn.ref12_Walk [encSt m, .slice (frm.map encId), .slice (cut.map encId)] (.slice ((walkR m cut frm).map encId)) := by
  refine pureW_of T_ok Fd.ref12_Walk rfl (by kernel_rfl) ?_
  have hE := ref12_Ends_tok (G := G) m h (by omega) frm (by omega)
  refine CW.next T_ok ?_
  refine CW.next T_ok ?_
  refine ⟨_, _, _, lendCall (ρ := [(1000, 901)]) hE.1 hE.2 ⟨rfl, rfl, rfl⟩ (MemL.as trivial rfl) rfl, ?_⟩
  refine CW.next T_ok ?_
  refine CW.tok0 900 rfl rfl (env' := rwE frm cut (endsR m frm) []) (m' := rwM m) ⟨⟨_, rfl, .refl _⟩, ⟨_, rfl, .refl _⟩, ⟨_, rfl, .refl _⟩, ⟨_, rfl, .tok 32⟩, trivial⟩
    ⟨.inr ⟨by decide, _, rfl, .refl _⟩, .inl ⟨rfl, .tip⟩, .inr ⟨by decide, _, rfl, .refl _⟩, trivial⟩ ?_
  refine CW.blk ?_
  refine loopXW 0 (S := VSt) (S' := Unit) (fun x => rwE frm cut x.seen x.out) (fun _ => rwM m) (fun x => x.f) (fun x => SInv m x.seen x.out ∧ x.f + x.out.length = m.length + 1 ∧ walkF m cut x.f x.seen x.out = walkR m cut frm)
    (fun _ => []) (fun _ => []) (fun _ => False) ⟨m.length + 1, endsR m frm, []⟩ ⟨rfl, rfl, rfl, rfl, trivial⟩ ⟨rfl, rfl, rfl, trivial⟩ ⟨ends_sinv m frm, rfl, rfl⟩ ?_ (fun _ h => h.elim)
  rintro ⟨f, seen, out⟩ ⟨hI, hfo, hw⟩
  simp only at hI hfo hw
  have hsl := hI.len
  have hol := hI.olen
  obtain ⟨f', rfl⟩ : ∃ f', f = f' + 1 := ⟨f - 1, by omega⟩
  rw [walkF] at hw
  refine CW.blk ?_
  refine CW.next T_ok ?_
  refine CW.cut T_ok (S := Option Nat) (fun b => rwE2 cut seen out b seen.length) (fun _ => rwM m) (fun b => BestI m seen out seen.length b) ?_ ?_
  · refine loopX T_ok 2 (S := Option Nat × Nat) (S' := Option Nat) (fun s => rwE2 cut seen out s.1 s.2) (fun _ => rwM m) (fun s => seen.length - s.2) (fun s => s.2 ≤ seen.length ∧ BestI m seen out s.2 s.1) (fun b => rwE2 cut seen out b seen.length) (fun _ => rwM m) (fun b => BestI m seen out seen.length b) (none, 0)
      ⟨rfl, rfl, rfl, rfl, rfl, rfl, trivial⟩ ⟨rfl, rfl, rfl, trivial⟩ ⟨by simp, fun j _ h => by simp at h⟩ ?_ ?_
    · rintro ⟨b, i⟩ ⟨hi, hb⟩
      simp only at hi hb
      refine condP.split (fun g => ?_) (fun g => ?_)
      · have g' := idx_lt g
        refine ⟨encId seen[i], idx_get encId g', ?_⟩
        refine ⟨_, _, _, pureCall (ref02_In_ok out seen[i] (by omega)) rfl, ?_⟩
        have nx : ∀ j, j < i + 1 → j ≠ i → j < i := fun j h1 h2 => by omega
        cases hin : inB out seen[i] with
        | true =>
          refine ⟨(b, i + 1), ⟨by simp only; omega, by simp only; omega, ?_⟩, ⟨rfl, rfl, rfl, rfl, rfl, i_succ (by omega), trivial⟩, ⟨rfl, rfl, rfl, trivial⟩⟩
          cases b with
          | none =>
            intro j hj hji
            by_cases e : j = i
            · subst e; exact inB_iff.1 hin
            · exact hb j hj (nx j hji e)
          | some k =>
            obtain ⟨h1, h2, h3, h4⟩ := hb
            refine ⟨by omega, h2, h3, fun j hj hji hno => ?_⟩
            by_cases e : j = i
            · subst e; exact absurd (inB_iff.1 hin) hno
            · exact h4 j hj (nx j hji e) hno
        | false =>
          have hno : seen[i] ∉ out := fun e => by rw [inB_iff.2 e] at hin; cases hin
          cases b with
          | none =>
            refine ⟨(some i, i + 1), ⟨by simp only; omega, by simp only; omega, by omega, g', hno, fun j hj hji hnj => ?_⟩, ⟨rfl, rfl, rfl, rfl, rfl, i_succ (by omega), trivial⟩, ⟨rfl, rfl, rfl, trivial⟩⟩
            by_cases e : j = i
            · subst e; exact (ahead_ok m).irr _
            · exact absurd (hb j hj (nx j hji e)) hnj
          | some k =>
            obtain ⟨h1, h2, h3, h4⟩ := hb
            refine drawW T_ok (by decide +kernel) ?_
            refine ⟨encId seen[i], idx_get encId g', ?_⟩
            refine ⟨encId seen[k], idx_get encId h2, ?_⟩
            refine ⟨_, _, ⟨rfl, ref12_ahead_ok m (by omega) seen[i] seen[k]⟩, ?_⟩
            refine ⟨by kernel_rfl, ?_⟩
            cases ha : aheadB m seen[i] seen[k] with
            | true =>
              refine ⟨(some i, i + 1), ⟨by simp only; omega, by simp only; omega, by omega, g', hno, fun j hj hji hnj => ?_⟩, ⟨rfl, rfl, rfl, rfl, rfl, i_succ (by omega), trivial⟩, ⟨rfl, rfl, rfl, trivial⟩⟩
              by_cases e : j = i
              · subst e; exact (ahead_ok m).irr _
              · exact (ahead_ok m).trans _ _ _ ((ahead_ok m).asym _ _ ha) (h4 j hj (nx j hji e) hnj)
            | false =>
              refine ⟨(some k, i + 1), ⟨by simp only; omega, by simp only; omega, by omega, h2, h3, fun j hj hji hnj => ?_⟩, ⟨rfl, rfl, rfl, rfl, rfl, i_succ (by omega), trivial⟩, ⟨rfl, rfl, rfl, trivial⟩⟩
              by_cases e : j = i
              · subst e; exact ha
              · exact h4 j hj (nx j hji e) hnj
      · have g' := idx_ge g hi
        subst g'
        exact ⟨b, hb, ⟨rfl, rfl, rfl, rfl, rfl, rfl, trivial⟩, ⟨rfl, rfl, rfl, trivial⟩⟩
    · intro b hb
      exact ⟨b, hb, ⟨rfl, rfl, rfl, rfl, rfl, rfl, trivial⟩, ⟨rfl, rfl, rfl, trivial⟩⟩
  intro b hb
  rw [hb.done] at hw
  refine CW.go T_ok ?_
  cases b with
  | none =>
    simp only [Option.map_none] at hw
    rw [← hw]
    rfl
  | some k =>
    obtain ⟨_, hk, hno, _⟩ := hb
    simp only [Option.map_some, gt0_eq hk] at hw
    have hI2 := hI.tell (List.getElem_mem hk) hno
    have hol2 := hI2.olen
    generalize hy : seen[k] = y at *
    have hget : 0 ≤ (k : Int) ∧ (seen.map encId)[(k : Int).toNat]? = some (encId y) := by rw [← hy]; exact idx_get encId hk
    obtain ⟨o1, o2⟩ := objR_small1 h y
    refine ⟨encId y, hget, ?_⟩
    refine ⟨⟨⟨hasSize_id _, hasSize_one (encId_len y)⟩, szOK (by simp; omega) (by kernel_rfl)⟩, ?_⟩
    refine ⟨_, _, _, pureCall (ref02_In_ok cut y (by omega)) rfl, ?_⟩
    refine ⟨_, _, _, pureCall (ref11_Object_ok m y (by omega)) rfl, ?_⟩
    generalize hpp : (objR m y).parents = ps at *
    have hps := hI2.offs ps
    refine loopX T_ok 4 (S := Nat) (S' := Unit) (fun i => rwE3 cut ((ps.take i).foldl (offR m) seen) (out ++ [y]) ps (inB cut y) i) (fun _ => rwM m) (fun i => ps.length - i) (fun i => i ≤ ps.length ∧ (0 < i → inB cut y = false)) (fun _ => rwE frm cut (if inB cut y then seen else ps.foldl (offR m) seen) (out ++ [y])) (fun _ => rwM m) (fun _ => True) 0
      ?_ ⟨rfl, rfl, rfl, trivial⟩ ⟨by omega, by omega⟩ ?_ ?_
    · refine ⟨rfl, rfl, rfl, tok_snoc, rfl, ?_, rfl, trivial⟩
      rw [← hpp]; rfl
    · rintro i ⟨hi, hc0⟩
      refine condP.split (fun g => ?_) (fun g => ?_)
      · have g' := idx_lt g
        cases hin : inB cut y with
        | true =>
          have h0 : i = 0 := by
            by_cases e : 0 < i
            · rw [hc0 e] at hin; cases hin
            · omega
          subst h0
          exact ⟨(), trivial, ⟨rfl, rfl, rfl, rfl, trivial⟩, ⟨rfl, rfl, rfl, trivial⟩⟩
        | false =>
          have hIi := hI2.offs (ps.take i)
          have hs : (ps.take (i + 1)).foldl (offR m) seen = offR m ((ps.take i).foldl (offR m) seen) ps[i] := by rw [List.take_succ_eq_append_getElem g', List.foldl_append]; rfl
          generalize (ps.take i).foldl (offR m) seen = sn at *
          have hsn := hIi.len
          refine ⟨encId ps[i], idx_get encId g', ?_⟩
          refine ⟨_, _, _, pureCall (ref02_In_ok sn ps[i] (by omega)) rfl, ?_⟩
          refine drawW T_ok (by decide +kernel) ?_
          have hd : offR m sn ps[i] = if (objR m ps[i]).kind = 3 then (if inB sn ps[i] then sn else sn ++ [ps[i]]) else sn := rfl
          rw [hd] at hs
          cases hin2 : inB sn ps[i] with
          | true =>
            rw [hin2] at hs
            simp only [if_true, ite_self] at hs
            refine ⟨by kernel_rfl, ?_⟩
            refine ⟨i + 1, ⟨by omega, by omega, fun _ => rfl⟩, ⟨rfl, rfl, ?_, rfl, ?_, rfl, i_succ (by omega), trivial⟩, ⟨rfl, rfl, rfl, trivial⟩⟩
            · rw [hs]; rfl
            · rfl
          | false =>
            rw [hin2] at hs
            simp only [Bool.false_eq_true, if_false] at hs
            refine ⟨encId ps[i], idx_get encId g', ?_⟩
            refine ⟨_, _, ⟨rfl, ref11_Kind_ok m ps[i] (by omega)⟩, ?_⟩
            refine ⟨by kernel_rfl, ?_⟩
            refine condP.split (fun g3 => ?_) (fun g3 => ?_)
            · have g3' : (objR m ps[i]).kind = 3 := by
                have h : (kindR m ps[i] == 3) = true := g3
                rw [kindR_eq] at h; exact eq_of_beq h
              rw [if_pos g3'] at hs
              refine ⟨encId ps[i], idx_get encId g', ?_⟩
              refine ⟨⟨⟨hasSize_id _, hasSize_one (encId_len ps[i])⟩, szOK (by simp; omega) (by kernel_rfl)⟩, ?_⟩
              refine ⟨i + 1, ⟨by omega, by omega, fun _ => rfl⟩, ⟨rfl, rfl, ?_, rfl, ?_, rfl, i_succ (by omega), trivial⟩, ⟨rfl, rfl, rfl, trivial⟩⟩
              · rw [hs]; exact tok_snoc
              · rfl
            · have g3' : (objR m ps[i]).kind ≠ 3 := by
                have h : (kindR m ps[i] == 3) = false := g3
                rw [kindR_eq] at h; simpa using h
              rw [if_neg g3'] at hs
              refine ⟨i + 1, ⟨by omega, by omega, fun _ => rfl⟩, ⟨rfl, rfl, ?_, rfl, ?_, rfl, i_succ (by omega), trivial⟩, ⟨rfl, rfl, rfl, trivial⟩⟩
              · rw [hs]; rfl
              · rfl
      · have g' := idx_ge g hi
        subst g'
        rw [List.take_length]
        refine ⟨(), trivial, ⟨rfl, rfl, ?_, rfl, trivial⟩, ⟨rfl, rfl, rfl, trivial⟩⟩
        cases hin : inB cut y with
        | true =>
          have h0 : ps.length = 0 := by
            by_cases e : 0 < ps.length
            · rw [hc0 e] at hin; cases hin
            · omega
          have : ps = [] := List.eq_nil_of_length_eq_zero h0
          subst this; rfl
        | false => rfl
    · intro _ _
      refine ⟨⟨f', if inB cut y then seen else ps.foldl (offR m) seen, out ++ [y]⟩, ⟨by simp only; omega, ?_, by simp; omega, hw⟩, ⟨rfl, rfl, rfl, rfl, trivial⟩, ⟨rfl, rfl, rfl, trivial⟩⟩
      cases inB cut y with
      | true => exact hI2
      | false => exact hps
end Go.Kn
set_option maxRecDepth 100000
namespace Go.Kn
open Go Go.Proofs
variable {G : Gl}
def allR (m : List RItem) (ts : List (List UInt8)) : List RItem := ts.foldl (fun m t => (withR m t).1) m
theorem withR_len2 (m : List RItem) (t : List UInt8) : (withR m t).1.length ≤ m.length + 1 := by
  unfold withR
  cases decodeR t with
  | none => simp
  | some o =>
    simp only
    split
    · simp
    · have := wAt_le m (sha t)
      simp [insR]; omega
theorem allR_len (ts : List (List UInt8)) : ∀ m : List RItem, (allR m ts).length ≤ m.length + ts.length := by
  induction ts with
  | nil => exact fun m => Nat.le_refl _
  | cons t ts ih => intro m; have := ih (withR m t).1; have := withR_len2 m t; simp only [allR, List.foldl_cons, List.length_cons] at *; omega
theorem allR_corr (H : SameDec) (ts : List (List UInt8)) (ht : ∀ t ∈ ts, t.length ≤ 5000) : ∀ m : List RItem, Corr m → Corr (allR m ts) := by
  induction ts with
  | nil => exact fun m h => h
  | cons t ts ih => exact fun m h => ih (fun x hx => ht x (List.mem_cons_of_mem _ hx)) _ (put_corr H h (ht t List.mem_cons_self)).1
def alE (ts : List (List UInt8)) (i : Nat) : Env := [(1, .i (.slice (ts.map .str))), (2, .ptr 2 0), (4, .ptr 4 0), (5, .i (.int .i64 (i : Int)))]
def alM (m : List RItem) : Mem := [(2, .var [.i (.slice (m.map encRItem))]), (4, .var [.full []])]
theorem ref11_All_ok (m : List RItem) (ts : List (List UInt8)) (hm : m.length < 500000) (hl : ts.length < 400000) (ht : ∀ t ∈ ts, t.length < 1000000) : PureC Pg G Fn.ref11_Store_All [encSt m, .slice (ts.map .str)] (encSt (allR m ts)) := by
  refine pureC_of T_ok Fd.ref11_Store_All rfl (by kernel_rfl) ?_
  refine loopX T_ok 0 (S := Nat) (S' := Unit) (fun i => alE ts i) (fun i => alM (allR m (ts.take i))) (fun i => ts.length - i) (fun i => i ≤ ts.length) (fun _ => [(2, .ptr 2 0), (4, .ptr 4 0)]) (fun _ => alM (allR m ts)) (fun _ => True) 0
    ⟨rfl, rfl, rfl, rfl, trivial⟩ ⟨rfl, rfl, trivial⟩ (by omega) ?_ ?_
  · intro i hi
    refine condP.split (fun g => ?_) (fun g => ?_)
    · have g' := idx_lt g
      have hs : allR m (ts.take (i + 1)) = (withR (allR m (ts.take i)) ts[i]).1 := by rw [allR, allR, List.take_succ_eq_append_getElem g', List.foldl_append]; rfl
      have hlen : (allR m (ts.take i)).length ≤ m.length + i := by have := allR_len (ts.take i) m; simp at this; omega
      generalize allR m (ts.take i) = mm at *
      have hw := ref11_With_ok (G := G) mm ts[i] (by omega) (ht _ (List.getElem_mem g'))
      generalize withR mm ts[i] = r at *
      obtain ⟨m2, y, ok⟩ := r
      refine drawW T_ok (by decide +kernel) ?_
      refine ⟨.str ts[i], idx_get IV.str g', ?_⟩
      refine ⟨_, _, ⟨rfl, hw⟩, ?_⟩
      refine ⟨by kernel_rfl, ?_⟩
      refine ⟨i + 1, ⟨by omega, by omega⟩, ⟨rfl, rfl, rfl, i_succ (by omega), trivial⟩, ?_⟩
      rw [hs]
      exact ⟨rfl, rfl, trivial⟩
    · have g' := idx_ge g hi
      subst g'
      rw [List.take_length]
      exact ⟨(), trivial, ⟨rfl, rfl, trivial⟩, ⟨rfl, rfl, trivial⟩⟩
  · intro _ _
    rfl
def textsR (m : List RItem) (l : List Id) : List (List UInt8) := l.filterMap fun y => (getR11 m y).map RItem.text
def txE (l : List Id) (ts : List (List UInt8)) (i : Nat) : Env := [(1, .i (.slice (l.map encId))), (2, .ptr 2 0), (5, .tok 900 1 (ts.map .str)), (6, .i (.int .i64 (i : Int)))]
def txM (m : List RItem) : Mem := [(2, .var [.i (.slice (m.map encRItem))]), (900, .tip)]
theorem hasSize_str (l : List (List UInt8)) : hasSize 1 (l.map IV.str) := by
  intro x hx
  obtain ⟨e, _, rfl⟩ := List.mem_map.1 hx
  rfl
theorem texts_succ {m : List RItem} {l : List Id} {i : Nat} (h : i < l.length) : textsR m (l.take (i + 1)) = textsR m (l.take i) ++ (match getR11 m l[i] with | some x => [x.text] | none => []) := by
  unfold textsR
  rw [List.take_succ_eq_append_getElem h, List.filterMap_append]
  congr 1
  cases e : getR11 m l[i] <;> simp [e]
theorem ref11_Texts_ok (m : List RItem) (l : List Id) (hm : m.length < 1000000) (hl : l.length < 1000000) : PureC Pg G Fn.ref11_Store_Texts [encSt m, .slice (l.map encId)] (.slice ((textsR m l).map .str)) := by
  refine pureC_of T_ok Fd.ref11_Store_Texts rfl (by kernel_rfl) ?_
  refine LoopW.tok0 900 rfl rfl (env' := txE l [] 0) (m' := txM m) ⟨⟨_, rfl, .refl _⟩, ⟨_, rfl, .refl _⟩, ⟨_, rfl, .tok 1⟩, ⟨_, rfl, .refl _⟩, trivial⟩ ⟨.inr ⟨by decide, _, rfl, .refl _⟩, .inl ⟨rfl, .tip⟩, trivial⟩ ?_
  refine loopX T_ok 0 (S := Nat) (S' := Unit) (fun i => txE l (textsR m (l.take i)) i) (fun _ => txM m) (fun i => l.length - i) (fun i => i ≤ l.length) (fun _ => [(5, .tok 900 1 ((textsR m l).map .str))]) (fun _ => [(900, .tip)]) (fun _ => True) 0
    ⟨rfl, rfl, rfl, rfl, trivial⟩ ⟨rfl, rfl, trivial⟩ (by omega) ?_ ?_
  · intro i hi
    refine condP.split (fun g => ?_) (fun g => ?_)
    · have g' := idx_lt g
      have hs := texts_succ (m := m) g'
      have hlen : (textsR m (l.take i)).length ≤ i := by
        have := List.length_filterMap_le (fun y => (getR11 m y).map RItem.text) (l.take i)
        unfold textsR
        simp at this ⊢; omega
      generalize textsR m (l.take i) = ts at *
      refine drawW T_ok (by decide +kernel) ?_
      refine ⟨encId l[i], idx_get encId g', ?_⟩
      refine ⟨_, _, ⟨rfl, ref11_At_ok m l[i] hm⟩, ?_⟩
      refine ⟨by kernel_rfl, ?_⟩
      rcases at_get (l := m) (y := l[i]) with ⟨h1, h2⟩ | ⟨k, x, h1, h2, h3, h4⟩
      · rw [h2] at hs
        rw [h1]
        refine ⟨i + 1, ⟨by omega, by omega⟩, ⟨rfl, rfl, ?_, i_succ (by omega), trivial⟩, ⟨rfl, rfl, trivial⟩⟩
        rw [hs]; simp only [List.append_nil]; rfl
      · rw [h3] at hs
        rw [h1]
        refine ⟨encRItem x, ⟨by show (0 : Int) ≤ ((k : Nat) : Int); omega, by show (m.map encRItem)[((k : Nat) : Int).toNat]? = _; simp [h2]⟩, ?_⟩
        refine ⟨⟨⟨hasSize_str _, hasSize_one rfl⟩, szOK (by simp; omega) (by kernel_rfl)⟩, ?_⟩
        refine ⟨i + 1, ⟨by omega, by omega⟩, ⟨rfl, rfl, ?_, i_succ (by omega), trivial⟩, ⟨rfl, rfl, trivial⟩⟩
        rw [hs, List.map_append]; rfl
    · have g' := idx_ge g hi
      subst g'
      rw [List.take_length]
      exact ⟨(), trivial, ⟨rfl, trivial⟩, ⟨rfl, trivial⟩⟩
  · intro _ _
    rfl
end Go.Kn
namespace Go.Kn
open Go
section
variable {P : Program} {G : Gl}
theorem AC.froze1 {f : FuncId} {args : List PV} {m0 : Mem} {k r s : Nat} {l : List IV} {c : Option Nat} (h : Body P f ∧ AC P G f args m0 (.ptr k 0) [(k, .var [.vec r s 0 l.length]), (r, .vec s (l.map .i) c)]) (hkr : k ≠ r) :
    Body P f ∧ AC P G f args m0 (.i (.rptr [.slice l])) [] := by
  refine ⟨h.1, fun σ w vs hj hr => (h.2 σ w vs hj hr).mono ?_⟩
  rintro e w' ⟨v, σ', rfl, rv, hj'⟩
  have hr1 : lk r [(k, MO.var [PV.vec r s 0 l.length]), (r, .vec s (l.map .i) c)] = some (.vec s (l.map .i) c) := by
    rw [lk_cons_other (Ne.symm hkr)]; exact lk_cons_self _ _ _
  obtain ⟨σ1, f1, j1⟩ := hj'.freeze (F := [(r, .vec s l)]) ⟨⟨_, hr1, ⟨c, rfl⟩⟩, trivial⟩
  have hk1 : lk k (rmF [(r, FO.vec s l)] [(k, MO.var [PV.vec r s 0 l.length]), (r, .vec s (l.map .i) c)]) = some (.var [.vec r s 0 l.length]) := by
    show lk k (rm r _) = _
    rw [lk_rm_other hkr]; exact lk_cons_self _ _ _
  obtain ⟨b, lo, hi, q1, q2, q3, q4, q5⟩ := j1.inv.obj k _ hk1
  obtain ⟨u, u1, u2, u3⟩ := q5 0 _ rfl
  obtain ⟨b', lo', hi', p1, p2, p3, p4, p5⟩ := hj'.inv.obj k _ (lk_cons_self _ _ _)
  obtain ⟨u', u1', u2', u3'⟩ := p5 0 _ rfl
  rw [f1.loc] at q1
  rw [p1] at q1; cases q1
  have huu : u = u' := by rw [u1] at u1'; exact Option.some.inj u1'
  subst huu
  have hsl : RelI σ1.h (.slice l) u := by
    have := f1.slice (k := r) (s := s) (i := 0) (n := l.length) (l := l) (lk_cons_self _ _ _) (by omega) u2'
    rwa [List.drop_zero, List.take_length] at this
  have hlk : ∀ k' o, lk k' [(k, MO.var [PV.i (.slice l)])] = some o → k' = k ∧ o = .var [.i (.slice l)] := fun k' o e => by
    by_cases hk : k' = k
    · subst hk; rw [lk_cons_self] at e; cases e; exact ⟨rfl, rfl⟩
    · rw [lk_cons_other hk] at e; cases e
  have hobj : ∀ k' o, lk k' [(k, MO.var [PV.i (.slice l)])] = some o → ∃ b lo hi, σ1.loc k' = some (b, lo, hi) ∧ lo ≤ hi ∧ OwnR σ1 w' b lo hi ∧ MOK σ1 w' b lo hi o := fun k' o e => by
    obtain ⟨rfl, rfl⟩ := hlk k' o e
    refine ⟨_, _, _, by rw [f1.loc]; exact p1, q2, q3, q4, fun i p hp => ?_⟩
    cases i with
    | zero => cases hp; exact ⟨u, u1, .i _ _ hsl, u3⟩
    | succ i => cases hp
  have hdis : ∀ k' k'' o o' b lo hi b' lo' hi', lk k' [(k, MO.var [PV.i (.slice l)])] = some o → lk k'' [(k, MO.var [PV.i (.slice l)])] = some o' → k' ≠ k'' → σ1.loc k' = some (b, lo, hi) → σ1.loc k'' = some (b', lo', hi') → lo < hi → lo' < hi' → b ≠ b' := fun k' k'' o o' b lo hi b' lo' hi' e e' hne => by
    obtain ⟨h1, _⟩ := hlk k' o e
    obtain ⟨h2, _⟩ := hlk k'' o' e'
    exact absurd (h1.trans h2.symm) hne
  have j2 : J G (Ent.at σ m0 w) σ1 [(k, .var [.i (.slice l)])] w' := {
    inv := { hh := j1.inv.hh, obj := hobj, dis := hdis }
    glob := j1.glob
    hm := j1.hm
    os := j1.os
    tape := j1.tape
    out := j1.out
    sz := j1.sz
    old := j1.old
    hn := j1.hn
    own := fun k' o b lo hi e => by
      obtain ⟨rfl, rfl⟩ := hlk k' o e
      exact j1.own k' _ b lo hi hk1
    kp := j1.kp
    kn := fun k' o L e1 e2 e3 => by
      obtain ⟨rfl, rfl⟩ := hlk k' o e2
      rfl }
  obtain ⟨σ2, f2, j3⟩ := j2.freeze (F := [(k, .var [.slice l])]) ⟨⟨_, lk_cons_self _ _ _, rfl⟩, trivial⟩
  refine ⟨v, σ2, rfl, .i _ _ ?_, j3.le (by simp)⟩
  have rv1 : RelP σ1 (.ptr k 0) v := rv.mono0 f1.mono0
  have := rv1.ivF f2 (x := .rptr ([IV.slice l].drop 0)) (by simp only [ivF, lk_cons_self])
  exact this
end
end Go.Kn
