/- The reference's package of layer 4: the object that bytes may be. -/
import Derived.Test.YtadcjononmlofaaDoorKnR04b
set_option autoImplicit false
namespace Go.Kn
open Go Go.Proofs

variable {G : Gl}

def gEnts : Nat → List UInt8 → List Entry
  | 0, _ => []
  | m + 1, t => if t = [] then [] else
    ⟨(takeR (t.drop 1)).1, ((t.getD 0 0).toNat : Int), idOf (t.drop (1 + (takeR (t.drop 1)).2))⟩ :: gEnts m ((t.drop (1 + (takeR (t.drop 1)).2)).drop 32)

def gIds : Nat → List UInt8 → List Id × List UInt8
  | 0, t => ([], t)
  | m + 1, t => (idOf t :: (gIds m (t.drop 32)).1, (gIds m (t.drop 32)).2)

def gCom (t : List UInt8) : Obj :=
  let g := getR (t.drop 32)
  let q := gIds (min g.1 9) ((t.drop 32).drop g.2)
  let h := getR q.2
  { Obj.ofKind 3 with tree := idOf t, parents := q.1, time := h.1 % 4294967296, text := (takeR (q.2.drop h.2)).1 }

def gTag (t : List UInt8) : Obj :=
  { Obj.ofKind 4 with of := ((t.getD 0 0).toNat : Int), target := idOf (t.drop 1), name := (takeR ((t.drop 1).drop 32)).1 }

def guessB (k : Int) (t : List UInt8) : Obj :=
  if k = 1 then { Obj.ofKind k with data := t } else if k = 2 then { Obj.ofKind k with entries := gEnts 65 t } else if k = 3 then gCom t else if k = 4 then gTag t else Obj.ofKind k

def guessR (s : List UInt8) : Obj := if (takeR (s.drop 1)).2 = 0 then Obj.ofKind 0 else guessB ((s.getD 0 0).toNat : Int) (takeR (s.drop 1)).1

theorem takeR_len (s : List UInt8) : (takeR s).1.length ≤ s.length ∧ (takeR s).2 ≤ s.length := by
  have := getR_le s
  unfold takeR
  split
  · simp
  · rename_i h
    simp; omega

def gM (k : Int) (es : List Entry) : Mem := [(2, .var (objCells (Obj.ofKind 0) (.full []) (.full []))), (3, .var (objCells (Obj.ofKind k) (.tok 64 34 (es.map encEntry)) (.full []))), (64, .tip)]

theorem guess_loop1 {t0 : List UInt8} {k : Int} (hl : t0.length < 1000000) {env : Env} {m : Mem} {Q : EQ}
    (hE : LkE env [(2, .ptr 2 0), (3, .ptr 3 0), (4, .i (.str t0)), (6, .i (.int .i64 0))]) (hM : LkM m (gM k []))
    (hQ : Q (.exit 1) [(2, .ptr 2 0), (3, .ptr 3 0)] (gM k (gEnts 65 t0))) :
    LoopW Pg G Fb.ref04_guess.ntmps (nthLoop Fb.ref04_guess 0) env m Q := by
  refine loopX T_ok 1 (S := Nat × List UInt8 × List Entry) (S' := Unit) (fun s => [(2, .ptr 2 0), (3, .ptr 3 0), (4, .i (.str s.2.1)), (6, .i (.int .i64 (s.1 : Int)))]) (fun s => gM k s.2.2) (fun s => 65 - s.1)
    (fun s => s.1 ≤ 65 ∧ s.2.1.length < 1000000 ∧ s.2.2.length ≤ s.1 ∧ s.2.2 ++ gEnts (65 - s.1) s.2.1 = gEnts 65 t0)
    (fun _ => [(2, .ptr 2 0), (3, .ptr 3 0)]) (fun _ => gM k (gEnts 65 t0)) (fun _ => True) (0, t0, []) hE hM ⟨by simp, by simpa using hl, by simp, by simp⟩ ?_ (fun _ _ => hQ)
  rintro ⟨i, t, es⟩ ⟨h1, h2, h3, h4⟩
  simp only at h1 h2 h3 h4
  have stop : (i = 65 ∨ t = []) → es = gEnts 65 t0 := fun h => by
    rw [← h4]
    rcases h with h | h
    · subst h; simp [gEnts]
    · cases h5 : 65 - i with
      | zero => simp [gEnts]
      | succ n => simp [gEnts, h]
  refine condP.split (fun g => ?_) (fun g => ?_)
  · have g' : i < 65 := by have : (i : Int) < 65 := of_decide_eq_true g; omega
    refine condP.split (fun g2 => ?_) (fun g2 => ?_)
    · have g2' : t ≠ [] := by simpa using g2
      have hpos : 0 < t.length := List.length_pos_iff.2 g2'
      have hdr : (t.take (t.length : Int).toNat).drop (1 : Int).toNat = t.drop 1 := by simp
      have ht := ref01_Take_ok (G := G) (t.drop 1) (by simp; omega)
      rw [← hdr] at ht
      have hk2 := (takeR_len (t.drop 1)).2
      have hlt := (t.getD 0 0).toNat_lt
      refine ⟨⟨by decide, by show (1 : Int) ≤ t.length; omega, by simp⟩, ?_⟩
      refine ⟨_, _, _, pureCall ht rfl, ?_⟩
      rw [hdr]
      have hw : IntKind.i64.wrap (1 + ((takeR (t.drop 1)).2 : Int)) = ((1 + (takeR (t.drop 1)).2 : Nat) : Int) := by
        rw [List.length_drop] at hk2
        rw [wrap_i64 (by omega) (by omega)]; omega
      refine ⟨_, _, _, pureCall (ref04_behind_ok t (1 + (takeR (t.drop 1)).2)) ?_, ?_⟩
      · exact congrArg (fun n => some [IV.str t, IV.int .i64 n]) hw
      have hkw : IntKind.i64.wrap ((t.getD 0 0).toNat : Int) = ((t.getD 0 0).toNat : Int) := wrap_i64 (by omega) (by omega)
      refine drawW T_ok (by decide +kernel) ?_
      refine ⟨⟨by decide, by show (0 : Int) < t.length; omega⟩, ?_⟩
      refine ⟨_, _, ⟨rfl, ref04_id_ok (t.drop (1 + (takeR (t.drop 1)).2)) (by simp; omega)⟩, ?_⟩
      refine ⟨⟨⟨hasSize_ent _, fun x hx => by have := List.mem_singleton.1 hx; subst this; rfl⟩, szOK (by simp; omega) (by kernel_rfl)⟩, ?_⟩
      refine ⟨by kernel_rfl, ?_⟩
      refine ⟨_, _, _, pureCall (ref04_behind_ok (t.drop (1 + (takeR (t.drop 1)).2)) 32) rfl, ?_⟩
      have hge : gEnts (65 - i) t = ⟨(takeR (t.drop 1)).1, ((t.getD 0 0).toNat : Int), idOf (t.drop (1 + (takeR (t.drop 1)).2))⟩ :: gEnts (65 - (i + 1)) ((t.drop (1 + (takeR (t.drop 1)).2)).drop 32) := by
        rw [show 65 - i = 65 - (i + 1) + 1 by omega, gEnts, if_neg g2']
      refine ⟨(i + 1, (t.drop (1 + (takeR (t.drop 1)).2)).drop 32, es ++ [⟨(takeR (t.drop 1)).1, ((t.getD 0 0).toNat : Int), idOf (t.drop (1 + (takeR (t.drop 1)).2))⟩]), ⟨by simp only; omega, by simp only; omega, by simp; omega, by simp; omega, ?_⟩, ⟨rfl, rfl, rfl, congrArg (fun n => some (PV.i (IV.int .i64 n))) (int_succ (by omega)), trivial⟩, ⟨rfl, ?_, rfl, trivial⟩⟩
      · rw [← h4, hge]; simp
      · rw [List.map_append]
        show some (MO.var (objCells (Obj.ofKind k) (.tok 64 34 (es.map encEntry ++ [.agg (.str (takeR (t.drop 1)).1 :: .int .i64 (IntKind.i64.wrap ((t.getD 0 0).toNat : Int)) :: idC (idOf (t.drop (1 + (takeR (t.drop 1)).2))))])) (.full []))) = _
        rw [hkw]; rfl
    · have g2' : t = [] := by simpa using g2
      rw [← stop (.inr g2')]
      exact ⟨(), trivial, ⟨rfl, rfl, trivial⟩, ⟨rfl, rfl, rfl, trivial⟩⟩
  · have g' : i = 65 := by have : ¬ (i : Int) < 65 := of_decide_eq_false g; omega
    rw [← stop (.inl g')]
    exact ⟨(), trivial, ⟨rfl, rfl, trivial⟩, ⟨rfl, rfl, rfl, trivial⟩⟩
def gM3 (x : Id) (k : Int) (ps : List Id) : Mem := [(2, .var (objCells (Obj.ofKind 0) (.full []) (.full []))), (3, .var (objCells { Obj.ofKind k with tree := x } (.full []) (.tok 97 32 (ps.map encId)))), (97, .tip)]

theorem gIds_len : ∀ (m : Nat) (t : List UInt8), (gIds m t).2.length ≤ t.length ∧ (gIds m t).1.length = m
  | 0, t => by simp [gIds]
  | m + 1, t => by
    have := gIds_len m (t.drop 32)
    simp [gIds] at this ⊢; omega

theorem guess_loop2 {t0 : List UInt8} {k : Int} {x : Id} {n : Nat} (hn : n < 18446744073709551616) (hl : t0.length < 1000000) {env : Env} {m : Mem} {Q : EQ}
    (hE : LkE env [(2, .ptr 2 0), (3, .ptr 3 0), (4, .i (.str t0)), (10, .i (.int .u64 (n : Int))), (12, .i (.int .u64 0))]) (hM : LkM m (gM3 x k []))
    (hQ : Q (.exit 3) [(2, .ptr 2 0), (3, .ptr 3 0), (4, .i (.str (gIds (min n 9) t0).2))] (gM3 x k (gIds (min n 9) t0).1)) :
    LoopW Pg G Fb.ref04_guess.ntmps (nthLoop Fb.ref04_guess 1) env m Q := by
  refine loopX T_ok 3 (S := Nat × List UInt8 × List Id) (S' := Unit) (fun s => [(2, .ptr 2 0), (3, .ptr 3 0), (4, .i (.str s.2.1)), (10, .i (.int .u64 (n : Int))), (12, .i (.int .u64 (s.1 : Int)))]) (fun s => gM3 x k s.2.2) (fun s => min n 9 - s.1)
    (fun s => s.1 ≤ min n 9 ∧ s.2.1.length < 1000000 ∧ s.2.2.length ≤ s.1 ∧ s.2.2 ++ (gIds (min n 9 - s.1) s.2.1).1 = (gIds (min n 9) t0).1 ∧ (gIds (min n 9 - s.1) s.2.1).2 = (gIds (min n 9) t0).2)
    (fun _ => [(2, .ptr 2 0), (3, .ptr 3 0), (4, .i (.str (gIds (min n 9) t0).2))]) (fun _ => gM3 x k (gIds (min n 9) t0).1) (fun _ => True) (0, t0, []) hE hM ⟨by simp, by simpa using hl, by simp, by simp, by simp⟩ ?_ (fun _ _ => hQ)
  rintro ⟨i, t, es⟩ ⟨h1, h2, h3, h4, h5⟩
  simp only at h1 h2 h3 h4 h5
  have stop : i = min n 9 → es = (gIds (min n 9) t0).1 ∧ t = (gIds (min n 9) t0).2 := fun h => by
    rw [← h4, ← h5, ← h]; simp [gIds]
  refine condP.split (fun g => ?_) (fun g => ?_)
  · have g' : i < n := by have : (i : Int) < n := of_decide_eq_true g; omega
    refine condP.split (fun g2 => ?_) (fun g2 => ?_)
    · have g2' : i < 9 := by have : (i : Int) < 9 := of_decide_eq_true g2; omega
      have hg : gIds (min n 9 - i) t = (idOf t :: (gIds (min n 9 - (i + 1)) (t.drop 32)).1, (gIds (min n 9 - (i + 1)) (t.drop 32)).2) := by
        rw [show min n 9 - i = min n 9 - (i + 1) + 1 by omega, gIds]
      rw [hg] at h4 h5
      refine drawW T_ok (by decide +kernel) ?_
      refine ⟨_, _, ⟨rfl, ref04_id_ok t (by omega)⟩, ?_⟩
      refine ⟨⟨⟨hasSize_id _, fun x hx => by have := List.mem_singleton.1 hx; subst this; rfl⟩, szOK (by simp; omega) (by kernel_rfl)⟩, ?_⟩
      refine ⟨by kernel_rfl, ?_⟩
      refine ⟨_, _, _, pureCall (ref04_behind_ok t 32) rfl, ?_⟩
      refine ⟨(i + 1, t.drop 32, es ++ [idOf t]), ⟨by simp only; omega, by simp only; omega, by simp; omega, by simp; omega, ?_, h5⟩, ⟨rfl, rfl, rfl, rfl, ?_, trivial⟩, ⟨rfl, ?_, rfl, trivial⟩⟩
      · rw [← h4]; simp
      · show some (PV.i (IV.int .u64 (IntKind.u64.wrap ((i : Int) + 1)))) = _
        rw [wrap_u64 (by omega) (by omega)]; rfl
      · rw [List.map_append]; rfl
    · have g2' : ¬ i < 9 := by have : ¬ (i : Int) < 9 := of_decide_eq_false g2; omega
      obtain ⟨q1, q2⟩ := stop (by omega)
      rw [← q1, ← q2]
      exact ⟨(), trivial, ⟨rfl, rfl, rfl, trivial⟩, ⟨rfl, rfl, rfl, trivial⟩⟩
  · have g' : ¬ i < n := by have : ¬ (i : Int) < n := of_decide_eq_false g; omega
    obtain ⟨q1, q2⟩ := stop (by omega)
    rw [← q1, ← q2]
    exact ⟨(), trivial, ⟨rfl, rfl, rfl, trivial⟩, ⟨rfl, rfl, rfl, trivial⟩⟩

def g0M (k : Int) : Mem := [(2, .var (objCells (Obj.ofKind 0) (.full []) (.full []))), (3, .var (objCells (Obj.ofKind k) (.full []) (.full [])))]

theorem gE_tok {k : Int} : TLes 64 (objCells (Obj.ofKind k) (.full []) (.full [])) (objCells (Obj.ofKind k) (.tok 64 34 []) (.full [])) :=
  ⟨.refl _, .refl _, .tok 34, TLes.refl _⟩

theorem g3_tok {k : Int} {x : Id} : TLes 97 (objCells { Obj.ofKind k with tree := x } (.full []) (.full [])) (objCells { Obj.ofKind k with tree := x } (.full []) (.tok 97 32 [])) :=
  ⟨.refl _, .refl _, .refl _, (TLes.refl _).append ⟨.tok 32, TLes.refl _⟩⟩

set_option maxHeartbeats 4000000 in
set_option maxRecDepth 100000 in
theorem ref04_guess_ok (s : List UInt8) (h0 : s ≠ []) (hs : s.length < 1000000) : PureC Pg G Fn.ref04_guess [.str s] (encObj (guessR s)) := by
  have hpos : 0 < s.length := List.length_pos_iff.2 h0
  have hlt := (s.getD 0 0).toNat_lt
  have hk : IntKind.i64.wrap (((s.getD (0 : Int).toNat 0).toNat : Nat) : Int) = ((s.getD 0 0).toNat : Int) := wrap_i64 (by omega) (by show ((s.getD 0 0).toNat : Int) < _; omega)
  have fin : ∀ o, o = guessR s → some (encObj o) = some (encObj (guessR s)) := fun o h => by rw [h]
  refine pureW_of T_ok Fd.ref04_guess rfl (by kernel_rfl) ?_
  refine CW.next T_ok ?_
  refine CW.cut T_ok (S := Unit) (fun _ => [(0, .i (.str s)), (2, .ptr 2 0), (3, .ptr 3 0)]) (fun _ => g0M ((s.getD 0 0).toNat : Int)) (fun _ => True) ?_ ?_
  · refine ⟨⟨by decide, by show (0 : Int) < s.length; omega⟩, ?_⟩
    refine ⟨(), trivial, ⟨rfl, rfl, rfl, trivial⟩, ⟨rfl, ?_, trivial⟩⟩
    rw [← hk]; rfl
  intro _ _
  have hdr : (s.take (s.length : Int).toNat).drop (1 : Int).toNat = s.drop 1 := by simp
  have ht := ref01_Take_ok (G := G) (s.drop 1) (by simp; omega)
  rw [← hdr] at ht
  refine CW.next T_ok ?_
  refine ⟨⟨by decide, by show (1 : Int) ≤ s.length; omega, by simp⟩, ?_⟩
  refine ⟨_, _, _, pureCall ht rfl, ?_⟩
  rw [hdr]
  have htl := (takeR_len (s.drop 1)).1
  have hgd : guessR s = if (takeR (s.drop 1)).2 = 0 then Obj.ofKind 0 else guessB ((s.getD 0 0).toNat : Int) (takeR (s.drop 1)).1 := rfl
  generalize takeR (s.drop 1) = p at *
  generalize ((s.getD 0 0).toNat : Int) = k at *
  obtain ⟨t, c⟩ := p
  simp only at htl hgd
  have htl' : t.length < 1000000 := by rw [List.length_drop] at htl; omega
  refine CW.cut T_ok (S := Unit) (fun _ => [(2, .ptr 2 0), (3, .ptr 3 0), (4, .i (.str t))]) (fun _ => g0M k) (fun _ => c ≠ 0) ?_ ?_
  · refine condP.split (fun g => ?_) (fun g => ?_)
    · have g' : c = 0 := by have h : ((c : Int) == 0) = true := g; have := eq_of_beq h; omega
      exact fin _ (by rw [hgd, if_pos g'])
    · have g' : c ≠ 0 := by intro e; subst e; have h : (((0 : Nat) : Int) == 0) = false := g; simp at h
      exact ⟨(), g', ⟨rfl, rfl, rfl, trivial⟩, ⟨rfl, rfl, trivial⟩⟩
  intro _ hc
  rw [if_neg hc] at hgd
  refine CW.go T_ok ?_
  refine condP.split (fun k1 => ?_) (fun k1 => ?_)
  · have k1' : k = 1 := eq_of_beq k1
    exact fin { Obj.ofKind k with data := t } (by rw [hgd, guessB, if_pos k1'])
  · have k1' : k ≠ 1 := by have h : (k == 1) = false := k1; simpa using h
    refine condP.split (fun k2 => ?_) (fun k2 => ?_)
    · have k2' : k = 2 := eq_of_beq k2
      refine LoopW.tok0 64 rfl rfl (env' := [(2, .ptr 2 0), (3, .ptr 3 0), (4, .i (.str t)), (6, .i (.int .i64 0))]) (m' := gM k []) ⟨⟨_, rfl, .refl _⟩, ⟨_, rfl, .refl _⟩, ⟨_, rfl, .refl _⟩, ⟨_, rfl, .refl _⟩, trivial⟩
        ⟨.inr ⟨by decide, _, rfl, .refl _⟩, .inr ⟨by decide, _, rfl, .var _ _ (gE_tok (k := k))⟩, .inl ⟨rfl, .tip⟩, trivial⟩ ?_
      refine guess_loop1 (t0 := t) (k := k) htl' ⟨rfl, rfl, rfl, rfl, trivial⟩ ⟨rfl, rfl, rfl, trivial⟩ ?_
      refine fin { Obj.ofKind k with entries := gEnts 65 t } (by rw [hgd, guessB, if_neg k1', if_pos k2'])
    · have k2' : k ≠ 2 := by have h : (k == 2) = false := k2; simpa using h
      refine condP.split (fun k3 => ?_) (fun k3 => ?_)
      · have k3' : k = 3 := eq_of_beq k3
        refine ⟨_, _, _, pureCall (ref04_id_ok t (by omega)) rfl, ?_⟩
        refine ⟨_, _, _, pureCall (ref04_behind_ok t 32) rfl, ?_⟩
        have hl1 : (t.drop 32).length < 1000000 := by simp; omega
        refine ⟨_, _, _, pureCall (ref01_Get_ok (t.drop 32) (by omega)) rfl, ?_⟩
        refine ⟨_, _, _, pureCall (ref04_behind_ok (t.drop 32) (getR (t.drop 32)).2) rfl, ?_⟩
        have hgr := (getR_le (t.drop 32)).2
        have hl2 : ((t.drop 32).drop (getR (t.drop 32)).2).length < 1000000 := by rw [List.length_drop]; omega
        refine LoopW.tok0 97 rfl rfl (env' := [(2, .ptr 2 0), (3, .ptr 3 0), (4, .i (.str ((t.drop 32).drop (getR (t.drop 32)).2))), (10, .i (.int .u64 ((getR (t.drop 32)).1 : Int))), (12, .i (.int .u64 0))]) (m' := gM3 (idOf t) k [])
          ⟨⟨_, rfl, .refl _⟩, ⟨_, rfl, .refl _⟩, ⟨_, rfl, .refl _⟩, ⟨_, rfl, .refl _⟩, ⟨_, rfl, .refl _⟩, trivial⟩
          ⟨.inr ⟨by decide, _, rfl, .refl _⟩, .inr ⟨by decide, _, rfl, .var _ _ (g3_tok (k := k) (x := idOf t))⟩, .inl ⟨rfl, .tip⟩, trivial⟩ ?_
        refine guess_loop2 (t0 := (t.drop 32).drop (getR (t.drop 32)).2) (k := k) (x := idOf t) (n := (getR (t.drop 32)).1) hgr hl2 ⟨rfl, rfl, rfl, rfl, rfl, trivial⟩ ⟨rfl, rfl, rfl, trivial⟩ ?_
        have hl3 := (gIds_len (min (getR (t.drop 32)).1 9) ((t.drop 32).drop (getR (t.drop 32)).2)).1
        have hcom : gCom t = { Obj.ofKind 3 with tree := idOf t, parents := (gIds (min (getR (t.drop 32)).1 9) ((t.drop 32).drop (getR (t.drop 32)).2)).1, time := (getR (gIds (min (getR (t.drop 32)).1 9) ((t.drop 32).drop (getR (t.drop 32)).2)).2).1 % 4294967296, text := (takeR ((gIds (min (getR (t.drop 32)).1 9) ((t.drop 32).drop (getR (t.drop 32)).2)).2.drop (getR (gIds (min (getR (t.drop 32)).1 9) ((t.drop 32).drop (getR (t.drop 32)).2)).2).2)).1 } := rfl
        generalize gIds (min (getR (t.drop 32)).1 9) ((t.drop 32).drop (getR (t.drop 32)).2) = q at *
        obtain ⟨ps, u⟩ := q
        simp only at hl3 hcom
        have hlu : u.length < 1000000 := by omega
        refine ⟨_, _, _, pureCall (ref01_Get_ok u (by omega)) rfl, ?_⟩
        refine ⟨by decide, ?_⟩
        refine ⟨_, _, _, pureCall (ref04_behind_ok u (getR u).2) rfl, ?_⟩
        refine ⟨_, _, _, pureCall (ref01_Take_ok (u.drop (getR u).2) (by rw [List.length_drop]; omega)) rfl, ?_⟩
        have hw : IntKind.u32.wrap (((getR u).1 : Int).tmod 4294967296) = (((getR u).1 % 4294967296 : Nat) : Int) := by
          rw [Int.tmod_eq_emod_of_nonneg (by omega), wrap_u32_mod]; omega
        have he : some (IV.agg (.int .i64 k :: .str [] :: .slice [] :: (idC (idOf t) ++ .slice (ps.map encId) :: .int .u32 (IntKind.u32.wrap (((getR u).1 : Int).tmod 4294967296)) :: .str (takeR (u.drop (getR u).2)).1 :: (idC Id.none ++ [.int .i64 0, .str []])))) = some (encObj (guessR s)) := by
          rw [hw, hgd, guessB, if_neg k1', if_neg k2', if_pos k3', hcom, k3']; rfl
        exact he
      · have k3' : k ≠ 3 := by have h : (k == 3) = false := k3; simpa using h
        refine condP.split (fun k4 => ?_) (fun k4 => ?_)
        · have k4' : k = 4 := eq_of_beq k4
          have hfin : ∀ (b : Int), b = ((t.getD 0 0).toNat : Int) → some (IV.agg (.int .i64 k :: .str [] :: .slice [] :: (idC Id.none ++ .slice [] :: .int .u32 0 :: .str [] :: (idC (idOf (t.drop 1)) ++ [.int .i64 b, .str (takeR ((t.drop 1).drop 32)).1])))) = some (encObj (guessR s)) := fun b hb => by
            rw [hgd, guessB, if_neg k1', if_neg k2', if_neg k3', if_pos k4', gTag, k4', hb]; rfl
          refine condP.split (fun g => ?_) (fun g => ?_)
          · have g' : t ≠ [] := by simpa using g
            have hp : 0 < t.length := List.length_pos_iff.2 g'
            have hlt2 := (t.getD 0 0).toNat_lt
            refine ⟨⟨by decide, by show (0 : Int) < t.length; omega⟩, ?_⟩
            refine ⟨_, _, _, pureCall (ref04_behind_ok t 1) rfl, ?_⟩
            refine ⟨_, _, _, pureCall (ref04_id_ok (t.drop 1) (by rw [List.length_drop]; omega)) rfl, ?_⟩
            refine ⟨_, _, _, pureCall (ref04_behind_ok (t.drop 1) 32) rfl, ?_⟩
            refine ⟨_, _, _, pureCall (ref01_Take_ok ((t.drop 1).drop 32) (by rw [List.length_drop, List.length_drop]; omega)) rfl, ?_⟩
            exact hfin (IntKind.i64.wrap ((t.getD 0 0).toNat : Int)) (wrap_i64 (by omega) (by omega))
          · have g' : t = [] := by simpa using g
            refine ⟨_, _, _, pureCall (ref04_behind_ok t 1) rfl, ?_⟩
            refine ⟨_, _, _, pureCall (ref04_id_ok (t.drop 1) (by rw [List.length_drop]; omega)) rfl, ?_⟩
            refine ⟨_, _, _, pureCall (ref04_behind_ok (t.drop 1) 32) rfl, ?_⟩
            refine ⟨_, _, _, pureCall (ref01_Take_ok ((t.drop 1).drop 32) (by rw [List.length_drop, List.length_drop]; omega)) rfl, ?_⟩
            exact hfin 0 (by rw [g']; rfl)
        · have k4' : k ≠ 4 := by have h : (k == 4) = false := k4; simpa using h
          exact fin (Obj.ofKind k) (by rw [hgd, guessB, if_neg k1', if_neg k2', if_neg k3', if_neg k4'])
end Go.Kn
