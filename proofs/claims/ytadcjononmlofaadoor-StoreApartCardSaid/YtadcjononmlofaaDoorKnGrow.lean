/- What seeds grow. -/
import Derived.Test.YtadcjononmlofaaDoorKnMake
set_option autoImplicit false
namespace Go.Kn
open Go Go.Proofs

variable {G : Gl}

def growS (s : List RItem × List Id) (x : Seed) : List RItem × List Id :=
  match encodeR (make1R s.1 s.2 x) with
  | none => s
  | some t => if (withR s.1 t).2.2 then ((withR s.1 t).1, s.2 ++ [(withR s.1 t).2.1]) else s

def growR (l : List Seed) : List RItem × List Id := l.foldl growS ([], [])

theorem growR_succ {l : List Seed} {i : Nat} (h : i < l.length) : growR (l.take (i + 1)) = growS (growR (l.take i)) l[i] := by
  rw [growR, growR, List.take_succ_eq_append_getElem h, List.foldl_append]; rfl

theorem encodeR_len {o : Obj} {t : List UInt8} (h : encodeR o = some t) : t.length ≤ 4096 := by
  unfold encodeR at h
  split at h
  · cases h
  · split at h
    · cases h
    · cases h; omega

theorem withR_len (m : List RItem) (t : List UInt8) : (withR m t).1.length ≤ m.length + 1 := by
  unfold withR
  cases decodeR t with
  | none => simp
  | some o =>
    simp only
    split
    · simp
    · have := wAt_le m (sha t)
      simp [insR]; omega

theorem growS_len (s : List RItem × List Id) (x : Seed) : (growS s x).1.length ≤ s.1.length + 1 ∧ (growS s x).2.length ≤ s.2.length + 1 := by
  unfold growS
  split
  · omega
  · split
    · exact ⟨withR_len _ _, by simp⟩
    · omega

theorem growR_len (l : List Seed) : ∀ i, i ≤ l.length → (growR (l.take i)).1.length ≤ i ∧ (growR (l.take i)).2.length ≤ i
  | 0, _ => by simp [growR]
  | i + 1, h => by
    have h1 := growR_len l i (by omega)
    rw [growR_succ (by omega)]
    have := growS_len (growR (l.take i)) l[i]
    omega

theorem growS_corr (H : SameDec) {s : List RItem × List Id} (h : Corr s.1) (x : Seed) : Corr (growS s x).1 := by
  unfold growS
  split
  · exact h
  · rename_i t e
    split
    · exact (put_corr H h (by have := encodeR_len e; omega)).1
    · exact h

theorem growR_corr (H : SameDec) (l : List Seed) : Corr (growR l).1 := by
  have : ∀ s : List RItem × List Id, Corr s.1 → Corr (l.foldl growS s).1 := by
    induction l with
    | nil => exact fun s h => h
    | cons x l ih => exact fun s h => ih _ (growS_corr H h x)
  exact this _ Corr.nil

def grE (l : List Seed) (s : List RItem × List Id) (i : Nat) : Env := [(0, .i (.slice (l.map encSeed))), (2, .ptr 2 0), (4, .ptr 4 0), (5, .tok 69 32 (s.2.map encId)), (6, .i (.int .i64 (i : Int)))]
def grM (s : List RItem × List Id) : Mem := [(2, .var [.full []]), (4, .var [.i (.slice (s.1.map encRItem))]), (69, .tip)]

set_option maxHeartbeats 1000000 in
set_option maxRecDepth 100000 in
theorem ref11_Grow_ok (l : List Seed) (hl : l.length ≤ 20) (ht : ∀ x ∈ l, x.text.length ≤ 300) :
    PureC Pg G Fn.ref11_Grow [.slice (l.map encSeed)] (.tup [encSt (growR l).1, .slice ((growR l).2.map encId)]) := by
  refine pureC_of T_ok Fd.ref11_Grow rfl (by kernel_rfl) ?_
  refine LoopW.tok0 69 rfl rfl (env' := grE l ([], []) 0) (m' := grM ([], []))
    ⟨⟨_, rfl, .refl _⟩, ⟨_, rfl, .refl _⟩, ⟨_, rfl, .refl _⟩, ⟨_, rfl, .tok 32⟩, ⟨_, rfl, .refl _⟩, trivial⟩
    ⟨.inr ⟨by decide, _, rfl, .refl _⟩, .inr ⟨by decide, _, rfl, .var _ _ ⟨.le _ _ (.full _), rfl⟩⟩, .inl ⟨rfl, .tip⟩, trivial⟩ ?_
  refine loopX T_ok 0 (S := Nat) (S' := Unit) (fun i => grE l (growR (l.take i)) i) (fun i => grM (growR (l.take i))) (fun i => l.length - i) (fun i => i ≤ l.length)
    (fun _ => grE l (growR l) l.length) (fun _ => grM (growR l)) (fun _ => True) 0 ⟨rfl, rfl, rfl, rfl, rfl, trivial⟩ ⟨rfl, rfl, rfl, trivial⟩ (by omega) ?_ ?_
  · intro i hi
    refine condP.split (fun g => ?_) (fun g => ?_)
    · have g' : i < l.length := by have h : (i : Int) < ((l.map encSeed).length : Int) := of_decide_eq_true g; rw [lenS] at h; omega
      obtain ⟨hm, hd⟩ := growR_len l i hi
      have hs := growR_succ g'
      have hx : l[i].text.length ≤ 300 := ht _ (List.getElem_mem g')
      generalize growR (l.take i) = s at *
      have hmk := ref11_make1_ok (G := G) s.1 s.2 l[i] (by omega) (by omega)
      have hsm := make1R_small s.1 s.2 l[i] hx
      have hen := ref04_Encode_ok (G := G) _ hsm
      have hgs : growS s l[i] = match encodeR (make1R s.1 s.2 l[i]) with
        | none => s
        | some t => if (withR s.1 t).2.2 then ((withR s.1 t).1, s.2 ++ [(withR s.1 t).2.1]) else s := rfl
      rw [hgs] at hs
      generalize make1R s.1 s.2 l[i] = o at *
      cases he : encodeR o with
      | none =>
        rw [he] at hs hen
        refine drawW T_ok (by decide +kernel) ?_
        refine ⟨encSeed l[i], ⟨by omega, by simp [g']⟩, ?_⟩
        refine ⟨_, _, ⟨rfl, hmk⟩, ?_⟩
        refine ⟨_, _, ⟨rfl, hen⟩, ?_⟩
        refine ⟨by kernel_rfl, ?_⟩
        refine ⟨i + 1, ⟨by omega, by omega⟩, ⟨rfl, rfl, rfl, ?_, congrArg (fun n => some (PV.i (IV.int .i64 n))) (int_succ (by omega)), trivial⟩, ⟨rfl, ?_, rfl, trivial⟩⟩
        · rw [hs]; rfl
        · rw [hs]; rfl
      | some t =>
        have htl := encodeR_len he
        rw [he] at hs hen
        have hw := ref11_With_ok (G := G) s.1 t (by omega) (by omega)
        refine drawW T_ok (by decide +kernel) ?_
        refine ⟨encSeed l[i], ⟨by omega, by simp [g']⟩, ?_⟩
        refine ⟨_, _, ⟨rfl, hmk⟩, ?_⟩
        refine ⟨_, _, ⟨rfl, hen⟩, ?_⟩
        refine ⟨by kernel_rfl, ?_⟩
        refine ⟨_, _, _, pureCall hw rfl, ?_⟩
        simp only at hs
        generalize withR s.1 t = r at *
        obtain ⟨m2, y, ok⟩ := r
        cases ok with
        | false =>
          refine ⟨i + 1, ⟨by omega, by omega⟩, ⟨rfl, rfl, rfl, ?_, congrArg (fun n => some (PV.i (IV.int .i64 n))) (int_succ (by omega)), trivial⟩, ⟨rfl, ?_, rfl, trivial⟩⟩
          · rw [hs]; rfl
          · rw [hs]; rfl
        | true =>
          refine ⟨⟨⟨hasSize_id _, fun x hx => by have := List.mem_singleton.1 hx; subst this; exact encId_len _⟩, szOK (by simp; omega) (by kernel_rfl)⟩, ?_⟩
          refine ⟨i + 1, ⟨by omega, by omega⟩, ⟨rfl, rfl, rfl, ?_, congrArg (fun n => some (PV.i (IV.int .i64 n))) (int_succ (by omega)), trivial⟩, ⟨rfl, ?_, rfl, trivial⟩⟩
          · rw [hs]
            show _ = some (PV.tok 69 32 ((s.2 ++ [y]).map encId))
            rw [List.map_append]; rfl
          · rw [hs]; rfl
    · have g' : i = l.length := by have h : ¬ (i : Int) < ((l.map encSeed).length : Int) := of_decide_eq_false g; rw [lenS] at h; omega
      subst g'
      rw [List.take_length]
      exact ⟨(), trivial, ⟨rfl, rfl, rfl, rfl, rfl, trivial⟩, ⟨rfl, rfl, rfl, trivial⟩⟩
  · intro _ _
    rfl
end Go.Kn
