/- The object that a seed makes. -/
import Derived.Test.YtadcjononmlofaaDoorKnSeed
set_option autoImplicit false
namespace Go.Kn
open Go Go.Proofs

variable {G : Gl}

def entM (m : List RItem) (ids : List Id) (x : Seed) : Nat → List Entry
  | 0 => []
  | i + 1 => entM m ids x i ++ (match pickR m ids (x.refs.getD i 0).toNat 9 with
    | some y => [⟨nameR i, kindR m y, y⟩]
    | none => [])

def parM (m : List RItem) (ids : List Id) (x : Seed) : Nat → List Id
  | 0 => []
  | i + 1 => parM m ids x i ++ (match pickR m ids (x.refs.getD i 0).toNat 3 with
    | some y => if (parM m ids x i).length = i then [y] else []
    | none => [])

def ofM (m : List RItem) (x : Seed) (y : Id) : Int := if 1 < x.refs.length ∧ x.refs.getD 1 0 = 250 then IntKind.i64.wrap (1 + (kindR m y).tmod 4) else kindR m y

def make1R (m : List RItem) (ids : List Id) (x : Seed) : Obj :=
  if x.kind.toNat % 4 = 1 then { Obj.ofKind 2 with entries := entM m ids x (min x.refs.length 5) }
  else if x.kind.toNat % 4 = 2 then match pickR m ids x.time 2 with
    | none => Obj.ofKind 0
    | some t => { Obj.ofKind 3 with tree := t, time := x.time, text := x.text, parents := parM m ids x (min x.refs.length 4) }
  else if x.kind.toNat % 4 = 3 then if x.refs = [] then Obj.ofKind 0 else match pickR m ids (x.refs.getD 0 0).toNat 0 with
    | none => Obj.ofKind 0
    | some y => { Obj.ofKind 4 with target := y, of := ofM m x y, name := [116] }
  else { Obj.ofKind 1 with data := x.text }

theorem entM_small (m : List RItem) (ids : List Id) (x : Seed) : ∀ i, (entM m ids x i).length ≤ i ∧ ∀ e ∈ entM m ids x i, e.name.length ≤ 1
  | 0 => by simp [entM]
  | i + 1 => by
    obtain ⟨h1, h2⟩ := entM_small m ids x i
    rw [entM]
    cases pickR m ids (x.refs.getD i 0).toNat 9 with
    | none => simp only [List.append_nil]; exact ⟨by omega, h2⟩
    | some y =>
      refine ⟨by simp; omega, fun e he => ?_⟩
      rcases List.mem_append.1 he with he | he
      · exact h2 e he
      · have := List.mem_singleton.1 he; subst this; simp [nameR]

theorem parM_len (m : List RItem) (ids : List Id) (x : Seed) : ∀ i, (parM m ids x i).length ≤ i
  | 0 => by simp [parM]
  | i + 1 => by
    have h1 := parM_len m ids x i
    rw [parM]
    cases pickR m ids (x.refs.getD i 0).toNat 3 with
    | none => simp; omega
    | some y => simp only [List.length_append]; split <;> simp <;> omega

theorem make1R_small (m : List RItem) (ids : List Id) (x : Seed) (h : x.text.length ≤ 300) : Small (make1R m ids x) := by
  unfold make1R
  split
  · have := entM_small m ids x (min x.refs.length 5)
    constructor <;> simp [Obj.ofKind]
    · omega
    · intro e he; have := this.2 e he; omega
  · split
    · split
      · constructor <;> simp [Obj.ofKind]
      · have := parM_len m ids x (min x.refs.length 4)
        have := x.tlt
        constructor <;> simp [Obj.ofKind] <;> omega
    · split
      · split
        · constructor <;> simp [Obj.ofKind]
        · split
          · constructor <;> simp [Obj.ofKind]
          · constructor <;> simp [Obj.ofKind]
      · constructor <;> simp [Obj.ofKind]; omega

def mkE (ids : List Id) (j s : Nat) (i : Nat) : Env := [(1, .i (.slice (ids.map encId))), (3, .ptr 3 0), (5, .ptr 5 0), (6, .ptr 6 0), (j, .ptr j 0), (s, .i (.int .i64 (i : Int)))]
def mkM (m : List RItem) (x : Seed) (j d : Nat) (o : Obj) (es ps : PV) : Mem :=
  [(3, .var [.i (.slice (m.map encRItem))]), (5, .var ((encSeed x).cells.map .i)), (6, .var (objCells (Obj.ofKind 0) (.full []) (.full []))), (j, .var (objCells o es ps)), (d, .tip)]

theorem mE_tok {k : Int} : TLes 67 (objCells (Obj.ofKind k) (.full []) (.full [])) (objCells (Obj.ofKind k) (.tok 67 34 []) (.full [])) :=
  ⟨.refl _, .refl _, .tok 34, TLes.refl _⟩

theorem mP_tok {o : Obj} : TLes 68 (objCells o (.full []) (.full [])) (objCells o (.full []) (.tok 68 32 [])) :=
  ⟨.refl _, .refl _, .refl _, (TLes.refl _).append ⟨.tok 32, TLes.refl _⟩⟩

def comCells (t : Id) (n : Int) (s : List UInt8) : List PV :=
  .i (.int .i64 3) :: .i (.str []) :: .full [] :: ((idC t).map .i ++ .full [] :: .i (.int .u32 n) :: .i (.str s) :: ((idC Id.none).map .i ++ [.i (.int .i64 0), .i (.str [])]))

set_option maxHeartbeats 4000000 in
set_option maxRecDepth 100000 in
theorem ref11_make1_ok (m : List RItem) (ids : List Id) (x : Seed) (hm : m.length < 1000000) (hi : ids.length < 1000000) :
    PureC Pg G Fn.ref11_make1 [encSt m, .slice (ids.map encId), encSeed x] (encObj (make1R m ids x)) := by
  have fin : ∀ o, make1R m ids x = o → some (encObj o) = some (encObj (make1R m ids x)) := fun o h => by rw [h]
  refine pureC_of T_ok Fd.ref11_make1 rfl (by kernel_rfl) ?_
  refine ⟨by decide, ?_⟩
  refine condP.split (fun k1 => ?_) (fun k1 => ?_)
  · have k1' : x.kind.toNat % 4 = 1 := by
      have h : (x.kind.toNat : Int).tmod 4 = 1 := by simpa using k1
      rw [show (x.kind.toNat : Int).tmod 4 = ((x.kind.toNat % 4 : Nat) : Int) from tmod_nat _ 4] at h; omega
    refine LoopW.tok0 67 rfl rfl (env' := mkE ids 7 8 0) (m' := mkM m x 7 67 (Obj.ofKind 2) (.tok 67 34 []) (.full []))
      ⟨⟨_, rfl, .refl _⟩, ⟨_, rfl, .refl _⟩, ⟨_, rfl, .refl _⟩, ⟨_, rfl, .refl _⟩, ⟨_, rfl, .refl _⟩, ⟨_, rfl, .refl _⟩, trivial⟩
      ⟨.inr ⟨by decide, _, rfl, .refl _⟩, .inr ⟨by decide, _, rfl, .refl _⟩, .inr ⟨by decide, _, rfl, .refl _⟩, .inr ⟨by decide, _, rfl, .var _ _ mE_tok⟩, .inl ⟨rfl, .tip⟩, trivial⟩ ?_
    refine loopX T_ok 1 (S := Nat) (S' := Unit) (fun i => mkE ids 7 8 i) (fun i => mkM m x 7 67 (Obj.ofKind 2) (.tok 67 34 ((entM m ids x i).map encEntry)) (.full [])) (fun i => 5 - i) (fun i => i ≤ x.refs.length ∧ i ≤ 5)
      (fun _ => [(6, .ptr 6 0), (7, .ptr 7 0)]) (fun _ => mkM m x 7 67 (Obj.ofKind 2) (.tok 67 34 ((entM m ids x (min x.refs.length 5)).map encEntry)) (.full [])) (fun _ => True) 0 ⟨rfl, rfl, rfl, rfl, rfl, rfl, trivial⟩ ⟨rfl, rfl, rfl, rfl, rfl, trivial⟩ ⟨by omega, by omega⟩ ?_ ?_
    · rintro i ⟨h1, h2⟩
      have hex : ¬ (i < x.refs.length ∧ i < 5) → i = min x.refs.length 5 := by omega
      have hgo : i = min x.refs.length 5 → entM m ids x (min x.refs.length 5) = entM m ids x i := fun e => by rw [← e]
      refine condP.split (fun g => ?_) (fun g => ?_)
      · have g1 : i < x.refs.length := by have h : (i : Int) < ((u8s x.refs).length : Int) := of_decide_eq_true g; rw [lenU] at h; omega
        refine condP.split (fun g2 => ?_) (fun g2 => ?_)
        · have g2' : i < 5 := by have h : (i : Int) < 5 := of_decide_eq_true g2; omega
          have hlt := (x.refs.getD i 0).toNat_lt
          have hw : IntKind.i64.wrap ((x.refs.getD i 0).toNat : Int) = ((x.refs.getD i 0).toNat : Int) := wrap_i64 (by omega) (by omega)
          have hpk := ref11_pick_ok (G := G) m ids (x.refs.getD i 0).toNat 9 hm hi
          have he : entM m ids x (i + 1) = entM m ids x i ++ (match pickR m ids (x.refs.getD i 0).toNat 9 with
            | some y => [⟨nameR i, kindR m y, y⟩]
            | none => []) := rfl
          have hsm := (entM_small m ids x i).1
          generalize entM m ids x i = es at *
          cases hp : pickR m ids (x.refs.getD i 0).toNat 9 with
          | none =>
            rw [hp] at hpk he
            refine drawW T_ok (by decide +kernel) ?_
            refine ⟨.int .u8 ((x.refs.getD i 0).toNat : Int), ⟨by omega, by simp [u8s, g1]⟩, ?_⟩
            refine ⟨_, _, ⟨congrArg (fun n => [encSt m, .slice (ids.map encId), .int .i64 n, .int .i64 9]) hw, hpk⟩, ?_⟩
            refine ⟨by kernel_rfl, ?_⟩
            refine ⟨i + 1, ⟨by omega, by omega, by omega⟩, ⟨rfl, rfl, rfl, rfl, rfl, congrArg (fun n => some (PV.i (IV.int .i64 n))) (int_succ (by omega)), trivial⟩, ⟨rfl, rfl, rfl, ?_, rfl, trivial⟩⟩
            rw [he, List.append_nil]; rfl
          | some y =>
            rw [hp] at hpk he
            refine drawW T_ok (by decide +kernel) ?_
            refine ⟨.int .u8 ((x.refs.getD i 0).toNat : Int), ⟨by omega, by simp [u8s, g1]⟩, ?_⟩
            refine ⟨_, _, ⟨congrArg (fun n => [encSt m, .slice (ids.map encId), .int .i64 n, .int .i64 9]) hw, hpk⟩, ?_⟩
            refine ⟨by kernel_rfl, ?_⟩
            refine drawW T_ok (by decide +kernel) ?_
            refine ⟨_, _, ⟨rfl, ref11_name_ok i (by omega)⟩, ?_⟩
            refine ⟨_, _, ⟨rfl, ref11_Kind_ok m y hm⟩, ?_⟩
            refine ⟨⟨⟨hasSize_ent _, fun x hx => by have := List.mem_singleton.1 hx; subst this; rfl⟩, szOK (by simp; omega) (by kernel_rfl)⟩, ?_⟩
            refine ⟨by kernel_rfl, ?_⟩
            refine ⟨i + 1, ⟨by omega, by omega, by omega⟩, ⟨rfl, rfl, rfl, rfl, rfl, congrArg (fun n => some (PV.i (IV.int .i64 n))) (int_succ (by omega)), trivial⟩, ⟨rfl, rfl, rfl, ?_, rfl, trivial⟩⟩
            rw [he, List.map_append]; rfl
        · have g2' : ¬ (i : Int) < 5 := of_decide_eq_false g2
          rw [hgo (hex (by omega))]
          exact ⟨(), trivial, ⟨rfl, rfl, trivial⟩, ⟨rfl, rfl, rfl, rfl, rfl, trivial⟩⟩
      · have g' : ¬ (i : Int) < ((u8s x.refs).length : Int) := of_decide_eq_false g
        rw [lenU] at g'
        rw [hgo (hex (by omega))]
        exact ⟨(), trivial, ⟨rfl, rfl, trivial⟩, ⟨rfl, rfl, rfl, rfl, rfl, trivial⟩⟩
    · intro _ _
      exact fin { Obj.ofKind 2 with entries := entM m ids x (min x.refs.length 5) } (by rw [make1R, if_pos k1'])
  · have k1' : ¬ x.kind.toNat % 4 = 1 := by
      have h : ¬ (x.kind.toNat : Int).tmod 4 = 1 := by simpa using k1
      rw [show (x.kind.toNat : Int).tmod 4 = ((x.kind.toNat % 4 : Nat) : Int) from tmod_nat _ 4] at h; omega
    refine condP.split (fun k2 => ?_) (fun k2 => ?_)
    · have k2' : x.kind.toNat % 4 = 2 := by
        have h : (x.kind.toNat : Int).tmod 4 = 2 := by simpa using k2
        rw [show (x.kind.toNat : Int).tmod 4 = ((x.kind.toNat % 4 : Nat) : Int) from tmod_nat _ 4] at h; omega
      have htl := x.tlt
      have hwt : IntKind.i64.wrap (x.time : Int) = (x.time : Int) := wrap_i64 (by omega) (by omega)
      have hwu : IntKind.u32.wrap (x.time : Int) = (x.time : Int) := wrap_u32 (by omega) (by omega)
      have hpk := ref11_pick_ok (G := G) m ids x.time 2 hm hi
      refine ⟨_, _, _, pureCall hpk (congrArg (fun n => some [encSt m, .slice (ids.map encId), .int .i64 n, .int .i64 2]) hwt), ?_⟩
      cases hp : pickR m ids x.time 2 with
      | none => exact fin (Obj.ofKind 0) (by rw [make1R, if_neg k1', if_pos k2', hp])
      | some t =>
        have hcc : some (MO.var (comCells t (IntKind.u32.wrap (x.time : Int)) x.text)) = some (MO.var (objCells { Obj.ofKind 3 with tree := t, time := x.time, text := x.text } (.full []) (.full []))) := by
          rw [hwu]; rfl
        refine LoopW.tok0 68 rfl rfl (env' := mkE ids 13 14 0) (m' := mkM m x 13 68 { Obj.ofKind 3 with tree := t, time := x.time, text := x.text } (.full []) (.tok 68 32 []))
          ⟨⟨_, rfl, .refl _⟩, ⟨_, rfl, .refl _⟩, ⟨_, rfl, .refl _⟩, ⟨_, rfl, .refl _⟩, ⟨_, rfl, .refl _⟩, ⟨_, rfl, .refl _⟩, trivial⟩
          ⟨.inr ⟨by decide, _, rfl, .refl _⟩, .inr ⟨by decide, _, rfl, .refl _⟩, .inr ⟨by decide, _, rfl, .refl _⟩, .inr ⟨by decide, .var (objCells { Obj.ofKind 3 with tree := t, time := x.time, text := x.text } (.full []) (.full [])), hcc, .var _ _ mP_tok⟩, .inl ⟨rfl, .tip⟩, trivial⟩ ?_
        refine loopX T_ok 3 (S := Nat) (S' := Unit) (fun i => mkE ids 13 14 i) (fun i => mkM m x 13 68 { Obj.ofKind 3 with tree := t, time := x.time, text := x.text } (.full []) (.tok 68 32 ((parM m ids x i).map encId))) (fun i => 4 - i) (fun i => i ≤ x.refs.length ∧ i ≤ 4)
          (fun _ => [(6, .ptr 6 0), (13, .ptr 13 0)]) (fun _ => mkM m x 13 68 { Obj.ofKind 3 with tree := t, time := x.time, text := x.text } (.full []) (.tok 68 32 ((parM m ids x (min x.refs.length 4)).map encId))) (fun _ => True) 0 ⟨rfl, rfl, rfl, rfl, rfl, rfl, trivial⟩ ⟨rfl, rfl, rfl, rfl, rfl, trivial⟩ ⟨by omega, by omega⟩ ?_ ?_
        · rintro i ⟨h1, h2⟩
          have hex : ¬ (i < x.refs.length ∧ i < 4) → i = min x.refs.length 4 := by omega
          have hgo : i = min x.refs.length 4 → parM m ids x (min x.refs.length 4) = parM m ids x i := fun e => by rw [← e]
          refine condP.split (fun g => ?_) (fun g => ?_)
          · have g1 : i < x.refs.length := by have h : (i : Int) < ((u8s x.refs).length : Int) := of_decide_eq_true g; rw [lenU] at h; omega
            refine condP.split (fun g2 => ?_) (fun g2 => ?_)
            · have g2' : i < 4 := by have h : (i : Int) < 4 := of_decide_eq_true g2; omega
              have hlt := (x.refs.getD i 0).toNat_lt
              have hw : IntKind.i64.wrap ((x.refs.getD i 0).toNat : Int) = ((x.refs.getD i 0).toNat : Int) := wrap_i64 (by omega) (by omega)
              have hpk := ref11_pick_ok (G := G) m ids (x.refs.getD i 0).toNat 3 hm hi
              have he : parM m ids x (i + 1) = parM m ids x i ++ (match pickR m ids (x.refs.getD i 0).toNat 3 with
                | some y => if (parM m ids x i).length = i then [y] else []
                | none => []) := rfl
              have hsm := parM_len m ids x i
              generalize parM m ids x i = ps at *
              cases hp : pickR m ids (x.refs.getD i 0).toNat 3 with
              | none =>
                rw [hp] at hpk he
                refine drawW T_ok (by decide +kernel) ?_
                refine ⟨.int .u8 ((x.refs.getD i 0).toNat : Int), ⟨by omega, by simp [u8s, g1]⟩, ?_⟩
                refine ⟨_, _, ⟨congrArg (fun n => [encSt m, .slice (ids.map encId), .int .i64 n, .int .i64 3]) hw, hpk⟩, ?_⟩
                refine ⟨by kernel_rfl, ?_⟩
                refine ⟨i + 1, ⟨by omega, by omega, by omega⟩, ⟨rfl, rfl, rfl, rfl, rfl, congrArg (fun n => some (PV.i (IV.int .i64 n))) (int_succ (by omega)), trivial⟩, ⟨rfl, rfl, rfl, ?_, rfl, trivial⟩⟩
                rw [he, List.append_nil]; rfl
              | some y =>
                rw [hp] at hpk he
                refine drawW T_ok (by decide +kernel) ?_
                refine ⟨.int .u8 ((x.refs.getD i 0).toNat : Int), ⟨by omega, by simp [u8s, g1]⟩, ?_⟩
                refine ⟨_, _, ⟨congrArg (fun n => [encSt m, .slice (ids.map encId), .int .i64 n, .int .i64 3]) hw, hpk⟩, ?_⟩
                refine ⟨by kernel_rfl, ?_⟩
                have hL : ((ps.map encId).length : Int) = (ps.length : Int) := by simp
                refine condP.split (fun g3 => ?_) (fun g3 => ?_)
                · have g3' : ps.length = i := by
                    have h : ((ps.map encId).length : Int) = (i : Int) := by simpa using g3
                    rw [hL] at h; omega
                  simp only [g3', if_true] at he
                  refine ⟨⟨⟨hasSize_id _, fun x hx => by have := List.mem_singleton.1 hx; subst this; exact encId_len _⟩, szOK (by simp; omega) (by kernel_rfl)⟩, ?_⟩
                  refine ⟨i + 1, ⟨by omega, by omega, by omega⟩, ⟨rfl, rfl, rfl, rfl, rfl, congrArg (fun n => some (PV.i (IV.int .i64 n))) (int_succ (by omega)), trivial⟩, ⟨rfl, rfl, rfl, ?_, rfl, trivial⟩⟩
                  rw [he, List.map_append]; rfl
                · have g3' : ¬ ps.length = i := by
                    have h : ¬ ((ps.map encId).length : Int) = (i : Int) := by simpa using g3
                    rw [hL] at h; omega
                  simp only [g3', if_false, List.append_nil] at he
                  refine ⟨i + 1, ⟨by omega, by omega, by omega⟩, ⟨rfl, rfl, rfl, rfl, rfl, congrArg (fun n => some (PV.i (IV.int .i64 n))) (int_succ (by omega)), trivial⟩, ⟨rfl, rfl, rfl, ?_, rfl, trivial⟩⟩
                  rw [he]; rfl
            · have g2' : ¬ (i : Int) < 4 := of_decide_eq_false g2
              rw [hgo (hex (by omega))]
              exact ⟨(), trivial, ⟨rfl, rfl, trivial⟩, ⟨rfl, rfl, rfl, rfl, rfl, trivial⟩⟩
          · have g' : ¬ (i : Int) < ((u8s x.refs).length : Int) := of_decide_eq_false g
            rw [lenU] at g'
            rw [hgo (hex (by omega))]
            exact ⟨(), trivial, ⟨rfl, rfl, trivial⟩, ⟨rfl, rfl, rfl, rfl, rfl, trivial⟩⟩
        · intro _ _
          exact fin { Obj.ofKind 3 with tree := t, time := x.time, text := x.text, parents := parM m ids x (min x.refs.length 4) } (by rw [make1R, if_neg k1', if_pos k2', hp])
    · have k2' : ¬ x.kind.toNat % 4 = 2 := by
        have h : ¬ (x.kind.toNat : Int).tmod 4 = 2 := by simpa using k2
        rw [show (x.kind.toNat : Int).tmod 4 = ((x.kind.toNat % 4 : Nat) : Int) from tmod_nat _ 4] at h; omega
      refine condP.split (fun k3 => ?_) (fun k3 => ?_)
      · have k3' : x.kind.toNat % 4 = 3 := by
          have h : (x.kind.toNat : Int).tmod 4 = 3 := by simpa using k3
          rw [show (x.kind.toNat : Int).tmod 4 = ((x.kind.toNat % 4 : Nat) : Int) from tmod_nat _ 4] at h; omega
        refine condP.split (fun k4 => ?_) (fun k4 => ?_)
        · have k4' : x.refs = [] := by simpa [u8s] using k4
          exact fin (Obj.ofKind 0) (by rw [make1R, if_neg k1', if_neg k2', if_pos k3', if_pos k4'])
        · have k4' : x.refs ≠ [] := by simpa [u8s] using k4
          have hpos : 0 < x.refs.length := List.length_pos_iff.2 k4'
          have hlt := (x.refs.getD 0 0).toNat_lt
          have hw : IntKind.i64.wrap ((x.refs.getD 0 0).toNat : Int) = ((x.refs.getD 0 0).toNat : Int) := wrap_i64 (by omega) (by omega)
          have hpk := ref11_pick_ok (G := G) m ids (x.refs.getD 0 0).toNat 0 hm hi
          cases hp : pickR m ids (x.refs.getD 0 0).toNat 0 with
          | none =>
            rw [hp] at hpk
            refine drawW T_ok (by decide +kernel) ?_
            refine ⟨.int .u8 ((x.refs.getD 0 0).toNat : Int), ⟨by omega, by simp [u8s, hpos]⟩, ?_⟩
            refine ⟨_, _, ⟨congrArg (fun n => [encSt m, .slice (ids.map encId), .int .i64 n, .int .i64 0]) hw, hpk⟩, ?_⟩
            refine ⟨by kernel_rfl, ?_⟩
            exact fin (Obj.ofKind 0) (by rw [make1R, if_neg k1', if_neg k2', if_pos k3', if_neg k4', hp])
          | some y =>
            rw [hp] at hpk
            have hR : make1R m ids x = { Obj.ofKind 4 with target := y, of := ofM m x y, name := [116] } := by rw [make1R, if_neg k1', if_neg k2', if_pos k3', if_neg k4', hp]
            refine drawW T_ok (by decide +kernel) ?_
            refine ⟨.int .u8 ((x.refs.getD 0 0).toNat : Int), ⟨by omega, by simp [u8s, hpos]⟩, ?_⟩
            refine ⟨_, _, ⟨congrArg (fun n => [encSt m, .slice (ids.map encId), .int .i64 n, .int .i64 0]) hw, hpk⟩, ?_⟩
            refine ⟨by kernel_rfl, ?_⟩
            refine ⟨_, _, _, pureCall (ref11_Kind_ok m y hm) rfl, ?_⟩
            refine condP.split (fun g => ?_) (fun g => ?_)
            · have g' : 1 < x.refs.length := by have h : ((u8s x.refs).length : Int) > 1 := of_decide_eq_true g; rw [lenU] at h; omega
              refine ⟨.int .u8 ((x.refs.getD 1 0).toNat : Int), ⟨by omega, by simp [u8s, g']⟩, ?_⟩
              refine condP.split (fun g2 => ?_) (fun g2 => ?_)
              · have g2' : x.refs.getD 1 0 = 250 := by
                  have h : ((x.refs.getD 1 0).toNat : Int) = 250 := by simpa using g2
                  exact UInt8.toNat_inj.1 (by show _ = 250; omega)
                refine ⟨by decide, ?_⟩
                exact fin { Obj.ofKind 4 with target := y, of := IntKind.i64.wrap (1 + (kindR m y).tmod 4), name := [116] } (by rw [hR, ofM, if_pos ⟨g', g2'⟩])
              · have g2' : x.refs.getD 1 0 ≠ 250 := by
                  intro e
                  have h : ¬ ((x.refs.getD 1 0).toNat : Int) = 250 := by simpa using g2
                  rw [e] at h; exact h rfl
                exact fin { Obj.ofKind 4 with target := y, of := kindR m y, name := [116] } (by rw [hR, ofM, if_neg fun e => g2' e.2])
            · have g' : ¬ 1 < x.refs.length := by have h : ¬ ((u8s x.refs).length : Int) > 1 := of_decide_eq_false g; rw [lenU] at h; omega
              exact fin { Obj.ofKind 4 with target := y, of := kindR m y, name := [116] } (by rw [hR, ofM, if_neg fun e => g' e.1])
      · have k3' : ¬ x.kind.toNat % 4 = 3 := by
          have h : ¬ (x.kind.toNat : Int).tmod 4 = 3 := by simpa using k3
          rw [show (x.kind.toNat : Int).tmod 4 = ((x.kind.toNat % 4 : Nat) : Int) from tmod_nat _ 4] at h; omega
        exact fin { Obj.ofKind 1 with data := x.text } (by rw [make1R, if_neg k1', if_neg k2', if_neg k3'])
end Go.Kn
