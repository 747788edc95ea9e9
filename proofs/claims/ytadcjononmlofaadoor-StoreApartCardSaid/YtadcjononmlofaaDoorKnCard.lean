/- knapsacklaw11.StoreApart returns true for every input, and leaves the input as it was. Condition: none beyond the row's own. -/
import Derived.Test.YtadcjononmlofaaDoorKnApart
import Derived.Test.YtadcjononmlofaaDoorKnSame
import Derived.Test.YtadcjononmlofaaDoorTie
import Derived.Test.YtadcjononmlofaaDoorCards
import Derived.ProofKit
import Derived.LaidMore
import Derived.OpenShut
import Derived.Stop.Joined
import Derived.SevenTiedAt
set_option autoImplicit false
namespace Go.Proofs.YtadcjononmlofaaDoor
open Go.ChangeShapes Go.WideShapes Go.RowKit

abbrev laidL : List (String × DataW Unit) := [("knapsack/sha256.constants", Rows.laid_knapsack_sha256_constants)]

theorem own : ownKnob Tryd.prog.godebug = none := by kernel_rfl
theorem gK : Tryd.prog.globalNamed "knapsack/sha256.constants" = some 0 := by kernel_rfl
theorem tK : (Tryd.prog.globals[0]?).map (·.type) = some 87 := by kernel_rfl
theorem und87 : Tryd.prog.underlying 87 = some (.array 64 39) := by kernel_rfl
theorem und39 : Tryd.prog.underlying 39 = some (.int .u32) := by kernel_rfl
theorem und51 : Tryd.prog.underlying 51 = some (.slice 80) := by kernel_rfl
theorem und77 : Tryd.prog.underlying 77 = some (.slice 5) := by kernel_rfl
theorem und5 : Tryd.prog.underlying 5 = some (.int .u8) := by kernel_rfl
theorem und78 : Tryd.prog.underlying 78 = some (.int .u16) := by kernel_rfl
theorem und9 : Tryd.prog.underlying 9 = some .string := by kernel_rfl
theorem und4 : Tryd.prog.underlying 4 = some .bool := by kernel_rfl
theorem params4 : Tryd.f4.params.toList = [51, 9] := by kernel_rfl
theorem laidOut : laidOutB Tryd.prog = true := by kernel_rfl

theorem door_met (os : Os) (args : Array Value) : laidMetH Tryd.prog laidL ((World.doorLaid Tryd.prog 400 os).forCall (fun _ _ => 0) ⟨#[], args, []⟩).memory :=
  laidMetH_of_parts3 (fuel := 8) (laidMet_of_run' 8 (by kernel_rfl) (by kernel_rfl)) (by kernel_rfl) (by kernel_rfl)

theorem glob_of_laid {W : World} (h : laidMetH Tryd.prog laidL W) : ∀ g cs, Kn.lk g Kn.G0 = some cs → Kn.RelI (Kn.hAll W) (.rptr cs) (.pointer (some ⟨g, 0, none⟩)) := by
  rw [MakeChecks.laidMetH_plain _ _ _ (by kernel_rfl)] at h
  obtain ⟨ps, ⟨g0, t0, cs0, f0, p0, q0, hg0, ht0, hv0, hd0, _, _⟩, _, _⟩ := h
  obtain rfl := Option.some.inj (gK.symm.trans hg0)
  obtain rfl := Option.some.inj (tK.symm.trans ht0)
  have hcs := Kn.open_arr (ns := Kn.kL.map fun z => (z.toNat : Int)) und87 und39 (by kernel_rfl) (by kernel_rfl) (by rfl) hd0
  intro g cs e
  simp only [Kn.G0, Kn.lk] at e
  cases hb : Nat.beq Kn.Gv.sha256_constants g with
  | false => rw [hb] at e; cases e
  | true =>
    rw [hb] at e
    cases e
    have hg := Nat.eq_of_beq_eq_true hb
    subst hg
    have hget : ∀ i x, (Kn.w32 64 Kn.kF)[i]? = some x → x = .int .u32 ((Kn.kF i).toNat : Int) ∧ i < 64 := by
      intro i x e
      have hi : i < 64 := by
        have := (List.getElem?_eq_some_iff.1 e).1
        rwa [Kn.w32_len] at this
      simp [Kn.w32, hi] at e
      exact ⟨e.symm, hi⟩
    have hcell : ∀ i, i < 64 → W.cell? ⟨0, i, none⟩ = some (.int .u32 ((Kn.kF i).toNat : Int)) := by
      intro i hi
      have h1 := World.var?_cell hg0 hv0 i
      rw [h1, ← Array.getElem?_toList, hcs, List.map_map, List.getElem?_map]
      have hl : Kn.kL.length = 64 := rfl
      rw [List.getElem?_eq_getElem (by omega)]
      simp [Kn.kF, List.getD_eq_getElem?_getD, List.getElem?_eq_getElem (show i < Kn.kL.length by omega)]
    refine .rptr 0 0 _ (fun i => .int .u32 ((Kn.kF i).toNat : Int)) (fun i x e => rfl) (fun i x e => ?_) (fun i x e => ?_)
    · rw [Nat.zero_add]; exact hcell i (hget i x e).2
    · rw [(hget i x e).1]; exact .int _ _

section
variable {H : Type} {enc : TypeId × Value → H} {W : World} {held : Bool}

theorem four {cs : List Value} (h : cs.length = 4) : ∃ v0 v1 v2 v3, cs = [v0, v1, v2, v3] := by
  match cs, h with
  | [v0, v1, v2, v3], _ => exact ⟨v0, v1, v2, v3, rfl⟩

theorem u8_read {n : Nat} {cs : List Value} {x : DataW H × List MemPlace} (h : DataW.trod enc Tryd.prog W 0 (fun _ => true) held n 5 cs = some x) : ∃ b : UInt8, Kn.CellsR (Kn.hAll W) [.int .u8 (b.toNat : Int)] cs := by
  obtain ⟨k, ⟨h1, h2⟩, h3⟩ := Kn.open_int und5 h
  have e1 : IntKind.u8.min = 0 := by decide
  have e2 : IntKind.u8.max = 255 := by decide
  rw [e1] at h1; rw [e2] at h2
  refine ⟨UInt8.ofNat k.toNat, ?_⟩
  rw [show ((UInt8.ofNat k.toNat).toNat : Int) = k by simp; omega]
  exact h3

set_option maxRecDepth 100000 in
theorem seed_read {n : Nat} {cs : List Value} {x : DataW H × List MemPlace} (h : DataW.trod enc Tryd.prog W 0 (fun _ => true) held n 80 cs = some x) : ∃ y : Kn.Seed, Kn.CellsR (Kn.hAll W) (Kn.encSeed y).cells cs := by
  obtain ⟨xs, m, _, _, hl, hxl, hg⟩ := DataW.trod_struct (show Tryd.prog.underlying 80 = some (.struct _) from (Kn.T_ok 80 _ rfl).und) h
  have c80 : Tryd.prog.cellsOf 80 = 4 := by kernel_rfl
  have c5 : Tryd.prog.cellsOf 5 = 1 := by kernel_rfl
  have c77 : Tryd.prog.cellsOf 77 = 1 := by kernel_rfl
  have c78 : Tryd.prog.cellsOf 78 = 1 := by kernel_rfl
  have c9 : Tryd.prog.cellsOf 9 = 1 := by kernel_rfl
  rw [c80] at hl
  have hxl : xs.length = 4 := hxl
  have h0 : DataW.trod enc Tryd.prog W 0 (fun _ => true) held m 5 ((cs.drop 0).take (Tryd.prog.cellsOf 5)) = xs[0]? := hg 0 _ rfl
  have h1 : DataW.trod enc Tryd.prog W 0 (fun _ => true) held m 77 ((cs.drop 1).take (Tryd.prog.cellsOf 77)) = xs[1]? := hg 1 _ rfl
  have h2 : DataW.trod enc Tryd.prog W 0 (fun _ => true) held m 78 ((cs.drop 2).take (Tryd.prog.cellsOf 78)) = xs[2]? := hg 2 _ rfl
  have h3 : DataW.trod enc Tryd.prog W 0 (fun _ => true) held m 9 ((cs.drop 3).take (Tryd.prog.cellsOf 9)) = xs[3]? := hg 3 _ rfl
  rw [c5, List.getElem?_eq_getElem (by omega)] at h0
  rw [c77, List.getElem?_eq_getElem (by omega)] at h1
  rw [c78, List.getElem?_eq_getElem (by omega)] at h2
  rw [c9, List.getElem?_eq_getElem (by omega)] at h3
  obtain ⟨v0, v1, v2, v3, rfl⟩ := four hl
  · have _ := hl
    obtain ⟨b, r0⟩ := u8_read (cs := [v0]) h0
    obtain ⟨l, r1⟩ := Kn.open_sl (cs := [v1]) (fun b : UInt8 => Kn.IV.int .u8 (b.toNat : Int)) und77 c5 (by decide) (fun _ => rfl) (fun _ _ _ hx => u8_read hx) h1
    obtain ⟨k, ⟨k1, k2⟩, r2⟩ := Kn.open_int (cs := [v2]) und78 h2
    obtain ⟨s, r3⟩ := Kn.open_str (cs := [v3]) und9 h3
    have e1 : IntKind.u16.min = 0 := by decide
    have e2 : IntKind.u16.max = 65535 := by decide
    rw [e1] at k1; rw [e2] at k2
    refine ⟨⟨b, l, k.toNat, s, by omega⟩, ?_⟩
    have ek : ((k.toNat : Nat) : Int) = k := by omega
    show Kn.CellsR (Kn.hAll W) [.int .u8 (b.toNat : Int), .slice (Kn.u8s l), .int .u16 ((k.toNat : Nat) : Int), .str s] [v0, v1, v2, v3]
    rw [ek]
    obtain ⟨q0, q0'⟩ := r0.2 0 _ _ rfl rfl
    obtain ⟨q1, q1'⟩ := r1.2 0 _ _ rfl rfl
    obtain ⟨q2, q2'⟩ := r2.2 0 _ _ rfl rfl
    obtain ⟨q3, q3'⟩ := r3.2 0 _ _ rfl rfl
    exact .cons q0 q0' (.cons q1 q1' (.cons q2 q2' (.cons q3 q3' (.nil _))))
end

set_option maxRecDepth 100000 in
theorem apart_lifted (os : Os) (started : os.Started) (H : Type) (enc : TypeId × Value → H) :
    ReturnsInHanded {} Tryd.checked os 4 .any (fun w args => (Rows.storeApartSpec.pre enc Tryd.prog Tryd.f4 [] false w args ∧ laidMetH Tryd.prog laidL w) ∧ sizedMet enc Tryd.prog Tryd.f4 (OpenSpec.ofChange Rows.storeApartSpec) false w args)
      (Rows.storeApartSpec.post enc Tryd.prog Tryd.f4 false true false false) := by
  refine returnsInHanded_of_change_and (C := Tryd.checked) (X := fun w _ => laidMetH Tryd.prog laidL w) (fun _ _ _ hh h => h.of_heap hh) own started (by kernel_rfl) Tryd.func4
    (ChangeSpec.witness_shaped (enc := enc) (C := Tryd.checked) (os := os) (X := fun w _ => laidMetH Tryd.prog laidL w) false (World.doorLaid Tryd.prog 400 os) #[.slice none 0 0, .string ByteArray.empty] 8 rfl (World.shaped_of_RefB (by kernel_rfl) (by kernel_rfl)) (by kernel_rfl) (by kernel_rfl) (by kernel_rfl) (door_met os _)) ?_
  intro W base args ds gs before hval0 hW _ _ hL _
  have hval : ∀ (j : Nat) t v, Tryd.f4.params[j]? = some t → args[j]? = some v → Value.okWide Tryd.prog W .any base t v := hval0
  have hW' := hW
  obtain ⟨p, q, hA0, hV, rfl, hfz, hnd⟩ := hW
  have hA : DataW.TrodAll enc Tryd.prog W 0 (fun _ => true) true Tryd.f4.params.toList args.toList ds p := hA0
  rw [params4] at hA
  obtain ⟨v0, v1, d0, d1, p0, p1, rfl, rfl, rfl, h0, h1⟩ := trodAll_two hA
  obtain ⟨rfl, rfl⟩ := trodVars_none hV
  obtain ⟨a, len, cap, rfl⟩ := okWide_slice und51 (hval 0 51 v0 rfl rfl)
  obtain ⟨s, rfl⟩ := okWide_string und9 (hval 1 9 v1 rfl rfl)
  have h0k := h0
  have h1k := h1
  obtain ⟨n0, h0⟩ := h0
  obtain ⟨n1, h1⟩ := h1
  obtain ⟨l, r0⟩ := Kn.open_sl (cs := [.slice a len cap]) Kn.encSeed und51 (show Tryd.prog.cellsOf 80 = 4 by kernel_rfl) (by decide) (fun _ => rfl) (fun _ _ _ hx => seed_read hx) h0
  obtain ⟨more, r1⟩ := Kn.open_str (cs := [.string s]) und9 h1
  obtain ⟨q0, q0'⟩ := r0.2 0 _ _ rfl rfl
  obtain ⟨q1, q1'⟩ := r1.2 0 _ _ rfl rfl
  have hlt : ∀ x ∈ p0 ++ p1, x.block < W.heap.size := fun x hx => hW'.lt x (by simpa using hx)
  refine (Kn.entry_calls (Kn.law11_StoreApart_ok Kn.same_dec l more) (glob_of_laid hL) (.cons q0 q0' (.cons q1 q1' (.nil _)))).mono ?_
  rintro e W' ⟨v, rfl, ⟨h', hr⟩, hb⟩
  cases hr with
  | bool =>
    refine ⟨_, rfl, _, _, _, [], p0 ++ p1, [], hW', trodAll_mk1 (shut_bool und4 true), ?_, rfl, hb.frame _, fun h => by cases h⟩
    show DataW.TrodAll enc Tryd.prog W' 0 _ true Tryd.f4.params.toList _ [d0, d1] _
    rw [params4]
    exact trodAll_mk2 (Below.trod laidOut (by kernel_rfl) (of_decide_eq_true (by kernel_rfl)) h0k hb fun x hx => hlt x (by simp [hx])) (Below.trod laidOut (by kernel_rfl) (of_decide_eq_true (by kernel_rfl)) h1k hb fun x hx => hlt x (by simp [hx]))

theorem storeApart_holds : Rows.StoreApartSaid :=
  OpenClaim.holds_of_wide 4 Tryd.f4 rfl rfl rfl rfl rfl rfl rfl ⟨rfl, rfl, rfl, rfl, rfl⟩ rfl rfl rfl rfl rfl (by kernel_rfl) Tryd.func4 (by kernel_rfl)
    (of_decide_eq_true (by kernel_rfl)) (by unfold Func.isWrapper; first | (rw [if_pos (by decide +kernel)]; kernel_rfl) | (rw [if_neg (by decide +kernel)]; exact ⟨rfl, rfl⟩))
    (fun os started H enc _ => apart_lifted os started H enc)

theorem storeApart_card_holds : Rows.StoreApartCardSaid :=
  Claim7.holds_tied_plain_at .later [] [.data] true (true, "d6904f19954cdcdf836d0fc660796aa6f4eda2943ca54a74b51c3d24dc9df0c6") false
    storeApart_holds (fun _ h => by cases h) (by kernel_rfl) (fun _ h => by cases h) storeApart_row_tie rfl ⟨rfl, rfl⟩ (by kernel_rfl) rfl
    (fun f fn hf hfn => by
      obtain rfl : f = 4 := Option.some.inj ((show Tryd.prog.funcNamed "knapsack/knapsacklaw11.StoreApart" = some 4 by kernel_rfl).symm.trans hf) |>.symm
      obtain rfl : fn = Tryd.f4 := (Option.some.inj (Tryd.func4.symm.trans hfn)).symm
      exact ⟨by kernel_rfl, fun j t ht => by
        have hm : t ∈ [51, 9] := by
          rw [← params4]; exact Array.mem_toList_iff.2 (Array.mem_of_getElem? ht)
        have hall : ([51, 9].all fun u => !Tryd.prog.wantsStandIn u) = true := by kernel_rfl
        exact (show Tryd.prog.wantsStandIn t = false by simpa using List.all_eq_true.1 hall t hm)⟩)
    (by kernel_rfl)
end Go.Proofs.YtadcjononmlofaaDoor
