/- knapsacklaw12.GraphWalks returns true for every input, and leaves the input as it was. Condition: none beyond the row's own. -/
import Derived.Test.YtiibdlpfgmeifaaGreatDoorKn12
import Derived.Test.YtiibdlpfgmeifaaGreatDoorKn13
set_option autoImplicit false
set_option maxRecDepth 100000
namespace Go.Proofs.YtiibdlpfgmeifaaGreatDoor
open Go.ChangeShapes Go.WideShapes Go.RowKit
theorem params_GraphWalks : Tryz.f6.params.toList = [Kn.Tn.law12_History] := by kernel_rfl
theorem lifted_GraphWalks (os : Os) (started : os.Started) (H : Type) (enc : TypeId × Value → H) :
    ReturnsInHanded {} Tryz.checked os 6 .any (fun w args => (Rows.graphWalksSpec.pre enc Tryz.prog Tryz.f6 [] false w args ∧ laidMetH Tryz.prog laidL w) ∧ sizedMet enc Tryz.prog Tryz.f6 (OpenSpec.ofChange Rows.graphWalksSpec) false w args)
      (Rows.graphWalksSpec.post enc Tryz.prog Tryz.f6 false true false false) := by
  refine returnsInHanded_of_change_and (C := Tryz.checked) (X := fun w _ => laidMetH Tryz.prog laidL w) (fun _ _ _ hh h => h.of_heap hh) own started (by kernel_rfl) Tryz.func6
    (ChangeSpec.witness_shaped (enc := enc) (C := Tryz.checked) (os := os) (X := fun w _ => laidMetH Tryz.prog laidL w) false (World.doorLaid Tryz.prog 400 os) #[.agg #[.slice none 0 0, .slice none 0 0, .slice none 0 0, .slice none 0 0]] 8 rfl (World.shaped_of_RefB (by kernel_rfl) (by kernel_rfl)) (by kernel_rfl) (by kernel_rfl) (by kernel_rfl) (door_met os _)) ?_
  intro W base args ds gs before hval0 hW _ _ hL _
  have hval : ∀ (j : Nat) t v, Tryz.f6.params[j]? = some t → args[j]? = some v → Value.okWide Tryz.prog W .any base t v := hval0
  have hW' := hW
  obtain ⟨p, q, hA0, hV, rfl, hfz, hnd⟩ := hW
  have hA : DataW.TrodAll enc Tryz.prog W 0 (fun _ => true) true Tryz.f6.params.toList args.toList ds p := hA0
  rw [params_GraphWalks] at hA
  obtain ⟨v0, d0, rfl, rfl, h0⟩ := trodAll_one hA
  obtain ⟨rfl, rfl⟩ := trodVars_none hV
  obtain ⟨c0, rfl, _⟩ := okWide_struct (show Tryz.prog.underlying Kn.Tn.law12_History = some (.struct _) from (Kn.T_ok Kn.Tn.law12_History _ rfl).und) (hval 0 Kn.Tn.law12_History v0 rfl rfl)
  have k0 := h0
  obtain ⟨n0, h0⟩ := h0
  obtain ⟨y0, r0⟩ := hist_read (cs := c0.toList) h0
  have hlt : ∀ x ∈ p, x.block < W.heap.size := fun x hx => hW'.lt x (by simpa using hx)
  refine (Kn.entry_callsR (Kn.law12_GraphWalks_ok Kn.same_dec y0) (glob_of_laid hL) (vs := [.agg c0]) ⟨rfl, fun i x v e1 e2 => ?_⟩).mono ?_
  · match i, e1, e2 with
    | 0, e1, e2 => cases e1; cases e2; exact agg_rel r0
  rintro e W' ⟨v, rfl, ⟨h', hr⟩, hb⟩
  cases hr with
  | bool =>
    refine ⟨_, rfl, _, _, _, [], p, [], hW', trodAll_mk1 (shut_bool uBool true), ?_, rfl, hb.frame _, fun h => by cases h⟩
    show DataW.TrodAll enc Tryz.prog W' 0 _ true Tryz.f6.params.toList _ [d0] _
    rw [params_GraphWalks]
    exact trodAll_mk1 (Below.trod laidOut (by kernel_rfl) (of_decide_eq_true (by kernel_rfl)) k0 hb fun x hx => hlt x (by simp [hx]))
theorem holds_GraphWalks : Rows.GraphWalksSaid :=
  OpenClaim.holds_of_wide 6 Tryz.f6 rfl rfl rfl rfl rfl rfl rfl ⟨rfl, rfl, rfl, rfl, rfl⟩ rfl rfl rfl rfl rfl (by kernel_rfl) Tryz.func6 (by kernel_rfl)
    (of_decide_eq_true (by kernel_rfl)) (by unfold Func.isWrapper; first | (rw [if_pos (by decide +kernel)]; kernel_rfl) | (rw [if_neg (by decide +kernel)]; exact ⟨rfl, rfl⟩))
    (fun os started H enc _ => lifted_GraphWalks os started H enc)
theorem graphWalks_card_holds : Rows.GraphWalksCardSaid :=
  Claim7.holds_tied_plain_at .later [] [.data] true (true, "501249a86b68f6a7f1c1714e502fa9b41593e77238c41baa26d6de5c05962507") true
    holds_GraphWalks (fun _ h => by cases h) (by kernel_rfl) (fun _ h => by cases h) graphWalks_row_tie rfl ⟨rfl, rfl⟩ (by kernel_rfl) rfl
    (fun f fn hf hfn => by
      obtain rfl : f = 6 := Option.some.inj ((show Tryz.prog.funcNamed "knapsack/knapsacklaw12.GraphWalks" = some 6 by kernel_rfl).symm.trans hf) |>.symm
      obtain rfl : fn = Tryz.f6 := (Option.some.inj (Tryz.func6.symm.trans hfn)).symm
      exact ⟨by kernel_rfl, fun j t ht => by
        have hm : t ∈ [Kn.Tn.law12_History] := by
          rw [← params_GraphWalks]; exact Array.mem_toList_iff.2 (Array.mem_of_getElem? ht)
        have hall : ([Kn.Tn.law12_History].all fun u => !Tryz.prog.wantsStandIn u) = true := by kernel_rfl
        exact (show Tryz.prog.wantsStandIn t = false by simpa using List.all_eq_true.1 hall t hm)⟩)
    (by kernel_rfl)
end Go.Proofs.YtiibdlpfgmeifaaGreatDoor
