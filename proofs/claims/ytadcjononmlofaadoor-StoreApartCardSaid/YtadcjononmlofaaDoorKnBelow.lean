/- Kn, part 18: contracts of the library's functions that leave all that was there. No program here. -/
import Derived.Test.YtadcjononmlofaaDoorKnLib
import Derived.Below
set_option autoImplicit false
namespace Go.Kn
open Go Go.RowKit

section
variable {P : Program} {G : Gl}

theorem pureC_below {f : FuncId} {as : List IV} {x : IV} (hb : Body P f)
    (h : ∀ (σ : Gh) (w : World) (vs : List Value), RelPs σ (as.map .i) vs → (∀ b o v, σ.h b o = some v → w.cell? ⟨b, o, none⟩ = some v) →
      ∃ v, RelI σ.h x v ∧ Calls P f vs.toArray w fun e w' => e = .returned v ∧ Below w.heap.size w w') : PureC P G f as x := by
  refine .inl ⟨hb, ?_⟩
  intro σ w vs hj hr
  obtain ⟨v, hv, hc⟩ := h σ w vs hr hj.inv.hh
  refine hc.mono ?_
  rintro e w' ⟨rfl, hw⟩
  refine ⟨v, σ, rfl, .i _ _ hv, ?_⟩
  exact {
    inv := InvM.nil fun b o u e => by
      have hcell := hj.inv.hh b o u e
      rw [hw.cell (p := ⟨b, o, none⟩) (cell_lt hcell)]; exact hcell
    glob := hj.glob
    hm := hj.hm
    os := hw.os.trans hj.os
    tape := hw.tape.trans hj.tape
    out := hw.output.trans hj.out
    sz := Nat.le_trans hj.sz hw.size
    old := fun b hb' hn => by rw [hw.block b hb']; exact hj.old b hb' hn
    hn := hj.hn
    own := fun k o b lo hi e => (nomatch e)
    kp := hj.kp
    kn := fun k o L e1 e2 => (nomatch e2) }
end
end Go.Kn
