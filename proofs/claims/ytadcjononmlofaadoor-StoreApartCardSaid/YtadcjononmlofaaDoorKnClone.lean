/- slices.Clone, Copy. -/
import Derived.Test.YtadcjononmlofaaDoorKnFrozen2
import Derived.Test.YtadcjononmlofaaDoorKnStore2
set_option autoImplicit false
namespace Go.Kn
open Go Go.Proofs

variable {G : Gl}

theorem exec_bin {P : Program} {o : Oper} {a : Act} {w : World} {op : BinOp} {xT yT : TypeId} {x y : Operand} {s : Value} (ho : o.op = .binOp op xT x y yT)
    (hr : (do eqGuard op xT x y (a.eval x) (a.eval y); binOp op xT (a.eval x) (a.eval y) : Sem Value).run P w = .ok s w) : (execOp a.eval o).run P w = .ok (.value s) w := by
  simp only [execOp, ho]
  simp only [Sem.run_bind] at hr ⊢
  cases hg : (eqGuard op xT x y (a.eval x) (a.eval y)).run P w with
  | halt e w' => rw [hg] at hr; simp at hr
  | ok u w' =>
    rw [hg] at hr
    simp only [Result.andThen_ok] at hr ⊢
    rw [hr]
    rfl

theorem und_items : Pg.underlying Tn.sl_store_item = some (.slice Tn.store_item) := by kernel_rfl

/-- A slice against nil: it is not, if it has an element. -/
theorem slice_nil {h : Hp} {l : List IV} {v : Value} {t e : TypeId} (w : World) (x y : Operand) (ht : Pg.underlying t = some (.slice e)) (r : RelI h (.slice l) v) :
    ∃ b : Bool, (b = true → l = []) ∧ (do eqGuard .eql t x y v (.slice none 0 0); binOp .eql t v (.slice none 0 0) : Sem Value).run Pg w = .ok (.bool b) w := by
  cases r with
  | nilS =>
    refine ⟨true, fun _ => rfl, ?_⟩
    rw [Sem.run_bind, run_eqGuard_scalar _ _ _ _ _ _ _ (by simp) (by simp), Result.andThen_ok]
    exact Lib.run_eql_slice_nil_nil w _ _ ht
  | slice b off =>
    refine ⟨false, fun e => (nomatch e), ?_⟩
    rw [Sem.run_bind, run_eqGuard_scalar _ _ _ _ _ _ _ (by simp) (by simp), Result.andThen_ok]
    exact Lib.run_eql_slice_some_nil w _ _ _ ht
  | oddS b o k =>
    refine ⟨false, fun e => (nomatch e), ?_⟩
    rw [Sem.run_bind, run_eqGuard_scalar _ _ _ _ _ _ _ (by simp) (by simp), Result.andThen_ok]
    exact Lib.run_eql_slice_some_nil w _ _ _ ht

theorem clone_item (l : List Item) (hl : l.length < 1000000) : Body Pg Fn.slices_Clone_store_item ∧ AC Pg G Fn.slices_Clone_store_item [.i (.slice (l.map encItem))] []
    (.vec 1001 33 0 l.length) [(1001, .vec 33 (itemsP l) none)] := by
  have hil : (l.map encItem).length = l.length := by simp
  refine acW_of (T_ok.vec [7]) Fd.slices_Clone_store_item rfl (by kernel_rfl) ?_
  refine CW.next (T_ok.vec [7]) ?_
  refine CW.seq ?_
  refine CW.seq ?_
  refine CW.regAny (T_ok.vec [7]) (d2 := 4) (fun b => b = true → l.map encItem = []) rfl rfl rfl (by kernel_rfl) rfl (by kernel_rfl) ?_
  refine ⟨fun R σ a w he hj => ?_, fun b hb => ?_⟩
  · have hr := evalO_rel he hj (x := .tmp 3) (p := .i (.slice (l.map encItem))) rfl
    generalize hv : a.eval (.tmp 3) = v at hr
    cases hr with
    | i _ _ hr =>
      obtain ⟨b, hb, hx⟩ := slice_nil w (.tmp 3) (.const (.slice none 0 0)) und_items hr
      rw [← hv] at hx
      exact ⟨b, hb, exec_bin rfl hx⟩
  · refine CW.cond (b := b) rfl (fun e => ?_) (fun e => ?_)
    · subst e
      have hl0 : l = [] := by simpa using hb rfl
      subst hl0
      refine CW.next (T_ok.vec [7]) ?_
      refine CW.tok0 900 rfl rfl (env' := [(2, .vec 900 33 0 0)]) (m' := [(900, .vec 33 [] none)]) ⟨⟨_, rfl, .vec 33⟩, trivial⟩
        ⟨.inl ⟨rfl, .vec' rfl⟩, trivial⟩ ?_
      refine CW.go (T_ok.vec [7]) ?_
      exact ⟨[(1001, 900)], [], ⟨trivial, rfl, MemL.as ⟨⟨_, rfl, MLe.vecEq rfl⟩, trivial⟩ rfl, rfl⟩⟩
    · subst e
      refine CW.go (T_ok.vec [7]) ?_
      refine CW.next (T_ok.vec [7]) ?_
      refine ⟨fun x hx => (by obtain ⟨a, _, rfl⟩ := List.mem_map.1 hx; exact encItem_len a), ?_⟩
      refine ⟨itemsP l, l.length, ⟨fun x hx => (by cases hx), fun _ => rfl, szOK (by simp only [List.length_nil, List.length_map]; omega) (by kernel_rfl), rfl, by simp only [List.length_nil, List.length_map]; omega⟩, ?_⟩
      refine CW.go (T_ok.vec [7]) ?_
      exact ⟨[(1001, 7)], [], ⟨trivial, rfl, MemL.as ⟨⟨_, rfl, MLe.vecEq rfl⟩, trivial⟩ rfl, rfl⟩⟩

def cpM (l : List Item) : Mem := [(1002, .var [.vec 1003 33 0 l.length]), (1003, .vec 33 (itemsP l) none)]

theorem copy_pure (l : List Item) (hl : l.length < 1000000) : Body Pg Fn.store_Store_Copy ∧ AC Pg G Fn.store_Store_Copy ([stI l].map .i) [] (.ptr 1002 0) (cpM l) := by
  have hc := clone_item (G := G) l hl
  refine acW_of T_ok Fd.store_Store_Copy rfl (by kernel_rfl) ?_
  refine CW.next T_ok ?_
  refine CW.next T_ok ?_
  refine ⟨_, eqRptrNil _, ?_⟩
  refine CW.next T_ok ?_
  refine ⟨_, _, _, lendCall (ρ := [(1001, 41)]) hc.1 hc.2 ⟨rfl, rfl⟩ (MemL.as trivial rfl) rfl, ?_⟩
  refine CW.go T_ok ?_
  exact ⟨[(1002, 11), (1003, 41)], [], ⟨trivial, rfl, MemL.as ⟨⟨_, rfl, MLe.refl _⟩, ⟨_, rfl, MLe.vecEq rfl⟩, trivial⟩ rfl, rfl⟩⟩

theorem item_flat (x : Item) : ∀ y ∈ (encItem x).cells, flatI y = true := by
  intro y hy
  rcases List.mem_append.1 (show y ∈ idC x.id ++ [IV.str x.text] from hy) with h | h
  · obtain ⟨i, _, rfl⟩ := List.mem_map.1 h; rfl
  · have := List.mem_singleton.1 h; subst this; rfl

theorem copy_ok (l : List Item) (hl : l.length < 1000000) : Body Pg Fn.store_Store_Copy ∧ AC Pg G Fn.store_Store_Copy [.ptr 1000 0] (stM l) (.ptr 1002 0) (stM l ++ cpM l) := by
  refine AC.frozenNew (ks := [1002, 1003]) (copy_pure l hl) rfl ?_ ?_ ?_ ?_
  · intro k o e
    simp only [cpM, lk] at e
    cases h : Nat.beq 1002 k with
    | true =>
      rw [h] at e
      cases e
      have := Nat.eq_of_beq_eq_true h
      subst this
      exact ⟨by simp, fun p hp => by have := List.mem_singleton.1 hp; subst this; rfl⟩
    | false =>
      rw [h] at e
      simp only [cond_false] at e
      cases h : Nat.beq 1003 k with
      | true =>
        rw [h] at e
        cases e
        have := Nat.eq_of_beq_eq_true h
        subst this
        refine ⟨by simp, fun x hx => ?_⟩
        obtain ⟨y, hy, e⟩ := List.mem_map.1 hx
        cases e
        obtain ⟨a, _, rfl⟩ := List.mem_map.1 hy
        exact item_flat a
      | false => rw [h] at e; cases e
  · intro k hk
    simp only [List.mem_cons, List.not_mem_nil, or_false] at hk
    rcases hk with rfl | rfl <;> rfl
  · intro k cells e p hp
    simp only [stM, lk] at e
    cases h : Nat.beq 1000 k with
    | true =>
      rw [h] at e
      cases e
      have := List.mem_singleton.1 hp
      subst this
      rfl
    | false =>
      rw [h] at e
      simp only [cond_false] at e
      cases h : Nat.beq 1001 k with
      | true => rw [h] at e; cases e
      | false => rw [h] at e; cases e
  · intro R σ w vs hj hr
    refine ⟨by simpa using hr.1, fun i p v e1 e2 => ?_⟩
    cases i with
    | succ i => cases e1
    | zero =>
      cases e1
      have := frozen_ptr (k := 1000) (r := 1001) (s := 33) (c := none) (l := l.map encItem) hj (by simp [stM, lk]) rfl (hr.2 0 _ v rfl e2)
      exact .i _ _ this
end Go.Kn
