/- Kn, part 23: what a call's arguments read as. No program here. -/
import Derived.Test.YtadcjononmlofaaDoorKnLib
import Derived.Carry
import Derived.ChangeArms
import Derived.OpenShut
set_option autoImplicit false
namespace Go.Kn
open Go

/-- All that stands in memory when the call begins: it is not written. -/
def hAll (w : World) : Hp := fun b o => w.cell? ⟨b, o, none⟩

/-- Cells that stand for parts of an immutable value. -/
def CellsR (h : Hp) (xs : List IV) (cs : List Value) : Prop := xs.length = cs.length ∧ ∀ (i : Nat) (x : IV) (v : Value), xs[i]? = some x → cs[i]? = some v → RelI h x v ∧ v.oneCell' = true

theorem CellsR.nil (h : Hp) : CellsR h [] [] := ⟨rfl, fun i x v e => by simp at e⟩

theorem CellsR.cons {h : Hp} {x : IV} {v : Value} {xs : List IV} {cs : List Value} (r : RelI h x v) (h1 : v.oneCell' = true) (hr : CellsR h xs cs) : CellsR h (x :: xs) (v :: cs) := by
  refine ⟨by simp [hr.1], fun i y u e1 e2 => ?_⟩
  cases i with
  | zero => simp at e1 e2; subst e1; subst e2; exact ⟨r, h1⟩
  | succ i => exact hr.2 i y u (by simpa using e1) (by simpa using e2)

theorem list_choose {α : Type} {P : Nat → α → Prop} : ∀ (n : Nat), (∀ i, i < n → ∃ y, P i y) → ∃ l : List α, l.length = n ∧ ∀ i y, l[i]? = some y → P i y
  | 0, _ => ⟨[], rfl, fun i y e => by simp at e⟩
  | n + 1, h => by
    obtain ⟨l, hl, hp⟩ := list_choose n fun i hi => h i (by omega)
    obtain ⟨y, hy⟩ := h n (by omega)
    refine ⟨l ++ [y], by simp [hl], fun i z e => ?_⟩
    by_cases hi : i < l.length
    · rw [List.getElem?_append_left hi] at e; exact hp i z e
    · rw [List.getElem?_append_right (by omega)] at e
      have hin : i = n := by
        have := (List.getElem?_eq_some_iff.1 e).1
        simp at this; omega
      subst hin
      simp [hl] at e
      subst e; exact hy

section
variable {H : Type} {enc : TypeId × Value → H} {P : Program} {w : World} {held : Bool} {fuel : Nat} {t : TypeId} {cs : List Value} {x : DataW H × List MemPlace}

theorem open_int {k : IntKind} (ht : P.underlying t = some (.int k)) (h : DataW.trod enc P w 0 (fun _ => true) held fuel t cs = some x) :
    ∃ n, (k.min ≤ n ∧ n ≤ k.max) ∧ CellsR (hAll w) [.int k n] cs := by
  obtain ⟨n, rfl, _, hw⟩ := DataW.trod_int ht h
  refine ⟨n, ?_, .cons (.int k n) rfl (.nil _)⟩
  simpa [Lit.wf] using hw

theorem open_str (ht : P.underlying t = some .string) (h : DataW.trod enc P w 0 (fun _ => true) held fuel t cs = some x) :
    ∃ s : List UInt8, CellsR (hAll w) [.str s] cs := by
  obtain ⟨s, rfl, _, _⟩ := DataW.trod_string ht h
  refine ⟨s.data.toList, .cons ?_ rfl (.nil _)⟩
  have : s = ⟨s.data.toList.toArray⟩ := by simp
  conv => rhs; rw [this]
  exact .str _

/-- A slice of things each of which is read so. -/
theorem open_sl {α : Type} (encA : α → IV) {e : TypeId} (ht : P.underlying t = some (.slice e)) {s : Nat} (hs : P.cellsOf e = s) (hs0 : 0 < s) (hsz : ∀ y, (encA y).cells.length = s)
    (hel : ∀ (n : Nat) (cs' : List Value) (x' : DataW H × List MemPlace), DataW.trod enc P w 0 (fun _ => true) held n e cs' = some x' → ∃ y : α, CellsR (hAll w) (encA y).cells cs')
    (h : DataW.trod enc P w 0 (fun _ => true) held fuel t cs = some x) : ∃ l : List α, CellsR (hAll w) [.slice (l.map encA)] cs := by
  rcases DataW.trod_slice ht h with ⟨rfl, _⟩ | ⟨a, len, cap, elems, rest, n, _, rfl, _, _, hlc, _, hlen, hg, hsp, _⟩
  · exact ⟨[], .cons .nilS rfl (.nil _)⟩
  · rw [hs] at hg
    have hE : ∀ i, i < len → ∃ y : α, ∃ cs', w.cells? 0 (a.add (i * s)) s = some cs' ∧ CellsR (hAll w) (encA y).cells cs' := by
      intro i hi
      have h1 := hg i hi
      rw [List.getElem?_eq_getElem (by omega)] at h1
      obtain ⟨cs', h2, h3⟩ := Option.bind_eq_some_iff.1 h1
      obtain ⟨y, hy⟩ := hel n cs' _ h3
      exact ⟨y, cs', h2, hy⟩
    obtain ⟨l, hl, hp⟩ := list_choose len hE
    refine ⟨l, .cons ?_ rfl (.nil _)⟩
    have hll : (l.map encA).length = len := by simp [hl]
    obtain ⟨b, o, sp⟩ := a
    cases sp with
    | some k =>
      have h0 : ∀ cs', w.cells? 0 ((⟨b, o, some k⟩ : Addr).add (0 * s)) s ≠ some cs' := by
        intro cs' hc
        obtain ⟨_, h2, h3⟩ := World.cells?_some hc
        have h4 := h3 0 hs0
        rw [List.getElem?_eq_getElem (by omega)] at h4
        rw [show (0 * s) = 0 by omega, show ((⟨b, o, some k⟩ : Addr).add 0).add 0 = ⟨b, o, some k⟩ by simp [Addr.add]] at h4
        unfold World.cell? at h4
        split at h4 <;> simp at h4
      have hlen0 : len = 0 := by
        by_cases hz : len = 0
        · exact hz
        · obtain ⟨y, cs', h2, _⟩ := hE 0 (by omega)
          exact absurd h2 (h0 cs')
      subst hlen0
      have hcap0 : cap = 0 := by
        by_cases hz : cap = 0
        · exact hz
        · obtain ⟨r1, r2⟩ := hsp rfl
          have h1 := r2 0 (by omega)
          rw [hs, List.getElem?_eq_getElem (by omega)] at h1
          obtain ⟨cs', h2, _⟩ := Option.bind_eq_some_iff.1 h1
          exact absurd h2 (h0 cs')
      subst hcap0
      have : l = [] := List.eq_nil_of_length_eq_zero hl
      subst this
      exact .oddS b o k
    | none =>
      classical
      let f : Nat → Nat → Value := fun i j => (w.cell? ⟨b, o + i * s + j, none⟩).getD undef
      have hget : ∀ (i : Nat) (y : IV), (l.map encA)[i]? = some y → y.cells.length = s ∧ ∀ j z, y.cells[j]? = some z → w.cell? ⟨b, o + i * s + j, none⟩ = some (f i j) ∧ RelI (hAll w) z (f i j) ∧ (f i j).oneCell' = true := by
        intro i y hy
        rw [List.getElem?_map] at hy
        cases hli : l[i]? with
        | none => rw [hli] at hy; cases hy
        | some u =>
          rw [hli] at hy
          cases hy
          refine ⟨hsz u, fun j z hz => ?_⟩
          obtain ⟨cs', h2, h3, h4⟩ := hp i u hli
          obtain ⟨_, h6, h7⟩ := World.cells?_some h2
          have hj : j < s := by
            have := (List.getElem?_eq_some_iff.1 hz).1
            rw [hsz] at this; exact this
          have h8 := h7 j hj
          rw [List.getElem?_eq_getElem (by omega), add_plain, add_plain] at h8
          obtain ⟨h9, h10⟩ := h4 j z _ hz (List.getElem?_eq_getElem (by omega))
          have hf : f i j = cs'[j] := by simp only [f, h8, Option.getD_some]
          rw [hf]
          exact ⟨h8, h9, h10⟩
      rw [← hll] at hlc ⊢
      exact .slice b o cap s (l.map encA) f hlc (fun i y hy => (hget i y hy).1) (fun i y j z hy hz => ((hget i y hy).2 j z hz).2.2) (fun i y j z hy hz => ((hget i y hy).2 j z hz).1) (fun i y j z hy hz => ((hget i y hy).2 j z hz).2.1)
end

section
variable {P : Program} {T : Ty} {G : Gl}
/-- A function that only computes, with a Go body. -/
theorem pureB_of (hT : TOK P T) {f : FuncId} {fn : Func} {c : Code} {as : List IV} {x : IV} (hf : P.funcs[f]? = some fn) (hb : fn.body = some c) (hn : (Nat.ble as.length fn.ntmps && !(fn.name == "runtime.NumGoroutine")) = true)
    (h : CW P G fn.ntmps c (envArgs 0 (as.map .i)) [] (retI T fn.results.toList x)) : Body P f ∧ AC P G f (as.map .i) [] (.i x) [] := by
  simp only [Bool.and_eq_true, Bool.not_eq_true'] at hn
  refine ⟨⟨fn, c, hf, hb, hn.2⟩, ?_⟩
  intro σ w vs hj hr
  refine calls_of_wp hf hb ?_
  have hl : vs.length = as.length := by rw [← hr.1]; simp
  have he : EnvOK σ (envArgs 0 (as.map .i)) { tmps := vs.toArray ++ Array.replicate (fn.ntmps - vs.toArray.size) undef, defers := [] } := by
    refine ⟨rfl, fun t p e => ?_⟩
    obtain ⟨_, e2⟩ := envArgs_lk e
    simp only [Nat.sub_zero] at e2
    have ht : t < vs.length := by
      rw [← hr.1]; exact (List.getElem?_eq_some_iff.1 e2).1
    refine ⟨vs[t], ?_, hr.2 t p _ e2 (List.getElem?_eq_getElem ht)⟩
    rw [Array.getElem?_append_left (by simpa using ht)]
    simp [ht]
  have hn' := Nat.le_of_ble_eq_true hn.1
  refine wp_mono (h (Ent.at σ [] w) σ _ w he hj (by simp; omega)) ?_
  have key : ∀ (a : Act) (w' : World) (σ' : Gh) (env : Env) (m : Mem) (ps : List PV), resultsOf T env m fn.results.toList = some ps → packI ps = some x → EnvOK σ' env a → J G (Ent.at σ [] w) σ' m w' →
      a.defers = [] ∧ ∃ v, (results fn a.tmps).run P w' = .ok v w' ∧ ∃ u σ'', Ending.returned v = .returned u ∧ RelP σ'' (.i x) u ∧ J G (Ent.at σ [] w) σ'' [] w' := by
    intro a w' σ' env m ps hps hp he' hj'
    obtain ⟨us, g1, g2⟩ := results_run (P := P) hT he' hj' hps
    exact ⟨he'.d, _, g2, _, σ', rfl, .i _ _ (packI_rel hp g1), hj'.le (by simp)⟩
  rintro e a w' ⟨σ', env, m, q, he', hj', _⟩
  cases e with
  | normal =>
    simp only [retI] at q
    split at q
    · rename_i ps hps; exact key a w' σ' env m ps hps q he' hj'
    · exact q.elim
  | ret =>
    simp only [retI] at q
    split at q
    · rename_i ps hps; exact key a w' σ' env m ps hps q he' hj'
    · exact q.elim
  | _ => exact q.elim

/-- From the beginning of a call to its end: what it returns; what was there is as it was. -/
theorem entry_calls {f : FuncId} {as : List IV} {x : IV} (h : Body P f ∧ AC P G f (as.map .i) [] (.i x) []) {w : World} {vs : List Value} (hg : ∀ g cs, lk g G = some cs → RelI (hAll w) (.rptr cs) (.pointer (some ⟨g, 0, none⟩)))
    (ha : CellsR (hAll w) as vs) : Calls P f vs.toArray w fun e w' => ∃ v, e = .returned v ∧ (∃ h', RelI h' x v) ∧ RowKit.Below w.heap.size w w' := by
  have hj : J G (Ent.at ⟨hAll w, fun _ => none⟩ [] w) ⟨hAll w, fun _ => none⟩ [] w := {
    inv := InvM.nil fun b o v e => e
    glob := hg
    hm := Hp.le_refl _
    os := rfl
    tape := rfl
    out := rfl
    sz := Nat.le_refl _
    old := fun _ _ _ => rfl
    hn := fun _ _ _ _ e => e
    own := fun _ _ _ _ _ e => (nomatch e)
    kp := fun _ _ _ e => by simp [Ent.at, lk] at e
    kn := fun _ _ _ _ e => (nomatch e) }
  refine (h.2 _ w vs hj ⟨by simp [ha.1], fun i p v e1 e2 => ?_⟩).mono ?_
  · rw [List.getElem?_map] at e1
    cases hi : as[i]? with
    | none => rw [hi] at e1; cases e1
    | some y => rw [hi] at e1; cases e1; exact .i _ _ (ha.2 i y v hi e2).1
  · rintro e w' ⟨v, σ', rfl, rv, hj'⟩
    refine ⟨v, rfl, ?_, ⟨hj'.os, hj'.tape, hj'.out, hj'.sz, fun k hk => hj'.old k hk fun ⟨_, _, _, _, e, _⟩ => (nomatch e)⟩⟩
    cases rv with
    | i _ _ r => exact ⟨_, r⟩
end

/-- An array of integers whose reading is known. -/
theorem open_arr {H : Type} {enc : TypeId × Value → H} {P : Program} {w : World} {base : Nat} {sp : Nat → Bool} {held : Bool} {fuel : Nat} {t : TypeId} {cs : List Value} {x : DataW H × List MemPlace}
    {n : Nat} {e : TypeId} {k : IntKind} (ht : P.underlying t = some (.array n e)) (he : P.underlying e = some (.int k)) (hc : P.cellsOf e = 1) (hct : P.cellsOf t = n)
    {ns : List Int} (hx : x.1 = .agg (ns.map fun z => .lit (.int k z))) (h : DataW.trod enc P w base sp held fuel t cs = some x) : cs = ns.map (Value.int k) := by
  obtain ⟨xs, m, _, rfl, hl, hxl, hg⟩ := DataW.trod_array ht h
  rw [hct] at hl
  rw [hc] at hg
  simp only [DataW.agg.injEq] at hx
  have hnl : ns.length = n := by have := congrArg List.length hx; simp at this; omega
  apply List.ext_getElem (by simp; omega)
  intro i h1 h2
  have hi : i < n := by omega
  have h3 := hg i hi
  rw [List.getElem?_eq_getElem (by omega)] at h3
  have h4 : (cs.drop (i * 1)).take 1 = [cs[i]] := by
    rw [Nat.mul_one, List.drop_eq_getElem_cons (by omega)]; rfl
  rw [h4] at h3
  obtain ⟨z, h5, h6, _⟩ := DataW.trod_int he h3
  have h7 : cs[i] = .int k z := by simpa using h5
  have h8 : (xs.map (·.1))[i]? = (ns.map fun z => (DataW.lit (.int k z) : DataW H))[i]? := by rw [hx]
  rw [List.getElem?_map, List.getElem?_map, List.getElem?_eq_getElem (by omega), List.getElem?_eq_getElem (by omega)] at h8
  rw [h6] at h8
  simp only [Option.map_some, Option.some.injEq, DataW.lit.injEq, Lit.int.injEq, true_and] at h8
  rw [h7, List.getElem_map, h8]
end Go.Kn
