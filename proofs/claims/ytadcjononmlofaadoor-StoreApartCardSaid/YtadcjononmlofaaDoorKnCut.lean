/- Kn, part 20: cuts inside loops. No program here. -/
import Derived.Test.YtadcjononmlofaaDoorKnLib
set_option autoImplicit false
namespace Go.Kn
open Go

section
variable {P : Program} {T : Ty} {G : Gl} {n : Nat}

theorem CW.seq {c d : Code} {env : Env} {m : Mem} {Q : EQ} (h : CW P G n c env m (fun e env m => match e with | .normal => CW P G n d env m Q | e => Q e env m)) : CW P G n (.seq c d) env m Q := by
  intro R σ a w he hj hn
  refine wp_seq (wp_mono (h R σ a w he hj hn) ?_)
  rintro e a' w' ⟨σ', env', m', q, he', hj', hn'⟩
  cases e with
  | normal => exact q R σ' a' w' he' hj' hn'
  | _ => exact ⟨σ', env', m', q, he', hj', hn'⟩

theorem CW.blk {id : Nat} {c : Code} {env : Env} {m : Mem} {Q : EQ} (h : CW P G n c env m (fun e env m => match e with | .exit id' => bif Nat.beq id' id then Q .normal env m else Q (.exit id') env m | e => Q e env m)) :
    CW P G n (.block id c) env m Q := by
  intro R σ a w he hj hn
  refine wp_block (wp_mono (h R σ a w he hj hn) ?_)
  rintro e a' w' ⟨σ', env', m', q, he', hj', hn'⟩
  cases e with
  | exit id' =>
    simp only [Exit.inBlock]
    by_cases hid : id' = id
    · subst hid
      simp only [Nat.beq_refl, cond_true] at q
      rw [if_pos rfl]
      exact ⟨σ', env', m', q, he', hj', hn'⟩
    · rw [if_neg hid]
      simp only [beq_ne hid, cond_false] at q
      exact ⟨σ', env', m', q, he', hj', hn'⟩
  | _ => exact ⟨σ', env', m', q, he', hj', hn'⟩

/-- A loop that is left by 'exit id', its round by cuts. -/
theorem loopXW {c : Code} {env : Env} {m : Mem} {Q : EQ} (id : Nat) {S S' : Type} (E : S → Env) (M : S → Mem) (μ : S → Nat) (I : S → Prop) (EX : S' → Env) (MX : S' → Mem) (X : S' → Prop) (s0 : S)
    (hE : LkE env (E s0)) (hM : LkM m (M s0)) (h0 : I s0)
    (round : ∀ s, I s → CW P G n c (E s) (M s) (fun e env' m' => match e with
      | .normal => ∃ s', (μ s' < μ s ∧ I s') ∧ LkE env' (E s') ∧ LkM m' (M s')
      | .exit id' => bif Nat.beq id' id then ∃ x, X x ∧ LkE env' (EX x) ∧ LkM m' (MX x) else Q (.exit id') env' m'
      | e => Q e env' m'))
    (rest : ∀ x, X x → Q (.exit id) (EX x) (MX x)) : LoopW P G n c env m Q := by
  let Q1 : EQ := fun e env' m' => match e with
      | .exit id' => bif Nat.beq id' id then ∃ x, X x ∧ LkE env' (EX x) ∧ LkM m' (MX x) else Q (.exit id') env' m'
      | e => Q e env' m'
  have h1 : LoopW P G n c env m Q1 := by
    refine loopW (fun k env m => ∃ s, k = μ s ∧ I s ∧ env = E s ∧ m = M s) (μ s0) ⟨hE.sle, hM.sle⟩ ⟨s0, rfl, h0, rfl, rfl⟩ ?_
    rintro k env m ⟨s, rfl, hI, rfl, rfl⟩
    refine CW.mono (round s hI) ?_
    rintro e env' m' q
    cases e with
    | normal =>
      obtain ⟨s', ⟨h1, h2⟩, h3, h4⟩ := q
      exact ⟨μ s', E s', M s', h1, ⟨h3.sle, h4.sle⟩, s', rfl, h2, rfl, rfl⟩
    | _ => exact q
  intro R σ a w he hj hn
  refine wp_mono (h1 R σ a w he hj hn) ?_
  rintro e a w ⟨σ, env, m, q, r1, r2, r3⟩
  cases e with
  | exit id' =>
    simp only [Q1] at q
    cases hb : Nat.beq id' id with
    | true =>
      rw [hb] at q
      obtain ⟨x, h2, h3, h4⟩ := q
      have := Nat.eq_of_beq_eq_true hb
      subst this
      exact ⟨σ, EX x, MX x, rest x h2, r1.le h3.sle, r2.le h4.sle, r3⟩
    | false =>
      rw [hb] at q
      exact ⟨σ, env, m, q, r1, r2, r3⟩
  | _ => exact ⟨σ, env, m, q, r1, r2, r3⟩
end
end Go.Kn
