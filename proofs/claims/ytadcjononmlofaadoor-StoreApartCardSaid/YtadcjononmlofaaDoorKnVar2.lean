/- Numbers and texts, written and read: plain laws. -/
import Derived.Test.YtadcjononmlofaaDoorKnReader
import Derived.Test.YtadcjononmlofaaDoorKnDecode
import Derived.Test.YtadcjononmlofaaDoorKnR04d
set_option autoImplicit false
namespace Go.Kn
open Go Go.Proofs

/-- Figures of a number above 0, the lowest first, the last marked by being below 128. -/
def canT : List UInt8 → Prop
  | [] => False
  | [c] => 0 < c.toNat ∧ c.toNat < 128
  | c :: d :: r => 128 ≤ c.toNat ∧ canT (d :: r)

theorem canT_cons {c : UInt8} {r : List UInt8} (h : 128 ≤ c.toNat) (hr : canT r) : canT (c :: r) := by
  cases r with
  | nil => exact hr.elim
  | cons d r => exact ⟨h, hr⟩

theorem canT_val : ∀ {l : List UInt8}, canT l → 0 < valS l ∧ putS (valS l) = l
  | [], h => h.elim
  | [c], h => by
    have hv : valS [c] = c.toNat := by simp [valS]; have := h.2; omega
    rw [hv]
    refine ⟨h.1, ?_⟩
    rw [putS_small h.2]
    simp
  | c :: d :: r, h => by
    obtain ⟨h1, h2⟩ := canT_val h.2
    have hv : valS (c :: d :: r) = c.toNat % 128 + 128 * valS (d :: r) := rfl
    rw [hv]
    refine ⟨by omega, ?_⟩
    have hc := c.toNat_lt
    have hc1 := h.1
    rw [putS_big (by omega)]
    rw [show (c.toNat % 128 + 128 * valS (d :: r)) / 128 = valS (d :: r) by omega, h2, show 128 + (c.toNat % 128 + 128 * valS (d :: r)) % 128 = c.toNat by omega]
    simp

theorem putS_can : ∀ (n : Nat), 0 < n → canT (putS n) ∧ valS (putS n) = n := by
  intro n
  induction n using Nat.strongRecOn with
  | _ n ih =>
    intro h
    by_cases hn : n < 128
    · rw [putS_small hn]
      have : (UInt8.ofNat n).toNat = n := by simp; omega
      refine ⟨⟨by rw [this]; exact h, by rw [this]; exact hn⟩, ?_⟩
      simp only [valS, this]; omega
    · rw [putS_big hn]
      obtain ⟨h1, h2⟩ := ih (n / 128) (by omega) (by omega)
      have : (UInt8.ofNat (128 + n % 128)).toNat = 128 + n % 128 := by simp; omega
      refine ⟨canT_cons (by rw [this]; omega) h1, ?_⟩
      simp only [valS, this, h2]; omega

theorem endOf_can : ∀ {l : List UInt8} (_ : canT l) (rest : List UInt8) (k : Nat), l.length ≤ k → endOf k (l ++ rest) + 1 = l.length ∧ 0 < ((l ++ rest).getD (endOf k (l ++ rest)) 0).toNat
  | [], h, _, _, _ => h.elim
  | [c], h, rest, k, hk => by
    cases k with
    | zero => simp at hk
    | succ k =>
      have hc : ¬ 128 ≤ c.toNat := by have := h.2; omega
      have he : endOf (k + 1) ([c] ++ rest) = 0 := by simp only [List.cons_append, List.nil_append, endOf, if_neg hc]
      rw [he]
      exact ⟨rfl, h.1⟩
  | c :: d :: r, h, rest, k, hk => by
    cases k with
    | zero => simp at hk
    | succ k =>
      obtain ⟨h1, h2⟩ := endOf_can h.2 rest k (by simpa using hk)
      have he : endOf (k + 1) (c :: d :: r ++ rest) = endOf k (d :: r ++ rest) + 1 := by simp only [List.cons_append, endOf, if_pos h.1]
      rw [he]
      exact ⟨by rw [h1]; rfl, h2⟩

theorem end_can : ∀ (k : Nat) (s : List UInt8), endOf k s < k → endOf k s < s.length → 0 < (s.getD (endOf k s) 0).toNat → canT (s.take (endOf k s + 1))
  | 0, _, h, _, _ => by simp at h
  | k + 1, [], _, h, _ => by simp at h
  | k + 1, c :: r, h1, h2, h3 => by
    by_cases hc : 128 ≤ c.toNat
    · have he : endOf (k + 1) (c :: r) = endOf k r + 1 := by simp only [endOf, if_pos hc]
      rw [he] at h1 h2 h3 ⊢
      exact canT_cons hc (end_can k r (by omega) (by simpa using h2) h3)
    · have he : endOf (k + 1) (c :: r) = 0 := by simp only [endOf, if_neg hc]
      rw [he] at h3 ⊢
      exact ⟨h3, by omega⟩

theorem can_last : ∀ {l : List UInt8}, canT l → (l.getD (l.length - 1) 0).toNat < 128
  | [], h => h.elim
  | [c], h => h.2
  | c :: d :: r, h => by
    have := can_last h.2
    simpa using this

theorem putS_zero : putS 0 = [0] := putS_small (by decide)

/-- A number that was written is read. -/
theorem getO_put {n : Nat} (hn : n < 18446744073709551616) (rest : List UInt8) : getO (putS n ++ rest) = some (n, rest) ∧ numOK (putS n ++ rest) (endOf 10 (putS n ++ rest)) ∧ endOf 10 (putS n ++ rest) + 1 = (putS n).length := by
  by_cases h0 : n = 0
  · subst h0
    rw [putS_zero]
    have he : endOf 10 ([0] ++ rest) = 0 := rfl
    have hk : numOK ([0] ++ rest) (endOf 10 ([0] ++ rest)) := by
      rw [he]; exact ⟨⟨by simp, by decide⟩, by simp, by simp⟩
    refine ⟨?_, hk, rfl⟩
    rw [getO, if_pos hk, he]
    rfl
  · obtain ⟨h1, h2⟩ := putS_can n (by omega)
    have hl := putS_len hn
    obtain ⟨h3, h4⟩ := endOf_can h1 rest 10 hl
    have hk : numOK (putS n ++ rest) (endOf 10 (putS n ++ rest)) := by
      refine ⟨⟨by simp; omega, by omega⟩, ?_, fun h => by omega⟩
      rintro ⟨h5, h6⟩
      have hlen : (putS n).length = 10 := by omega
      have hs : valS (putS n) = valS ((putS n).take 9) + 128 ^ 9 * valS ((putS n).drop 9) := by
        have := valS_append ((putS n).take 9) ((putS n).drop 9)
        rw [List.take_append_drop] at this
        rw [this]; simp [hlen]
      have hd : (putS n).drop 9 = [(putS n).getD 9 0] := by
        rw [List.drop_eq_getElem_cons (by omega), List.drop_of_length_le (by omega), List.getD_eq_getElem?_getD, List.getElem?_eq_getElem (by omega)]
        rfl
      have hg : (putS n ++ rest).getD 9 0 = (putS n).getD 9 0 := by
        rw [List.getD_eq_getElem?_getD, List.getD_eq_getElem?_getD, List.getElem?_append_left (by omega)]
      have hlt : ((putS n).getD 9 0).toNat < 128 := by
        have := can_last h1
        rw [hlen] at this
        exact this
      rw [hg] at h6
      rw [hd] at hs
      simp only [valS] at hs
      have h128 : (128 : Nat) ^ 9 = 9223372036854775808 := by decide
      rw [h128] at hs
      omega
    refine ⟨?_, hk, h3⟩
    rw [getO, if_pos hk, h3]
    simp [h2]

/-- A number that is read was written so. -/
theorem getO_out {s rest : List UInt8} {n : Nat} (h : getO s = some (n, rest)) : s = putS n ++ rest ∧ n < 18446744073709551616 := by
  unfold getO at h
  split at h
  · rename_i hk
    cases h
    refine ⟨?_, numOK_lt hk⟩
    by_cases h0 : 0 < (s.getD (endOf 10 s) 0).toNat
    · have hc := end_can 10 s hk.1.2 hk.1.1 h0
      rw [(canT_val hc).2, List.take_append_drop]
    · have he : endOf 10 s = 0 := by
        have := hk.2.2
        omega
      rw [he] at h0 ⊢
      cases s with
      | nil => have := hk.1.1; simp at this
      | cons c r =>
        have hc : c.toNat = 0 := by simp at h0; omega
        have hc' : c = 0 := UInt8.toNat_inj.1 hc
        subst hc'
        show _ = putS (valS [0]) ++ r
        rw [show valS [0] = 0 from rfl, putS_zero]
        rfl
  · cases h
end Go.Kn

namespace Go.Kn
open Go Go.Proofs

theorem takeO_getO (s : List UInt8) : takeO s = match getO s with
    | some (n, u) => if n ≤ u.length then some (u.take n, u.drop n) else none
    | none => none := by
  unfold takeO getO
  by_cases h : numOK s (endOf 10 s)
  · rw [if_pos h]
    simp only
    by_cases h2 : valS (s.take (endOf 10 s + 1)) ≤ (s.drop (endOf 10 s + 1)).length
    · rw [if_pos ⟨h, h2⟩, if_pos h2]
    · rw [if_neg fun e => h2 e.2, if_neg h2]
  · rw [if_neg h, if_neg fun e => h e.1]

theorem takeO_text {t : List UInt8} (ht : t.length < 18446744073709551616) (rest : List UInt8) : takeO (textS t ++ rest) = some (t, rest) := by
  rw [takeO_getO, textS, List.append_assoc, (getO_put ht (t ++ rest)).1]
  simp

theorem takeO_out {s t rest : List UInt8} (h : takeO s = some (t, rest)) : s = textS t ++ rest := by
  rw [takeO_getO] at h
  cases hg : getO s with
  | none => rw [hg] at h; cases h
  | some p =>
    obtain ⟨n, u⟩ := p
    rw [hg] at h
    simp only at h
    split at h
    · rename_i hn
      cases h
      obtain ⟨h1, _⟩ := getO_out hg
      rw [h1, textS, List.append_assoc, List.take_append_drop]
      simp [hn]
    · cases h

theorem getR_put {n : Nat} (hn : n < 18446744073709551616) (rest : List UInt8) : getR (putS n ++ rest) = (n, (putS n).length) := by
  obtain ⟨h1, h2, h3⟩ := getO_put hn rest
  rw [getR, if_pos h2, h3]
  rw [getO, if_pos h2, h3] at h1
  simp only [Option.some.injEq, Prod.mk.injEq] at h1
  rw [h1.1]

theorem takeR_text {t : List UInt8} (ht : t.length < 18446744073709551616) (rest : List UInt8) : takeR (textS t ++ rest) = (t, (textS t).length) := by
  have hp := putS_pos t.length
  have hg := getR_put ht (t ++ rest)
  rw [takeR, textS, List.append_assoc, hg]
  simp only
  rw [if_neg (by rintro (h | h); · omega
                 · simp only [List.length_append] at h; omega)]
  simp

theorem idOf_bytes (x : Id) (rest : List UInt8) : idOf (x.bytes ++ rest) = x := by
  apply Id.ext
  simp [idOf, x.len]

theorem bytes_idOf {s : List UInt8} (h : 32 ≤ s.length) : (idOf s).bytes = s.take 32 := by
  simp only [idOf]
  rw [List.take_append_of_le_length (by omega)]

/-! ## Readers -/
theorem Rd.bytes_of {n : Nat} {a rest : List UInt8} (h : a.length = n) : Rd.bytes ⟨a ++ rest, false⟩ n = (a, ⟨rest, false⟩) := by
  rw [Rd.bytes, if_neg (by simp; omega)]
  simp [← h]

theorem Rd.bytes_out {r : Rd} {n : Nat} (h : (r.bytes n).2.bad = false) : r.bad = false ∧ n ≤ r.s.length ∧ r.bytes n = (r.s.take n, ⟨r.s.drop n, false⟩) := by
  unfold Rd.bytes at h ⊢
  split at h
  · cases h
  · rename_i hn
    rw [if_neg hn]
    simp only [not_or, Bool.not_eq_true] at hn
    exact ⟨hn.1, by omega, rfl⟩

theorem Rd.id_of (x : Id) (rest : List UInt8) : Rd.id ⟨x.bytes ++ rest, false⟩ = (x, ⟨rest, false⟩) := by
  rw [Rd.id, Rd.bytes_of x.len]
  have := idOf_bytes x []
  rw [List.append_nil] at this
  rw [this]

theorem Rd.id_out {r : Rd} (h : r.id.2.bad = false) : r.bad = false ∧ r.s = r.id.1.bytes ++ r.id.2.s ∧ r.id.2 = ⟨r.id.2.s, false⟩ := by
  obtain ⟨h1, h2, h3⟩ := Rd.bytes_out (r := r) (n := 32) h
  refine ⟨h1, ?_, ?_⟩
  · simp only [Rd.id, h3]
    have : (idOf (r.s.take 32)).bytes = r.s.take 32 := by
      rw [bytes_idOf (by rw [List.length_take]; omega), List.take_take]; rfl
    rw [this, List.take_append_drop]
  · simp only [Rd.id, h3]

theorem Rd.kind_of (c : UInt8) (rest : List UInt8) : Rd.kind ⟨c :: rest, false⟩ = (c.toNat, ⟨rest, false⟩) := by
  have := Rd.bytes_of (n := 1) (a := [c]) (rest := rest) rfl
  rw [Rd.kind, show (c :: rest) = [c] ++ rest from rfl, this]
  rfl

theorem Rd.kind_out {r : Rd} (h : r.kind.2.bad = false) : r.bad = false ∧ ∃ c rest, r.s = c :: rest ∧ r.kind = (c.toNat, ⟨rest, false⟩) := by
  have hb : (r.bytes 1).2.bad = false := by
    unfold Rd.kind at h
    split at h
    · rename_i h2; simp only at h; exact h
    · exact h
  obtain ⟨h1, h2, h3⟩ := Rd.bytes_out hb
  refine ⟨h1, ?_⟩
  cases hs : r.s with
  | nil => rw [hs] at h2; simp at h2
  | cons c rest =>
    refine ⟨c, rest, rfl, ?_⟩
    have : r = ⟨c :: rest, false⟩ := by cases r; simp only at hs h1; rw [hs, h1]
    rw [this, Rd.kind_of]

theorem Rd.text_of {t : List UInt8} (ht : t.length < 18446744073709551616) (rest : List UInt8) : Rd.text ⟨textS t ++ rest, false⟩ = (t, ⟨rest, false⟩) := by
  simp only [Rd.text, takeO_text ht rest]

theorem Rd.text_out {r : Rd} (h : r.text.2.bad = false) : r.bad = false ∧ r.s = textS r.text.1 ++ r.text.2.s ∧ r.text.2 = ⟨r.text.2.s, false⟩ := by
  obtain ⟨s, bad⟩ := r
  cases bad with
  | true => simp [Rd.text] at h
  | false =>
    cases ht : takeO s with
    | none => simp [Rd.text, ht] at h
    | some p =>
      obtain ⟨t, rest⟩ := p
      have hx : Rd.text ⟨s, false⟩ = (t, ⟨rest, false⟩) := by simp [Rd.text, ht]
      rw [hx]
      exact ⟨rfl, takeO_out ht, rfl⟩

theorem Rd.number_of {n : Nat} (hn : n < 18446744073709551616) (rest : List UInt8) : Rd.number ⟨putS n ++ rest, false⟩ = (n, ⟨rest, false⟩) := by
  simp only [Rd.number, (getO_put hn rest).1]

theorem Rd.number_out {r : Rd} (h : r.number.2.bad = false) : r.bad = false ∧ r.s = putS r.number.1 ++ r.number.2.s ∧ r.number.2 = ⟨r.number.2.s, false⟩ := by
  obtain ⟨s, bad⟩ := r
  cases bad with
  | true => simp [Rd.number] at h
  | false =>
    cases ht : getO s with
    | none => simp [Rd.number, ht] at h
    | some p =>
      obtain ⟨t, rest⟩ := p
      have hx : Rd.number ⟨s, false⟩ = (t, ⟨rest, false⟩) := by simp [Rd.number, ht]
      rw [hx]
      exact ⟨rfl, (getO_out ht).1, rfl⟩
end Go.Kn
