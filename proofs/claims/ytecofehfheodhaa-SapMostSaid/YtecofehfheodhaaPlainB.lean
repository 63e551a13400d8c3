/-
  Plain: rows of texts (layer 1), written and read.
-/
import Derived.Test.YtecofehfheodhaaPlainA
set_option linter.unusedVariables false
set_option linter.unusedSimpArgs false
namespace Go.Proofs.Ytecofehfheodhaa.Pl
open Go

theorem val_take_mono (l : List UInt8) (j k : Nat) (h : j ≤ k) : val (l.take j) ≤ val (l.take k) := by
  obtain ⟨d, rfl⟩ : ∃ d, k = j + d := ⟨k - j, by omega⟩
  induction d with
  | zero => exact Nat.le_refl _
  | succ d ih =>
    refine Nat.le_trans (ih (by omega)) ?_
    by_cases hl : j + d < l.length
    · rw [← Nat.add_assoc, val_take_succ l (j + d) hl]; omega
    · rw [List.take_of_length_le (i := j + d) (by omega), List.take_of_length_le (by omega)]; exact Nat.le_refl _

/-- eight digits make a number that is no int just if the first one is 128 at least -/
theorem val_cons (c : UInt8) (l : List UInt8) : val (c :: l) = c.toNat * 256 ^ l.length + val l := by
  have aux : ∀ (l : List UInt8) (a : Nat), l.foldl (fun a b => 256 * a + b.toNat) a = a * 256 ^ l.length + val l := by
    intro l
    induction l with
    | nil => intro a; simp [val]
    | cons d l ih =>
      intro a
      have h1 := ih (256 * a + d.toNat)
      have h2 := ih (256 * 0 + d.toNat)
      simp only [List.foldl_cons, List.length_cons, val]
      simp only [val] at h1 h2
      rw [h1, h2, Nat.pow_succ]
      have e : (256 * a + d.toNat) * 256 ^ l.length = a * (256 ^ l.length * 256) + d.toNat * 256 ^ l.length := by
        rw [Nat.add_mul, Nat.mul_comm 256 a, Nat.mul_assoc, Nat.mul_comm 256]
      rw [e]
      simp only [Nat.mul_zero, Nat.zero_add]
      omega
  have h := aux l (256 * 0 + c.toNat)
  simp only [val, List.foldl_cons]
  simp only [val] at h
  rw [h]; simp
theorem val_top (c : UInt8) (l : List UInt8) (h : l.length = 7) : 9223372036854775808 ≤ val (c :: l) ↔ 128 ≤ c.toNat := by
  have h1 := val_cons c l
  have h2 := val_lt l
  rw [h] at h1 h2
  have : (256 : Nat) ^ 7 = 72057594037927936 := by decide
  rw [this] at h1 h2
  omega

def textB (s : List UInt8) : List UInt8 := num s.length ++ s
def textsB (ls : List (List UInt8)) : List UInt8 := (ls.map textB).flatten
def rowB (ls : List (List UInt8)) : List UInt8 := num ls.length ++ textsB ls

theorem textsB_snoc (ls : List (List UInt8)) (s : List UInt8) : textsB (ls ++ [s]) = textsB ls ++ textB s := by simp [textsB]
theorem textsB_take (ls : List (List UInt8)) (i : Nat) (h : i < ls.length) : textsB (ls.take (i + 1)) = textsB (ls.take i) ++ textB ls[i] := by
  rw [List.take_succ_eq_append_getElem h, textsB_snoc]
theorem textsB_append (a b : List (List UInt8)) : textsB (a ++ b) = textsB a ++ textsB b := by simp [textsB]
theorem textsB_take_le (ls : List (List UInt8)) (i : Nat) : (textsB (ls.take i)).length ≤ (textsB ls).length := by
  have h := congrArg List.length (congrArg textsB (List.take_append_drop i ls))
  rw [textsB_append, List.length_append] at h
  omega
theorem textB_le (ls : List (List UInt8)) (i : Nat) (h : i < ls.length) : (textsB (ls.take i)).length + (textB ls[i]).length ≤ (textsB ls).length := by
  have := textsB_take_le ls (i + 1)
  rw [textsB_take ls i h, List.length_append] at this
  exact this

theorem textsB_ge (ls : List (List UInt8)) : ls.length ≤ (textsB ls).length := by
  induction ls with
  | nil => simp
  | cons a t ih =>
    have : textsB (a :: t) = textB a ++ textsB t := by simp [textsB]
    rw [this, List.length_append, List.length_cons]
    have : 1 ≤ (textB a).length := by simp [textB, num]
    omega

/-- n texts one behind the other -/
def rdTexts : Nat → List UInt8 → Option (List (List UInt8) × List UInt8)
  | 0, l => some ([], l)
  | n + 1, l =>
    match rdText l l.length with
    | some (t, r) => match rdTexts n r with
      | some (ts, r') => some (t :: ts, r')
      | none => none
    | none => none

def rdRow (l : List UInt8) (most : Int) : Option (List (List UInt8) × List UInt8) :=
  match rdNum l with
  | some (n, r) => if 0 ≤ n ∧ n ≤ most ∧ n ≤ r.length then rdTexts n.toNat r else none
  | none => none

theorem rdText_len {l t r : List UInt8} {most : Int} (h : rdText l most = some (t, r)) : t.length + r.length < l.length := by
  unfold rdText at h
  cases hr : rdNum l with
  | none => rw [hr] at h; cases h
  | some p =>
    obtain ⟨n, q⟩ := p
    rw [hr] at h
    simp only at h
    have := (rdNum_bounds hr).2.2
    split at h
    · simp only [Option.some.injEq, Prod.mk.injEq] at h
      obtain ⟨rfl, rfl⟩ := h
      simp; omega
    · cases h

/-- n texts, from the left: what has been read, and what is left -/
theorem rdTexts_snoc (n : Nat) (l : List UInt8) : rdTexts (n + 1) l = match rdTexts n l with
    | some (ts, r) => match rdText r r.length with
      | some (t, r') => some (ts ++ [t], r')
      | none => none
    | none => none := by
  induction n generalizing l with
  | zero => simp only [rdTexts]; cases rdText l l.length <;> rfl
  | succ n ih =>
    rw [rdTexts]
    cases h : rdText l l.length with
    | none => simp [rdTexts, h]
    | some p =>
      obtain ⟨t, r⟩ := p
      simp only
      rw [ih r]
      conv => rhs; rw [rdTexts, h]
      simp only
      cases h2 : rdTexts n r with
      | none => rfl
      | some p2 =>
        obtain ⟨ts, r2⟩ := p2
        simp only
        cases h3 : rdText r2 r2.length with
        | none => rfl
        | some p3 => rfl

theorem rdTexts_none_mono (n k : Nat) (l : List UInt8) (h : rdTexts n l = none) : rdTexts (n + k) l = none := by
  induction k with
  | zero => exact h
  | succ k ih => rw [← Nat.add_assoc, rdTexts_snoc, ih]

theorem rdTexts_length {n : Nat} {l r : List UInt8} {ts : List (List UInt8)} (h : rdTexts n l = some (ts, r)) : ts.length = n ∧ r.length ≤ l.length := by
  induction n generalizing l ts with
  | zero => simp [rdTexts] at h; obtain ⟨rfl, rfl⟩ := h; simp
  | succ n ih =>
    rw [rdTexts] at h
    cases h1 : rdText l l.length with
    | none => simp [h1] at h
    | some p =>
      obtain ⟨t, q⟩ := p
      rw [h1] at h
      simp only at h
      cases h2 : rdTexts n q with
      | none => simp [h2] at h
      | some p2 =>
        obtain ⟨ts2, r2⟩ := p2
        rw [h2] at h
        simp only [Option.some.injEq, Prod.mk.injEq] at h
        obtain ⟨rfl, rfl⟩ := h
        have := ih h2
        have := rdText_len h1
        simp; omega

end Go.Proofs.Ytecofehfheodhaa.Pl
