/-
  Plain: what is written is read as it was, and what is read is written so (layer 1).
-/
import Derived.Test.YtecofehfheodhaaPlainB
set_option linter.unusedVariables false
set_option linter.unusedSimpArgs false
namespace Go.Proofs.Ytecofehfheodhaa.Pl
open Go

theorem val_be (q : Nat) : val (be q) = q := be_val q

theorem be_push (v : Nat) (d : UInt8) (h : 0 < 256 * v + d.toNat) : be (256 * v + d.toNat) = be v ++ [d] := by
  have hd := d.toNat_lt
  rw [be_pos h, show (256 * v + d.toNat) / 256 = v from by omega, show (256 * v + d.toNat) % 256 = d.toNat from by omega]
  simp

theorem be_of_digits (n : Nat) : ∀ ds : List UInt8, ds.length = n → ds.head? ≠ some 0 → be (val ds) = ds := by
  induction n with
  | zero => intro ds h _; have := List.eq_nil_of_length_eq_zero h; subst this; simp [val, be_zero]
  | succ n ih =>
    intro ds h hh
    rcases List.eq_nil_or_concat ds with rfl | ⟨L, d, rfl⟩
    · simp at h
    · have hL : L.length = n := by simpa using h
      cases L with
      | nil =>
        have hd : ¬ d.toNat = 0 := fun e => hh (by simp [UInt8.toNat_inj.1 (show d.toNat = (0 : UInt8).toNat from e)])
        have := be_push 0 d (by omega)
        rw [be_zero] at this
        simpa [val] using this
      | cons c L =>
        have h1 := ih (c :: L) hL (by simpa using hh)
        rw [List.concat_eq_append, val_snoc]
        have h2 : 0 < val (c :: L) := by
          rcases Nat.eq_zero_or_pos (val (c :: L)) with e | e
          · rw [e, be_zero] at h1; cases h1
          · exact e
        rw [be_push _ _ (by omega), h1]

theorem be_head (q : Nat) : (be q).head? ≠ some 0 := by
  induction q using Nat.strongRecOn with
  | _ q ih =>
    rcases Nat.eq_zero_or_pos q with h | h
    · subst h; simp [be_zero]
    · rw [be_pos h]
      rcases Nat.eq_zero_or_pos (q / 256) with h2 | h2
      · rw [h2, be_zero]
        simp only [List.nil_append, List.head?_cons, ne_eq, Option.some.injEq]
        intro e
        have := congrArg UInt8.toNat e
        simp at this
        omega
      · have := ih (q / 256) (by omega)
        rw [List.head?_append]
        cases hb : be (q / 256) with
        | nil => have := be_length_pos h2; rw [hb] at this; simp at this
        | cons c L => rw [hb] at this; simpa using this

theorem num_of_rd {l r : List UInt8} {n : Int} (h : rdNum l = some (n, r)) : num n ++ r = l := by
  cases l with
  | nil => simp [rdNum] at h
  | cons b l =>
    rw [rdNum] at h
    split at h
    · cases h
    · rename_i hc
      simp only [not_or, Nat.not_lt, not_and] at hc
      obtain ⟨c1, c2, c3, c4⟩ := hc
      simp only [Option.some.injEq, Prod.mk.injEq] at h
      obtain ⟨h1, rfl⟩ := h
      have hb := b.toNat_lt
      have hm : mag n = val (l.take (b.toNat % 128)) := by unfold mag; split at h1 <;> split <;> omega
      have hbe : be (mag n) = l.take (b.toNat % 128) := by
        rw [hm]
        refine be_of_digits _ _ rfl ?_
        rcases Nat.eq_zero_or_pos (b.toNat % 128) with e | e
        · rw [e]; simp
        · have := c3 e
          cases l with
          | nil => simp
          | cons c l =>
            obtain ⟨k, hk⟩ : ∃ k, b.toNat % 128 = k + 1 := ⟨b.toNat % 128 - 1, by omega⟩
            rw [hk, List.take_succ_cons]; simpa using this
      have hlen : (l.take (b.toNat % 128)).length = b.toNat % 128 := by simp; omega
      unfold num
      rw [hbe, hlen]
      have hb2 : UInt8.ofNat ((if n < 0 then 128 else 0) + b.toNat % 128) = b := by
        have : (if n < 0 then 128 else 0) + b.toNat % 128 = b.toNat := by split at h1 <;> split <;> omega
        rw [this]; simp
      rw [hb2, List.cons_append, List.take_append_drop]

theorem rd_of_num (n : Int) (more : List UInt8) (h0 : -9223372036854775808 ≤ n) (h1 : n ≤ 9223372036854775807) : rdNum (num n ++ more) = some (n, more) := by
  have hmag : mag n < 9223372036854775808 := by unfold mag; split <;> omega
  have hlen := be_length_le 8 (mag n) (by omega)
  unfold num
  rw [List.cons_append, rdNum]
  have hb : (UInt8.ofNat ((if n < 0 then 128 else 0) + (be (mag n)).length)).toNat = (if n < 0 then 128 else 0) + (be (mag n)).length := by
    rw [UInt8.toNat_ofNat']; split <;> omega
  have hk : (UInt8.ofNat ((if n < 0 then 128 else 0) + (be (mag n)).length)).toNat % 128 = (be (mag n)).length := by rw [hb]; split <;> omega
  rw [hk]
  have ht : (be (mag n) ++ more).take (be (mag n)).length = be (mag n) := by simp
  have hd : (be (mag n) ++ more).drop (be (mag n)).length = more := by simp
  rw [ht, hd, val_be, hb]
  rw [if_neg]
  · have : (if 128 ≤ (if n < 0 then 128 else 0) + (be (mag n)).length then -1 - (mag n : Int) else (mag n : Int)) = n := by
      unfold mag at hmag ⊢
      by_cases hn : n < 0
      · simp only [hn, if_true] at hmag ⊢; rw [if_pos (by omega)]; omega
      · have e : ¬ (128 ≤ (if n < 0 then 128 else 0) + (be (if n < 0 then (-1 - n).toNat else n.toNat)).length) := by
          rw [if_neg hn]; unfold mag at hlen; omega
        rw [if_neg e, if_neg hn]; omega
    rw [this]
  · simp only [not_or, Nat.not_lt, not_and, gt_iff_lt]
    refine ⟨by omega, by simp, ?_, by omega⟩
    intro hp
    have := be_head (mag n)
    cases hb : be (mag n) with
    | nil => rw [hb] at hp; simp at hp
    | cons c L => rw [hb] at this; simpa using this

theorem num_inj {a b : Int} (ha0 : -9223372036854775808 ≤ a) (ha1 : a ≤ 9223372036854775807) (hb0 : -9223372036854775808 ≤ b) (hb1 : b ≤ 9223372036854775807) {x y : List UInt8} (h : num a ++ x = num b ++ y) : a = b ∧ x = y := by
  have e1 := rd_of_num a x ha0 ha1
  rw [h, rd_of_num b y hb0 hb1] at e1
  simp only [Option.some.injEq, Prod.mk.injEq] at e1
  exact ⟨e1.1.symm, e1.2.symm⟩

theorem text_of_rd {l t r : List UInt8} {most : Int} (h : rdText l most = some (t, r)) : textB t ++ r = l := by
  unfold rdText at h
  cases hr : rdNum l with
  | none => rw [hr] at h; cases h
  | some p =>
    obtain ⟨n, q⟩ := p
    rw [hr] at h
    simp only at h
    split at h
    · rename_i hy
      simp only [Option.some.injEq, Prod.mk.injEq] at h
      obtain ⟨rfl, rfl⟩ := h
      have h1 := num_of_rd hr
      have hl : (q.take n.toNat).length = n.toNat := by simp; omega
      have e : ((q.take n.toNat).length : Int) = n := by rw [hl]; omega
      unfold textB
      rw [e, List.append_assoc, List.take_append_drop, h1]
    · cases h

theorem rd_of_text (t more : List UInt8) (most : Int) (hl : t.length ≤ 9223372036854775807) : rdText (textB t ++ more) most = if (t.length : Int) ≤ most then some (t, more) else none := by
  unfold textB rdText
  rw [List.append_assoc, rd_of_num _ _ (by omega) (by omega)]
  simp only
  by_cases h : (t.length : Int) ≤ most
  · rw [if_pos ⟨by omega, h, by simp; omega⟩, if_pos h]; simp
  · rw [if_neg (fun hh => h hh.2.1), if_neg h]

theorem texts_of_rd {n : Nat} : ∀ {l r : List UInt8} {ts : List (List UInt8)}, rdTexts n l = some (ts, r) → textsB ts ++ r = l := by
  induction n with
  | zero => intro l r ts h; simp [rdTexts] at h; obtain ⟨rfl, rfl⟩ := h; simp [textsB]
  | succ n ih =>
    intro l r ts h
    rw [rdTexts] at h
    cases h1 : rdText l l.length with
    | none => simp [h1] at h
    | some p =>
      obtain ⟨t, q⟩ := p
      rw [h1] at h
      simp only at h
      cases h2 : rdTexts n q with
      | none => simp [h2] at h
      | some p2 =>
        obtain ⟨ts2, r2⟩ := p2
        rw [h2] at h
        simp only [Option.some.injEq, Prod.mk.injEq] at h
        obtain ⟨rfl, rfl⟩ := h
        have e1 := text_of_rd h1
        have e2 := ih h2
        have : textsB (t :: ts2) = textB t ++ textsB ts2 := by simp [textsB]
        rw [this, List.append_assoc, e2, e1]

theorem rd_of_texts (ts : List (List UInt8)) (more : List UInt8) (hl : ∀ t ∈ ts, t.length ≤ 9223372036854775807) : rdTexts ts.length (textsB ts ++ more) = some (ts, more) := by
  induction ts with
  | nil => simp [rdTexts, textsB]
  | cons t ts ih =>
    have e : textsB (t :: ts) ++ more = textB t ++ (textsB ts ++ more) := by simp [textsB]
    rw [List.length_cons, rdTexts, e, rd_of_text _ _ _ (hl t (by simp)), if_pos]
    · simp only
      rw [ih (fun s hs => hl s (by simp [hs]))]
    · simp [textB]; omega

theorem row_of_rd {l r : List UInt8} {ts : List (List UInt8)} {most : Int} (h : rdRow l most = some (ts, r)) : rowB ts ++ r = l := by
  unfold rdRow at h
  cases hr : rdNum l with
  | none => rw [hr] at h; cases h
  | some p =>
    obtain ⟨n, q⟩ := p
    rw [hr] at h
    simp only at h
    split at h
    · rename_i hy
      have h1 := num_of_rd hr
      have h2 := texts_of_rd h
      have h3 := (rdTexts_length h).1
      have e : (ts.length : Int) = n := by rw [h3]; omega
      unfold rowB
      rw [e, List.append_assoc, h2, h1]
    · cases h

theorem rd_of_row (ts : List (List UInt8)) (more : List UInt8) (most : Int) (hn : ts.length ≤ 9223372036854775807) (hl : ∀ t ∈ ts, t.length ≤ 9223372036854775807) :
    rdRow (rowB ts ++ more) most = if (ts.length : Int) ≤ most then some (ts, more) else none := by
  unfold rowB rdRow
  rw [List.append_assoc, rd_of_num _ _ (by omega) (by omega)]
  simp only
  have := textsB_ge ts
  by_cases h : (ts.length : Int) ≤ most
  · rw [if_pos ⟨by omega, h, by simp; omega⟩, if_pos h, Int.toNat_natCast, rd_of_texts _ _ hl]
  · rw [if_neg (fun hh => h hh.2.1), if_neg h]

end Go.Proofs.Ytecofehfheodhaa.Pl
