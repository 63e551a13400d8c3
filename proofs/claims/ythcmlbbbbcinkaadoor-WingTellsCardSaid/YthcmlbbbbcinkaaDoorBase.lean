/-
  Plain facts on bytes of numbers, texts and rows (layer 1): no program in sight. Plain: rows of texts (layer 1), written and read. Plain: what is written is read as it was, and what is read is written so (layer 1). Memory: slices of strings that read as lists; builders and owned rows behind calls that leave old memory alone. Memory: calls that turn some blocks alone. Run equations over any program: bytes of an array that a call made, as a string; strings cut and joined. The walks of layer 2 (stamp): a word turned. The walks of layer 2 (stamp): the words of a block's rounds. The walks of layer 2 (stamp): a block mixed into the state.
-/
import Derived.WalkKit
import Derived.Lib.UnsafeStr
import Derived.Lib.Builder
import Derived.Deep.Draws
import Derived.Deep.WholeRow
import Derived.WalkSpells
import Derived.WalkLawsBesides
import Derived.Laws.IdiomStrings
import Derived.Lib.Hide
import Derived.Test.YthcmlbbbbcinkaaDoorProg
import Derived.BigRegion
import Derived.BigQuiet
import Derived.Deep.QuietTactic
import Derived.Deep.DeepCutAuto
import Derived.Deep.RegionWith
import Derived.Deep.CutBlock
import Derived.Deep.RegionHeld3
set_option linter.unusedVariables false
set_option linter.unusedSimpArgs false
namespace Go.Proofs.YthcmlbbbbcinkaaDoor.Pl
open Go

/-- the digits of base 256, the highest first, none ahead -/
def be (q : Nat) : List UInt8 := if q = 0 then [] else be (q / 256) ++ [UInt8.ofNat (q % 256)]
decreasing_by omega

theorem be_zero : be 0 = [] := by unfold be; simp
theorem be_pos {q : Nat} (h : 0 < q) : be q = be (q / 256) ++ [UInt8.ofNat (q % 256)] := by
  rw [be, if_neg (by omega)]

theorem be_length_pos {q : Nat} (h : 0 < q) : (be q).length = (be (q / 256)).length + 1 := by rw [be_pos h]; simp

theorem be_val (q : Nat) : (be q).foldl (fun a b => 256 * a + b.toNat) 0 = q := by
  induction q using Nat.strongRecOn with
  | _ q ih =>
    rcases Nat.eq_zero_or_pos q with h | h
    · subst h; simp [be_zero]
    · rw [be_pos h, List.foldl_append, ih (q / 256) (by omega)]
      simp [UInt8.toNat_ofNat]
      omega

theorem val_le (ds : List UInt8) : ∀ a : Nat, a ≤ ds.foldl (fun a b => 256 * a + b.toNat) a := by
  induction ds with
  | nil => intro a; simp
  | cons d ds ih => intro a; exact Nat.le_trans (by omega) (ih (256 * a + d.toNat))

theorem be_le (m q : Nat) (ds : List UInt8) (h : be m = be q ++ ds) : q ≤ m := by
  have h1 := be_val m
  rw [h, List.foldl_append, be_val q] at h1
  rw [← h1]; exact val_le ds q

def mag (n : Int) : Nat := if n < 0 then (-1 - n).toNat else n.toNat

def num (n : Int) : List UInt8 := UInt8.ofNat ((if n < 0 then 128 else 0) + (be (mag n)).length) :: be (mag n)

theorem drop_set {α : Type} (C : List α) (j : Nat) (v : α) (r : List α) (hj : j + 1 ≤ C.length) (h : C.drop (j + 1) = r) : (C.set j v).drop j = v :: r := by
  rw [List.drop_eq_getElem_cons (by simp; omega)]
  simp [List.drop_set_of_lt, h]

theorem xor_ones (x : Int) (h0 : -9223372036854775808 ≤ x) (h1 : x ≤ 9223372036854775807) : bits BinOp.xor IntKind.i64 (-1) x = -1 - x := by
  show IntKind.i64.wrap ((BitVec.ofInt 64 (-1) ^^^ BitVec.ofInt 64 x).toNat : Int) = _
  have e1 : BitVec.ofInt 64 (-1) = BitVec.allOnes 64 := by decide
  rw [e1, BitVec.allOnes_xor, BitVec.toNat_not, BitVec.toNat_ofInt, IntKind.wrap_i64]
  omega

theorem sign_or (s : Int) (hs : s = 0 ∨ s = 128) (L : Nat) (hL : L ≤ 8) : IntKind.u8.wrap (bits BinOp.or IntKind.i64 s (L : Int)) = s + L := by
  obtain h | h | h | h | h | h | h | h | h : L = 0 ∨ L = 1 ∨ L = 2 ∨ L = 3 ∨ L = 4 ∨ L = 5 ∨ L = 6 ∨ L = 7 ∨ L = 8 := by omega
  all_goals (subst h; rcases hs with rfl | rfl <;> decide)

theorem xor_nat (x : Nat) (h1 : (x : Int) ≤ 9223372036854775807) : bits BinOp.xor IntKind.i64 (-1) (x : Int) = -1 - (x : Int) := xor_ones x (by omega) h1

/-- a value of base 256 -/
def val (ds : List UInt8) : Nat := ds.foldl (fun a b => 256 * a + b.toNat) 0

/-- the number with which bytes begin -/
def rdNum : List UInt8 → Option (Int × List UInt8)
  | [] => none
  | b :: l =>
    if b.toNat % 128 > 8 ∨ b.toNat % 128 > l.length ∨ (0 < b.toNat % 128 ∧ l.head? = some 0) ∨ 9223372036854775808 ≤ val (l.take (b.toNat % 128)) then none
    else some (if 128 ≤ b.toNat then -1 - (val (l.take (b.toNat % 128)) : Int) else (val (l.take (b.toNat % 128)) : Int), l.drop (b.toNat % 128))

theorem val_snoc (ds : List UInt8) (d : UInt8) : val (ds ++ [d]) = 256 * val ds + d.toNat := by simp [val]
theorem val_lt_aux (ds : List UInt8) : ∀ a : Nat, ds.foldl (fun a b => 256 * a + b.toNat) a < (a + 1) * 256 ^ ds.length := by
  induction ds with
  | nil => intro a; simp
  | cons d ds ih =>
    intro a
    have h := ih (256 * a + d.toNat)
    have hd := d.toNat_lt
    have h2 : (256 * a + d.toNat + 1) * 256 ^ ds.length ≤ ((a + 1) * 256) * 256 ^ ds.length := Nat.mul_le_mul_right _ (by omega)
    rw [List.foldl_cons, List.length_cons, Nat.pow_succ, Nat.mul_comm (256 ^ ds.length) 256, ← Nat.mul_assoc]
    omega
theorem val_lt (ds : List UInt8) : val ds < 256 ^ ds.length := by
  have := val_lt_aux ds 0
  simpa [val] using this
theorem val_take_succ (l : List UInt8) (i : Nat) (h : i < l.length) : val (l.take (i + 1)) = 256 * val (l.take i) + l[i].toNat := by
  rw [List.take_succ_eq_append_getElem h, val_snoc]
theorem val_take_lt (l : List UInt8) (i : Nat) : val (l.take i) < 256 ^ i := Nat.lt_of_lt_of_le (val_lt _) (Nat.pow_le_pow_right (by omega) (by simp; omega))

theorem u8_andNot128 (b : UInt8) : bits BinOp.andNot IntKind.u8 (b.toNat : Int) 128 = ((b.toNat % 128 : Nat) : Int) := by
  have h : ∀ k : Nat, k < 256 → bits BinOp.andNot IntKind.u8 (k : Int) 128 = ((k % 128 : Nat) : Int) := by decide +kernel
  exact h _ b.toNat_lt
theorem u8_and128 (b : UInt8) : bits BinOp.and IntKind.u8 (b.toNat : Int) 128 = if 128 ≤ b.toNat then 128 else 0 := by
  have h : ∀ k : Nat, k < 256 → bits BinOp.and IntKind.u8 (k : Int) 128 = if 128 ≤ k then 128 else 0 := by decide +kernel
  exact h _ b.toNat_lt

theorem u64_push (v : Nat) (c : UInt8) (h : v < 72057594037927936) : bits BinOp.or IntKind.u64 ((v : Int) * 256) (c.toNat : Int) = ((256 * v + c.toNat : Nat) : Int) := by
  have hc := c.toNat_lt
  have e : (v : Int) * 256 = ((v * 256 : Nat) : Int) := by omega
  rw [e, u64_or_nat (v * 256) c.toNat (by omega) (by omega)]
  congr 1
  have := Nat.two_pow_add_eq_or_of_lt (i := 8) (b := c.toNat) (by omega) v
  rw [show 2 ^ 8 * v = v * 256 from by omega] at this
  omega

theorem rdNum_bounds {l r : List UInt8} {n : Int} (h : rdNum l = some (n, r)) : -9223372036854775808 ≤ n ∧ n ≤ 9223372036854775807 ∧ r.length < l.length := by
  cases l with
  | nil => simp [rdNum] at h
  | cons b l =>
    rw [rdNum] at h
    split at h
    · cases h
    · rename_i hc
      simp only [Option.some.injEq, Prod.mk.injEq] at h
      obtain ⟨h1, rfl⟩ := h
      split at h1 <;> simp <;> omega

def rdText (l : List UInt8) (most : Int) : Option (List UInt8 × List UInt8) :=
  match rdNum l with
  | some (n, r) => if 0 ≤ n ∧ n ≤ most ∧ n ≤ r.length then some (r.take n.toNat, r.drop n.toNat) else none
  | none => none

theorem be_length_le (k q : Nat) (h : q < 256 ^ k) : (be q).length ≤ k := by
  induction k generalizing q with
  | zero => simp at h; subst h; simp [be_zero]
  | succ k ih =>
    rcases Nat.eq_zero_or_pos q with hq | hq
    · subst hq; simp [be_zero]
    · rw [be_length_pos hq]
      have := ih (q / 256) (Nat.div_lt_of_lt_mul (by rw [Nat.pow_succ] at h; omega))
      omega
theorem num_length_le (n : Int) (h0 : -9223372036854775808 ≤ n) (h1 : n ≤ 9223372036854775807) : (num n).length ≤ 9 := by
  have := be_length_le 8 (mag n) (by unfold mag; split <;> omega)
  simp [num]; omega
theorem num_length (n : Nat) : n < 9223372036854775808 → (num n).length ≤ 9 := fun h => num_length_le n (by omega) (by omega)

end Go.Proofs.YthcmlbbbbcinkaaDoor.Pl

set_option linter.unusedVariables false
set_option linter.unusedSimpArgs false
namespace Go.Proofs.YthcmlbbbbcinkaaDoor.Pl
open Go

theorem val_take_mono (l : List UInt8) (j k : Nat) (h : j ≤ k) : val (l.take j) ≤ val (l.take k) := by
  obtain ⟨d, rfl⟩ : ∃ d, k = j + d := ⟨k - j, by omega⟩
  induction d with
  | zero => exact Nat.le_refl _
  | succ d ih =>
    refine Nat.le_trans (ih (by omega)) ?_
    by_cases hl : j + d < l.length
    · rw [← Nat.add_assoc, val_take_succ l (j + d) hl]; omega
    · rw [List.take_of_length_le (i := j + d) (by omega), List.take_of_length_le (by omega)]; exact Nat.le_refl _

/-- eight digits make a number that is no int just if the first one is 128 at least -/
theorem val_cons (c : UInt8) (l : List UInt8) : val (c :: l) = c.toNat * 256 ^ l.length + val l := by
  have aux : ∀ (l : List UInt8) (a : Nat), l.foldl (fun a b => 256 * a + b.toNat) a = a * 256 ^ l.length + val l := by
    intro l
    induction l with
    | nil => intro a; simp [val]
    | cons d l ih =>
      intro a
      have h1 := ih (256 * a + d.toNat)
      have h2 := ih (256 * 0 + d.toNat)
      simp only [List.foldl_cons, List.length_cons, val]
      simp only [val] at h1 h2
      rw [h1, h2, Nat.pow_succ]
      have e : (256 * a + d.toNat) * 256 ^ l.length = a * (256 ^ l.length * 256) + d.toNat * 256 ^ l.length := by
        rw [Nat.add_mul, Nat.mul_comm 256 a, Nat.mul_assoc, Nat.mul_comm 256]
      rw [e]
      simp only [Nat.mul_zero, Nat.zero_add]
      omega
  have h := aux l (256 * 0 + c.toNat)
  simp only [val, List.foldl_cons]
  simp only [val] at h
  rw [h]; simp
theorem val_top (c : UInt8) (l : List UInt8) (h : l.length = 7) : 9223372036854775808 ≤ val (c :: l) ↔ 128 ≤ c.toNat := by
  have h1 := val_cons c l
  have h2 := val_lt l
  rw [h] at h1 h2
  have : (256 : Nat) ^ 7 = 72057594037927936 := by decide
  rw [this] at h1 h2
  omega

def textB (s : List UInt8) : List UInt8 := num s.length ++ s
def textsB (ls : List (List UInt8)) : List UInt8 := (ls.map textB).flatten
def srow (ls : List (List UInt8)) : List UInt8 := num ls.length ++ textsB ls

theorem textsB_snoc (ls : List (List UInt8)) (s : List UInt8) : textsB (ls ++ [s]) = textsB ls ++ textB s := by simp [textsB]
theorem textsB_take (ls : List (List UInt8)) (i : Nat) (h : i < ls.length) : textsB (ls.take (i + 1)) = textsB (ls.take i) ++ textB ls[i] := by
  rw [List.take_succ_eq_append_getElem h, textsB_snoc]
theorem textsB_append (a b : List (List UInt8)) : textsB (a ++ b) = textsB a ++ textsB b := by simp [textsB]
theorem textsB_take_le (ls : List (List UInt8)) (i : Nat) : (textsB (ls.take i)).length ≤ (textsB ls).length := by
  have h := congrArg List.length (congrArg textsB (List.take_append_drop i ls))
  rw [textsB_append, List.length_append] at h
  omega
theorem textB_le (ls : List (List UInt8)) (i : Nat) (h : i < ls.length) : (textsB (ls.take i)).length + (textB ls[i]).length ≤ (textsB ls).length := by
  have := textsB_take_le ls (i + 1)
  rw [textsB_take ls i h, List.length_append] at this
  exact this

theorem textsB_ge (ls : List (List UInt8)) : ls.length ≤ (textsB ls).length := by
  induction ls with
  | nil => simp
  | cons a t ih =>
    have : textsB (a :: t) = textB a ++ textsB t := by simp [textsB]
    rw [this, List.length_append, List.length_cons]
    have : 1 ≤ (textB a).length := by simp [textB, num]
    omega

/-- n texts one behind the other -/
def rdTexts : Nat → List UInt8 → Option (List (List UInt8) × List UInt8)
  | 0, l => some ([], l)
  | n + 1, l =>
    match rdText l l.length with
    | some (t, r) => match rdTexts n r with
      | some (ts, r') => some (t :: ts, r')
      | none => none
    | none => none

def rdRow (l : List UInt8) (most : Int) : Option (List (List UInt8) × List UInt8) :=
  match rdNum l with
  | some (n, r) => if 0 ≤ n ∧ n ≤ most ∧ n ≤ r.length then rdTexts n.toNat r else none
  | none => none

theorem rdText_len {l t r : List UInt8} {most : Int} (h : rdText l most = some (t, r)) : t.length + r.length < l.length := by
  unfold rdText at h
  cases hr : rdNum l with
  | none => rw [hr] at h; cases h
  | some p =>
    obtain ⟨n, q⟩ := p
    rw [hr] at h
    simp only at h
    have := (rdNum_bounds hr).2.2
    split at h
    · simp only [Option.some.injEq, Prod.mk.injEq] at h
      obtain ⟨rfl, rfl⟩ := h
      simp; omega
    · cases h

/-- n texts, from the left: what has been read, and what is left -/
theorem rdTexts_snoc (n : Nat) (l : List UInt8) : rdTexts (n + 1) l = match rdTexts n l with
    | some (ts, r) => match rdText r r.length with
      | some (t, r') => some (ts ++ [t], r')
      | none => none
    | none => none := by
  induction n generalizing l with
  | zero => simp only [rdTexts]; cases rdText l l.length <;> rfl
  | succ n ih =>
    rw [rdTexts]
    cases h : rdText l l.length with
    | none => simp [rdTexts, h]
    | some p =>
      obtain ⟨t, r⟩ := p
      simp only
      rw [ih r]
      conv => rhs; rw [rdTexts, h]
      simp only
      cases h2 : rdTexts n r with
      | none => rfl
      | some p2 =>
        obtain ⟨ts, r2⟩ := p2
        simp only
        cases h3 : rdText r2 r2.length with
        | none => rfl
        | some p3 => rfl

theorem rdTexts_none_mono (n k : Nat) (l : List UInt8) (h : rdTexts n l = none) : rdTexts (n + k) l = none := by
  induction k with
  | zero => exact h
  | succ k ih => rw [← Nat.add_assoc, rdTexts_snoc, ih]

theorem rdTexts_length {n : Nat} {l r : List UInt8} {ts : List (List UInt8)} (h : rdTexts n l = some (ts, r)) : ts.length = n ∧ r.length ≤ l.length := by
  induction n generalizing l ts with
  | zero => simp [rdTexts] at h; obtain ⟨rfl, rfl⟩ := h; simp
  | succ n ih =>
    rw [rdTexts] at h
    cases h1 : rdText l l.length with
    | none => simp [h1] at h
    | some p =>
      obtain ⟨t, q⟩ := p
      rw [h1] at h
      simp only at h
      cases h2 : rdTexts n q with
      | none => simp [h2] at h
      | some p2 =>
        obtain ⟨ts2, r2⟩ := p2
        rw [h2] at h
        simp only [Option.some.injEq, Prod.mk.injEq] at h
        obtain ⟨rfl, rfl⟩ := h
        have := ih h2
        have := rdText_len h1
        simp; omega

end Go.Proofs.YthcmlbbbbcinkaaDoor.Pl

set_option linter.unusedVariables false
set_option linter.unusedSimpArgs false
namespace Go.Proofs.YthcmlbbbbcinkaaDoor.Pl
open Go

theorem val_be (q : Nat) : val (be q) = q := be_val q

theorem be_push (v : Nat) (d : UInt8) (h : 0 < 256 * v + d.toNat) : be (256 * v + d.toNat) = be v ++ [d] := by
  have hd := d.toNat_lt
  rw [be_pos h, show (256 * v + d.toNat) / 256 = v from by omega, show (256 * v + d.toNat) % 256 = d.toNat from by omega]
  simp

theorem be_of_digits (n : Nat) : ∀ ds : List UInt8, ds.length = n → ds.head? ≠ some 0 → be (val ds) = ds := by
  induction n with
  | zero => intro ds h _; have := List.eq_nil_of_length_eq_zero h; subst this; simp [val, be_zero]
  | succ n ih =>
    intro ds h hh
    rcases List.eq_nil_or_concat ds with rfl | ⟨L, d, rfl⟩
    · simp at h
    · have hL : L.length = n := by simpa using h
      cases L with
      | nil =>
        have hd : ¬ d.toNat = 0 := fun e => hh (by simp [UInt8.toNat_inj.1 (show d.toNat = (0 : UInt8).toNat from e)])
        have := be_push 0 d (by omega)
        rw [be_zero] at this
        simpa [val] using this
      | cons c L =>
        have h1 := ih (c :: L) hL (by simpa using hh)
        rw [List.concat_eq_append, val_snoc]
        have h2 : 0 < val (c :: L) := by
          rcases Nat.eq_zero_or_pos (val (c :: L)) with e | e
          · rw [e, be_zero] at h1; cases h1
          · exact e
        rw [be_push _ _ (by omega), h1]

theorem be_head (q : Nat) : (be q).head? ≠ some 0 := by
  induction q using Nat.strongRecOn with
  | _ q ih =>
    rcases Nat.eq_zero_or_pos q with h | h
    · subst h; simp [be_zero]
    · rw [be_pos h]
      rcases Nat.eq_zero_or_pos (q / 256) with h2 | h2
      · rw [h2, be_zero]
        simp only [List.nil_append, List.head?_cons, ne_eq, Option.some.injEq]
        intro e
        have := congrArg UInt8.toNat e
        simp at this
        omega
      · have := ih (q / 256) (by omega)
        rw [List.head?_append]
        cases hb : be (q / 256) with
        | nil => have := be_length_pos h2; rw [hb] at this; simp at this
        | cons c L => rw [hb] at this; simpa using this

theorem num_of_rd {l r : List UInt8} {n : Int} (h : rdNum l = some (n, r)) : num n ++ r = l := by
  cases l with
  | nil => simp [rdNum] at h
  | cons b l =>
    rw [rdNum] at h
    split at h
    · cases h
    · rename_i hc
      simp only [not_or, Nat.not_lt, not_and] at hc
      obtain ⟨c1, c2, c3, c4⟩ := hc
      simp only [Option.some.injEq, Prod.mk.injEq] at h
      obtain ⟨h1, rfl⟩ := h
      have hb := b.toNat_lt
      have hm : mag n = val (l.take (b.toNat % 128)) := by unfold mag; split at h1 <;> split <;> omega
      have hbe : be (mag n) = l.take (b.toNat % 128) := by
        rw [hm]
        refine be_of_digits _ _ rfl ?_
        rcases Nat.eq_zero_or_pos (b.toNat % 128) with e | e
        · rw [e]; simp
        · have := c3 e
          cases l with
          | nil => simp
          | cons c l =>
            obtain ⟨k, hk⟩ : ∃ k, b.toNat % 128 = k + 1 := ⟨b.toNat % 128 - 1, by omega⟩
            rw [hk, List.take_succ_cons]; simpa using this
      have hlen : (l.take (b.toNat % 128)).length = b.toNat % 128 := by simp; omega
      unfold num
      rw [hbe, hlen]
      have hb2 : UInt8.ofNat ((if n < 0 then 128 else 0) + b.toNat % 128) = b := by
        have : (if n < 0 then 128 else 0) + b.toNat % 128 = b.toNat := by split at h1 <;> split <;> omega
        rw [this]; simp
      rw [hb2, List.cons_append, List.take_append_drop]

theorem rd_of_num (n : Int) (more : List UInt8) (h0 : -9223372036854775808 ≤ n) (h1 : n ≤ 9223372036854775807) : rdNum (num n ++ more) = some (n, more) := by
  have hmag : mag n < 9223372036854775808 := by unfold mag; split <;> omega
  have hlen := be_length_le 8 (mag n) (by omega)
  unfold num
  rw [List.cons_append, rdNum]
  have hb : (UInt8.ofNat ((if n < 0 then 128 else 0) + (be (mag n)).length)).toNat = (if n < 0 then 128 else 0) + (be (mag n)).length := by
    rw [UInt8.toNat_ofNat']; split <;> omega
  have hk : (UInt8.ofNat ((if n < 0 then 128 else 0) + (be (mag n)).length)).toNat % 128 = (be (mag n)).length := by rw [hb]; split <;> omega
  rw [hk]
  have ht : (be (mag n) ++ more).take (be (mag n)).length = be (mag n) := by simp
  have hd : (be (mag n) ++ more).drop (be (mag n)).length = more := by simp
  rw [ht, hd, val_be, hb]
  rw [if_neg]
  · have : (if 128 ≤ (if n < 0 then 128 else 0) + (be (mag n)).length then -1 - (mag n : Int) else (mag n : Int)) = n := by
      unfold mag at hmag ⊢
      by_cases hn : n < 0
      · simp only [hn, if_true] at hmag ⊢; rw [if_pos (by omega)]; omega
      · have e : ¬ (128 ≤ (if n < 0 then 128 else 0) + (be (if n < 0 then (-1 - n).toNat else n.toNat)).length) := by
          rw [if_neg hn]; unfold mag at hlen; omega
        rw [if_neg e, if_neg hn]; omega
    rw [this]
  · simp only [not_or, Nat.not_lt, not_and, gt_iff_lt]
    refine ⟨by omega, by simp, ?_, by omega⟩
    intro hp
    have := be_head (mag n)
    cases hb : be (mag n) with
    | nil => rw [hb] at hp; simp at hp
    | cons c L => rw [hb] at this; simpa using this

theorem num_inj {a b : Int} (ha0 : -9223372036854775808 ≤ a) (ha1 : a ≤ 9223372036854775807) (hb0 : -9223372036854775808 ≤ b) (hb1 : b ≤ 9223372036854775807) {x y : List UInt8} (h : num a ++ x = num b ++ y) : a = b ∧ x = y := by
  have e1 := rd_of_num a x ha0 ha1
  rw [h, rd_of_num b y hb0 hb1] at e1
  simp only [Option.some.injEq, Prod.mk.injEq] at e1
  exact ⟨e1.1.symm, e1.2.symm⟩

theorem text_of_rd {l t r : List UInt8} {most : Int} (h : rdText l most = some (t, r)) : textB t ++ r = l := by
  unfold rdText at h
  cases hr : rdNum l with
  | none => rw [hr] at h; cases h
  | some p =>
    obtain ⟨n, q⟩ := p
    rw [hr] at h
    simp only at h
    split at h
    · rename_i hy
      simp only [Option.some.injEq, Prod.mk.injEq] at h
      obtain ⟨rfl, rfl⟩ := h
      have h1 := num_of_rd hr
      have hl : (q.take n.toNat).length = n.toNat := by simp; omega
      have e : ((q.take n.toNat).length : Int) = n := by rw [hl]; omega
      unfold textB
      rw [e, List.append_assoc, List.take_append_drop, h1]
    · cases h

theorem rd_of_text (t more : List UInt8) (most : Int) (hl : t.length ≤ 9223372036854775807) : rdText (textB t ++ more) most = if (t.length : Int) ≤ most then some (t, more) else none := by
  unfold textB rdText
  rw [List.append_assoc, rd_of_num _ _ (by omega) (by omega)]
  simp only
  by_cases h : (t.length : Int) ≤ most
  · rw [if_pos ⟨by omega, h, by simp; omega⟩, if_pos h]; simp
  · rw [if_neg (fun hh => h hh.2.1), if_neg h]

theorem texts_of_rd {n : Nat} : ∀ {l r : List UInt8} {ts : List (List UInt8)}, rdTexts n l = some (ts, r) → textsB ts ++ r = l := by
  induction n with
  | zero => intro l r ts h; simp [rdTexts] at h; obtain ⟨rfl, rfl⟩ := h; simp [textsB]
  | succ n ih =>
    intro l r ts h
    rw [rdTexts] at h
    cases h1 : rdText l l.length with
    | none => simp [h1] at h
    | some p =>
      obtain ⟨t, q⟩ := p
      rw [h1] at h
      simp only at h
      cases h2 : rdTexts n q with
      | none => simp [h2] at h
      | some p2 =>
        obtain ⟨ts2, r2⟩ := p2
        rw [h2] at h
        simp only [Option.some.injEq, Prod.mk.injEq] at h
        obtain ⟨rfl, rfl⟩ := h
        have e1 := text_of_rd h1
        have e2 := ih h2
        have : textsB (t :: ts2) = textB t ++ textsB ts2 := by simp [textsB]
        rw [this, List.append_assoc, e2, e1]

theorem rd_of_texts (ts : List (List UInt8)) (more : List UInt8) (hl : ∀ t ∈ ts, t.length ≤ 9223372036854775807) : rdTexts ts.length (textsB ts ++ more) = some (ts, more) := by
  induction ts with
  | nil => simp [rdTexts, textsB]
  | cons t ts ih =>
    have e : textsB (t :: ts) ++ more = textB t ++ (textsB ts ++ more) := by simp [textsB]
    rw [List.length_cons, rdTexts, e, rd_of_text _ _ _ (hl t (by simp)), if_pos]
    · simp only
      rw [ih (fun s hs => hl s (by simp [hs]))]
    · simp [textB]; omega

theorem row_of_rd {l r : List UInt8} {ts : List (List UInt8)} {most : Int} (h : rdRow l most = some (ts, r)) : srow ts ++ r = l := by
  unfold rdRow at h
  cases hr : rdNum l with
  | none => rw [hr] at h; cases h
  | some p =>
    obtain ⟨n, q⟩ := p
    rw [hr] at h
    simp only at h
    split at h
    · rename_i hy
      have h1 := num_of_rd hr
      have h2 := texts_of_rd h
      have h3 := (rdTexts_length h).1
      have e : (ts.length : Int) = n := by rw [h3]; omega
      unfold srow
      rw [e, List.append_assoc, h2, h1]
    · cases h

theorem rd_of_row (ts : List (List UInt8)) (more : List UInt8) (most : Int) (hn : ts.length ≤ 9223372036854775807) (hl : ∀ t ∈ ts, t.length ≤ 9223372036854775807) :
    rdRow (srow ts ++ more) most = if (ts.length : Int) ≤ most then some (ts, more) else none := by
  unfold srow rdRow
  rw [List.append_assoc, rd_of_num _ _ (by omega) (by omega)]
  simp only
  have := textsB_ge ts
  by_cases h : (ts.length : Int) ≤ most
  · rw [if_pos ⟨by omega, h, by simp; omega⟩, if_pos h, Int.toNat_natCast, rd_of_texts _ _ hl]
  · rw [if_neg (fun hh => h hh.2.1), if_neg h]

end Go.Proofs.YthcmlbbbbcinkaaDoor.Pl

set_option linter.unusedVariables false
set_option linter.unusedSimpArgs false
namespace Go.Proofs.YthcmlbbbbcinkaaDoor
open Go.RowKit

/-- The slice value '.slice A ls.length _' holds the texts ls; all of it lies below block B. -/
def Strs (w : World) (B : Nat) (A : Option Addr) (ls : List (List UInt8)) : Prop :=
  ∀ (i : Nat) (h : i < ls.length), ∃ a : Addr, A = some a ∧ a.block < B ∧ w.cell? (a.add i) = some (.string ⟨(ls[i]).toArray⟩)

theorem block_add (a : Addr) (n : Nat) : (a.add n).block = a.block := by unfold Addr.add; split <;> rfl

theorem Strs.below {w w' : World} {B B' : Nat} {A : Option Addr} {ls : List (List UInt8)} (h : Strs w B A ls) (hb : Below B' w w') (hB : B ≤ B') : Strs w' B A ls := fun i hi => by
  obtain ⟨a, e, hl, hc⟩ := h i hi
  exact ⟨a, e, hl, (hb.cell (p := a.add i) (by rw [block_add]; omega)).trans hc⟩

theorem Strs.more {w : World} {B B' : Nat} {A : Option Addr} {ls : List (List UInt8)} (h : Strs w B A ls) (hB : B ≤ B') : Strs w B' A ls := fun i hi => by
  obtain ⟨a, e, hl, hc⟩ := h i hi
  exact ⟨a, e, by omega, hc⟩

/-- The slice value '.slice A ns.length _' holds the numbers ns; all of it lies below block B. -/
def Ints (w : World) (B : Nat) (A : Option Addr) (ns : List Int) : Prop :=
  ∀ (i : Nat) (h : i < ns.length), ∃ a : Addr, A = some a ∧ a.block < B ∧ w.cell? (a.add i) = some (.int .i64 ns[i])
theorem Ints.below {w w' : World} {B B' : Nat} {A : Option Addr} {ns : List Int} (h : Ints w B A ns) (hb : Below B' w w') (hB : B ≤ B') : Ints w' B A ns := fun i hi => by
  obtain ⟨a, e, hl, hc⟩ := h i hi
  exact ⟨a, e, hl, (hb.cell (p := a.add i) (by rw [block_add]; omega)).trans hc⟩
theorem Ints.more {w : World} {B B' : Nat} {A : Option Addr} {ns : List Int} (h : Ints w B A ns) (hB : B ≤ B') : Ints w B' A ns := fun i hi => by
  obtain ⟨a, e, hl, hc⟩ := h i hi
  exact ⟨a, e, by omega, hc⟩

theorem grown_of_below {w w' : World} (h : Below w.heap.size w w') (row : Option Nat) : w.grownBy w' row := ⟨h.os, h.tape, h.output, h.size, fun i hi _ => h.block i hi⟩

theorem owns_below {w w' : World} {base e size n : Nat} {v : Value} {xs : List Value} (h : w.ownsRow base e size v n xs) (hb : Below w.heap.size w w') : w'.ownsRow base e size v n xs := by
  cases hv : v.ownBlock with
  | none => exact h.kept (grown_of_below hb none) (.inl hv)
  | some g => exact h.kept (grown_of_below hb none) (.inr (by rw [hv]; simp))

theorem BuilderAt.below {T e : TypeId} {B b : Nat} {p : Value} {bs : List Value} {w w' : World} (h : Lib.BuilderAt T e B b p bs w) (hb : Below w.heap.size w w') : Lib.BuilderAt T e B b p bs w' := by
  have hlt := h.lt
  obtain ⟨hB, v, hbk, hown, hne⟩ := h
  exact ⟨hB, v, (hb.block b hlt).trans hbk, owns_below hown hb, hne⟩

theorem IsBuilder.below {T e : TypeId} {B b : Nat} {bs : List Value} {w w' : World} (h : Lib.IsBuilder T e B b bs w) (hb : Below w.heap.size w w') : Lib.IsBuilder T e B b bs w' := by
  rcases h with h | h
  · exact .inl (BuilderAt.below h hb)
  · exact .inr (BuilderAt.below h hb)

/-- An owned row of strings reads as the list. -/
theorem strs_of_own {w : World} {base e : Nat} {A : Option Addr} {cap n : Nat} {ls : List (List UInt8)} (h : w.ownsRow base e 1 (.slice A n cap) n (ls.map fun s => .string ⟨s.toArray⟩)) (hn : n = ls.length) : Strs w w.heap.size A ls := by
  subst hn
  intro i hi
  rcases h.2 with ⟨hv, h0⟩ | ⟨g, cap', cur, hv, hg, hh, r⟩
  · omega
  · have hA : A = some ⟨g, 0, none⟩ := by injection hv
    refine ⟨⟨g, 0, none⟩, hA, (h.lt g (by rw [hv]; rfl)).2, ?_⟩
    exact h.cells (g := g) (by rw [hv]; rfl) i _ (by simp [hi])

end Go.Proofs.YthcmlbbbbcinkaaDoor

set_option linter.unusedVariables false
set_option linter.unusedSimpArgs false
namespace Go.Proofs.YthcmlbbbbcinkaaDoor
open Go.RowKit

/-- Of what was there, nothing but the blocks bs has turned. -/
structure Only (bs : List Nat) (w w' : World) : Prop where
  os : w'.os = w.os
  tape : w'.tape = w.tape
  output : w'.output = w.output
  size : w.heap.size ≤ w'.heap.size
  block : ∀ k, k < w.heap.size → k ∉ bs → w'.heap[k]? = w.heap[k]?

theorem Only.refl (bs : List Nat) (w : World) : Only bs w w := ⟨rfl, rfl, rfl, Nat.le_refl _, fun _ _ _ => rfl⟩
theorem Only.trans {bs : List Nat} {a b c : World} (h : Only bs a b) (k : Only bs b c) : Only bs a c :=
  ⟨k.os.trans h.os, k.tape.trans h.tape, k.output.trans h.output, Nat.le_trans h.size k.size, fun i hi hn => (k.block i (Nat.lt_of_lt_of_le hi h.size) hn).trans (h.block i hi hn)⟩
theorem Only.mono {bs cs : List Nat} {a b : World} (h : Only bs a b) (hs : ∀ k ∈ bs, k ∈ cs) : Only cs a b :=
  ⟨h.os, h.tape, h.output, h.size, fun i hi hn => h.block i hi (fun hb => hn (hs i hb))⟩
theorem Only.drew {bs : List Nat} {a b : World} (h : Only bs a b) : Only bs a b.drew := ⟨h.os, h.tape, h.output, h.size, h.block⟩
theorem Only.drewN {bs : List Nat} {a b : World} (h : Only bs a b) (n : Nat) : Only bs a (b.drewN n) := ⟨h.os, h.tape, h.output, h.size, h.block⟩
theorem Only.of_below {bs : List Nat} {a b : World} (h : Below a.heap.size a b) : Only bs a b := ⟨h.os, h.tape, h.output, h.size, fun i hi _ => h.block i hi⟩
theorem Only.below {bs : List Nat} {a b : World} {B : Nat} (h : Only bs a b) (hB : B ≤ a.heap.size) (hb : ∀ k ∈ bs, B ≤ k) : Below B a b :=
  ⟨h.os, h.tape, h.output, h.size, fun k hk => h.block k (by omega) (fun hm => by have := hb k hm; omega)⟩
theorem Only.setCell {bs : List Nat} {a b : World} (h : Only bs a b) {p : Addr} (hp : p.block ∈ bs) (u : Value) : Only bs a (b.setCell p u) :=
  h.trans ⟨rfl, rfl, rfl, by simp [World.setCell], fun k _ hn => Below.heap_setCell _ _ _ _ (fun e => hn (by rw [e]; exact hp))⟩
theorem Only.alloc {bs : List Nat} {a b : World} (h : Only bs a b) (o : Obj) : Only bs a (b.alloc o) :=
  h.trans ⟨rfl, rfl, rfl, by simp, fun k hk _ => Below.heap_alloc _ _ _ hk⟩
theorem Only.keep {bs : List Nat} {a b : World} (h : Only bs a b) {g : Nat} {o : Obj} (hg : a.heap[g]? = some o) (hn : g ∉ bs) : b.heap[g]? = some o := by
  have hlt : g < a.heap.size := by
    rcases Nat.lt_or_ge g a.heap.size with h' | h'
    · exact h'
    · rw [Array.getElem?_eq_none h'] at hg; cases hg
  exact (h.block g hlt hn).trans hg
theorem below_keep {a b : World} (h : Below a.heap.size a b) {g : Nat} {o : Obj} (hg : a.heap[g]? = some o) : b.heap[g]? = some o := Only.keep (bs := []) (Only.of_below h) hg (by simp)
theorem heap_lt {a : World} {g : Nat} {o : Obj} (hg : a.heap[g]? = some o) : g < a.heap.size := by
  rcases Nat.lt_or_ge g a.heap.size with h' | h'
  · exact h'
  · rw [Array.getElem?_eq_none h'] at hg; cases hg

theorem Only.cell {bs : List Nat} {w w' : World} (h : Only bs w w') {p : Addr} (hp : p.block < w.heap.size) (hn : p.block ∉ bs) : w'.cell? p = w.cell? p := by
  unfold World.cell?; rw [h.block p.block hp hn]
theorem Only.setRow {bs : List Nat} {a b : World} (h : Only bs a b) {g : Nat} (hp : g ∈ bs) (cs : Array Value) : Only bs a (b.setRow g cs) :=
  h.trans ⟨rfl, rfl, rfl, by simp [World.setRow], fun k _ hn => setRow_other _ _ _ _ (fun e => hn (by rw [e]; exact hp))⟩
end Go.Proofs.YthcmlbbbbcinkaaDoor

set_option linter.unusedVariables false
set_option linter.unusedSimpArgs false
namespace Go.Proofs.YthcmlbbbbcinkaaDoor.Lb
open Go Go.RowKit

section
variable {P : Program}

/-- strings are lists of bytes -/
theorem ba_get (l : List UInt8) (i : Nat) (h : i < (⟨l.toArray⟩ : ByteArray).size) : (⟨l.toArray⟩ : ByteArray)[i]'h = l[i]'h := rfl
theorem ba_cut (l : List UInt8) (a b : Nat) : (ByteArray.mk l.toArray).extract a b = ByteArray.mk ((l.drop a).take (b - a)).toArray := ByteArray.extract_mk l a b
theorem ba_add (x y : List UInt8) : (ByteArray.mk x.toArray ++ ByteArray.mk y.toArray) = ByteArray.mk (x ++ y).toArray := ByteArray.mk_append_mk x y
theorem take_rest (l : List UInt8) (i : Nat) : (l.drop i).take (l.length - i) = l.drop i := List.take_of_length_le (by simp)
theorem ba_size (l : List UInt8) : (ByteArray.mk l.toArray).size = l.length := rfl

/-- 'arr[j:]' of an array variable of one-cell elements. -/
theorem run_arr_from {t e : TypeId} {n : Nat} {z : Value} (a : Addr) (ht : P.underlying t = some (.array n e)) (hi : (P.info? e).map (fun i => (i.zero, i.size)) = some (some z, 1)) (j : Nat) (hj : j ≤ n) (W : World) :
    (Instr.sliceAt t (.pointer (some a)) (some (.int .i64 (j : Int))) none none).run P W = .ok (.slice (some (if n = j then a else a.add j)) (n - j) (n - j)) W := by
  have h1 : P.arrayLen t = n := by unfold Program.arrayLen; rw [ht]
  have h2 : P.elem t = e := by unfold Program.elem; rw [ht]
  obtain ⟨i0, hi0, hp⟩ := Option.map_eq_some_iff.1 hi
  simp only [Prod.mk.injEq] at hp
  rw [run_sliceAt_array_l W t a (by rw [h1, h2]; exact ht) .i64 (j : Int) (by omega) (by rw [h1]; omega)]
  simp [sizeOf, typeInfo, h2, hi0, hp.2, slicedAt, h1, Result.andThen]

/-- 'string(b)' of a slice that lies in the block of one array. -/
theorem run_str_tail {src dst e t : TypeId} {fr : Nat × Nat} (hs : P.underlying src = some (.slice e)) (he : P.underlying e = some (.int .u8)) (hd : P.underlying dst = some .string)
    {b n : Nat} (j : Nat) {C : Array Value} {ds : List UInt8} (hds : C.toList.drop j = Lib.byteCells ds) (hl : ds.length = n - j) (hj : j ≤ n) (W : World) (hW : W.heap[b]? = some (.cells C t fr)) (cap : Nat) :
    (convert src dst (.slice (some (if n = j then ⟨b, 0, none⟩ else ⟨b, j, none⟩)) (n - j) cap)).run P W = .ok (.string ⟨ds.toArray⟩) W := by
  rw [← hl]
  apply run_convert_bytes_back W src dst e _ cap ds hs he hd
  intro k hk
  have hne : n ≠ j := by omega
  rw [if_neg hne]
  have ha : (⟨b, j, none⟩ : Addr).add k = ⟨b, j + k, none⟩ := by
    unfold Addr.add
    by_cases h2 : k = 0 <;> simp [h2]
  rw [ha, Lib.cell_of_heap hW]
  have h := congrArg (fun l => l[k]?) hds
  simp only [List.getElem?_drop, Lib.byteCells, List.getElem?_map, List.getElem?_eq_getElem hk, Option.map_some] at h
  rw [← h]
  simp

/-- both: 'string(arr[j:])', the cut's address a letter. -/
theorem arr_tail {src dst e t : TypeId} {z : Value} (hs : P.underlying src = some (.slice e)) (he : P.underlying e = some (.int .u8)) (hd : P.underlying dst = some .string)
    {b n : Nat} (j : Nat) {C : Array Value} {ds : List UInt8} (hds : C.toList.drop j = Lib.byteCells ds) (hl : ds.length = n - j) (hj : j ≤ n)
    (ht : P.underlying t = some (.array n e)) (hi : (P.info? e).map (fun i => (i.zero, i.size)) = some (some z, 1)) :
    ∃ A : Addr, (∀ W : World, (Instr.sliceAt t (.pointer (some ⟨b, 0, none⟩)) (some (.int .i64 (j : Int))) none none).run P W = .ok (.slice (some A) (n - j) (n - j)) W) ∧
      ∀ (W : World) (fr : Nat × Nat), W.heap[b]? = some (.cells C t fr) → (convert src dst (.slice (some A) (n - j) (n - j))).run P W = .ok (.string ⟨ds.toArray⟩) W := by
  refine ⟨_, fun W => ?_, fun W fr hW => run_str_tail hs he hd j hds hl hj W hW _⟩
  rw [run_arr_from ⟨b, 0, none⟩ ht hi j hj W]
  by_cases h : n = j
  · simp [h]
  · simp [h, Addr.add]
    omega

/-- 'string([]byte{x})' -/
theorem run_str_one {src dst e t : TypeId} {fr : Nat × Nat} (hs : P.underlying src = some (.slice e)) (he : P.underlying e = some (.int .u8)) (hd : P.underlying dst = some .string)
    {b : Nat} {x : Int} (h0 : 0 ≤ x) (h1 : x < 256) (W : World) (hW : W.heap[b]? = some (.cells #[.int .u8 x] t fr)) (cap : Nat) :
    (convert src dst (.slice (some ⟨b, 0, none⟩) 1 cap)).run P W = .ok (.string ⟨#[UInt8.ofNat x.toNat]⟩) W := by
  have := run_convert_bytes_back W src dst e ⟨b, 0, none⟩ cap [UInt8.ofNat x.toNat] hs he hd (fun j hj => by
    have : j = 0 := by simpa using hj
    subst this
    have e1 : ((⟨b, 0, none⟩ : Addr).add 0) = ⟨b, 0, none⟩ := by simp [Addr.add]
    rw [e1, Lib.cell_of_heap hW]
    have e2 : ((x.toNat % 256 : Nat) : Int) = x := by omega
    simp [UInt8.toNat_ofNat, e2])
  simpa using this
/-- '[]byte(s)': a new row that holds the bytes. -/
theorem str_bytes {src dst e : TypeId} (hs : P.underlying src = some .string) (hd : P.underlying dst = some (.slice e)) (he : P.underlying e = some (.int .u8)) (l : List UInt8) (w : World) :
    ∃ (W1 : World) (cap : Nat), (convert src dst (.string ⟨l.toArray⟩)).run P w = .ok (.slice (some ⟨w.heap.size, 0, none⟩) l.length cap) W1 ∧ Below w.heap.size w W1 ∧ w.heap.size < W1.heap.size ∧
      ∀ i (h : i < l.length), W1.cell? ⟨w.heap.size, i, none⟩ = some (.int .u8 ((l[i].toNat : Nat) : Int)) := by
  refine ⟨_, _, run_bytes_of_string w src dst e ⟨l.toArray⟩ hs hd he, ((Below.refl _ _).drew).alloc (Nat.le_refl _) _, by simp, fun i h => ?_⟩
  rw [show w.heap.size = w.drew.heap.size from rfl, World.cell?_alloc_mark, bytesRow_at _ _ _ (by simpa using h)]
  simp
end
end Go.Proofs.YthcmlbbbbcinkaaDoor.Lb

set_option linter.unusedVariables false
set_option linter.unusedSimpArgs false
namespace Go.Proofs.YthcmlbbbbcinkaaDoor
open Go.RowKit
attribute [local go_sem] Lb.ba_get Lb.ba_cut Lb.ba_add Lb.ba_size Lb.take_rest

/-- shifts and turns of words -/
def shl32 (x : Int) (k : Nat) : Int := x * 2 ^ k % 4294967296
def shr32 (x : Int) (k : Nat) : Int := x / 2 ^ k
def rotr (x : Int) (n : Nat) : Int := bits .or .u32 (shl32 x (32 - n)) (shr32 x n)
def turnedS (x : Int) (ns : List Nat) : Int := ns.foldl (fun o n => bits .xor .u32 o (rotr x n)) 0

theorem neg_and31 (n : Nat) (h1 : 0 < n) (h2 : n < 32) : bits .and .u64 (IntKind.u64.wrap (-(n : Int))) 31 = ((32 - n : Nat) : Int) := by
  have e : IntKind.u64.wrap (-(n : Int)) = ((18446744073709551616 - n : Nat) : Int) := by
    simp only [IntKind.wrap_u64]; omega
  rw [e]
  have := u64_and_nat (18446744073709551616 - n) 31 (by omega) (by omega)
  rw [show ((31 : Nat) : Int) = 31 from rfl] at this
  rw [this]
  congr 1
  have h := Nat.and_two_pow_sub_one_eq_mod (18446744073709551616 - n) 5
  have e5 : (2 : Nat) ^ 5 - 1 = 31 := by decide
  rw [e5] at h
  rw [h]
  omega

set_option maxHeartbeats 1000000 in
theorem rot_any (x : Int) (n : Nat) (w : World) (h1 : 0 < n) (h2 : n < 32) :
    Calls Tryd.prog 88 #[.int .u32 x, .int .i64 (-(n : Int))] w fun e w' => e = .returned (.int .u32 (rotr x n)) ∧ w = w' := by
  have hb := neg_and31 n h1 h2
  obtain ⟨k, hk⟩ : ∃ k, k = 32 - n := ⟨_, rfl⟩
  rw [← hk] at hb
  have hs : IntKind.u64.wrap (32 - (k : Int)) = (n : Int) := by simp only [IntKind.wrap_u64]; omega
  have hs' : (32 : Int) - (k : Int) = (n : Int) := by omega
  have hr : rotr x n = bits .or .u32 (shl32 x k) (shr32 x n) := by rw [hk]; rfl
  have Hr := Lib.hid hr
  clear hr hk
  go_enter Tryd.func88, Tryd.ntmps88
  go_wp2
  go_ret
  exact ⟨by rw [Hr.out]; rfl, rfl⟩

set_option maxHeartbeats 1000000 in
theorem turned_any (x : Int) (A : Option Addr) (cap : Nat) (ns : List Nat) (w : World) (hA : Ints w w.heap.size A (ns.map fun (n : Nat) => (n : Int))) (hn : ∀ n ∈ ns, 0 < n ∧ n < 32) (hl : ns.length ≤ 100) :
    Calls Tryd.prog 83 #[.int .u32 x, .slice A ns.length cap] w fun e w' => e = .returned (.int .u32 (turnedS x ns)) ∧ w = w' := by
  have HA := Lib.hid hA
  have HN := Lib.hid hn
  obtain ⟨m, hm⟩ : ∃ m, m = ns.length := ⟨_, rfl⟩
  rw [← hm] at hl ⊢
  have Hm := Lib.hid hm
  clear hA hn hm
  go_enter Tryd.func83, Tryd.ntmps83
  go_wp2_with fail
  go_loopw [4, 9] (fun o p wr => ∃ k : Nat, k ≤ m ∧ p = .int .i64 k ∧ o = .int .u32 (turnedS x (ns.take k)) ∧ w = wr) (fun _ p _ => m - (intOf p).toNat)
  case atStart => exact ⟨0, by omega, rfl, rfl, rfl⟩
  case round =>
    obtain ⟨k, hk, rfl, rfl, rfl⟩ := hrel
    by_cases hkm : k < m
    · have hk' : k < ns.length := by rw [← Hm.out]; exact hkm
      obtain ⟨a, rfl, _, hc⟩ := HA.out k (by simpa using hk')
      obtain ⟨n, hn⟩ : ∃ n, n = ns[k] := ⟨_, rfl⟩
      simp only [List.getElem_map] at hc
      rw [← hn] at hc
      obtain ⟨n1, n2⟩ := HN.out n (by rw [hn]; exact List.getElem_mem hk')
      have hsucc : turnedS x (ns.take (k + 1)) = bits .xor .u32 (turnedS x (ns.take k)) (rotr x n) := by
        unfold turnedS
        rw [List.take_succ_eq_append_getElem hk', List.foldl_append, ← hn]; rfl
      have Hs := Lib.hid hsucc
      have k0 : (0 : Int) ≤ (k : Int) := by omega
      have k1 : (k : Int) < (m : Int) := by omega
      clear hsucc hn hk'
      obtain ⟨o, ho⟩ : ∃ o, o = turnedS x (ns.take k) := ⟨_, rfl⟩
      rw [← ho] at Hs
      rw [← ho]
      clear ho
      go_wp2_with fail
      refine (rot_any x n _ n1 n2).mono ?_
      rintro e w1 ⟨rfl, rfl⟩
      go_wp2
      go_roundw
      case rel => exact ⟨k + 1, by omega, by go_num, by rw [Hs.out], by first | rfl | trivial⟩
      case measure => simp [intOf]; omega
    · have hkm' : k = m := by omega
      subst hkm'
      have he : turnedS x (ns.take k) = turnedS x ns := by rw [Hm.out, List.take_length]
      have He := Lib.hid he
      clear he
      go_wp2
      go_ret
      exact ⟨by first | rfl | (rw [He.out]; rfl), rfl⟩
end Go.Proofs.YthcmlbbbbcinkaaDoor

set_option linter.unusedVariables false
set_option linter.unusedSimpArgs false
namespace Go.Proofs.YthcmlbbbbcinkaaDoor
open Go.RowKit
attribute [local go_sem] Lb.ba_get Lb.ba_cut Lb.ba_add Lb.ba_size Lb.take_rest

theorem store_rowP {P : Program} {w : World} {g : Nat} {old cs : Array Value} {T : TypeId} (hg : w.heap[g]? = some (.cells old T (0, 0))) (hs : old.size = cs.size) (h1 : cs.all (·.oneCell') = true) :
    (storeCells ⟨g, 0, none⟩ cs.toList 0).run P w = .ok () (w.setRow g cs) := by
  have := run_storeCells_from (P := P) g T cs.toList 0 old w hg (by simp; omega) (fun v hv => (Array.all_eq_true_iff_forall_mem.1 h1) v (by simpa using hv))
  simpa using this
def wordOf (bs : List UInt8) : Int := bs.foldl (fun (o : Int) (b : UInt8) => bits .or .u32 (o * 256 % 4294967296) (b.toNat : Int)) 0
def rowW (W : List Int) : Array Value := (W.map fun x => Value.int .u32 x).toArray
/-- the first t words come of the block -/
def firstW (bl : List UInt8) (t : Nat) : List Int := (List.range t).map (fun i => wordOf ((bl.drop (4 * i)).take 4)) ++ List.replicate (64 - t) 0
def WAt (w : World) (q : Nat) (W : List Int) : Prop := w.heap[q]? = some (.cells (rowW W) 139 (0, 0))

theorem rowW_get {W : List Int} {k : Nat} {x : Int} (h : W[k]? = some x) : (rowW W)[k]? = some (.int .u32 x) := by simp [rowW, h]
theorem rowW_set (W : List Int) (k : Nat) (x : Int) : (rowW W).setIfInBounds k (.int .u32 x) = rowW (W.set k x) := by simp [rowW, List.map_set]
theorem WAt.cell {w : World} {q : Nat} {W : List Int} (h : WAt w q W) (k : Nat) {x : Int} (hk : W[k]? = some x) : w.cell? ⟨q, k, none⟩ = some (.int .u32 x) := by
  rw [Lib.cell_of_heap h]; exact rowW_get hk
theorem WAt.set {w : World} {q : Nat} {W : List Int} (h : WAt w q W) (k : Nat) (x : Int) : WAt (w.setCell ⟨q, k, none⟩ (.int .u32 x)) q (W.set k x) := by
  have := heap_setCell_same _ q k _ _ (.int .u32 x) h
  rw [rowW_set] at this
  exact this
theorem firstW_length (bl : List UInt8) (t : Nat) (h : t ≤ 64) : (firstW bl t).length = 64 := by simp [firstW]; omega
theorem firstW_at (bl : List UInt8) (t : Nat) (h : t < 64) : (firstW bl t)[t]? = some 0 := by
  unfold firstW
  rw [List.getElem?_append_right (by simp), List.getElem?_replicate]
  simp only [List.length_map, List.length_range, Nat.sub_self]
  rw [if_pos (by omega)]
theorem firstW_succ (bl : List UInt8) (t : Nat) (h : t < 64) : (firstW bl t).set t (wordOf ((bl.drop (4 * t)).take 4)) = firstW bl (t + 1) := by
  unfold firstW
  rw [List.set_append_right _ _ (by simp)]
  have e : 64 - t = (64 - (t + 1)) + 1 := by omega
  rw [e, List.replicate_succ, List.range_succ, List.map_append]
  simp
theorem wordOf_succ (bs : List UInt8) (k : Nat) (h : k < bs.length) : wordOf (bs.take (k + 1)) = bits .or .u32 (wordOf (bs.take k) * 256 % 4294967296) (bs[k].toNat : Int) := by
  unfold wordOf
  rw [List.take_succ_eq_append_getElem h, List.foldl_append]; rfl

theorem List.set_getElem_self'' {α : Type} {l : List α} {k : Nat} {x : α} (h : l[k]? = some x) : l.set k x = l := by
  obtain ⟨hl, rfl⟩ := List.getElem?_eq_some_iff.1 h
  exact List.set_getElem_self hl
/-- a word of a later round -/
def nextX (x2 x7 x15 x16 : Int) : Int :=
  (((bits .xor .u32 (turnedS x2 [17, 19]) (x2 / 1024) + x7) % 4294967296 + bits .xor .u32 (turnedS x15 [7, 18]) (x15 / 8)) % 4294967296 + x16) % 4294967296
def nextW (W : List Int) (t : Nat) : Int := nextX (W.getD (t - 2) 0) (W.getD (t - 7) 0) (W.getD (t - 15) 0) (W.getD (t - 16) 0)
def schedW (bl : List UInt8) : Nat → List Int
  | 0 => firstW bl 16
  | k + 1 => (schedW bl k).set (16 + k) (nextW (schedW bl k) (16 + k))
theorem schedW_length (bl : List UInt8) : ∀ k, (schedW bl k).length = 64
  | 0 => firstW_length bl 16 (by omega)
  | k + 1 => by unfold schedW; rw [List.length_set]; exact schedW_length bl k

theorem ints_two (W : World) (g : Nat) (a b : Nat) (h : W.heap[g]? = some (.cells #[.int .i64 (a : Int), .int .i64 (b : Int)] 3 (0, 0))) : Ints W W.heap.size (some ⟨g, 0, none⟩) ([a, b].map fun (n : Nat) => (n : Int)) := by
  intro i hi
  have hi2 : i = 0 ∨ i = 1 := by simp at hi; omega
  refine ⟨_, rfl, heap_lt h, ?_⟩
  rcases hi2 with rfl | rfl
  · have := Lib.cell_of_heap h (j := 0)
    exact this
  · have := Lib.cell_of_heap h (j := 1)
    exact this

theorem turn_a (x : Int) (W : World) (g : Nat) (h : W.heap[g]? = some (.cells #[.int .i64 17, .int .i64 19] 3 (0, 0))) :
    Calls Tryd.prog 83 #[.int .u32 x, .slice (some ⟨g, 0, none⟩) 2 2] W fun e w' => e = .returned (.int .u32 (turnedS x [17, 19])) ∧ W = w' :=
  turned_any x (some ⟨g, 0, none⟩) 2 [17, 19] W (ints_two W g 17 19 h) (by decide) (by decide)
theorem turn_b (x : Int) (W : World) (g : Nat) (h : W.heap[g]? = some (.cells #[.int .i64 7, .int .i64 18] 3 (0, 0))) :
    Calls Tryd.prog 83 #[.int .u32 x, .slice (some ⟨g, 0, none⟩) 2 2] W fun e w' => e = .returned (.int .u32 (turnedS x [7, 18])) ∧ W = w' :=
  turned_any x (some ⟨g, 0, none⟩) 2 [7, 18] W (ints_two W g 7 18 h) (by decide) (by decide)

set_option maxRecDepth 100000 in
set_option maxHeartbeats 4000000 in
theorem schedule_any (bl : List UInt8) (w : World) (hbl : bl.length = 64) :
    Calls Tryd.prog 82 #[.string ⟨bl.toArray⟩] w fun e w' => e = .returned (.agg (rowW (schedW bl 48))) ∧ Below w.heap.size w w' := by
  have Hbl := Lib.hid hbl
  have hbl64 : (bl.length : Int) = 64 := by omega
  clear hbl
  go_enter Tryd.func82, Tryd.ntmps82
  go_upto_block 0 with fail
  show Code.wp _ _ _ _ (w.alloc (.cells (rowW (List.replicate 64 0)) 139))
  obtain ⟨q, hq⟩ : ∃ q, q = w.heap.size := ⟨_, rfl⟩
  have h0 : WAt (w.alloc (.cells (rowW (List.replicate 64 0)) 139)) q (firstW bl 0) := by
    rw [hq]; exact heap_alloc_new w _
  have b0 : Below w.heap.size w (w.alloc (.cells (rowW (List.replicate 64 0)) 139)) := (Below.refl _ w).alloc (Nat.le_refl _) _
  obtain ⟨w1, hw1⟩ : ∃ w1, w1 = w.alloc (.cells (rowW (List.replicate 64 0)) 139) := ⟨_, rfl⟩
  rw [← hw1] at h0 b0 ⊢
  rw [← hq]
  have Hq := Lib.hid hq
  have H0 := Lib.hid h0
  clear hw1 hq h0
  go_wp2_with fail
  go_loopw [7] (fun p wr => ∃ t : Nat, t ≤ 16 ∧ p = .int .i64 t ∧ WAt wr q (firstW bl t) ∧ Below w.heap.size w wr) (fun p _ => 16 - (intOf p).toNat)
  case atStart => exact ⟨0, by omega, rfl, H0.out, b0⟩
  case round =>
    clear H0 b0
    obtain ⟨t, ht, rfl, hW, hB⟩ := hrel
    by_cases ht16 : t < 16
    · have t0 : (0 : Int) ≤ (t : Int) := by omega
      have t1 : (t : Int) < 16 := by omega
      have hcut4 : ((bl.drop (4 * t)).take 4).length = 4 := by simp; have := Hbl.out; omega
      obtain ⟨W1, cap, hcv, hB1, hsz, hcell⟩ := Lb.str_bytes (P := Tryd.prog) (src := 9) (dst := 45) (e := 5) Tryd.underlying9 Tryd.underlying45 Tryd.underlying5 ((bl.drop (4 * t)).take 4) wr
      rw [hcut4] at hcv
      have HW := Lib.hid hW
      have HB := Lib.hid hB
      have Hcell := Lib.hid hcell
      have Hcut4 := Lib.hid hcut4
      have HB1 := Lib.hid hB1
      clear hW hB hcell hcut4 hB1
      have hqs : q < wr.heap.size := heap_lt HW.out
      have h1 : WAt W1 q (firstW bl t) := below_keep HB1.out HW.out
      have H1 := Lib.hid h1
      obtain ⟨bs, hbs⟩ : ∃ bs, bs = (bl.drop (4 * t)).take 4 := ⟨_, rfl⟩
      rw [← hbs] at Hcell Hcut4
      have Hbs := Lib.hid hbs
      obtain ⟨g, hg⟩ : ∃ g, g = wr.heap.size := ⟨_, rfl⟩
      rw [← hg] at Hcell hcv hsz hqs
      have b1 : Below w.heap.size w W1 := HB.out.trans (HB1.out.mono HB.out.size)
      have B1 := Lib.hid b1
      go_wp2_with fail
      clear hcv h1 hbs b1
      rw [← hg]
      clear hg
      go_loopw [19] (fun p wi => ∃ j : Nat, j ≤ 4 ∧ p = .int .i64 j ∧ WAt wi q ((firstW bl t).set t (wordOf (bs.take j))) ∧ Only [q] W1 wi) (fun p _ => 4 - (intOf p).toNat)
      case atStart => exact ⟨0, by omega, rfl, by rw [show wordOf (bs.take 0) = 0 from rfl, List.set_getElem_self'' (firstW_at bl t (by omega))]; exact H1.out, Only.refl _ _⟩
      case round =>
        obtain ⟨j, hj, rfl, hW, ho⟩ := hrel
        have hlen := firstW_length bl t (by omega)
        by_cases hj4 : j < 4
        · obtain ⟨c, hc⟩ : ∃ c, c = bs[j]'(by rw [Hcut4.out]; exact hj4) := ⟨_, rfl⟩
          have a1 : wr.cell? ⟨g, j, none⟩ = some (.int .u8 ((c.toNat : Nat) : Int)) := by
            rw [hc, ← Hcell.out j (by rw [Hcut4.out]; exact hj4)]
            exact ho.cell (p := ⟨g, j, none⟩) hsz (by simp; omega)
          obtain ⟨o, ho'⟩ : ∃ o, o = wordOf (bs.take j) := ⟨_, rfl⟩
          have a2 : wr.cell? ⟨q, t, none⟩ = some (.int .u32 o) := by
            rw [ho']; exact hW.cell t (by rw [List.getElem?_set_self (by omega)])
          have z2 : wr.frozen? ⟨q, t, none⟩ = false := Lib.frozen_of_heap hW _
          have hsucc := wordOf_succ bs j (by rw [Hcut4.out]; exact hj4)
          rw [← hc, ← ho'] at hsucc
          have hWn := hW.set t (bits .or .u32 (o * 256 % 4294967296) (c.toNat : Int))
          rw [List.set_set] at hWn
          have HWn := Lib.hid hWn
          have Hs := Lib.hid hsucc
          have Ho := Lib.hid ho
          have hc256 : (c.toNat : Int) < 256 := by have := c.toNat_lt; omega
          have j0 : (0 : Int) ≤ (j : Int) := by omega
          have j1 : (j : Int) < 4 := by omega
          clear hWn hsucc hc ho' hW ho hlen
          go_wp2_with fail
          go_roundw
          case rel => exact ⟨j + 1, by omega, by go_num, by rw [Hs.out]; exact HWn.out, Ho.out.setCell (by simp) _⟩
          case measure => simp [intOf]; omega
        · have hj4' : j = 4 := by omega
          subst hj4'
          have hWn : WAt wr q (firstW bl (t + 1)) := by
            rw [← firstW_succ bl t (by omega), ← Hbs.out]
            rw [List.take_of_length_le (by rw [Hcut4.out]; exact Nat.le_refl _)] at hW
            exact hW
          have HWn := Lib.hid hWn
          have hB2 : Below w.heap.size w wr := B1.out.trans (ho.below B1.out.size (by intro x hx; simp at hx; rw [hx, Hq.out]; exact Nat.le_refl _))
          have HB2 := Lib.hid hB2
          clear hW hWn ho hB2 hlen
          go_wp2_with fail
          go_roundw
          case rel => exact ⟨t + 1, by omega, by go_num, HWn.out, HB2.out⟩
          case measure => simp [intOf]; omega
    · have ht' : t = 16 := by omega
      subst ht'
      rw [show ((16 : Nat) : Int) = 16 from rfl]
      have HW := Lib.hid hW
      have HB := Lib.hid hB
      clear hW hB ht
      go_wp2_with fail
      go_loopw [6] (fun p wr => ∃ k : Nat, k ≤ 48 ∧ p = .int .i64 (16 + k : Nat) ∧ WAt wr q (schedW bl k) ∧ Below w.heap.size w wr) (fun p _ => 64 - (intOf p).toNat)
      case atStart => exact ⟨0, by omega, rfl, HW.out, HB.out⟩
      case round =>
        clear HW HB
        obtain ⟨k, hk, rfl, hW, hB⟩ := hrel
        by_cases hk48 : k < 48
        · have hlen := schedW_length bl k
          obtain ⟨W, hWd⟩ : ∃ W, W = schedW bl k := ⟨_, rfl⟩
          rw [← hWd] at hlen hW
          have g2 : ∃ x2, W[16 + k - 2]? = some x2 := ⟨_, List.getElem?_eq_getElem (by omega)⟩
          have g7 : ∃ x7, W[16 + k - 7]? = some x7 := ⟨_, List.getElem?_eq_getElem (by omega)⟩
          have g15 : ∃ x15, W[16 + k - 15]? = some x15 := ⟨_, List.getElem?_eq_getElem (by omega)⟩
          have g16 : ∃ x16, W[16 + k - 16]? = some x16 := ⟨_, List.getElem?_eq_getElem (by omega)⟩
          obtain ⟨x2, g2⟩ := g2
          obtain ⟨x7, g7⟩ := g7
          obtain ⟨x15, g15⟩ := g15
          obtain ⟨x16, g16⟩ := g16
          have a2 := hW.cell _ g2
          have a7 := hW.cell _ g7
          have a15 := hW.cell _ g15
          have a16 := hW.cell _ g16
          have gt : ∃ xt, W[16 + k]? = some xt := ⟨_, List.getElem?_eq_getElem (by omega)⟩
          obtain ⟨xt, gt⟩ := gt
          have at_ := hW.cell (16 + k) gt
          have zt : wr.frozen? ⟨q, 16 + k, none⟩ = false := Lib.frozen_of_heap hW _
          obtain ⟨t, htk⟩ : ∃ t, t = 16 + k := ⟨_, rfl⟩
          rw [← htk] at a2 a7 a15 a16 at_ zt ⊢
          have t0 : (16 : Int) ≤ (t : Int) := by omega
          have t1 : (t : Int) < 64 := by omega
          obtain ⟨j2, e2⟩ : ∃ j2, j2 = t - 2 := ⟨_, rfl⟩
          rw [← e2] at a2
          have i2 : (t : Int) - 2 = (j2 : Int) := by omega
          have n2 : (0 : Int) ≤ (j2 : Int) := by omega
          have m2 : (j2 : Int) < 64 := by omega
          obtain ⟨j7, e7⟩ : ∃ j7, j7 = t - 7 := ⟨_, rfl⟩
          rw [← e7] at a7
          have i7 : (t : Int) - 7 = (j7 : Int) := by omega
          have n7 : (0 : Int) ≤ (j7 : Int) := by omega
          have m7 : (j7 : Int) < 64 := by omega
          obtain ⟨j15, e15⟩ : ∃ j15, j15 = t - 15 := ⟨_, rfl⟩
          rw [← e15] at a15
          have i15 : (t : Int) - 15 = (j15 : Int) := by omega
          have n15 : (0 : Int) ≤ (j15 : Int) := by omega
          have m15 : (j15 : Int) < 64 := by omega
          obtain ⟨j16, e16⟩ : ∃ j16, j16 = t - 16 := ⟨_, rfl⟩
          rw [← e16] at a16
          have i16 : (t : Int) - 16 = (j16 : Int) := by omega
          have n16 : (0 : Int) ≤ (j16 : Int) := by omega
          have m16 : (j16 : Int) < 64 := by omega
          have r2 : IntKind.i64.wrap (j2 : Int) = (j2 : Int) := IntWalk.i64_in _ (by omega)
          have r7 : IntKind.i64.wrap (j7 : Int) = (j7 : Int) := IntWalk.i64_in _ (by omega)
          have r15 : IntKind.i64.wrap (j15 : Int) = (j15 : Int) := IntWalk.i64_in _ (by omega)
          have r16 : IntKind.i64.wrap (j16 : Int) = (j16 : Int) := IntWalk.i64_in _ (by omega)
          have qt : ∀ o o', ((wr.alloc o).alloc o').cell? ⟨q, t, none⟩ = some (.int .u32 xt) := fun o o' => by rw [← at_]; exact (((Only.refl [] wr).alloc o).alloc o').cell (p := ⟨q, t, none⟩) (heap_lt hW) (by simp)
          have s2 : ∀ o o' v, (((wr.alloc o).alloc o').setCell ⟨q, t, none⟩ v).cell? ⟨q, j2, none⟩ = some (.int .u32 x2) := fun o o' v => by
            have h' := ((((Only.refl [] wr).alloc o).alloc o').keep hW (by simp))
            rw [Lib.cell_of_heap (heap_setCell_same _ q t _ _ v h'), Array.getElem?_setIfInBounds_ne (by omega)]
            rw [← a2, Lib.cell_of_heap hW]
          have s7 : ∀ o o' v, (((wr.alloc o).alloc o').setCell ⟨q, t, none⟩ v).cell? ⟨q, j7, none⟩ = some (.int .u32 x7) := fun o o' v => by
            have h' := ((((Only.refl [] wr).alloc o).alloc o').keep hW (by simp))
            rw [Lib.cell_of_heap (heap_setCell_same _ q t _ _ v h'), Array.getElem?_setIfInBounds_ne (by omega)]
            rw [← a7, Lib.cell_of_heap hW]
          have s15 : ∀ o o' v, (((wr.alloc o).alloc o').setCell ⟨q, t, none⟩ v).cell? ⟨q, j15, none⟩ = some (.int .u32 x15) := fun o o' v => by
            have h' := ((((Only.refl [] wr).alloc o).alloc o').keep hW (by simp))
            rw [Lib.cell_of_heap (heap_setCell_same _ q t _ _ v h'), Array.getElem?_setIfInBounds_ne (by omega)]
            rw [← a15, Lib.cell_of_heap hW]
          have s16 : ∀ o o' v, (((wr.alloc o).alloc o').setCell ⟨q, t, none⟩ v).cell? ⟨q, j16, none⟩ = some (.int .u32 x16) := fun o o' v => by
            have h' := ((((Only.refl [] wr).alloc o).alloc o').keep hW (by simp))
            rw [Lib.cell_of_heap (heap_setCell_same _ q t _ _ v h'), Array.getElem?_setIfInBounds_ne (by omega)]
            rw [← a16, Lib.cell_of_heap hW]
          have zq : ∀ o o', ((wr.alloc o).alloc o').frozen? ⟨q, t, none⟩ = false := fun o o' => Lib.frozen_of_heap (((Only.refl [] wr).alloc o).alloc o' |>.keep hW (by simp)) _
          have rt : IntKind.i64.wrap (t : Int) = (t : Int) := IntWalk.i64_in _ (by omega)
          have Htk := Lib.hid htk
          have HW := Lib.hid hW
          have HB := Lib.hid hB
          have HWd := Lib.hid hWd
          have hnx : nextW W t = nextX x2 x7 x15 x16 := by
            unfold nextW
            rw [htk]
            simp only [List.getD_eq_getElem?_getD, g2, g7, g15, g16, Option.getD_some]
          have Hnx := Lib.hid hnx
          have hfin : ∀ o o' v, v = nextX x2 x7 x15 x16 → WAt ((((wr.alloc o).alloc o').setCell ⟨q, t, none⟩ (.int .u32 v)).drew) q (schedW bl (k + 1)) := by
            intro o o' v hv
            have h' : WAt ((wr.alloc o).alloc o') q W := (((Only.refl [] wr).alloc o).alloc o').keep hW (by simp)
            have h2 := h'.set t v
            have e : schedW bl (k + 1) = W.set t v := by
              rw [hv, ← hnx, htk, hWd]; rfl
            rw [e]; exact h2
          have Hfin := Lib.hid hfin
          have hbel : ∀ o o' v, Below w.heap.size w ((((wr.alloc o).alloc o').setCell ⟨q, t, none⟩ v).drew) := by
            intro o o' v
            have h1 : Only [q] wr ((((wr.alloc o).alloc o').setCell ⟨q, t, none⟩ v).drew) := ((((Only.refl [q] wr).alloc o).alloc o').setCell (by simp) v).drew
            exact hB.trans (h1.below hB.size (by intro x hx; simp at hx; rw [hx, Hq.out]; exact Nat.le_refl _))
          have Hbel := Lib.hid hbel
          clear hfin hbel
          clear hW hB hWd htk g2 g7 g15 g16 gt hnx e2 e7 e15 e16
          go_upto_region 13 with fail
          go_region_held3 (fun w' => w'.cell? ⟨q, j2, none⟩ = some (.int .u32 x2) ∧ w'.cell? ⟨q, j7, none⟩ = some (.int .u32 x7) ∧ w'.cell? ⟨q, j15, none⟩ = some (.int .u32 x15) ∧ w'.cell? ⟨q, j16, none⟩ = some (.int .u32 x16)) (go_keep)
            (first
              | (go_at_call 83; (first | with_reducible refine (turn_a x2 _ _ ?_).mono ?_ | with_reducible refine (turn_b x15 _ _ ?_).mono ?_); (first | exact heap_alloc_new wr _ | exact heap_alloc2_new wr _ _ | exact heap_alloc2_old wr _ _); rintro e w' ⟨rfl, rfl⟩))
          all_goals
            go_wp2
            go_roundw
            case rel =>
              refine ⟨k + 1, by omega, ?_, Hfin.out _ _ _ ?_, Hbel.out _ _ _⟩
              · have := Htk.out
                rw [show (((16 + (k + 1) : Nat)) : Int) = (t : Int) + 1 by omega]
              · simp only [nextX, IntKind.wrap_u32']
            case measure => have := Htk.out; simp [intOf]; omega
        · have hk48' : k = 48 := by omega
          subst hk48'
          rw [show ((16 + 48 : Nat) : Int) = 64 from rfl]
          have HW := Lib.hid hW
          have HB := Lib.hid hB
          have hsz : (rowW (schedW bl 48)).size = 64 := by simp [rowW, schedW_length]
          have h1c : (rowW (schedW bl 48)).all (·.oneCell') = true := by
            rw [Array.all_eq_true_iff_forall_mem]
            intro v hv
            simp only [rowW, List.mem_toArray, List.mem_map] at hv
            obtain ⟨x, _, rfl⟩ := hv
            rfl
          obtain ⟨C, hC⟩ : ∃ C, C = rowW (schedW bl 48) := ⟨_, rfl⟩
          have hg : wr.heap[q]? = some (.cells C 139 (0, 0)) := by rw [hC]; exact hW
          rw [← hC] at hsz h1c
          have hst := store_rowP (P := Tryd.prog) hg rfl h1c
          have Hg := Lib.hid hg
          have HC := Lib.hid hC
          clear hW hB hC
          go_wp2_with (refine wpList_load_row rfl 139 _ rfl q rfl 139 _ (0, 0) _ Hg.out Tryd.underlying139 rfl (by rw [hsz]; kernel_rfl) ?_)
          (try simp only [Exit.inBlock, Exit.then])
          refine bodyPost_ret (results_cell_row rfl _ _ q 139 C (0, 0) _ rfl (setRow_heap _ _ _ _ _ _ Hg.out) Tryd.underlying139 rfl (by rw [hsz]; kernel_rfl)) rfl ?_
          refine ⟨by rw [HC.out], ?_⟩
          exact HB.out.trans (((Only.refl [q] wr).setRow (by simp) C).below HB.out.size (by intro x hx; simp at hx; rw [hx, Hq.out]; exact Nat.le_refl _))
end Go.Proofs.YthcmlbbbbcinkaaDoor

set_option linter.unusedVariables false
set_option linter.unusedSimpArgs false
namespace Go.Proofs.YthcmlbbbbcinkaaDoor
open Go.RowKit
attribute [local go_sem] Lb.ba_get Lb.ba_cut Lb.ba_add Lb.ba_size Lb.take_rest

theorem idx64 (C : Array Value) (k : Nat) (x : Int) (w : World) (hk : k < 64) (hx : C[k]? = some (.int .u32 x)) : (Instr.index 139 (.agg C) (.int .i64 (k : Int))).run Tryd.prog w = .ok (.int .u32 x) w := by
  have hu := Tryd.underlying139
  have hu2 := Tryd.underlying121
  have hi : (Tryd.prog.info? 121).map (·.size) = some 1 := by kernel_rfl
  obtain ⟨i, hi1, hi2⟩ : ∃ i, Tryd.prog.info? 121 = some i ∧ i.size = 1 := by
    cases hq : Tryd.prog.info? 121 with
    | none => rw [hq] at hi; cases hi
    | some i => rw [hq] at hi; exact ⟨i, rfl, by simpa using hi⟩
  have h1 : (0 : Int) ≤ (k : Int) := by omega
  have h2 : (k : Int) < 64 := by omega
  simp [Instr.index, asIntOf, Go.underlying, hu, hu2, Go.part, Go.sizeOf, Go.typeInfo, hi1, hi2, h1, h2, hx]
  intro h; omega
theorem ints_three (W : World) (g : Nat) (a b c : Nat) (h : W.heap[g]? = some (.cells #[.int .i64 (a : Int), .int .i64 (b : Int), .int .i64 (c : Int)] 3 (0, 0))) : Ints W W.heap.size (some ⟨g, 0, none⟩) ([a, b, c].map fun (n : Nat) => (n : Int)) := by
  intro i hi
  have hi2 : i = 0 ∨ i = 1 ∨ i = 2 := by simp at hi; omega
  refine ⟨_, rfl, heap_lt h, ?_⟩
  rcases hi2 with rfl | rfl | rfl
  · exact Lib.cell_of_heap h (j := 0)
  · exact Lib.cell_of_heap h (j := 1)
  · exact Lib.cell_of_heap h (j := 2)
theorem turn_e (x : Int) (W : World) (g : Nat) (h : W.heap[g]? = some (.cells #[.int .i64 6, .int .i64 11, .int .i64 25] 3 (0, 0))) :
    Calls Tryd.prog 83 #[.int .u32 x, .slice (some ⟨g, 0, none⟩) 3 3] W fun e w' => e = .returned (.int .u32 (turnedS x [6, 11, 25])) ∧ W = w' :=
  turned_any x (some ⟨g, 0, none⟩) 3 [6, 11, 25] W (ints_three W g 6 11 25 h) (by decide) (by decide)
theorem turn_f (x : Int) (W : World) (g : Nat) (h : W.heap[g]? = some (.cells #[.int .i64 2, .int .i64 13, .int .i64 22] 3 (0, 0))) :
    Calls Tryd.prog 83 #[.int .u32 x, .slice (some ⟨g, 0, none⟩) 3 3] W fun e w' => e = .returned (.int .u32 (turnedS x [2, 13, 22])) ∧ W = w' :=
  turned_any x (some ⟨g, 0, none⟩) 3 [2, 13, 22] W (ints_three W g 2 13 22 h) (by decide) (by decide)
/-- one round's words -/
def t1S (e f g h k x : Int) : Int := IntKind.u32.wrap (IntKind.u32.wrap (IntKind.u32.wrap (IntKind.u32.wrap (h + turnedS e [6, 11, 25]) + bits .xor .u32 (bits .and .u32 e f) (bits .and .u32 (bits .xor .u32 IntKind.u32.max e) g)) + k) + x)
def t2S (a b c : Int) : Int := IntKind.u32.wrap (turnedS a [2, 13, 22] + bits .xor .u32 (bits .xor .u32 (bits .and .u32 a b) (bits .and .u32 a c)) (bits .and .u32 b c))
def rstep (k x : Int) : List Int → List Int
  | [a, b, c, d, e, f, g, h] => [(t1S e f g h k x + t2S a b c) % 4294967296, a, b, c, (d + t1S e f g h k x) % 4294967296, e, f, g]
  | l => l
def roundsS (K W V : List Int) : Nat → List Int
  | 0 => V
  | k + 1 => rstep (K.getD k 0) (W.getD k 0) (roundsS K W V k)
def addL (V R : List Int) (i : Nat) : List Int := (List.range 8).map fun j => if j < i then (V.getD j 0 + R.getD j 0) % 4294967296 else V.getD j 0
def mixS (K : List Int) (bl : List UInt8) (V : List Int) : List Int := addL V (roundsS K (schedW bl 48) V 64) 8
def eightV (a b c d e f g h : Int) : Array Value := #[.int .u32 a, .int .u32 b, .int .u32 c, .int .u32 d, .int .u32 e, .int .u32 f, .int .u32 g, .int .u32 h]
set_option maxRecDepth 100000 in
set_option maxHeartbeats 4000000 in
theorem mix_any {TG : TypeId} {fG : Nat × Nat} (b : Nat) (T : TypeId) (v0 v1 v2 v3 v4 v5 v6 v7 : Int) (X : List Value) (bl : List UInt8) (K : List Int) (w : World) (hbl : bl.length = 64) (hK : K.length = 64) (hG : w.heap[0]? = some (.cells (rowW K) TG fG)) (hb0 : b ≠ 0)
    (hS : w.heap[b]? = some (.cells (([v0, v1, v2, v3, v4, v5, v6, v7].map fun x => Value.int .u32 x) ++ X).toArray T (0, 0))) :
    Calls Tryd.prog 70 #[.pointer (some ⟨b, 0, none⟩), .string ⟨bl.toArray⟩] w fun e w' => e = .returned (.tuple #[]) ∧ w'.heap[b]? = some (.cells ((mixS K bl [v0, v1, v2, v3, v4, v5, v6, v7]).map (fun x => Value.int .u32 x) ++ X).toArray T (0, 0)) ∧ Only [b] w w' := by
  have Hbl := Lib.hid hbl
  have HK := Lib.hid hK
  have HG := Lib.hid hG
  have HS := Lib.hid hS
  have c0 : w.cell? ⟨b, 0, none⟩ = some (.int .u32 v0) := by rw [Lib.cell_of_heap hS]; rfl
  have c1 : w.cell? ⟨b, 1, none⟩ = some (.int .u32 v1) := by rw [Lib.cell_of_heap hS]; rfl
  have c2 : w.cell? ⟨b, 2, none⟩ = some (.int .u32 v2) := by rw [Lib.cell_of_heap hS]; rfl
  have c3 : w.cell? ⟨b, 3, none⟩ = some (.int .u32 v3) := by rw [Lib.cell_of_heap hS]; rfl
  have c4 : w.cell? ⟨b, 4, none⟩ = some (.int .u32 v4) := by rw [Lib.cell_of_heap hS]; rfl
  have c5 : w.cell? ⟨b, 5, none⟩ = some (.int .u32 v5) := by rw [Lib.cell_of_heap hS]; rfl
  have c6 : w.cell? ⟨b, 6, none⟩ = some (.int .u32 v6) := by rw [Lib.cell_of_heap hS]; rfl
  have c7 : w.cell? ⟨b, 7, none⟩ = some (.int .u32 v7) := by rw [Lib.cell_of_heap hS]; rfl
  clear hbl hK hG hS
  go_enter Tryd.func70, Tryd.ntmps70
  go_wp2_with fail
  refine (schedule_any bl _ Hbl.out).mono ?_
  rintro e w1 ⟨rfl, hB1⟩
  go_wp2_with fail
  have W64 : (schedW bl 48).length = 64 := schedW_length bl 48
  obtain ⟨Ws, hWs⟩ : ∃ Ws, Ws = schedW bl 48 := ⟨_, rfl⟩
  rw [← hWs] at W64 ⊢
  obtain ⟨q, hq⟩ : ∃ q, q = w.heap.size := ⟨_, rfl⟩
  have hq1 : w1.heap[q]? = some (.cells (eightV v0 v1 v2 v3 v4 v5 v6 v7) 123 (0, 0)) := by
    rw [hq]; exact below_keep hB1 (heap_alloc_new w _)
  have hbq : b < q := by rw [hq]; exact heap_lt HS.out
  have h0q : 0 < q := by omega
  have o1 : Only [] w w1 := ((Only.refl [] w).alloc _).trans (Only.of_below hB1)
  rw [← hq]
  have Hq := Lib.hid hq
  have HW := Lib.hid hWs
  have HW64 := Lib.hid W64
  have Hq1 := Lib.hid hq1
  have O1 := Lib.hid o1
  clear hB1 hq hWs W64 hq1 o1 c0 c1 c2 c3 c4 c5 c6 c7
  go_loopw [17] (fun p wr => ∃ (k : Nat) (a b c d e f g h : Int), k ≤ 64 ∧ p = .int .i64 k ∧ roundsS K Ws [v0, v1, v2, v3, v4, v5, v6, v7] k = [a, b, c, d, e, f, g, h] ∧ wr.heap[q]? = some (.cells (eightV a b c d e f g h) 123 (0, 0)) ∧ Only [q] w1 wr) (fun p _ => 64 - (intOf p).toNat)
  case atStart => exact ⟨0, v0, v1, v2, v3, v4, v5, v6, v7, by omega, rfl, rfl, Hq1.out, Only.refl _ _⟩
  case round =>
    obtain ⟨k, a, b', c, d, e, f, g, y, hk, rfl, hR, hV, ho⟩ := hrel
    have d0 : wr.cell? ⟨q, 0, none⟩ = some (.int .u32 a) := by rw [Lib.cell_of_heap hV]; rfl
    have d1 : wr.cell? ⟨q, 1, none⟩ = some (.int .u32 b') := by rw [Lib.cell_of_heap hV]; rfl
    have d2 : wr.cell? ⟨q, 2, none⟩ = some (.int .u32 c) := by rw [Lib.cell_of_heap hV]; rfl
    have d3 : wr.cell? ⟨q, 3, none⟩ = some (.int .u32 d) := by rw [Lib.cell_of_heap hV]; rfl
    have d4 : wr.cell? ⟨q, 4, none⟩ = some (.int .u32 e) := by rw [Lib.cell_of_heap hV]; rfl
    have d5 : wr.cell? ⟨q, 5, none⟩ = some (.int .u32 f) := by rw [Lib.cell_of_heap hV]; rfl
    have d6 : wr.cell? ⟨q, 6, none⟩ = some (.int .u32 g) := by rw [Lib.cell_of_heap hV]; rfl
    have d7 : wr.cell? ⟨q, 7, none⟩ = some (.int .u32 y) := by rw [Lib.cell_of_heap hV]; rfl
    have hG : wr.heap[0]? = some (.cells (rowW K) TG fG) := ho.keep (O1.out.keep HG.out (by simp)) (by simp; omega)
    by_cases hk64 : k < 64
    · obtain ⟨x, hx⟩ : ∃ x, Ws[k]? = some x := ⟨_, List.getElem?_eq_getElem (by rw [HW64.out]; exact hk64)⟩
      obtain ⟨kk, hkk⟩ : ∃ kk, K[k]? = some kk := ⟨_, List.getElem?_eq_getElem (by rw [HK.out]; exact hk64)⟩
      have hx' := rowW_get hx
      have dk : wr.cell? ⟨0, k, none⟩ = some (.int .u32 kk) := by rw [Lib.cell_of_heap hG]; exact rowW_get hkk
      have k0 : (0 : Int) ≤ (k : Int) := by omega
      have k1 : (k : Int) < 64 := by omega
      have hsz : (rowW Ws).size = 64 := by simp [rowW, HW64.out]
      have hnext : roundsS K Ws [v0, v1, v2, v3, v4, v5, v6, v7] (k + 1) = [(t1S e f g y kk x + t2S a b' c) % 4294967296, a, b', c, (d + t1S e f g y kk x) % 4294967296, e, f, g] := by
        unfold roundsS
        rw [hR]
        simp only [List.getD_eq_getElem?_getD, hx, hkk, Option.getD_some, rstep]
      have Hnext := Lib.hid hnext
      have HG2 := Lib.hid hG
      have HV := Lib.hid hV
      have Ho := Lib.hid ho
      obtain ⟨C, hC⟩ : ∃ C, C = rowW Ws := ⟨_, rfl⟩
      rw [← hC] at hx' hsz ⊢
      have hidx := fun W : World => idx64 C k x W hk64 hx'
      clear hnext hG hV ho hR hx hkk hC hx'
      go_upto_region 4 with fail
      go_quiet (fail)
      go_upto_region 5 with fail
      obtain ⟨w5, hw5⟩ : ∃ w5, w5 = wr.drewN nq := ⟨_, rfl⟩
      have o5 : Only [q] w1 w5 := by rw [hw5]; exact Ho.out.drewN _
      have V5 : w5.heap[q]? = some (.cells (eightV a b' c d e f g y) 123 (0, 0)) := by rw [hw5]; exact HV.out
      have G5 : w5.heap[0]? = some (.cells (rowW K) TG fG) := by rw [hw5]; exact HG2.out
      have e7 : w5.cell? ⟨q, 7, none⟩ = some (.int .u32 y) := by rw [hw5]; exact d7
      have e5 : w5.cell? ⟨q, 5, none⟩ = some (.int .u32 f) := by rw [hw5]; exact d5
      have e6 : w5.cell? ⟨q, 6, none⟩ = some (.int .u32 g) := by rw [hw5]; exact d6
      have ek : w5.cell? ⟨0, k, none⟩ = some (.int .u32 kk) := by rw [hw5]; exact dk
      have rk : IntKind.i64.wrap (k : Int) = (k : Int) := IntWalk.i64_in _ (by omega)
      rw [← hw5]
      clear hw5 d0 d1 d2 d3 d4 d5 d6 d7 dk hidx Ho HV HG2
      have HO5 := Lib.hid o5
      have HV5 := Lib.hid V5
      have HG5 := Lib.hid G5
      clear o5 V5 G5
      go_region_held3 (fun w' => w'.cell? ⟨q, 7, none⟩ = some (.int .u32 y) ∧ w'.cell? ⟨q, 5, none⟩ = some (.int .u32 f) ∧ w'.cell? ⟨q, 6, none⟩ = some (.int .u32 g) ∧ w'.cell? ⟨0, k, none⟩ = some (.int .u32 kk)) (go_keep)
        (first
          | (go_at_call 83; (with_reducible refine (turn_e e _ _ ?_).mono ?_); exact heap_alloc_new w5 (.cells #[.int .i64 6, .int .i64 11, .int .i64 25] 3); rintro e w' ⟨rfl, rfl⟩))
      obtain ⟨w6, hw6⟩ : ∃ w6, w6 = (w5.alloc (.cells #[.int .i64 6, .int .i64 11, .int .i64 25] 3)).drew := ⟨_, rfl⟩
      have o56 : Only [] w5 w6 := by rw [hw6]; exact ((Only.refl [] w5).alloc _).drew
      have HV6 := Lib.hid (o56.keep HV5.out (by simp))
      have HG6 := Lib.hid (o56.keep HG5.out (by simp))
      have HO6 := Lib.hid (HO5.out.trans (o56.mono (by simp)))
      have d1 : w6.cell? ⟨q, 1, none⟩ = some (.int .u32 b') := by rw [Lib.cell_of_heap HV6.out]; rfl
      have d2 : w6.cell? ⟨q, 2, none⟩ = some (.int .u32 c) := by rw [Lib.cell_of_heap HV6.out]; rfl
      clear HV5 HG5 HO5 e7 e5 e6 ek o56
      go_upto_region 6 with fail
      rw [← hw6]
      clear hw6
      go_region_held3 (fun w' => w'.cell? ⟨q, 1, none⟩ = some (.int .u32 b') ∧ w'.cell? ⟨q, 2, none⟩ = some (.int .u32 c)) (go_keep)
        (first
          | (go_at_call 83; (with_reducible refine (turn_f a _ _ ?_).mono ?_); exact heap_alloc_new w6 (.cells #[.int .i64 2, .int .i64 13, .int .i64 22] 3); rintro e w' ⟨rfl, rfl⟩))
      go_upto_region 7 with fail
      have E1 : IntKind.u32.wrap (IntKind.u32.wrap (IntKind.u32.wrap (IntKind.u32.wrap (y + turnedS e [6, 11, 25]) + bits .xor .u32 (bits .and .u32 e f) (bits .and .u32 (bits .xor .u32 IntKind.u32.max e) g)) + kk) + x) = t1S e f g y kk x := rfl
      have E2 : IntKind.u32.wrap (turnedS a [2, 13, 22] + bits .xor .u32 (bits .xor .u32 (bits .and .u32 a b') (bits .and .u32 a c)) (bits .and .u32 b' c)) = t2S a b' c := rfl
      rw [E1, E2]
      clear E1 E2
      obtain ⟨t1, ht1⟩ : ∃ t1, t1 = t1S e f g y kk x := ⟨_, rfl⟩
      obtain ⟨t2, ht2⟩ : ∃ t2, t2 = t2S a b' c := ⟨_, rfl⟩
      rw [← ht1, ← ht2]
      have Hn2 : Hid (roundsS K Ws [v0, v1, v2, v3, v4, v5, v6, v7] (k + 1) = [(t1 + t2) % 4294967296, a, b', c, (d + t1) % 4294967296, e, f, g]) := Lib.hid (by rw [ht1, ht2]; exact Hnext.out)
      clear ht1 ht2 Hnext
      obtain ⟨w7, hw7⟩ : ∃ w7, w7 = (w6.alloc (.cells #[.int .i64 2, .int .i64 13, .int .i64 22] 3)).drew := ⟨_, rfl⟩
      have o67 : Only [] w6 w7 := by rw [hw7]; exact ((Only.refl [] w6).alloc _).drew
      have HV7 := Lib.hid (o67.keep HV6.out (by simp))
      have HO7 := Lib.hid (HO6.out.trans (o67.mono (by simp)))
      rw [← hw7]
      clear hw7 o67 HV6 HO6 HG6 d1 d2
      have d0 : w7.cell? ⟨q, 0, none⟩ = some (.int .u32 a) := by rw [Lib.cell_of_heap HV7.out]; rfl
      have d1 : w7.cell? ⟨q, 1, none⟩ = some (.int .u32 b') := by rw [Lib.cell_of_heap HV7.out]; rfl
      have d2 : w7.cell? ⟨q, 2, none⟩ = some (.int .u32 c) := by rw [Lib.cell_of_heap HV7.out]; rfl
      have d3 : w7.cell? ⟨q, 3, none⟩ = some (.int .u32 d) := by rw [Lib.cell_of_heap HV7.out]; rfl
      have d4 : w7.cell? ⟨q, 4, none⟩ = some (.int .u32 e) := by rw [Lib.cell_of_heap HV7.out]; rfl
      have d5 : w7.cell? ⟨q, 5, none⟩ = some (.int .u32 f) := by rw [Lib.cell_of_heap HV7.out]; rfl
      have d6 : w7.cell? ⟨q, 6, none⟩ = some (.int .u32 g) := by rw [Lib.cell_of_heap HV7.out]; rfl
      have d7 : w7.cell? ⟨q, 7, none⟩ = some (.int .u32 y) := by rw [Lib.cell_of_heap HV7.out]; rfl
      have zf : ∀ j, w7.frozen? ⟨q, j, none⟩ = false := fun j => Lib.frozen_of_heap HV7.out _
      have hcp : (Builtin.copy_ #[142, 142] 3 #[.slice (some ⟨q, 1, none⟩) 7 7, .slice (some ⟨q, 0, none⟩) 7 8]).run Tryd.prog w7.drew = .ok (.int .i64 7) (w7.drew.setRow q (eightV a a b' c d e f g)) := by
        have h := run_copy_row (P := Tryd.prog) w7.drew 142 142 3 121 q 1 7 7 ⟨q, 0, none⟩ 7 8 (eightV a b' c d e f g y) 123 [.int .u32 a, .int .u32 b', .int .u32 c, .int .u32 d, .int .u32 e, .int .u32 f, .int .u32 g]
        refine h Tryd.underlying142 (by kernel_rfl) HV7.out rfl ?_ (by simp [eightV]) (by simp [Value.oneCell'])
        intro j v hv
        have hj7 : j < 7 := by
          have := (List.getElem?_eq_some_iff.1 hv).1
          simpa using this
        have hj : j = 0 ∨ j = 1 ∨ j = 2 ∨ j = 3 ∨ j = 4 ∨ j = 5 ∨ j = 6 := by omega
        rcases hj with rfl | rfl | rfl | rfl | rfl | rfl | rfl
        · simp at hv; subst hv; exact d0
        · simp at hv; subst hv; exact d1
        · simp at hv; subst hv; exact d2
        · simp at hv; subst hv; exact d3
        · simp at hv; subst hv; exact d4
        · simp at hv; subst hv; exact d5
        · simp at hv; subst hv; exact d6
      go_region
      go_upto_region 8 with fail
      obtain ⟨w8, hw8⟩ : ∃ w8, w8 = w7.drew.setRow q (eightV a a b' c d e f g) := ⟨_, rfl⟩
      have o78 : Only [q] w7 w8 := by rw [hw8]; exact ((Only.refl [q] w7).drew).setRow (by simp) _
      have HV8 : Hid (w8.heap[q]? = some (.cells (eightV a a b' c d e f g) 123 (0, 0))) := Lib.hid (by rw [hw8]; exact setRow_heap _ _ _ _ _ _ HV7.out)
      have HO8 := Lib.hid (HO7.out.trans o78)
      rw [← hw8]
      clear hcp hw8 o78 HV7 HO7 d0 d1 d2 d3 d4 d5 d6 d7 zf
      have d0 : w8.cell? ⟨q, 0, none⟩ = some (.int .u32 a) := by rw [Lib.cell_of_heap HV8.out]; rfl
      have z0 : w8.frozen? ⟨q, 0, none⟩ = false := Lib.frozen_of_heap HV8.out _
      obtain ⟨s0, hs0⟩ : ∃ s0, s0 = (t1 + t2) % 4294967296 := ⟨_, rfl⟩
      have s0w : IntKind.u32.wrap (t1 + t2) = s0 := by rw [hs0]; exact IntKind.wrap_u32' _
      have Hs0 := Lib.hid hs0
      have hV9 : (w8.setCell ⟨q, 0, none⟩ (.int .u32 s0)).heap[q]? = some (.cells (eightV s0 a b' c d e f g) 123 (0, 0)) := heap_setCell_same _ q 0 _ _ _ HV8.out
      have d4 : (w8.setCell ⟨q, 0, none⟩ (.int .u32 s0)).cell? ⟨q, 4, none⟩ = some (.int .u32 d) := by rw [Lib.cell_of_heap hV9]; rfl
      have z4 : (w8.setCell ⟨q, 0, none⟩ (.int .u32 s0)).frozen? ⟨q, 4, none⟩ = false := Lib.frozen_of_heap hV9 _
      obtain ⟨s4, hs4⟩ : ∃ s4, s4 = (d + t1) % 4294967296 := ⟨_, rfl⟩
      have s4w : IntKind.u32.wrap (d + t1) = s4 := by rw [hs4]; exact IntKind.wrap_u32' _
      have Hs4 := Lib.hid hs4
      have hV10 : ((w8.setCell ⟨q, 0, none⟩ (.int .u32 s0)).setCell ⟨q, 4, none⟩ (.int .u32 s4)).heap[q]? = some (.cells (eightV s0 a b' c s4 e f g) 123 (0, 0)) := heap_setCell_same _ q 4 _ _ _ hV9
      have HV10 := Lib.hid hV10
      have HO10 := Lib.hid ((HO8.out.setCell (p := ⟨q, 0, none⟩) (by simp) (.int .u32 s0)).setCell (p := ⟨q, 4, none⟩) (by simp) (.int .u32 s4))
      clear hV9 hV10 HV8 HO8 hs0 hs4
      go_wp2_with fail
      go_roundw
      case rel => exact ⟨k + 1, s0, a, b', c, s4, e, f, g, by omega, by go_num, by rw [Hn2.out, Hs0.out, Hs4.out], HV10.out, HO10.out⟩
      case measure => simp [intOf]; omega
    · have hk64' : k = 64 := by omega
      subst hk64'
      rw [show ((64 : Nat) : Int) = 64 from rfl]
      obtain ⟨V, hVd⟩ : ∃ V, V = [v0, v1, v2, v3, v4, v5, v6, v7] := ⟨_, rfl⟩
      obtain ⟨R, hRd⟩ : ∃ R, R = [a, b', c, d, e, f, g, y] := ⟨_, rfl⟩
      have hmix : mixS K bl V = addL V R 8 := by unfold mixS; rw [hVd, ← HW.out, hR, hRd]
      have hS : wr.heap[b]? = some (.cells ((addL V R 0).map (fun x => Value.int .u32 x) ++ X).toArray T (0, 0)) := by
        rw [show addL V R 0 = V by rw [hVd]; rfl, hVd]
        exact ho.keep (O1.out.keep HS.out (by simp)) (by simp; omega)
      have hstep : ∀ i, i < 8 → (addL V R i).set i ((V.getD i 0 + R.getD i 0) % 4294967296) = addL V R (i + 1) ∧ (addL V R i)[i]? = some (V.getD i 0) ∧ (addL V R i).length = 8 := by
        intro i hi
        rw [hVd, hRd]
        have hi8 : i = 0 ∨ i = 1 ∨ i = 2 ∨ i = 3 ∨ i = 4 ∨ i = 5 ∨ i = 6 ∨ i = 7 := by omega
        rcases hi8 with rfl | rfl | rfl | rfl | rfl | rfl | rfl | rfl <;> exact ⟨rfl, rfl, rfl⟩
      have hcq : ∀ i, i < 8 → (eightV a b' c d e f g y)[i]? = some (.int .u32 (R.getD i 0)) := by
        intro i hi
        rw [hRd]
        have hi8 : i = 0 ∨ i = 1 ∨ i = 2 ∨ i = 3 ∨ i = 4 ∨ i = 5 ∨ i = 6 ∨ i = 7 := by omega
        rcases hi8 with rfl | rfl | rfl | rfl | rfl | rfl | rfl | rfl <;> rfl
      have Hstep := Lib.hid hstep
      have Hcq := Lib.hid hcq
      have Hmix := Lib.hid hmix
      have HS2 := Lib.hid hS
      have HV2 := Lib.hid hV
      have HO2 := Lib.hid ho
      have HVd := Lib.hid hVd
      clear hstep hcq hmix hS hV ho hR hG d0 d1 d2 d3 d4 d5 d6 d7 hRd hk hVd
      obtain ⟨w9, hw9⟩ : ∃ w9, w9 = wr := ⟨_, rfl⟩
      rw [← hw9] at HS2 HV2 HO2 ⊢
      clear hw9
      go_wp2_with fail
      go_loopw [80] (fun p wr => ∃ i : Nat, i ≤ 8 ∧ p = .int .i64 i ∧ wr.heap[b]? = some (.cells ((addL V R i).map (fun x => Value.int .u32 x) ++ X).toArray T (0, 0)) ∧ Only [b] w9 wr) (fun p _ => 8 - (intOf p).toNat)
      case atStart => exact ⟨0, by omega, rfl, HS2.out, Only.refl _ _⟩
      case round =>
        clear HS2
        obtain ⟨i, hi, rfl, hB, ho⟩ := hrel
        by_cases hi8 : i < 8
        · obtain ⟨s1, s2, s3⟩ := Hstep.out i hi8
          have hcv := Hcq.out i hi8
          obtain ⟨x, hx⟩ : ∃ x, x = V.getD i 0 := ⟨_, rfl⟩
          obtain ⟨r, hr⟩ : ∃ r, r = R.getD i 0 := ⟨_, rfl⟩
          rw [← hx, ← hr] at s1
          rw [← hx] at s2
          rw [← hr] at hcv
          have a1 : wr.cell? ⟨b, i, none⟩ = some (.int .u32 x) := by
            rw [Lib.cell_of_heap hB]
            rw [List.getElem?_toArray, List.getElem?_append_left (by simp [s3]; omega), List.getElem?_map, s2]
            rfl
          have a2 : wr.cell? ⟨q, i, none⟩ = some (.int .u32 r) := by
            rw [Lib.cell_of_heap (ho.keep HV2.out (by simp; omega))]; exact hcv
          have z1 : wr.frozen? ⟨b, i, none⟩ = false := Lib.frozen_of_heap hB _
          obtain ⟨y', hy'⟩ : ∃ y', y' = (x + r) % 4294967296 := ⟨_, rfl⟩
          have yw : IntKind.u32.wrap (x + r) = y' := by rw [hy']; exact IntKind.wrap_u32' _
          rw [← hy'] at s1
          have hBn : (wr.setCell ⟨b, i, none⟩ (.int .u32 y')).heap[b]? = some (.cells ((addL V R (i + 1)).map (fun x => Value.int .u32 x) ++ X).toArray T (0, 0)) := by
            refine (heap_setCell_same _ b i _ _ _ hB).trans ?_
            rw [← s1]
            simp only [List.setIfInBounds_toArray, List.map_set]
            rw [List.set_append_left _ _ (by simp [s3]; omega)]
          have HBn := Lib.hid hBn
          have Ho := Lib.hid ho
          have i0 : (0 : Int) ≤ (i : Int) := by omega
          have i1 : (i : Int) < 8 := by omega
          clear hBn hB ho s1 s2 s3 hcv hx hr hy'
          go_upto_region 14 with fail
          go_region
          go_wp2_with fail
          go_roundw
          case rel => exact ⟨i + 1, by omega, by go_num, HBn.out, (Ho.out.setCell (by simp) _).drew⟩
          case measure => simp [intOf]; omega
        · have hi8' : i = 8 := by omega
          subst hi8'
          have HB := Lib.hid hB
          have o3 : Only [b, q] w1 wr := (HO2.out.mono (by simp)).trans (ho.mono (by simp))
          have o4 : Only [b] w wr := by
            have o1' := O1.out
            refine ⟨o3.os.trans o1'.os, o3.tape.trans o1'.tape, o3.output.trans o1'.output, Nat.le_trans o1'.size o3.size, fun j hj hn => ?_⟩
            rw [o3.block j (Nat.lt_of_lt_of_le hj o1'.size) (by simp at hn ⊢; refine ⟨hn, ?_⟩; rw [Hq.out]; omega)]
            exact o1'.block j hj (by simp)
          have HO4 := Lib.hid o4
          clear hB ho o3 o4
          go_wp2_with fail
          go_end0
          exact ⟨rfl, by rw [← HVd.out, Hmix.out]; exact HB.out, HO4.out⟩
end Go.Proofs.YthcmlbbbbcinkaaDoor
