/-
  Plain facts on bytes of numbers, texts and rows (layer 1): no program in sight.
-/
import Derived.WalkKit
import Derived.Lib.UnsafeStr
set_option linter.unusedVariables false
set_option linter.unusedSimpArgs false
namespace Go.Proofs.Ytecofehfheodhaa.Pl
open Go

/-- the digits of base 256, the highest first, none ahead -/
def be (q : Nat) : List UInt8 := if q = 0 then [] else be (q / 256) ++ [UInt8.ofNat (q % 256)]
decreasing_by omega

theorem be_zero : be 0 = [] := by unfold be; simp
theorem be_pos {q : Nat} (h : 0 < q) : be q = be (q / 256) ++ [UInt8.ofNat (q % 256)] := by
  rw [be, if_neg (by omega)]

theorem be_length_pos {q : Nat} (h : 0 < q) : (be q).length = (be (q / 256)).length + 1 := by rw [be_pos h]; simp

theorem be_val (q : Nat) : (be q).foldl (fun a b => 256 * a + b.toNat) 0 = q := by
  induction q using Nat.strongRecOn with
  | _ q ih =>
    rcases Nat.eq_zero_or_pos q with h | h
    · subst h; simp [be_zero]
    · rw [be_pos h, List.foldl_append, ih (q / 256) (by omega)]
      simp [UInt8.toNat_ofNat]
      omega

theorem val_le (ds : List UInt8) : ∀ a : Nat, a ≤ ds.foldl (fun a b => 256 * a + b.toNat) a := by
  induction ds with
  | nil => intro a; simp
  | cons d ds ih => intro a; exact Nat.le_trans (by omega) (ih (256 * a + d.toNat))

theorem be_le (m q : Nat) (ds : List UInt8) (h : be m = be q ++ ds) : q ≤ m := by
  have h1 := be_val m
  rw [h, List.foldl_append, be_val q] at h1
  rw [← h1]; exact val_le ds q

def mag (n : Int) : Nat := if n < 0 then (-1 - n).toNat else n.toNat

def num (n : Int) : List UInt8 := UInt8.ofNat ((if n < 0 then 128 else 0) + (be (mag n)).length) :: be (mag n)

theorem drop_set {α : Type} (C : List α) (j : Nat) (v : α) (r : List α) (hj : j + 1 ≤ C.length) (h : C.drop (j + 1) = r) : (C.set j v).drop j = v :: r := by
  rw [List.drop_eq_getElem_cons (by simp; omega)]
  simp [List.drop_set_of_lt, h]

theorem xor_ones (x : Int) (h0 : -9223372036854775808 ≤ x) (h1 : x ≤ 9223372036854775807) : bits BinOp.xor IntKind.i64 (-1) x = -1 - x := by
  show IntKind.i64.wrap ((BitVec.ofInt 64 (-1) ^^^ BitVec.ofInt 64 x).toNat : Int) = _
  have e1 : BitVec.ofInt 64 (-1) = BitVec.allOnes 64 := by decide
  rw [e1, BitVec.allOnes_xor, BitVec.toNat_not, BitVec.toNat_ofInt, IntKind.wrap_i64]
  omega

theorem sign_or (s : Int) (hs : s = 0 ∨ s = 128) (L : Nat) (hL : L ≤ 8) : IntKind.u8.wrap (bits BinOp.or IntKind.i64 s (L : Int)) = s + L := by
  obtain h | h | h | h | h | h | h | h | h : L = 0 ∨ L = 1 ∨ L = 2 ∨ L = 3 ∨ L = 4 ∨ L = 5 ∨ L = 6 ∨ L = 7 ∨ L = 8 := by omega
  all_goals (subst h; rcases hs with rfl | rfl <;> decide)

theorem xor_nat (x : Nat) (h1 : (x : Int) ≤ 9223372036854775807) : bits BinOp.xor IntKind.i64 (-1) (x : Int) = -1 - (x : Int) := xor_ones x (by omega) h1

/-- a value of base 256 -/
def val (ds : List UInt8) : Nat := ds.foldl (fun a b => 256 * a + b.toNat) 0

/-- the number with which bytes begin -/
def rdNum : List UInt8 → Option (Int × List UInt8)
  | [] => none
  | b :: l =>
    if b.toNat % 128 > 8 ∨ b.toNat % 128 > l.length ∨ (0 < b.toNat % 128 ∧ l.head? = some 0) ∨ 9223372036854775808 ≤ val (l.take (b.toNat % 128)) then none
    else some (if 128 ≤ b.toNat then -1 - (val (l.take (b.toNat % 128)) : Int) else (val (l.take (b.toNat % 128)) : Int), l.drop (b.toNat % 128))

theorem val_snoc (ds : List UInt8) (d : UInt8) : val (ds ++ [d]) = 256 * val ds + d.toNat := by simp [val]
theorem val_lt_aux (ds : List UInt8) : ∀ a : Nat, ds.foldl (fun a b => 256 * a + b.toNat) a < (a + 1) * 256 ^ ds.length := by
  induction ds with
  | nil => intro a; simp
  | cons d ds ih =>
    intro a
    have h := ih (256 * a + d.toNat)
    have hd := d.toNat_lt
    have h2 : (256 * a + d.toNat + 1) * 256 ^ ds.length ≤ ((a + 1) * 256) * 256 ^ ds.length := Nat.mul_le_mul_right _ (by omega)
    rw [List.foldl_cons, List.length_cons, Nat.pow_succ, Nat.mul_comm (256 ^ ds.length) 256, ← Nat.mul_assoc]
    omega
theorem val_lt (ds : List UInt8) : val ds < 256 ^ ds.length := by
  have := val_lt_aux ds 0
  simpa [val] using this
theorem val_take_succ (l : List UInt8) (i : Nat) (h : i < l.length) : val (l.take (i + 1)) = 256 * val (l.take i) + l[i].toNat := by
  rw [List.take_succ_eq_append_getElem h, val_snoc]
theorem val_take_lt (l : List UInt8) (i : Nat) : val (l.take i) < 256 ^ i := Nat.lt_of_lt_of_le (val_lt _) (Nat.pow_le_pow_right (by omega) (by simp; omega))

theorem u8_andNot128 (b : UInt8) : bits BinOp.andNot IntKind.u8 (b.toNat : Int) 128 = ((b.toNat % 128 : Nat) : Int) := by
  have h : ∀ k : Nat, k < 256 → bits BinOp.andNot IntKind.u8 (k : Int) 128 = ((k % 128 : Nat) : Int) := by decide +kernel
  exact h _ b.toNat_lt
theorem u8_and128 (b : UInt8) : bits BinOp.and IntKind.u8 (b.toNat : Int) 128 = if 128 ≤ b.toNat then 128 else 0 := by
  have h : ∀ k : Nat, k < 256 → bits BinOp.and IntKind.u8 (k : Int) 128 = if 128 ≤ k then 128 else 0 := by decide +kernel
  exact h _ b.toNat_lt

theorem u64_push (v : Nat) (c : UInt8) (h : v < 72057594037927936) : bits BinOp.or IntKind.u64 ((v : Int) * 256) (c.toNat : Int) = ((256 * v + c.toNat : Nat) : Int) := by
  have hc := c.toNat_lt
  have e : (v : Int) * 256 = ((v * 256 : Nat) : Int) := by omega
  rw [e, u64_or_nat (v * 256) c.toNat (by omega) (by omega)]
  congr 1
  have := Nat.two_pow_add_eq_or_of_lt (i := 8) (b := c.toNat) (by omega) v
  rw [show 2 ^ 8 * v = v * 256 from by omega] at this
  omega

theorem rdNum_bounds {l r : List UInt8} {n : Int} (h : rdNum l = some (n, r)) : -9223372036854775808 ≤ n ∧ n ≤ 9223372036854775807 ∧ r.length < l.length := by
  cases l with
  | nil => simp [rdNum] at h
  | cons b l =>
    rw [rdNum] at h
    split at h
    · cases h
    · rename_i hc
      simp only [Option.some.injEq, Prod.mk.injEq] at h
      obtain ⟨h1, rfl⟩ := h
      split at h1 <;> simp <;> omega

def rdText (l : List UInt8) (most : Int) : Option (List UInt8 × List UInt8) :=
  match rdNum l with
  | some (n, r) => if 0 ≤ n ∧ n ≤ most ∧ n ≤ r.length then some (r.take n.toNat, r.drop n.toNat) else none
  | none => none

theorem be_length_le (k q : Nat) (h : q < 256 ^ k) : (be q).length ≤ k := by
  induction k generalizing q with
  | zero => simp at h; subst h; simp [be_zero]
  | succ k ih =>
    rcases Nat.eq_zero_or_pos q with hq | hq
    · subst hq; simp [be_zero]
    · rw [be_length_pos hq]
      have := ih (q / 256) (Nat.div_lt_of_lt_mul (by rw [Nat.pow_succ] at h; omega))
      omega
theorem num_length_le (n : Int) (h0 : -9223372036854775808 ≤ n) (h1 : n ≤ 9223372036854775807) : (num n).length ≤ 9 := by
  have := be_length_le 8 (mag n) (by unfold mag; split <;> omega)
  simp [num]; omega
theorem num_length (n : Nat) : n < 9223372036854775808 → (num n).length ≤ 9 := fun h => num_length_le n (by omega) (by omega)

end Go.Proofs.Ytecofehfheodhaa.Pl
