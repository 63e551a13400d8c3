/-
  Layer 2's reference: the walk of block: what the program's mix does.
-/
import Derived.Test.YthcmlbbbbcinkaaDoorStR
set_option linter.unusedVariables false
set_option linter.unusedSimpArgs false
namespace Go.Proofs.YthcmlbbbbcinkaaDoor
open Go.RowKit
attribute [local go_sem] Lb.ba_get Lb.ba_cut Lb.ba_add Lb.ba_size Lb.take_rest

theorem or_add (a b i : Nat) (hb : b < 2 ^ i) : (a * 2 ^ i) ||| b = a * 2 ^ i + b := by
  rw [Nat.mul_comm, Nat.two_pow_add_eq_or_of_lt hb]
set_option maxRecDepth 100000 in
theorem word4 (c0 c1 c2 c3 : UInt8) : bits .or .u32 (bits .or .u32 (bits .or .u32 (((c0.toNat : Nat) : Int) * 16777216 % 4294967296) (((c1.toNat : Nat) : Int) * 65536 % 4294967296)) (((c2.toNat : Nat) : Int) * 256 % 4294967296)) ((c3.toNat : Nat) : Int) = wordOf [c0, c1, c2, c3] := by
  have h0 := c0.toNat_lt
  have h1 := c1.toNat_lt
  have h2 := c2.toNat_lt
  have h3 := c3.toNat_lt
  obtain ⟨A, hA⟩ : ∃ A, A = c0.toNat := ⟨_, rfl⟩
  obtain ⟨B, hB⟩ : ∃ B, B = c1.toNat := ⟨_, rfl⟩
  obtain ⟨C, hC⟩ : ∃ C, C = c2.toNat := ⟨_, rfl⟩
  obtain ⟨D, hD⟩ : ∃ D, D = c3.toNat := ⟨_, rfl⟩
  show _ = bits .or .u32 (bits .or .u32 (bits .or .u32 (bits .or .u32 (0 * 256 % 4294967296) (c0.toNat : Int) * 256 % 4294967296) (c1.toNat : Int) * 256 % 4294967296) (c2.toNat : Int) * 256 % 4294967296) (c3.toNat : Int)
  rw [← hA, ← hB, ← hC, ← hD]
  rw [← hA] at h0
  rw [← hB] at h1
  rw [← hC] at h2
  rw [← hD] at h3
  clear hA hB hC hD
  have m24 : ((A : Int) * 16777216 % 4294967296) = ((A * 2 ^ 24 : Nat) : Int) := by omega
  have m16 : ((B : Int) * 65536 % 4294967296) = ((B * 2 ^ 16 : Nat) : Int) := by omega
  have m8 : ((C : Int) * 256 % 4294967296) = ((C * 2 ^ 8 : Nat) : Int) := by omega
  rw [m24, m16, m8]
  rw [u32_or_nat _ _ (by omega) (by omega)]
  have e1 : A * 2 ^ 24 ||| B * 2 ^ 16 = A * 2 ^ 24 + B * 2 ^ 16 := or_add A (B * 2 ^ 16) 24 (by omega)
  rw [e1, u32_or_nat _ _ (by omega) (by omega)]
  have e2 : A * 2 ^ 24 + B * 2 ^ 16 ||| C * 2 ^ 8 = A * 2 ^ 24 + B * 2 ^ 16 + C * 2 ^ 8 := by
    have := or_add (A * 256 + B) (C * 2 ^ 8) 16 (by omega)
    rw [show A * 2 ^ 24 + B * 2 ^ 16 = (A * 256 + B) * 2 ^ 16 by omega]; exact this
  rw [e2, u32_or_nat _ _ (by omega) (by omega)]
  have e3 : A * 2 ^ 24 + B * 2 ^ 16 + C * 2 ^ 8 ||| D = A * 2 ^ 24 + B * 2 ^ 16 + C * 2 ^ 8 + D := by
    have := or_add (A * 65536 + B * 256 + C) D 8 (by omega)
    rw [show A * 2 ^ 24 + B * 2 ^ 16 + C * 2 ^ 8 = (A * 65536 + B * 256 + C) * 2 ^ 8 by omega]; exact this
  rw [e3]
  have z : bits .or .u32 (0 * 256 % 4294967296) (A : Int) = ((A : Nat) : Int) := by
    have := u32_or_nat 0 A (by omega) (by omega)
    simpa using this
  rw [z]
  have n1 : ((A : Int) * 256 % 4294967296) = ((A * 2 ^ 8 : Nat) : Int) := by omega
  rw [n1, u32_or_nat _ _ (by omega) (by omega), or_add A B 8 (by omega)]
  have n2 : (((A * 2 ^ 8 + B : Nat) : Int) * 256 % 4294967296) = (((A * 2 ^ 8 + B) * 2 ^ 8 : Nat) : Int) := by omega
  rw [n2, u32_or_nat _ _ (by omega) (by omega), or_add _ C 8 (by omega)]
  have n3 : ((((A * 2 ^ 8 + B) * 2 ^ 8 + C : Nat) : Int) * 256 % 4294967296) = ((((A * 2 ^ 8 + B) * 2 ^ 8 + C) * 2 ^ 8 : Nat) : Int) := by omega
  rw [n3, u32_or_nat _ _ (by omega) (by omega), or_add _ D 8 (by omega)]
  congr 1
  omega
theorem R32.byte (c : UInt8) : R32 ((c.toNat : Nat) : Int) := ⟨by omega, by have := c.toNat_lt; omega⟩
theorem wordOf_range (bs : List UInt8) : R32 (wordOf bs) := by
  unfold wordOf
  have : ∀ (bs : List UInt8) (o : Int), R32 o → R32 (bs.foldl (fun (o : Int) (b : UInt8) => bits .or .u32 (o * 256 % 4294967296) (b.toNat : Int)) o) := by
    intro bs
    induction bs with
    | nil => intro o ho; exact ho
    | cons b bs ih => intro o ho; exact ih _ ((R32.mod _).or (R32.byte b))
  exact this bs 0 R32.zero
theorem firstW_range (bl : List UInt8) (t : Nat) : ∀ x ∈ firstW bl t, R32 x := by
  intro x hx
  unfold firstW at hx
  rcases List.mem_append.1 hx with h | h
  · obtain ⟨j, _, rfl⟩ := List.mem_map.1 h
    exact wordOf_range _
  · rw [(List.mem_replicate.1 h).2]; exact R32.zero
theorem schedW_range (bl : List UInt8) : ∀ k, ∀ x ∈ schedW bl k, R32 x
  | 0 => firstW_range bl 16
  | k + 1 => by
    intro x hx
    unfold schedW at hx
    rcases List.mem_or_eq_of_mem_set hx with h | h
    · exact schedW_range bl k x h
    · rw [h]; unfold nextW nextX; exact R32.mod _
end Go.Proofs.YthcmlbbbbcinkaaDoor
