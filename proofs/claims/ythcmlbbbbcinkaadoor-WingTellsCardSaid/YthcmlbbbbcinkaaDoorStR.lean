/-
  Layer 2's reference: ranges of words; the walk of turn, consts.
-/
import Derived.Test.YthcmlbbbbcinkaaDoorLaid
import Derived.Laws.BitsAllLaws
set_option linter.unusedVariables false
set_option linter.unusedSimpArgs false
namespace Go.Proofs.YthcmlbbbbcinkaaDoor
open Go.RowKit
attribute [local go_sem] Lb.ba_get Lb.ba_cut Lb.ba_add Lb.ba_size Lb.take_rest

/-- a word -/
def R32 (x : Int) : Prop := 0 ≤ x ∧ x < 4294967296
theorem R32.mod (x : Int) : R32 (x % 4294967296) := ⟨by omega, by omega⟩
theorem or_nat (a b : Int) (ha : R32 a) (hb : R32 b) : bits .or .u32 a b = ((a.toNat ||| b.toNat : Nat) : Int) := u32_or a b ha.1 ha.2 hb.1 hb.2
theorem xor_nat (a b : Int) (ha : R32 a) (hb : R32 b) : bits .xor .u32 a b = ((a.toNat ^^^ b.toNat : Nat) : Int) := u32_xor a b ha.1 ha.2 hb.1 hb.2
theorem R32.or {a b : Int} (ha : R32 a) (hb : R32 b) : R32 (bits .or .u32 a b) := by
  rw [or_nat a b ha hb]
  have := Nat.or_lt_two_pow (x := a.toNat) (y := b.toNat) (n := 32) (by have := ha.2; omega) (by have := hb.2; omega)
  exact ⟨by omega, by omega⟩
theorem R32.xor {a b : Int} (ha : R32 a) (hb : R32 b) : R32 (bits .xor .u32 a b) := by
  rw [xor_nat a b ha hb]
  have := Nat.xor_lt_two_pow (x := a.toNat) (y := b.toNat) (n := 32) (by have := ha.2; omega) (by have := hb.2; omega)
  exact ⟨by omega, by omega⟩
theorem R32.zero : R32 0 := ⟨by omega, by omega⟩
theorem shl_range (x : Int) (k : Nat) : R32 (shl32 x k) := R32.mod _
theorem shr_range {x : Int} (h : R32 x) (k : Nat) : R32 (shr32 x k) := by
  obtain ⟨n, rfl⟩ : ∃ n : Nat, x = n := ⟨x.toNat, by have := h.1; omega⟩
  unfold shr32
  have h1 : ((n : Int) / 2 ^ k) = ((n / 2 ^ k : Nat) : Int) := by simp
  rw [h1]
  have h2 := Nat.div_le_self n (2 ^ k)
  have := h.2
  obtain ⟨q, hq⟩ : ∃ q, q = n / 2 ^ k := ⟨_, rfl⟩
  rw [← hq] at h2 ⊢
  clear h1 hq
  exact ⟨by omega, by omega⟩
theorem rotr_range {x : Int} (h : R32 x) (n : Nat) : R32 (rotr x n) := (shl_range _ _).or (shr_range h n)
theorem rotr_swap {x : Int} (h : R32 x) (n : Nat) : bits .or .u32 (shr32 x n) (shl32 x (32 - n)) = rotr x n := by
  unfold rotr
  rw [or_nat _ _ (shr_range h n) (shl_range _ _), or_nat _ _ (shl_range _ _) (shr_range h n), Nat.or_comm]
theorem xor_zero {x : Int} (h : R32 x) : bits .xor .u32 0 x = x := by
  rw [xor_nat _ _ R32.zero h]
  have := h.1
  simp
  omega
theorem turned_two {x : Int} (h : R32 x) (a b : Nat) : turnedS x [a, b] = bits .xor .u32 (rotr x a) (rotr x b) := by
  show bits .xor .u32 (bits .xor .u32 0 (rotr x a)) (rotr x b) = _
  rw [xor_zero (rotr_range h a)]
theorem turned_three {x : Int} (h : R32 x) (a b c : Nat) : turnedS x [a, b, c] = bits .xor .u32 (bits .xor .u32 (rotr x a) (rotr x b)) (rotr x c) := by
  show bits .xor .u32 (bits .xor .u32 (bits .xor .u32 0 (rotr x a)) (rotr x b)) (rotr x c) = _
  rw [xor_zero (rotr_range h a)]

theorem words_info : (Tryd.prog.info? 139).map (·.size) = some 64 := by kernel_rfl
theorem rowW_one (W : List Int) : (rowW W).all (·.oneCell') = true := by
  rw [Array.all_eq_true_iff_forall_mem]
  intro v hv
  simp only [rowW, List.mem_toArray, List.mem_map] at hv
  obtain ⟨x, _, rfl⟩ := hv
  rfl
end Go.Proofs.YthcmlbbbbcinkaaDoor
