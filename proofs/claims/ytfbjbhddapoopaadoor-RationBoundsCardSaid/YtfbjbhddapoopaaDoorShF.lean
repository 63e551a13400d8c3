/-
  The walks of shelf: rest, left.
-/
import Derived.Test.YtfbjbhddapoopaaDoorShE
set_option linter.unusedVariables false
set_option linter.unusedSimpArgs false
namespace Go.Proofs.YtfbjbhddapoopaaDoor
open Go.RowKit Sh
attribute [local go_sem] Lb.ba_get Lb.ba_cut Lb.ba_add Lb.ba_size Lb.take_rest

theorem tmod_facts (n : Int) (k : Nat) (hk : 0 < k) : -(k : Int) < n.tmod k ∧ n.tmod k < k ∧ (0 ≤ n.tmod k → n.tmod k = n % k) ∧ (n.tmod k < 0 → n.tmod k + k = n % k) := by
  have h1 : n.tmod k < k := Int.tmod_lt_of_pos n (by omega)
  have h2 : -(k : Int) < n.tmod k := by have := Int.lt_tmod_of_pos n (show (0 : Int) < k by omega); omega
  have h3 : n % k = n.tmod k % k := by
    conv => lhs; rw [← Int.mul_tdiv_add_tmod n k]
    simp
  refine ⟨h2, h1, fun h => ?_, fun h => ?_⟩
  · rw [h3, Int.emod_eq_of_lt h h1]
  · rw [h3, ← Int.add_emod_right, Int.emod_eq_of_lt (by omega) (by omega)]

set_option maxHeartbeats 1000000 in
theorem rest_any (n : Int) (k : Nat) (w : World) (hn : -9223372036854775808 ≤ n ∧ n ≤ 9223372036854775807) (hk : 0 < k) (hk' : (k : Int) ≤ 9223372036854775807) :
    Calls Tryd.prog 123 #[.int .i64 n, .int .i64 k] w fun e w' => e = .returned (.int .i64 (n % k)) ∧ w = w' := by
  obtain ⟨n1, n2⟩ := hn
  obtain ⟨f1, f2, f3, f4⟩ := tmod_facts n k hk
  have F3 := Lib.hid f3
  have F4 := Lib.hid f4
  clear f3 f4
  have hk0 : ((k : Int) == 0) = false := by simp; omega
  have hkm : ((k : Int) == -1) = false := by simp
  by_cases h : n.tmod k < 0
  · go_enter Tryd.func123, Tryd.ntmps123
    go_wp2
    go_ret
    exact ⟨by rw [F4.out h]; rfl, rfl⟩
  · go_enter Tryd.func123, Tryd.ntmps123
    go_wp2
    go_ret
    exact ⟨by rw [F3.out (by omega)]; rfl, rfl⟩

/-- what a fate leaves of an unsure slot -/
def left (x : Slot) (f : Int) : List UInt8 := if f % 3 = 0 then x.sure else if f % 3 = 1 then x.now else x.now.take (f.tdiv 3 % ((x.now.length + 1 : Nat) : Int)).toNat ++ x.sure.drop (f.tdiv 3 % ((x.now.length + 1 : Nat) : Int)).toNat
def slotV (x : Slot) : Value := .agg #[.string ⟨x.now.toArray⟩, .string ⟨x.sure.toArray⟩, .bool x.opn]

set_option maxHeartbeats 1000000 in
theorem left_any (x : Slot) (f : Int) (w : World) (hf : -9223372036854775808 ≤ f ∧ f ≤ 9223372036854775807) (h1 : x.now.length ≤ 640) (h2 : x.sure.length ≤ 640) :
    Calls Tryd.prog 97 #[slotV x, .int .i64 f] w fun e w' => e = .returned (.string ⟨(left x f).toArray⟩) ∧ Below w.heap.size w w' := by
  obtain ⟨nw, su, op⟩ := x
  simp only at h1 h2
  have hm : f % 3 = 0 ∨ f % 3 = 1 ∨ f % 3 = 2 := by omega
  have Hr := Lib.hid (fun w => rest_any f 3 w hf (by omega) (by omega))
  simp only [slotV]
  rcases hm with hm | hm | hm
  · have e1 : left ⟨nw, su, op⟩ f = su := by simp [left, hm]
    rw [e1]
    have Hr' : Hid (∀ w, Calls Tryd.prog 123 #[.int .i64 f, .int .i64 3] w fun e w' => e = .returned (.int .i64 0) ∧ w = w') := Lib.hid (fun w => by have := Hr.out w; rw [show (f % ((3 : Nat) : Int)) = 0 from hm] at this; exact this)
    clear Hr hm e1
    go_enter Tryd.func97, Tryd.ntmps97
    go_wp2_with (go_at_call 123; refine (Hr'.out _).mono ?_; rintro e w1 ⟨rfl, rfl⟩)
    go_ret
    exact ⟨rfl, (Below.refl _ w).alloc (Nat.le_refl _) _⟩
  · have e1 : left ⟨nw, su, op⟩ f = nw := by simp [left, hm]
    rw [e1]
    have Hr' : Hid (∀ w, Calls Tryd.prog 123 #[.int .i64 f, .int .i64 3] w fun e w' => e = .returned (.int .i64 1) ∧ w = w') := Lib.hid (fun w => by have := Hr.out w; rw [show (f % ((3 : Nat) : Int)) = 1 from hm] at this; exact this)
    clear Hr hm e1
    go_enter Tryd.func97, Tryd.ntmps97
    go_wp2_with (go_at_call 123; refine (Hr'.out _).mono ?_; rintro e w1 ⟨rfl, rfl⟩)
    go_ret
    exact ⟨rfl, (Below.refl _ w).alloc (Nat.le_refl _) _⟩
  · have hq : -9223372036854775808 ≤ f.tdiv 3 ∧ f.tdiv 3 ≤ 9223372036854775807 := by
      have a1 := Int.mul_tdiv_add_tmod f 3
      have a2 : -(3 : Int) < f.tmod 3 := (tmod_facts f 3 (by omega)).1
      have a3 : f.tmod 3 < 3 := (tmod_facts f 3 (by omega)).2.1
      omega
    obtain ⟨q, hqe⟩ : ∃ q, q = f.tdiv 3 := ⟨_, rfl⟩
    obtain ⟨k, hk⟩ : ∃ k : Nat, (k : Int) = q % ((nw.length + 1 : Nat) : Int) := ⟨(q % ((nw.length + 1 : Nat) : Int)).toNat, by have := Int.emod_nonneg q (show ((nw.length + 1 : Nat) : Int) ≠ 0 by omega); omega⟩
    have hk1 : k ≤ nw.length := by have := Int.emod_lt_of_pos q (show (0 : Int) < ((nw.length + 1 : Nat) : Int) by omega); omega
    have e1 : left ⟨nw, su, op⟩ f = nw.take k ++ su.drop k := by
      have hk2 : (f.tdiv 3 % ((nw.length + 1 : Nat) : Int)).toNat = k := by rw [← hqe, ← hk]; simp
      unfold left
      rw [if_neg (by omega), if_neg (by omega), hk2]
    rw [e1]
    rw [← hqe] at hq
    have Hq2 : Hid (∀ w, Calls Tryd.prog 123 #[.int .i64 q, .int .i64 ((nw.length : Int) + 1)] w fun e w' => e = .returned (.int .i64 k) ∧ w = w') := Lib.hid (fun w => by have := rest_any q (nw.length + 1) w hq (by omega) (by omega); rw [← hk] at this; exact this)
    have Hr' : Hid (∀ w, Calls Tryd.prog 123 #[.int .i64 f, .int .i64 3] w fun e w' => e = .returned (.int .i64 2) ∧ w = w') := Lib.hid (fun w => by have := Hr.out w; rw [show (f % ((3 : Nat) : Int)) = 2 from hm] at this; exact this)
    have hqe' : f.tdiv 3 = q := hqe.symm
    clear Hr hm e1 hqe hk
    go_enter Tryd.func97, Tryd.ntmps97
    go_wp2_with fail
    refine (Hr'.out _).mono ?_
    rintro e w1 ⟨rfl, rfl⟩
    go_wp2_with fail
    refine (Hq2.out _).mono ?_
    rintro e w1 ⟨rfl, rfl⟩
    have k0 : (0 : Int) ≤ (k : Int) := by omega
    have k1 : (k : Int) ≤ (nw.length : Int) := by omega
    clear hqe' hk1 hq
    go_wp2
    go_region
    go_wp2
    all_goals
      go_ret
      refine ⟨?_, ((Below.refl _ w).alloc (Nat.le_refl _) _).drew⟩
    · have _z := h
      have : su.drop k = [] := List.drop_eq_nil_of_le (by omega)
      rw [this]; simp
    · rfl
end Go.Proofs.YtfbjbhddapoopaaDoor
