/-
  The walk of sap.Num.
-/
import Derived.Test.YtfbjbhddapoopaaDoorProg
import Derived.Test.YtfbjbhddapoopaaDoorBase
import Derived.WalkKit
import Derived.WalkSpells
import Derived.WalkLawsBesides
import Derived.BigRegion
import Derived.BigQuiet
import Derived.Deep.QuietTactic
import Derived.Lib.Hide
set_option linter.unusedVariables false
set_option linter.unusedSimpArgs false
namespace Go.Proofs.YtfbjbhddapoopaaDoor
open Go.RowKit Pl


theorem num_step {q j m : Nat} {ds : List UInt8} {C : Array Value} (hq0 : 0 < q) (hj1 : 1 ≤ j) (hjd : j + ds.length = 8) (hq : q < 256 ^ j) (hbe : be m = be q ++ ds) (hC : C.size = 8) (hds : C.toList.drop j = Lib.byteCells ds) :
    (j - 1) + (UInt8.ofNat (q % 256) :: ds).length = 8 ∧ q / 256 < 256 ^ (j - 1) ∧ be m = be (q / 256) ++ (UInt8.ofNat (q % 256) :: ds) ∧ (C.setIfInBounds (j - 1) (Value.int IntKind.u8 ((q : Int) % 256))).size = 8 ∧
      (C.setIfInBounds (j - 1) (Value.int IntKind.u8 ((q : Int) % 256))).toList.drop (j - 1) = Lib.byteCells (UInt8.ofNat (q % 256) :: ds) := by
  obtain ⟨i, rfl⟩ : ∃ i, j = i + 1 := ⟨j - 1, by omega⟩
  refine ⟨by simp; omega, ?_, ?_, by simpa using hC, ?_⟩
  · rw [Nat.pow_succ] at hq
    exact Nat.div_lt_of_lt_mul (by simpa [Nat.mul_comm] using hq)
  · rw [hbe, be_pos hq0]; simp
  · simp only [Nat.add_sub_cancel, Array.toList_setIfInBounds]
    rw [drop_set C.toList i _ (Lib.byteCells ds) (by simp; omega) hds]
    simp [Lib.byteCells]

theorem num_last {m : Nat} {n : Int} {ds : List UInt8} {L : Nat} (s : Int) (hn : n = m ∧ s = 0 ∨ n = -1 - (m : Int) ∧ s = 128) (hbe : be m = ds) (hL : ds.length = L) (hL8 : L ≤ 8) :
    (⟨#[UInt8.ofNat (s + L).toNat]⟩ : ByteArray) ++ ⟨ds.toArray⟩ = ⟨(num n).toArray⟩ := by
  have h : num n = UInt8.ofNat (s + L).toNat :: ds := by
    rcases hn with ⟨rfl, rfl⟩ | ⟨rfl, rfl⟩
    · have e : mag (m : Int) = m := by unfold mag; split <;> omega
      unfold num; rw [e, hbe, if_neg (by omega), hL]; congr 2 <;> omega
    · have e : mag (-1 - (m : Int)) = m := by unfold mag; split <;> omega
      unfold num; rw [e, hbe, if_pos (by omega), hL]; congr 2 <;> omega
  rw [h]
  exact ByteArray.mk_append_mk [_] ds

set_option maxHeartbeats 1000000 in
theorem num_pos (m : Nat) (w : World) (hm : m < 9223372036854775808) :
    Calls Tryd.prog 122 #[.int .i64 m] w fun e w' => e = .returned (.string ⟨(num m).toArray⟩) ∧ Below w.heap.size w w' := by
  have Hle := Lib.hid (be_le m)
  have h00 : ¬ (m : Int) < 0 := by omega
  go_enter Tryd.func122, Tryd.ntmps122
  go_wp2
  go_loopw [0, 5] (fun v p wr => ∃ (q j : Nat) (ds : List UInt8) (C : Array Value), v = .int .i64 q ∧ p = .int .i64 j ∧ j ≤ 8 ∧ j + ds.length = 8 ∧ q < 256 ^ j ∧ be m = be q ++ ds ∧ C.size = 8 ∧ C.toList.drop j = Lib.byteCells ds ∧ wr = w.alloc (.cells C 222))
    (fun _ p _ => (intOf p).toNat)
  case atStart => exact ⟨m, 8, [], _, rfl, rfl, by omega, rfl, by omega, by simp, rfl, rfl, rfl⟩
  case round =>
    obtain ⟨q, j, ds, C, rfl, rfl, hj, hjd, hq, hbe, hC, hds, rfl⟩ := hrel
    by_cases hq0 : 0 < q
    · have hj1 : 1 ≤ j := by
        rcases Nat.eq_zero_or_pos j with h | h
        · subst h; simp at hq; omega
        · exact h
      have Hst := Lib.hid (num_step hq0 hj1 hjd hq hbe hC hds)
      obtain ⟨cv, hcv⟩ : ∃ cv, C[j - 1]? = some cv := ⟨C[j - 1]'(by omega), Array.getElem?_eq_getElem (by omega)⟩
      have hq9 : (q : Int) ≤ 9223372036854775807 := by
        have h8 : 256 ^ j ≤ 256 ^ 8 := Nat.pow_le_pow_right (by omega) hj
        have h9 : q ≤ m := Hle.out q ds hbe
        omega
      clear hq hbe hC hds hjd
      go_wp2
      go_roundw
      case rel => exact ⟨q / 256, j - 1, _, _, by go_num, by go_num, by omega, Hst.out.1, Hst.out.2.1, Hst.out.2.2.1, Hst.out.2.2.2.1, Hst.out.2.2.2.2, rfl⟩
      case measure => simp [intOf]; omega
    · obtain rfl : q = 0 := by omega
      rw [be_zero, List.nil_append] at hbe
      have Hfin := Lib.hid (num_last (n := m) 0 (.inl ⟨rfl, rfl⟩) hbe (L := 8 - j) (by omega) (by omega))
      have hor := sign_or 0 (.inl rfl) (8 - j) (by omega)
      have hw8 : IntKind.i64.wrap (8 - (j : Int)) = ((8 - j : Nat) : Int) := by rw [IntWalk.i64_in _ (by omega)]; omega
      obtain ⟨A, hsl, hcv⟩ := Lb.arr_tail (P := Tryd.prog) (src := 186) (dst := 9) (e := 5) (t := 222) (z := .int .u8 0) Tryd.underlying186 Tryd.underlying5 Tryd.underlying9 (b := w.heap.size) (n := 8) j hds (by omega) hj Tryd.underlying222 (by kernel_rfl)
      have hc1 := hcv (w.alloc (.cells C 222)).drew (0, 0) (heap_alloc_new w _)
      have hc2 := hcv ((w.alloc (.cells C 222)).alloc (.cells #[.int .u8 (((8 - j : Nat) : Int))] 5)).drew (0, 0) (heap_alloc2_old w _ _)
      have hc3 := Lb.run_str_one (P := Tryd.prog) (src := 186) (dst := 9) (e := 5) (t := 5) (fr := (0, 0)) Tryd.underlying186 Tryd.underlying5 Tryd.underlying9 (b := w.heap.size + 1) (x := ((8 - j : Nat) : Int)) (by omega) (by omega)
        ((w.alloc (.cells C 222)).alloc (.cells #[.int .u8 (((8 - j : Nat) : Int))] 5)).drew (heap_alloc2_new w _ _) 1
      have hsz : ds.length ≤ 8 := by omega
      clear hcv hjd hbe hds hC hq
      go_wp2
      go_region
      go_wp2
      go_ret
      exact ⟨by rw [← Hfin.out]; clear hor hw8 hsl hc1 hc2 hc3; simp, (((Below.refl _ _).alloc (Nat.le_refl _) _).alloc (by simp) _).drew⟩
set_option maxHeartbeats 1000000 in
theorem num_neg (m : Nat) (w : World) (hm : m < 9223372036854775808) :
    Calls Tryd.prog 122 #[.int .i64 (-1 - (m : Int))] w fun e w' => e = .returned (.string ⟨(num (-1 - (m : Int))).toArray⟩) ∧ Below w.heap.size w w' := by
  have Hle := Lib.hid (be_le m)
  have h00 : (-1 - (m : Int)) < 0 := by omega
  have hx := xor_ones (-1 - (m : Int)) (by omega) (by omega)
  have hx2 : -1 - (-1 - (m : Int)) = m := by omega
  go_enter Tryd.func122, Tryd.ntmps122
  go_wp2
  go_loopw [0, 5] (fun v p wr => ∃ (q j : Nat) (ds : List UInt8) (C : Array Value), v = .int .i64 q ∧ p = .int .i64 j ∧ j ≤ 8 ∧ j + ds.length = 8 ∧ q < 256 ^ j ∧ be m = be q ++ ds ∧ C.size = 8 ∧ C.toList.drop j = Lib.byteCells ds ∧ wr = w.alloc (.cells C 222))
    (fun _ p _ => (intOf p).toNat)
  case atStart => exact ⟨m, 8, [], _, rfl, rfl, by omega, rfl, by omega, by simp, rfl, rfl, rfl⟩
  case round =>
    obtain ⟨q, j, ds, C, rfl, rfl, hj, hjd, hq, hbe, hC, hds, rfl⟩ := hrel
    by_cases hq0 : 0 < q
    · have hj1 : 1 ≤ j := by
        rcases Nat.eq_zero_or_pos j with h | h
        · subst h; simp at hq; omega
        · exact h
      have Hst := Lib.hid (num_step hq0 hj1 hjd hq hbe hC hds)
      obtain ⟨cv, hcv⟩ : ∃ cv, C[j - 1]? = some cv := ⟨C[j - 1]'(by omega), Array.getElem?_eq_getElem (by omega)⟩
      have hq9 : (q : Int) ≤ 9223372036854775807 := by
        have h8 : 256 ^ j ≤ 256 ^ 8 := Nat.pow_le_pow_right (by omega) hj
        have h9 : q ≤ m := Hle.out q ds hbe
        omega
      clear hq hbe hC hds hjd
      go_wp2
      go_roundw
      case rel => exact ⟨q / 256, j - 1, _, _, by go_num, by go_num, by omega, Hst.out.1, Hst.out.2.1, Hst.out.2.2.1, Hst.out.2.2.2.1, Hst.out.2.2.2.2, rfl⟩
      case measure => simp [intOf]; omega
    · obtain rfl : q = 0 := by omega
      rw [be_zero, List.nil_append] at hbe
      have Hfin := Lib.hid (num_last (n := -1 - (m : Int)) 128 (.inr ⟨rfl, rfl⟩) hbe (L := 8 - j) (by omega) (by omega))
      have hor := sign_or 128 (.inr rfl) (8 - j) (by omega)
      have hw8 : IntKind.i64.wrap (8 - (j : Int)) = ((8 - j : Nat) : Int) := by rw [IntWalk.i64_in _ (by omega)]; omega
      obtain ⟨A, hsl, hcv⟩ := Lb.arr_tail (P := Tryd.prog) (src := 186) (dst := 9) (e := 5) (t := 222) (z := .int .u8 0) Tryd.underlying186 Tryd.underlying5 Tryd.underlying9 (b := w.heap.size) (n := 8) j hds (by omega) hj Tryd.underlying222 (by kernel_rfl)
      have hc1 := hcv (w.alloc (.cells C 222)).drew (0, 0) (heap_alloc_new w _)
      have hc2 := hcv ((w.alloc (.cells C 222)).alloc (.cells #[.int .u8 (128 + ((8 - j : Nat) : Int))] 5)).drew (0, 0) (heap_alloc2_old w _ _)
      have hc3 := Lb.run_str_one (P := Tryd.prog) (src := 186) (dst := 9) (e := 5) (t := 5) (fr := (0, 0)) Tryd.underlying186 Tryd.underlying5 Tryd.underlying9 (b := w.heap.size + 1) (x := 128 + ((8 - j : Nat) : Int)) (by omega) (by omega)
        ((w.alloc (.cells C 222)).alloc (.cells #[.int .u8 (128 + ((8 - j : Nat) : Int))] 5)).drew (heap_alloc2_new w _ _) 1
      have hsz : ds.length ≤ 8 := by omega
      clear hcv hjd hbe hds hC hq
      go_wp2
      go_region
      go_wp2
      go_ret
      exact ⟨by rw [← Hfin.out]; clear hor hw8 hsl hc1 hc2 hc3; rw [show (128 + ((8 - j : Nat) : Int)).toNat = 128 + (8 - j) from by omega]; simp, (((Below.refl _ _).alloc (Nat.le_refl _) _).alloc (by simp) _).drew⟩

theorem num_any (n : Int) (w : World) (h0 : -9223372036854775808 ≤ n) (h1 : n ≤ 9223372036854775807) :
    Calls Tryd.prog 122 #[.int .i64 n] w fun e w' => e = .returned (.string ⟨(num n).toArray⟩) ∧ Below w.heap.size w w' := by
  by_cases h : n < 0
  · obtain ⟨m, rfl⟩ : ∃ m : Nat, n = -1 - (m : Int) := ⟨(-1 - n).toNat, by omega⟩
    exact num_neg m w (by omega)
  · obtain ⟨m, rfl⟩ : ∃ m : Nat, n = m := ⟨n.toNat, by omega⟩
    exact num_pos m w (by omega)
end Go.Proofs.YtfbjbhddapoopaaDoor
