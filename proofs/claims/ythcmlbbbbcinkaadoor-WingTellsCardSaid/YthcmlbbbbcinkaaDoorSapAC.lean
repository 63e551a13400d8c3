/-
  The walks of sap.count, sap.ReadText, sap.Text.
-/
import Derived.Test.YthcmlbbbbcinkaaDoorProg
import Derived.Test.YthcmlbbbbcinkaaDoorBase
import Derived.WalkKit
import Derived.WalkSpells
import Derived.WalkLawsBesides
import Derived.BigRegion
import Derived.BigQuiet
import Derived.Deep.QuietTactic
import Derived.Lib.Hide
set_option linter.unusedVariables false
set_option linter.unusedSimpArgs false
namespace Go.Proofs.YthcmlbbbbcinkaaDoor
open Go.RowKit Pl


theorem num_step {q j m : Nat} {ds : List UInt8} {C : Array Value} (hq0 : 0 < q) (hj1 : 1 ≤ j) (hjd : j + ds.length = 8) (hq : q < 256 ^ j) (hbe : be m = be q ++ ds) (hC : C.size = 8) (hds : C.toList.drop j = Lib.byteCells ds) :
    (j - 1) + (UInt8.ofNat (q % 256) :: ds).length = 8 ∧ q / 256 < 256 ^ (j - 1) ∧ be m = be (q / 256) ++ (UInt8.ofNat (q % 256) :: ds) ∧ (C.setIfInBounds (j - 1) (Value.int IntKind.u8 ((q : Int) % 256))).size = 8 ∧
      (C.setIfInBounds (j - 1) (Value.int IntKind.u8 ((q : Int) % 256))).toList.drop (j - 1) = Lib.byteCells (UInt8.ofNat (q % 256) :: ds) := by
  obtain ⟨i, rfl⟩ : ∃ i, j = i + 1 := ⟨j - 1, by omega⟩
  refine ⟨by simp; omega, ?_, ?_, by simpa using hC, ?_⟩
  · rw [Nat.pow_succ] at hq
    exact Nat.div_lt_of_lt_mul (by simpa [Nat.mul_comm] using hq)
  · rw [hbe, be_pos hq0]; simp
  · simp only [Nat.add_sub_cancel, Array.toList_setIfInBounds]
    rw [drop_set C.toList i _ (Lib.byteCells ds) (by simp; omega) hds]
    simp [Lib.byteCells]

theorem num_last {m : Nat} {n : Int} {ds : List UInt8} {L : Nat} (s : Int) (hn : n = m ∧ s = 0 ∨ n = -1 - (m : Int) ∧ s = 128) (hbe : be m = ds) (hL : ds.length = L) (hL8 : L ≤ 8) :
    (⟨#[UInt8.ofNat (s + L).toNat]⟩ : ByteArray) ++ ⟨ds.toArray⟩ = ⟨(num n).toArray⟩ := by
  have h : num n = UInt8.ofNat (s + L).toNat :: ds := by
    rcases hn with ⟨rfl, rfl⟩ | ⟨rfl, rfl⟩
    · have e : mag (m : Int) = m := by unfold mag; split <;> omega
      unfold num; rw [e, hbe, if_neg (by omega), hL]; congr 2 <;> omega
    · have e : mag (-1 - (m : Int)) = m := by unfold mag; split <;> omega
      unfold num; rw [e, hbe, if_pos (by omega), hL]; congr 2 <;> omega
  rw [h]
  exact ByteArray.mk_append_mk [_] ds

set_option maxHeartbeats 1000000 in
theorem num_pos (m : Nat) (w : World) (hm : m < 9223372036854775808) :
    Calls Tryd.prog 13 #[.int .i64 m] w fun e w' => e = .returned (.string ⟨(num m).toArray⟩) ∧ Below w.heap.size w w' := by
  have Hle := Lib.hid (be_le m)
  have h00 : ¬ (m : Int) < 0 := by omega
  go_enter Tryd.func13, Tryd.ntmps13
  go_wp2
  go_loopw [0, 5] (fun v p wr => ∃ (q j : Nat) (ds : List UInt8) (C : Array Value), v = .int .i64 q ∧ p = .int .i64 j ∧ j ≤ 8 ∧ j + ds.length = 8 ∧ q < 256 ^ j ∧ be m = be q ++ ds ∧ C.size = 8 ∧ C.toList.drop j = Lib.byteCells ds ∧ wr = w.alloc (.cells C 84))
    (fun _ p _ => (intOf p).toNat)
  case atStart => exact ⟨m, 8, [], _, rfl, rfl, by omega, rfl, by omega, by simp, rfl, rfl, rfl⟩
  case round =>
    obtain ⟨q, j, ds, C, rfl, rfl, hj, hjd, hq, hbe, hC, hds, rfl⟩ := hrel
    by_cases hq0 : 0 < q
    · have hj1 : 1 ≤ j := by
        rcases Nat.eq_zero_or_pos j with h | h
        · subst h; simp at hq; omega
        · exact h
      have Hst := Lib.hid (num_step hq0 hj1 hjd hq hbe hC hds)
      obtain ⟨cv, hcv⟩ : ∃ cv, C[j - 1]? = some cv := ⟨C[j - 1]'(by omega), Array.getElem?_eq_getElem (by omega)⟩
      have hq9 : (q : Int) ≤ 9223372036854775807 := by
        have h8 : 256 ^ j ≤ 256 ^ 8 := Nat.pow_le_pow_right (by omega) hj
        have h9 : q ≤ m := Hle.out q ds hbe
        omega
      clear hq hbe hC hds hjd
      go_wp2
      go_roundw
      case rel => exact ⟨q / 256, j - 1, _, _, by go_num, by go_num, by omega, Hst.out.1, Hst.out.2.1, Hst.out.2.2.1, Hst.out.2.2.2.1, Hst.out.2.2.2.2, rfl⟩
      case measure => simp [intOf]; omega
    · obtain rfl : q = 0 := by omega
      rw [be_zero, List.nil_append] at hbe
      have Hfin := Lib.hid (num_last (n := m) 0 (.inl ⟨rfl, rfl⟩) hbe (L := 8 - j) (by omega) (by omega))
      have hor := sign_or 0 (.inl rfl) (8 - j) (by omega)
      have hw8 : IntKind.i64.wrap (8 - (j : Int)) = ((8 - j : Nat) : Int) := by rw [IntWalk.i64_in _ (by omega)]; omega
      obtain ⟨A, hsl, hcv⟩ := Lb.arr_tail (P := Tryd.prog) (src := 45) (dst := 9) (e := 5) (t := 84) (z := .int .u8 0) Tryd.underlying45 Tryd.underlying5 Tryd.underlying9 (b := w.heap.size) (n := 8) j hds (by omega) hj Tryd.underlying84 (by kernel_rfl)
      have hc1 := hcv (w.alloc (.cells C 84)).drew (0, 0) (heap_alloc_new w _)
      have hc2 := hcv ((w.alloc (.cells C 84)).alloc (.cells #[.int .u8 (((8 - j : Nat) : Int))] 5)).drew (0, 0) (heap_alloc2_old w _ _)
      have hc3 := Lb.run_str_one (P := Tryd.prog) (src := 45) (dst := 9) (e := 5) (t := 5) (fr := (0, 0)) Tryd.underlying45 Tryd.underlying5 Tryd.underlying9 (b := w.heap.size + 1) (x := ((8 - j : Nat) : Int)) (by omega) (by omega)
        ((w.alloc (.cells C 84)).alloc (.cells #[.int .u8 (((8 - j : Nat) : Int))] 5)).drew (heap_alloc2_new w _ _) 1
      have hsz : ds.length ≤ 8 := by omega
      clear hcv hjd hbe hds hC hq
      go_wp2
      go_region
      go_wp2
      go_ret
      exact ⟨by rw [← Hfin.out]; clear hor hw8 hsl hc1 hc2 hc3; simp, (((Below.refl _ _).alloc (Nat.le_refl _) _).alloc (by simp) _).drew⟩
set_option maxHeartbeats 1000000 in
theorem num_neg (m : Nat) (w : World) (hm : m < 9223372036854775808) :
    Calls Tryd.prog 13 #[.int .i64 (-1 - (m : Int))] w fun e w' => e = .returned (.string ⟨(num (-1 - (m : Int))).toArray⟩) ∧ Below w.heap.size w w' := by
  have Hle := Lib.hid (be_le m)
  have h00 : (-1 - (m : Int)) < 0 := by omega
  have hx := xor_ones (-1 - (m : Int)) (by omega) (by omega)
  have hx2 : -1 - (-1 - (m : Int)) = m := by omega
  go_enter Tryd.func13, Tryd.ntmps13
  go_wp2
  go_loopw [0, 5] (fun v p wr => ∃ (q j : Nat) (ds : List UInt8) (C : Array Value), v = .int .i64 q ∧ p = .int .i64 j ∧ j ≤ 8 ∧ j + ds.length = 8 ∧ q < 256 ^ j ∧ be m = be q ++ ds ∧ C.size = 8 ∧ C.toList.drop j = Lib.byteCells ds ∧ wr = w.alloc (.cells C 84))
    (fun _ p _ => (intOf p).toNat)
  case atStart => exact ⟨m, 8, [], _, rfl, rfl, by omega, rfl, by omega, by simp, rfl, rfl, rfl⟩
  case round =>
    obtain ⟨q, j, ds, C, rfl, rfl, hj, hjd, hq, hbe, hC, hds, rfl⟩ := hrel
    by_cases hq0 : 0 < q
    · have hj1 : 1 ≤ j := by
        rcases Nat.eq_zero_or_pos j with h | h
        · subst h; simp at hq; omega
        · exact h
      have Hst := Lib.hid (num_step hq0 hj1 hjd hq hbe hC hds)
      obtain ⟨cv, hcv⟩ : ∃ cv, C[j - 1]? = some cv := ⟨C[j - 1]'(by omega), Array.getElem?_eq_getElem (by omega)⟩
      have hq9 : (q : Int) ≤ 9223372036854775807 := by
        have h8 : 256 ^ j ≤ 256 ^ 8 := Nat.pow_le_pow_right (by omega) hj
        have h9 : q ≤ m := Hle.out q ds hbe
        omega
      clear hq hbe hC hds hjd
      go_wp2
      go_roundw
      case rel => exact ⟨q / 256, j - 1, _, _, by go_num, by go_num, by omega, Hst.out.1, Hst.out.2.1, Hst.out.2.2.1, Hst.out.2.2.2.1, Hst.out.2.2.2.2, rfl⟩
      case measure => simp [intOf]; omega
    · obtain rfl : q = 0 := by omega
      rw [be_zero, List.nil_append] at hbe
      have Hfin := Lib.hid (num_last (n := -1 - (m : Int)) 128 (.inr ⟨rfl, rfl⟩) hbe (L := 8 - j) (by omega) (by omega))
      have hor := sign_or 128 (.inr rfl) (8 - j) (by omega)
      have hw8 : IntKind.i64.wrap (8 - (j : Int)) = ((8 - j : Nat) : Int) := by rw [IntWalk.i64_in _ (by omega)]; omega
      obtain ⟨A, hsl, hcv⟩ := Lb.arr_tail (P := Tryd.prog) (src := 45) (dst := 9) (e := 5) (t := 84) (z := .int .u8 0) Tryd.underlying45 Tryd.underlying5 Tryd.underlying9 (b := w.heap.size) (n := 8) j hds (by omega) hj Tryd.underlying84 (by kernel_rfl)
      have hc1 := hcv (w.alloc (.cells C 84)).drew (0, 0) (heap_alloc_new w _)
      have hc2 := hcv ((w.alloc (.cells C 84)).alloc (.cells #[.int .u8 (128 + ((8 - j : Nat) : Int))] 5)).drew (0, 0) (heap_alloc2_old w _ _)
      have hc3 := Lb.run_str_one (P := Tryd.prog) (src := 45) (dst := 9) (e := 5) (t := 5) (fr := (0, 0)) Tryd.underlying45 Tryd.underlying5 Tryd.underlying9 (b := w.heap.size + 1) (x := 128 + ((8 - j : Nat) : Int)) (by omega) (by omega)
        ((w.alloc (.cells C 84)).alloc (.cells #[.int .u8 (128 + ((8 - j : Nat) : Int))] 5)).drew (heap_alloc2_new w _ _) 1
      have hsz : ds.length ≤ 8 := by omega
      clear hcv hjd hbe hds hC hq
      go_wp2
      go_region
      go_wp2
      go_ret
      exact ⟨by rw [← Hfin.out]; clear hor hw8 hsl hc1 hc2 hc3; rw [show (128 + ((8 - j : Nat) : Int)).toNat = 128 + (8 - j) from by omega]; simp, (((Below.refl _ _).alloc (Nat.le_refl _) _).alloc (by simp) _).drew⟩

theorem num_any (n : Int) (w : World) (h0 : -9223372036854775808 ≤ n) (h1 : n ≤ 9223372036854775807) :
    Calls Tryd.prog 13 #[.int .i64 n] w fun e w' => e = .returned (.string ⟨(num n).toArray⟩) ∧ Below w.heap.size w w' := by
  by_cases h : n < 0
  · obtain ⟨m, rfl⟩ : ∃ m : Nat, n = -1 - (m : Int) := ⟨(-1 - n).toNat, by omega⟩
    exact num_neg m w (by omega)
  · obtain ⟨m, rfl⟩ : ∃ m : Nat, n = m := ⟨n.toNat, by omega⟩
    exact num_pos m w (by omega)
end Go.Proofs.YthcmlbbbbcinkaaDoor

set_option linter.unusedVariables false
set_option linter.unusedSimpArgs false
namespace Go.Proofs.YthcmlbbbbcinkaaDoor
open Go.RowKit Pl
attribute [local go_sem] Lb.ba_get Lb.ba_cut Lb.ba_add Lb.ba_size Lb.take_rest

theorem readNum_nil (w : World) :
    Calls Tryd.prog 79 #[.string ⟨#[]⟩] w fun e w' => e = .returned (.tuple #[.int .i64 0, .string ⟨#[]⟩, .bool false]) ∧ Below w.heap.size w w' := by
  go_enter Tryd.func79, Tryd.ntmps79
  go_wp2
  go_ret3
  exact ⟨rfl, Below.refl _ _⟩

set_option maxHeartbeats 1000000 in
theorem readNum_no (b : UInt8) (l : List UInt8) (w : World) (h0 : l.length < 9223372036854775807) (h : 8 < b.toNat % 128 ∨ b.toNat % 128 ≤ 8 ∧ l.length < b.toNat % 128) :
    Calls Tryd.prog 79 #[.string ⟨(b :: l).toArray⟩] w fun e w' => e = .returned (.tuple #[.int .i64 0, .string ⟨#[]⟩, .bool false]) ∧ Below w.heap.size w w' := by
  have ha := u8_andNot128 b
  obtain ⟨k, hk⟩ : ∃ k, k = b.toNat % 128 := ⟨_, rfl⟩
  rw [← hk] at ha h
  have hk2 : k < 128 := by omega
  clear hk
  rcases h with h | ⟨h, h'⟩
  all_goals
    go_enter Tryd.func79, Tryd.ntmps79
    go_wp2
    go_region
    go_wp2
    go_ret3
    exact ⟨rfl, (Below.refl _ _).drew⟩

set_option maxHeartbeats 1000000 in
theorem readNum_lead (b : UInt8) (l : List UInt8) (w : World) (h0 : l.length + 1 < 9223372036854775807) (h : 0 < b.toNat % 128) (h2 : b.toNat % 128 ≤ 8) (h3 : b.toNat % 128 ≤ l.length + 1) :
    Calls Tryd.prog 79 #[.string ⟨(b :: 0 :: l).toArray⟩] w fun e w' => e = .returned (.tuple #[.int .i64 0, .string ⟨#[]⟩, .bool false]) ∧ Below w.heap.size w w' := by
  have ha := u8_andNot128 b
  obtain ⟨k, hk⟩ : ∃ k, k = b.toNat % 128 := ⟨_, rfl⟩
  rw [← hk] at ha h h2 h3
  clear hk
  go_enter Tryd.func79, Tryd.ntmps79
  go_wp2
  go_region
  go_wp2
  go_ret3
  exact ⟨rfl, (Below.refl _ _).drew⟩

def numOut (b : UInt8) (l : List UInt8) (k : Nat) : Value :=
  if 9223372036854775808 ≤ val (l.take k) then .tuple #[.int .i64 0, .string ⟨#[]⟩, .bool false]
  else .tuple #[.int .i64 (if 128 ≤ b.toNat then -1 - (val (l.take k) : Int) else (val (l.take k) : Int)), .string ⟨(l.drop k).toArray⟩, .bool true]

set_option maxHeartbeats 4000000 in
set_option maxRecDepth 100000 in
theorem readNum_go (b : UInt8) (l : List UInt8) (w : World) (h0 : l.length + 1 < 9223372036854775807) (h2 : b.toNat % 128 ≤ 8) (h3 : b.toNat % 128 ≤ l.length) (h4 : ((b.toNat % 128 : Nat) : Int) < 1 ∨ 0 < b.toNat % 128 ∧ 0 < l.length ∧ ∀ h : 0 < l.length, (((l[0]'h).toNat : Int) == 0) = false) :
    Calls Tryd.prog 79 #[.string ⟨(b :: l).toArray⟩] w fun e w' => e = .returned (numOut b l (b.toNat % 128)) ∧ Below w.heap.size w w' := by
  have ha := u8_andNot128 b
  have hb := u8_and128 b
  obtain ⟨k, hk⟩ : ∃ k, k = b.toNat % 128 := ⟨_, rfl⟩
  rw [← hk] at ha h2 h3 h4 ⊢
  clear hk
  obtain ⟨W1, cap, hcv, hB, hsz, hcell⟩ := Lb.str_bytes (P := Tryd.prog) (src := 9) (dst := 45) (e := 5) Tryd.underlying9 Tryd.underlying45 Tryd.underlying5 (l.take k) w.drew
  have hlen : (l.take k).length = k := by simp; omega
  rw [hlen] at hcv
  have Hlen := Lib.hid hlen; clear hlen
  have Hcell := Lib.hid hcell; clear hcell
  rcases h4 with h4 | ⟨h4, h5, h6⟩
  all_goals
    go_enter Tryd.func79, Tryd.ntmps79
    go_wp2
    go_region
    go_wp2
    go_loop [7, 41] (fun v p => ∃ i : Nat, i ≤ k ∧ p = .int .i64 i ∧ v = .int .u64 (val (l.take i))) (fun _ p => k - (intOf p).toNat)
    case atStart => exact ⟨0, by omega, rfl, rfl⟩
    case round =>
      obtain ⟨i, hi, rfl, rfl⟩ := hrel
      have hvt := val_take_lt l i
      obtain ⟨v, hv⟩ : ∃ v, v = val (l.take i) := ⟨_, rfl⟩
      rw [← hv] at hvt ⊢
      by_cases hik : i < k
      · have hv2 : v < 72057594037927936 := Nat.lt_of_lt_of_le hvt (show 256 ^ i ≤ 256 ^ 7 from Nat.pow_le_pow_right (by omega) (by omega))
        have hc := Hcell.out i (by rw [Hlen.out]; exact hik)
        have hs := val_take_succ l i (by omega)
        rw [List.getElem_take, show w.drew.heap.size = w.heap.size from rfl] at hc
        obtain ⟨c, hcc⟩ : ∃ c, c = l[i]'(by omega) := ⟨_, rfl⟩
        rw [← hcc] at hc hs
        rw [← hv] at hs
        have hp := u64_push v c hv2
        have hc256 : (c.toNat : Int) < 256 := by have := c.toNat_lt; omega
        have Hs := Lib.hid hs
        clear hs hcc hv hvt
        go_wp2
        go_round
        case rel => exact ⟨i + 1, by omega, by go_num, by rw [Hs.out]; simp⟩
        case measure => simp [intOf]; omega
      · obtain rfl : i = k := by omega
        have hV : v < 18446744073709551616 := Nat.lt_of_lt_of_le hvt (show 256 ^ i ≤ 256 ^ 8 from Nat.pow_le_pow_right (by omega) (by omega))
        have Hout : Hid (numOut b l i = if 9223372036854775808 ≤ v then Value.tuple #[.int .i64 0, .string ⟨#[]⟩, .bool false] else Value.tuple #[.int .i64 (if 128 ≤ b.toNat then -1 - (v : Int) else v), .string ⟨(l.drop i).toArray⟩, .bool true]) := by
          unfold numOut; rw [hv]; rfl
        have hkI : (i : Int) ≤ (l.length : Int) := by omega
        have hkI0 : (0 : Int) ≤ (i : Int) := by omega
        clear hvt hv
        by_cases hV2 : 9223372036854775808 ≤ v
        · rw [if_pos hV2] at Hout
          go_wp2
          go_ret3
          exact ⟨by rw [Hout.out]; rfl, (Below.refl _ _).drew.trans hB⟩
        · rw [if_neg hV2] at Hout
          have hx := xor_nat v (by omega)
          by_cases hb8 : 128 ≤ b.toNat
          · rw [if_pos hb8] at hb Hout
            go_wp2
            go_region
            go_wp2
            go_ret3
            exact ⟨by rw [Hout.out]; rfl, ((Below.refl _ _).drew.trans hB).drew⟩
          · rw [if_neg hb8] at hb Hout
            go_wp2
            go_region
            go_wp2
            go_ret3
            exact ⟨by rw [Hout.out]; rfl, ((Below.refl _ _).drew.trans hB).drew⟩

theorem readNum_some {l r : List UInt8} {n : Int} (h : rdNum l = some (n, r)) (w : World) (h0 : l.length < 9223372036854775807) :
    Calls Tryd.prog 79 #[.string ⟨l.toArray⟩] w fun e w' => e = .returned (.tuple #[.int .i64 n, .string ⟨r.toArray⟩, .bool true]) ∧ Below w.heap.size w w' := by
  cases l with
  | nil => simp [rdNum] at h
  | cons b l =>
    rw [rdNum] at h
    split at h
    · cases h
    · rename_i hc
      simp only [not_or, Nat.not_lt, not_and] at hc
      obtain ⟨c1, c2, c3, c4⟩ := hc
      simp only [Option.some.injEq, Prod.mk.injEq] at h
      obtain ⟨h1, h2⟩ := h
      have hg := readNum_go b l w (by simpa using h0) c1 c2 (by
        rcases Nat.eq_zero_or_pos (b.toNat % 128) with hz | hz
        · left; omega
        · right
          have hl : 0 < l.length := by omega
          refine ⟨hz, hl, fun hh => ?_⟩
          have := c3 hz
          cases l with
          | nil => simp at hl
          | cons c l =>
            simp only [List.head?_cons, Option.some.injEq] at this
            have h3 : ¬ c.toNat = 0 := fun e => this (UInt8.toNat_inj.1 (by simpa using e))
            simp only [List.getElem_cons_zero, beq_eq_false_iff_ne, ne_eq]
            omega)
      refine hg.mono fun e w' ⟨he, hB⟩ => ⟨?_, hB⟩
      rw [he]
      unfold numOut
      rw [if_neg c4, h1, h2]

theorem readNum_none {l : List UInt8} (h : rdNum l = none) (w : World) (h0 : l.length < 9223372036854775807) :
    Calls Tryd.prog 79 #[.string ⟨l.toArray⟩] w fun e w' => e = .returned (.tuple #[.int .i64 0, .string ⟨#[]⟩, .bool false]) ∧ Below w.heap.size w w' := by
  cases l with
  | nil => exact readNum_nil w
  | cons b l =>
    rw [rdNum] at h
    split at h
    · rename_i hc
      by_cases c1 : b.toNat % 128 > 8
      · exact readNum_no b l w (by simp at h0; omega) (.inl c1)
      by_cases c2 : b.toNat % 128 > l.length
      · exact readNum_no b l w (by simp at h0; omega) (.inr ⟨by omega, c2⟩)
      by_cases c3 : 0 < b.toNat % 128 ∧ l.head? = some 0
      · obtain ⟨hz, hh⟩ := c3
        cases l with
        | nil => simp at hh
        | cons c l =>
          simp only [List.head?_cons, Option.some.injEq] at hh
          subst hh
          exact readNum_lead b l w (by simp at h0; omega) hz (by omega) (by simp at c2; omega)
      · have c4 : 9223372036854775808 ≤ val (l.take (b.toNat % 128)) := by
          rcases hc with h | h | h | h
          · omega
          · omega
          · exact absurd h c3
          · exact h
        have hg := readNum_go b l w (by simpa using h0) (by omega) (by omega) (by
          rcases Nat.eq_zero_or_pos (b.toNat % 128) with hz | hz
          · left; omega
          · right
            have hl : 0 < l.length := by omega
            refine ⟨hz, hl, fun hh => ?_⟩
            have := fun e => c3 ⟨hz, e⟩
            cases l with
            | nil => simp at hl
            | cons c l =>
              simp only [List.head?_cons, Option.some.injEq] at this
              have h3 : ¬ c.toNat = 0 := fun e => this (UInt8.toNat_inj.1 (by simpa using e))
              simp only [List.getElem_cons_zero, beq_eq_false_iff_ne, ne_eq]
              omega)
        refine hg.mono fun e w' ⟨he, hB⟩ => ⟨?_, hB⟩
        rw [he]
        unfold numOut
        rw [if_pos c4]
    · cases h

end Go.Proofs.YthcmlbbbbcinkaaDoor

set_option linter.unusedVariables false
set_option linter.unusedSimpArgs false
namespace Go.Proofs.YthcmlbbbbcinkaaDoor
open Go.RowKit Pl
attribute [local go_sem] Lb.ba_get Lb.ba_cut Lb.ba_add Lb.ba_size Lb.take_rest

set_option maxHeartbeats 1000000 in
theorem count_none {l : List UInt8} (most : Int) (h : rdNum l = none) (w : World) (h0 : l.length < 9223372036854775807) :
    Calls Tryd.prog 55 #[.string ⟨l.toArray⟩, .int .i64 most] w fun e w' => e = .returned (.tuple #[.int .i64 0, .string ⟨#[]⟩, .bool false]) ∧ Below w.heap.size w w' := by
  go_enter Tryd.func55, Tryd.ntmps55
  go_wp2_with (go_at_call 79; refine (readNum_none h _ h0).mono ?_; rintro e w1 ⟨rfl, hB⟩)
  go_ret3
  exact ⟨rfl, hB⟩

set_option maxHeartbeats 1000000 in
theorem count_no {l r : List UInt8} {n : Int} (most : Int) (h : rdNum l = some (n, r)) (hno : ¬ (0 ≤ n ∧ n ≤ most ∧ n ≤ r.length)) (w : World) (h0 : l.length < 9223372036854775807) :
    Calls Tryd.prog 55 #[.string ⟨l.toArray⟩, .int .i64 most] w fun e w' => e = .returned (.tuple #[.int .i64 n, .string ⟨r.toArray⟩, .bool false]) ∧ Below w.heap.size w w' := by
  have H := Lib.hid h
  clear h
  have hc : n < 0 ∨ 0 ≤ n ∧ (most < n ∨ n ≤ most ∧ (r.length : Int) < n) := by omega
  clear hno
  rcases hc with hc | ⟨hc, hd | ⟨hd, he⟩⟩
  all_goals
    go_enter Tryd.func55, Tryd.ntmps55
    go_wp2_with (go_at_call 79; refine (readNum_some H.out _ h0).mono ?_; rintro e w1 ⟨rfl, hB⟩)
    go_ret3
    exact ⟨by first | (simp; done) | (simp; omega), hB⟩

set_option maxHeartbeats 1000000 in
theorem count_yes {l r : List UInt8} {n : Nat} {most : Int} (h : rdNum l = some ((n : Int), r)) (h1 : (n : Int) ≤ most) (h2 : n ≤ r.length) (w : World) (h0 : l.length < 9223372036854775807) :
    Calls Tryd.prog 55 #[.string ⟨l.toArray⟩, .int .i64 most] w fun e w' => e = .returned (.tuple #[.int .i64 n, .string ⟨r.toArray⟩, .bool true]) ∧ Below w.heap.size w w' := by
  have H := Lib.hid h
  clear h
  have h3 : (n : Int) ≤ (r.length : Int) := by omega
  go_enter Tryd.func55, Tryd.ntmps55
  go_wp2_with (go_at_call 79; refine (readNum_some H.out _ h0).mono ?_; rintro e w1 ⟨rfl, hB⟩)
  go_ret3
  exact ⟨by simp, hB⟩

set_option maxHeartbeats 1000000 in
theorem readText_none {l : List UInt8} {most : Int} (h : rdText l most = none) (w : World) (h0 : l.length < 9223372036854775807) :
    Calls Tryd.prog 56 #[.string ⟨l.toArray⟩, .int .i64 most] w fun e w' => e = .returned (.tuple #[.string ⟨#[]⟩, .string ⟨#[]⟩, .bool false]) ∧ Below w.heap.size w w' := by
  have hc : ∃ n r, ∀ w : World, Calls Tryd.prog 55 #[.string ⟨l.toArray⟩, .int .i64 most] w fun e w' => e = .returned (.tuple #[.int .i64 n, .string ⟨List.toArray r⟩, .bool false]) ∧ Below w.heap.size w w' := by
    unfold rdText at h
    cases hr : rdNum l with
    | none => exact ⟨0, [], fun w => count_none most hr w h0⟩
    | some p =>
      obtain ⟨n, r⟩ := p
      rw [hr] at h
      simp only at h
      split at h
      · cases h
      · rename_i hno
        exact ⟨n, r, fun w => count_no most hr hno w h0⟩
  obtain ⟨n, r, hc⟩ := hc
  have Hc := Lib.hid hc
  clear hc h
  go_enter Tryd.func56, Tryd.ntmps56
  go_wp2_with (go_at_call 55; refine (Hc.out _).mono ?_; rintro e w1 ⟨rfl, hB⟩)
  go_ret3
  exact ⟨rfl, hB⟩

theorem rdText_some {l t r : List UInt8} {most : Int} (h : rdText l most = some (t, r)) : ∃ (n : Nat) (q : List UInt8), rdNum l = some ((n : Int), q) ∧ (n : Int) ≤ most ∧ n ≤ q.length ∧ t = q.take n ∧ r = q.drop n := by
  unfold rdText at h
  cases hr : rdNum l with
  | none => rw [hr] at h; cases h
  | some p =>
    obtain ⟨n, q⟩ := p
    rw [hr] at h
    simp only at h
    split at h
    · rename_i hy
      simp only [Option.some.injEq, Prod.mk.injEq] at h
      refine ⟨n.toNat, q, ?_, by omega, by omega, h.1.symm, h.2.symm⟩
      rw [Int.toNat_of_nonneg hy.1]
    · cases h

set_option maxHeartbeats 1000000 in
theorem readText_some {l t r : List UInt8} {most : Int} (h : rdText l most = some (t, r)) (w : World) (h0 : l.length < 9223372036854775807) :
    Calls Tryd.prog 56 #[.string ⟨l.toArray⟩, .int .i64 most] w fun e w' => e = .returned (.tuple #[.string ⟨t.toArray⟩, .string ⟨r.toArray⟩, .bool true]) ∧ Below w.heap.size w w' := by
  obtain ⟨n, q, h1, h2, h3, rfl, rfl⟩ := rdText_some h
  have Hc := Lib.hid (count_yes h1 h2 h3)
  clear h h1
  have h4 : (n : Int) ≤ (q.length : Int) := by omega
  have h5 : (0 : Int) ≤ (n : Int) := by omega
  go_enter Tryd.func56, Tryd.ntmps56
  go_wp2_with (go_at_call 55; refine (Hc.out _ h0).mono ?_; rintro e w1 ⟨rfl, hB⟩)
  go_region
  go_wp2
  go_ret3
  exact ⟨by simp, hB.drew⟩

set_option maxHeartbeats 1000000 in
theorem text_any (l : List UInt8) (w : World) (h0 : l.length < 9223372036854775000) :
    Calls Tryd.prog 38 #[.string ⟨l.toArray⟩] w fun e w' => e = .returned (.string ⟨(num l.length ++ l).toArray⟩) ∧ Below w.heap.size w w' := by
  have hn : (num l.length).length ≤ 9 := num_length l.length (by omega)
  go_enter Tryd.func38, Tryd.ntmps38
  go_wp2_with (go_at_call 13; refine (num_any l.length _ (by omega) (by omega)).mono ?_; rintro e w1 ⟨rfl, hB⟩)
  go_ret
  exact ⟨rfl, hB⟩
end Go.Proofs.YthcmlbbbbcinkaaDoor
