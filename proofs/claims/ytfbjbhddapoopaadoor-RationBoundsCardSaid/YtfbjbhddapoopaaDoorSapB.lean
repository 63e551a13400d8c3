/-
  The walk of sap.ReadNum.
-/
import Derived.Test.YtfbjbhddapoopaaDoorSapA
set_option linter.unusedVariables false
set_option linter.unusedSimpArgs false
namespace Go.Proofs.YtfbjbhddapoopaaDoor
open Go.RowKit Pl
attribute [local go_sem] Lb.ba_get Lb.ba_cut Lb.ba_add Lb.ba_size Lb.take_rest

theorem readNum_nil (w : World) :
    Calls Tryd.prog 121 #[.string ⟨#[]⟩] w fun e w' => e = .returned (.tuple #[.int .i64 0, .string ⟨#[]⟩, .bool false]) ∧ Below w.heap.size w w' := by
  go_enter Tryd.func121, Tryd.ntmps121
  go_wp2
  go_ret3
  exact ⟨rfl, Below.refl _ _⟩

set_option maxHeartbeats 1000000 in
theorem readNum_no (b : UInt8) (l : List UInt8) (w : World) (h0 : l.length < 9223372036854775807) (h : 8 < b.toNat % 128 ∨ b.toNat % 128 ≤ 8 ∧ l.length < b.toNat % 128) :
    Calls Tryd.prog 121 #[.string ⟨(b :: l).toArray⟩] w fun e w' => e = .returned (.tuple #[.int .i64 0, .string ⟨#[]⟩, .bool false]) ∧ Below w.heap.size w w' := by
  have ha := u8_andNot128 b
  obtain ⟨k, hk⟩ : ∃ k, k = b.toNat % 128 := ⟨_, rfl⟩
  rw [← hk] at ha h
  have hk2 : k < 128 := by omega
  clear hk
  rcases h with h | ⟨h, h'⟩
  all_goals
    go_enter Tryd.func121, Tryd.ntmps121
    go_wp2
    go_region
    go_wp2
    go_ret3
    exact ⟨rfl, (Below.refl _ _).drew⟩

set_option maxHeartbeats 1000000 in
theorem readNum_lead (b : UInt8) (l : List UInt8) (w : World) (h0 : l.length + 1 < 9223372036854775807) (h : 0 < b.toNat % 128) (h2 : b.toNat % 128 ≤ 8) (h3 : b.toNat % 128 ≤ l.length + 1) :
    Calls Tryd.prog 121 #[.string ⟨(b :: 0 :: l).toArray⟩] w fun e w' => e = .returned (.tuple #[.int .i64 0, .string ⟨#[]⟩, .bool false]) ∧ Below w.heap.size w w' := by
  have ha := u8_andNot128 b
  obtain ⟨k, hk⟩ : ∃ k, k = b.toNat % 128 := ⟨_, rfl⟩
  rw [← hk] at ha h h2 h3
  clear hk
  go_enter Tryd.func121, Tryd.ntmps121
  go_wp2
  go_region
  go_wp2
  go_ret3
  exact ⟨rfl, (Below.refl _ _).drew⟩

def numOut (b : UInt8) (l : List UInt8) (k : Nat) : Value :=
  if 9223372036854775808 ≤ val (l.take k) then .tuple #[.int .i64 0, .string ⟨#[]⟩, .bool false]
  else .tuple #[.int .i64 (if 128 ≤ b.toNat then -1 - (val (l.take k) : Int) else (val (l.take k) : Int)), .string ⟨(l.drop k).toArray⟩, .bool true]

set_option maxHeartbeats 4000000 in
set_option maxRecDepth 100000 in
theorem readNum_go (b : UInt8) (l : List UInt8) (w : World) (h0 : l.length + 1 < 9223372036854775807) (h2 : b.toNat % 128 ≤ 8) (h3 : b.toNat % 128 ≤ l.length) (h4 : ((b.toNat % 128 : Nat) : Int) < 1 ∨ 0 < b.toNat % 128 ∧ 0 < l.length ∧ ∀ h : 0 < l.length, (((l[0]'h).toNat : Int) == 0) = false) :
    Calls Tryd.prog 121 #[.string ⟨(b :: l).toArray⟩] w fun e w' => e = .returned (numOut b l (b.toNat % 128)) ∧ Below w.heap.size w w' := by
  have ha := u8_andNot128 b
  have hb := u8_and128 b
  obtain ⟨k, hk⟩ : ∃ k, k = b.toNat % 128 := ⟨_, rfl⟩
  rw [← hk] at ha h2 h3 h4 ⊢
  clear hk
  obtain ⟨W1, cap, hcv, hB, hsz, hcell⟩ := Lb.str_bytes (P := Tryd.prog) (src := 9) (dst := 186) (e := 5) Tryd.underlying9 Tryd.underlying186 Tryd.underlying5 (l.take k) w.drew
  have hlen : (l.take k).length = k := by simp; omega
  rw [hlen] at hcv
  have Hlen := Lib.hid hlen; clear hlen
  have Hcell := Lib.hid hcell; clear hcell
  rcases h4 with h4 | ⟨h4, h5, h6⟩
  all_goals
    go_enter Tryd.func121, Tryd.ntmps121
    go_wp2
    go_region
    go_wp2
    go_loop [7, 41] (fun v p => ∃ i : Nat, i ≤ k ∧ p = .int .i64 i ∧ v = .int .u64 (val (l.take i))) (fun _ p => k - (intOf p).toNat)
    case atStart => exact ⟨0, by omega, rfl, rfl⟩
    case round =>
      obtain ⟨i, hi, rfl, rfl⟩ := hrel
      have hvt := val_take_lt l i
      obtain ⟨v, hv⟩ : ∃ v, v = val (l.take i) := ⟨_, rfl⟩
      rw [← hv] at hvt ⊢
      by_cases hik : i < k
      · have hv2 : v < 72057594037927936 := Nat.lt_of_lt_of_le hvt (show 256 ^ i ≤ 256 ^ 7 from Nat.pow_le_pow_right (by omega) (by omega))
        have hc := Hcell.out i (by rw [Hlen.out]; exact hik)
        have hs := val_take_succ l i (by omega)
        rw [List.getElem_take, show w.drew.heap.size = w.heap.size from rfl] at hc
        obtain ⟨c, hcc⟩ : ∃ c, c = l[i]'(by omega) := ⟨_, rfl⟩
        rw [← hcc] at hc hs
        rw [← hv] at hs
        have hp := u64_push v c hv2
        have hc256 : (c.toNat : Int) < 256 := by have := c.toNat_lt; omega
        have Hs := Lib.hid hs
        clear hs hcc hv hvt
        go_wp2
        go_round
        case rel => exact ⟨i + 1, by omega, by go_num, by rw [Hs.out]; simp⟩
        case measure => simp [intOf]; omega
      · obtain rfl : i = k := by omega
        have hV : v < 18446744073709551616 := Nat.lt_of_lt_of_le hvt (show 256 ^ i ≤ 256 ^ 8 from Nat.pow_le_pow_right (by omega) (by omega))
        have Hout : Hid (numOut b l i = if 9223372036854775808 ≤ v then Value.tuple #[.int .i64 0, .string ⟨#[]⟩, .bool false] else Value.tuple #[.int .i64 (if 128 ≤ b.toNat then -1 - (v : Int) else v), .string ⟨(l.drop i).toArray⟩, .bool true]) := by
          unfold numOut; rw [hv]; rfl
        have hkI : (i : Int) ≤ (l.length : Int) := by omega
        have hkI0 : (0 : Int) ≤ (i : Int) := by omega
        clear hvt hv
        by_cases hV2 : 9223372036854775808 ≤ v
        · rw [if_pos hV2] at Hout
          go_wp2
          go_ret3
          exact ⟨by rw [Hout.out]; rfl, (Below.refl _ _).drew.trans hB⟩
        · rw [if_neg hV2] at Hout
          have hx := xor_nat v (by omega)
          by_cases hb8 : 128 ≤ b.toNat
          · rw [if_pos hb8] at hb Hout
            go_wp2
            go_region
            go_wp2
            go_ret3
            exact ⟨by rw [Hout.out]; rfl, ((Below.refl _ _).drew.trans hB).drew⟩
          · rw [if_neg hb8] at hb Hout
            go_wp2
            go_region
            go_wp2
            go_ret3
            exact ⟨by rw [Hout.out]; rfl, ((Below.refl _ _).drew.trans hB).drew⟩

theorem readNum_some {l r : List UInt8} {n : Int} (h : rdNum l = some (n, r)) (w : World) (h0 : l.length < 9223372036854775807) :
    Calls Tryd.prog 121 #[.string ⟨l.toArray⟩] w fun e w' => e = .returned (.tuple #[.int .i64 n, .string ⟨r.toArray⟩, .bool true]) ∧ Below w.heap.size w w' := by
  cases l with
  | nil => simp [rdNum] at h
  | cons b l =>
    rw [rdNum] at h
    split at h
    · cases h
    · rename_i hc
      simp only [not_or, Nat.not_lt, not_and] at hc
      obtain ⟨c1, c2, c3, c4⟩ := hc
      simp only [Option.some.injEq, Prod.mk.injEq] at h
      obtain ⟨h1, h2⟩ := h
      have hg := readNum_go b l w (by simpa using h0) c1 c2 (by
        rcases Nat.eq_zero_or_pos (b.toNat % 128) with hz | hz
        · left; omega
        · right
          have hl : 0 < l.length := by omega
          refine ⟨hz, hl, fun hh => ?_⟩
          have := c3 hz
          cases l with
          | nil => simp at hl
          | cons c l =>
            simp only [List.head?_cons, Option.some.injEq] at this
            have h3 : ¬ c.toNat = 0 := fun e => this (UInt8.toNat_inj.1 (by simpa using e))
            simp only [List.getElem_cons_zero, beq_eq_false_iff_ne, ne_eq]
            omega)
      refine hg.mono fun e w' ⟨he, hB⟩ => ⟨?_, hB⟩
      rw [he]
      unfold numOut
      rw [if_neg c4, h1, h2]

theorem readNum_none {l : List UInt8} (h : rdNum l = none) (w : World) (h0 : l.length < 9223372036854775807) :
    Calls Tryd.prog 121 #[.string ⟨l.toArray⟩] w fun e w' => e = .returned (.tuple #[.int .i64 0, .string ⟨#[]⟩, .bool false]) ∧ Below w.heap.size w w' := by
  cases l with
  | nil => exact readNum_nil w
  | cons b l =>
    rw [rdNum] at h
    split at h
    · rename_i hc
      by_cases c1 : b.toNat % 128 > 8
      · exact readNum_no b l w (by simp at h0; omega) (.inl c1)
      by_cases c2 : b.toNat % 128 > l.length
      · exact readNum_no b l w (by simp at h0; omega) (.inr ⟨by omega, c2⟩)
      by_cases c3 : 0 < b.toNat % 128 ∧ l.head? = some 0
      · obtain ⟨hz, hh⟩ := c3
        cases l with
        | nil => simp at hh
        | cons c l =>
          simp only [List.head?_cons, Option.some.injEq] at hh
          subst hh
          exact readNum_lead b l w (by simp at h0; omega) hz (by omega) (by simp at c2; omega)
      · have c4 : 9223372036854775808 ≤ val (l.take (b.toNat % 128)) := by
          rcases hc with h | h | h | h
          · omega
          · omega
          · exact absurd h c3
          · exact h
        have hg := readNum_go b l w (by simpa using h0) (by omega) (by omega) (by
          rcases Nat.eq_zero_or_pos (b.toNat % 128) with hz | hz
          · left; omega
          · right
            have hl : 0 < l.length := by omega
            refine ⟨hz, hl, fun hh => ?_⟩
            have := fun e => c3 ⟨hz, e⟩
            cases l with
            | nil => simp at hl
            | cons c l =>
              simp only [List.head?_cons, Option.some.injEq] at this
              have h3 : ¬ c.toNat = 0 := fun e => this (UInt8.toNat_inj.1 (by simpa using e))
              simp only [List.getElem_cons_zero, beq_eq_false_iff_ne, ne_eq]
              omega)
        refine hg.mono fun e w' ⟨he, hB⟩ => ⟨?_, hB⟩
        rw [he]
        unfold numOut
        rw [if_pos c4]
    · cases h

end Go.Proofs.YtfbjbhddapoopaaDoor
