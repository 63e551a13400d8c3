/-
  The walks of the reference of layer 1: ReadNum (where there is a number), ReadText, ReadRow, Same.
-/
import Derived.Test.YtokdnfhglckpkaaDoorSapG
set_option linter.unusedVariables false
set_option linter.unusedSimpArgs false
namespace Go.Proofs.YtokdnfhglckpkaaDoor
open Go.RowKit Pl
theorem cut_head (b : UInt8) (l : List UInt8) (i : Nat) : ((b :: l).drop (1 + i)).take (l.length + 1 - (1 + i)) = l.drop i := by
  rw [Nat.add_comm 1 i, List.drop_succ_cons]; exact List.take_of_length_le (by simp)
attribute [local go_sem] cut_head Lb.ba_get Lb.ba_cut Lb.ba_add Lb.ba_size Lb.take_rest

set_option maxHeartbeats 4000000 in
set_option maxRecDepth 100000 in
theorem refReadNum_go (b : UInt8) (l : List UInt8) (w : World) (h0 : l.length + 1 < 9223372036854775807) (h2 : b.toNat % 128 ≤ 8) (h3 : b.toNat % 128 ≤ l.length) (hV : val (l.take (b.toNat % 128)) < 9223372036854775808)
    (c0 : UInt8) (hg0 : ∀ h : 0 < l.length, l[0]'h = c0)
    (h4 : ((b.toNat % 128 : Nat) : Int) < 1 ∨ (0 < b.toNat % 128 ∧ 0 < l.length ∧ (((c0.toNat : Int) == 0) = false)) ∧ (b.toNat % 128 < 8 ∨ (c0.toNat : Int) < 128)) :
    Calls Tryd.prog 65 #[.string ⟨(b :: l).toArray⟩] w fun e w' => e = .returned (numOut b l (b.toNat % 128)) ∧ Below w.heap.size w w' := by
  have hb := b.toNat_lt
  have hm : (b.toNat : Int) % 128 = ((b.toNat % 128 : Nat) : Int) := by omega
  obtain ⟨k, hk⟩ : ∃ k, k = b.toNat % 128 := ⟨_, rfl⟩
  rw [← hk] at hm h2 h3 h4 hV ⊢
  clear hk
  have hk8 : ((k : Int) < 1 ∧ ((k : Int) == 8) = false) ∨ (0 < k ∧ 0 < l.length ∧ (((c0.toNat : Int) == 0) = false)) ∧ (((k : Int) == 8) = false ∨ ((k : Int) == 8) = true ∧ (c0.toNat : Int) < 128) := by
    rcases h4 with h | ⟨h, h'⟩
    · left; exact ⟨h, by simp; omega⟩
    · right; refine ⟨h, ?_⟩
      by_cases e : k < 8
      · left; simp; omega
      · right
        rcases h' with h' | h'
        · omega
        · exact ⟨by simp; omega, h'⟩
  clear h4
  have Hmono := Lib.hid (fun j (hj : j ≤ k) => val_take_mono l j k hj)
  rcases hk8 with ⟨h4, h5⟩ | ⟨⟨h4, h5, h6⟩, h7 | ⟨h7, h8⟩⟩
  all_goals
    go_enter Tryd.func65, Tryd.ntmps65
    go_wp2
    go_loop [6, 7] (fun v p => ∃ i : Nat, i ≤ k ∧ p = .int .i64 (((i + 1 : Nat)) : Int) ∧ v = .int .i64 (val (l.take i))) (fun _ p => k + 1 - (intOf p).toNat)
    case atStart => exact ⟨0, by omega, rfl, rfl⟩
    case round =>
      obtain ⟨i, hi, rfl, rfl⟩ := hrel
      by_cases hik : i < k
      · have hs := val_take_succ l i (by omega)
        have hm2 := Hmono.out (i + 1) (by omega)
        obtain ⟨c, hcc⟩ : ∃ c, c = l[i]'(by omega) := ⟨_, rfl⟩
        obtain ⟨v, hv⟩ : ∃ v, v = val (l.take i) := ⟨_, rfl⟩
        have hg : ∀ h : i < l.length, l[i]'h = c := fun h => hcc.symm
        rw [← hcc, ← hv] at hs
        rw [← hv]
        have hc256 : (c.toNat : Int) < 256 := by have := c.toNat_lt; omega
        have hvb : 256 * (v : Int) + (c.toNat : Int) ≤ 9223372036854775807 := by omega
        have Hs := Lib.hid hs
        have hil : i < l.length := by omega
        clear hs hcc hv hm2
        first
          | (exfalso; omega)
          | (go_wp2
             go_round
             case rel => exact ⟨i + 1, by omega, by go_num, by rw [Hs.out]; simp⟩
             case measure => first | (simp [intOf]; done) | (simp [intOf]; omega))
      · obtain rfl : i = k := by omega
        have Hout : Hid (numOut b l i = Value.tuple #[.int .i64 (if 128 ≤ b.toNat then -1 - (val (l.take i) : Int) else (val (l.take i) : Int)), .string ⟨(l.drop i).toArray⟩, .bool true]) := by
          unfold numOut; rw [if_neg (by omega)]; rfl
        have hkI : (i : Int) ≤ (l.length : Int) := by omega
        have hkI0 : (0 : Int) ≤ (i : Int) := by omega
        by_cases hb8 : 128 ≤ b.toNat
        · rw [if_pos hb8] at Hout
          go_wp2
          go_region
          go_wp2
          go_ret3
          exact ⟨by rw [Hout.out, ← cut_head b l i]; rfl, (Below.refl _ _).drew⟩
        · rw [if_neg hb8] at Hout
          go_wp2
          go_region
          go_wp2
          go_ret3
          exact ⟨by rw [Hout.out, ← cut_head b l i]; rfl, (Below.refl _ _).drew⟩

theorem refReadNum_some {l r : List UInt8} {n : Int} (h : rdNum l = some (n, r)) (w : World) (h0 : l.length < 9223372036854775807) :
    Calls Tryd.prog 65 #[.string ⟨l.toArray⟩] w fun e w' => e = .returned (.tuple #[.int .i64 n, .string ⟨r.toArray⟩, .bool true]) ∧ Below w.heap.size w w' := by
  cases l with
  | nil => simp [rdNum] at h
  | cons b l =>
    rw [rdNum] at h
    split at h
    · cases h
    · rename_i hc
      simp only [not_or, Nat.not_lt, not_and] at hc
      obtain ⟨c1, c2, c3, c4⟩ := hc
      simp only [Option.some.injEq, Prod.mk.injEq] at h
      obtain ⟨h1, h2⟩ := h
      have hg := refReadNum_go b l w (by simpa using h0) c1 c2 (by omega) (l.headD 0) (by intro h; cases l with | nil => simp at h | cons c l => rfl) (by
        rcases Nat.eq_zero_or_pos (b.toNat % 128) with hz | hz
        · left; omega
        · right
          cases l with
          | nil => simp at c2; omega
          | cons c l =>
            have := c3 hz
            simp only [List.head?_cons, Option.some.injEq] at this
            have h3 : ¬ c.toNat = 0 := fun e => this (UInt8.toNat_inj.1 (by simpa using e))
            refine ⟨⟨hz, by simp, by simp only [List.headD_cons, beq_eq_false_iff_ne, ne_eq]; omega⟩, ?_⟩
            by_cases e : b.toNat % 128 < 8
            · exact .inl e
            · right
              simp only [List.headD_cons]
              have e8 : b.toNat % 128 = 7 + 1 := by omega
              rw [e8, List.take_succ_cons] at c4
              have h7 : (l.take 7).length = 7 := by simp at c2 ⊢; omega
              have := val_top c (l.take 7) h7
              omega)
      refine hg.mono fun e w' ⟨he, hB⟩ => ⟨?_, hB⟩
      rw [he]
      unfold numOut
      rw [if_neg c4, h1, h2]

theorem refReadNum_none {l : List UInt8} (h : rdNum l = none) (w : World) (h0 : l.length < 9223372036854775806) :
    Calls Tryd.prog 65 #[.string ⟨l.toArray⟩] w fun e w' => e = .returned (.tuple #[.int .i64 0, .string ⟨#[]⟩, .bool false]) ∧ Below w.heap.size w w' := by
  cases l with
  | nil => exact refReadNum_nil w
  | cons b l =>
    rw [rdNum] at h
    split at h
    · rename_i hc
      by_cases c1 : b.toNat % 128 > 8
      · exact refReadNum_no b l w (by simp at h0; omega) (.inl c1)
      by_cases c2 : b.toNat % 128 > l.length
      · exact refReadNum_no b l w (by simp at h0; omega) (.inr ⟨by omega, c2⟩)
      by_cases c0 : b.toNat % 128 = 0
      · have : val (l.take (b.toNat % 128)) = 0 := by rw [c0]; simp [val]
        omega
      cases l with
      | nil => simp at c2; omega
      | cons c l =>
        refine refReadNum_lead b c l w (by simp at h0; omega) (by omega) (by omega) (by simp at c2; omega) ?_
        by_cases c3 : c = 0
        · left; subst c3; rfl
        · right
          have h3 : ¬ c.toNat = 0 := fun e => c3 (UInt8.toNat_inj.1 (by simpa using e))
          have c4 : 9223372036854775808 ≤ val ((c :: l).take (b.toNat % 128)) := by
            rcases hc with h | h | h | h
            · omega
            · omega
            · exact absurd (by simpa using h.2) c3
            · exact h
          have hk8 : b.toNat % 128 = 7 + 1 := by
            have h1 := val_take_lt (c :: l) (b.toNat % 128)
            rcases Nat.lt_or_ge (b.toNat % 128) 8 with hh | hh
            · have : 256 ^ (b.toNat % 128) ≤ 256 ^ 7 := Nat.pow_le_pow_right (by omega) (by omega)
              have e : (256 : Nat) ^ 7 = 72057594037927936 := by decide
              omega
            · omega
          refine ⟨by simp; omega, by omega, ?_⟩
          rw [hk8, List.take_succ_cons] at c4
          exact (val_top c (l.take 7) (by simp at c2 ⊢; omega)).1 c4
    · cases h

end Go.Proofs.YtokdnfhglckpkaaDoor
