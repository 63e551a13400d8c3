/-
  The walks of the reference of layer 1: Text, Row, ReadNum.
-/
import Derived.Test.YtokdnfhglckpkaaDoorSapF
set_option linter.unusedVariables false
set_option linter.unusedSimpArgs false
namespace Go.Proofs.YtokdnfhglckpkaaDoor
open Go.RowKit Pl
attribute [local go_sem] Lb.ba_get Lb.ba_cut Lb.ba_add Lb.ba_size Lb.take_rest

set_option maxHeartbeats 1000000 in
theorem refText_any (l : List UInt8) (w : World) (h0 : l.length < 9223372036854775000) :
    Calls Tryd.prog 93 #[.string ⟨l.toArray⟩] w fun e w' => e = .returned (.string ⟨(textB l).toArray⟩) ∧ Below w.heap.size w w' := by
  have hn : (num l.length).length ≤ 9 := num_length l.length (by omega)
  go_enter Tryd.func93, Tryd.ntmps93
  go_wp2_with (go_at_call 60; refine (refNum_any l.length _ (by omega) (by omega)).mono ?_; rintro e w1 ⟨rfl, hB⟩)
  go_ret
  exact ⟨rfl, hB⟩

set_option maxHeartbeats 2000000 in
set_option maxRecDepth 100000 in
theorem refRow_any (A : Option Addr) (cap : Nat) (ls : List (List UInt8)) (w : World) (hS : Strs w w.heap.size A ls) (hsum : (srow ls).length ≤ 140737488355328) :
    Calls Tryd.prog 59 #[.slice A ls.length cap] w fun e w' => e = .returned (.string ⟨(srow ls).toArray⟩) ∧ Below w.heap.size w w' := by
  obtain ⟨n, hn⟩ : ∃ n, n = ls.length := ⟨_, rfl⟩
  have hsum' : (num n).length + (textsB ls).length ≤ 140737488355328 := by rw [hn]; simpa [srow] using hsum
  have Hn := Lib.hid hn
  rw [← hn]
  have hnb : n ≤ 140737488355328 := by have := textsB_ge ls; omega
  have HS := Lib.hid hS
  clear hS hsum hn
  go_enter Tryd.func59, Tryd.ntmps59
  go_wp2_with (go_at_call 60; refine (refNum_any n _ (by omega) (by omega)).mono ?_; rintro e w1 ⟨rfl, hB1⟩)
  have hB' := hB1.size
  go_loopw [3, 4] (fun v p wr => ∃ (i : Nat) (L : List UInt8), i ≤ n ∧ p = .int .i64 i ∧ v = .string ⟨L.toArray⟩ ∧ L = num n ++ textsB (ls.take i) ∧ Below w.heap.size w wr) (fun _ p _ => n - (intOf p).toNat)
  case atStart => exact ⟨0, _, by omega, rfl, rfl, by simp [textsB], hB1⟩
  case round =>
    obtain ⟨i, L, hi, rfl, rfl, hL, hbe⟩ := hrel
    have hsz := hbe.size
    by_cases hin : i < n
    · have hlt : i < ls.length := by rw [← Hn.out]; exact hin
      obtain ⟨a, hA, hab, hcell⟩ := HS.out i hlt
      have hc := (hbe.cell (p := a.add i) (by rw [block_add]; exact hab)).trans hcell
      have htl := textB_le ls i hlt
      have hLl : L.length = (num n).length + (textsB (ls.take i)).length := by rw [hL]; simp
      obtain ⟨s, hs⟩ : ∃ s, s = ls[i] := ⟨_, rfl⟩
      have Htk : Hid (L ++ textB s = num n ++ textsB (ls.take (i + 1))) := Lib.hid (by rw [textsB_take ls i hlt, hL, hs]; simp)
      rw [← hs] at hc htl
      have hsl : s.length ≤ (textB s).length := by simp [textB]
      have hLl' : L.length + (textB s).length ≤ 140737488355328 := by omega
      subst hA
      clear hcell hs hL hLl
      go_wp2_with fail
      refine (refText_any s _ (by omega)).mono ?_
      rintro e w3 ⟨rfl, hB3⟩
      have hbe3 := hbe.trans (hB3.mono hsz)
      clear hbe hB3 hc
      go_wp2
      go_roundw
      case rel => exact ⟨i + 1, _, by omega, by go_num, rfl, Htk.out, hbe3⟩
      case measure => simp [intOf]; omega
    · obtain rfl : i = n := by omega
      have hL' : L = srow ls := by rw [hL, Hn.out, List.take_length]; rfl
      subst hL'
      clear hL
      go_wp2
      go_ret
      exact ⟨rfl, hbe⟩

theorem refReadNum_nil (w : World) :
    Calls Tryd.prog 65 #[.string ⟨#[]⟩] w fun e w' => e = .returned (.tuple #[.int .i64 0, .string ⟨#[]⟩, .bool false]) ∧ Below w.heap.size w w' := by
  go_enter Tryd.func65, Tryd.ntmps65
  go_wp2
  go_ret3
  exact ⟨rfl, Below.refl _ _⟩

set_option maxHeartbeats 2000000 in
set_option maxRecDepth 100000 in
theorem refReadNum_no (b : UInt8) (l : List UInt8) (w : World) (h0 : l.length + 1 < 9223372036854775807) (h : 8 < b.toNat % 128 ∨ b.toNat % 128 ≤ 8 ∧ l.length < b.toNat % 128) :
    Calls Tryd.prog 65 #[.string ⟨(b :: l).toArray⟩] w fun e w' => e = .returned (.tuple #[.int .i64 0, .string ⟨#[]⟩, .bool false]) ∧ Below w.heap.size w w' := by
  have hb := b.toNat_lt
  have hm : (b.toNat : Int) % 128 = ((b.toNat % 128 : Nat) : Int) := by omega
  obtain ⟨k, hk⟩ : ∃ k, k = b.toNat % 128 := ⟨_, rfl⟩
  rw [← hk] at hm h
  have hk2 : k < 128 := by omega
  clear hk
  rcases h with h | ⟨h, h'⟩
  all_goals
    go_enter Tryd.func65, Tryd.ntmps65
    go_wp2
    go_ret3
    exact ⟨rfl, Below.refl _ _⟩

set_option maxHeartbeats 2000000 in
set_option maxRecDepth 100000 in
theorem refReadNum_lead (b c : UInt8) (l : List UInt8) (w : World) (h0 : l.length + 2 < 9223372036854775807) (h : 0 < b.toNat % 128) (h2 : b.toNat % 128 ≤ 8) (h3 : b.toNat % 128 ≤ l.length + 1)
    (h4 : ((c.toNat : Int) == 0) = true ∨ ((c.toNat : Int) == 0) = false ∧ 8 ≤ b.toNat % 128 ∧ 128 ≤ c.toNat) :
    Calls Tryd.prog 65 #[.string ⟨(b :: c :: l).toArray⟩] w fun e w' => e = .returned (.tuple #[.int .i64 0, .string ⟨#[]⟩, .bool false]) ∧ Below w.heap.size w w' := by
  have hb := b.toNat_lt
  have hm : (b.toNat : Int) % 128 = ((b.toNat % 128 : Nat) : Int) := by omega
  obtain ⟨k, hk⟩ : ∃ k, k = b.toNat % 128 := ⟨_, rfl⟩
  rw [← hk] at hm h h2 h3 h4
  clear hk
  rcases h4 with h4 | ⟨h4, h5, h6⟩
  · go_enter Tryd.func65, Tryd.ntmps65
    go_wp2
    go_ret3
    exact ⟨rfl, Below.refl _ _⟩
  · have h7 : ((k : Int) == 8) = true := by simp; omega
    go_enter Tryd.func65, Tryd.ntmps65
    go_wp2
    go_ret3
    exact ⟨rfl, Below.refl _ _⟩

end Go.Proofs.YtokdnfhglckpkaaDoor
