/-
  The walk of SapMost.
-/
import Derived.Test.YtecofehfheodhaaSapL
set_option linter.unusedVariables false
set_option linter.unusedSimpArgs false
namespace Go.Proofs.Ytecofehfheodhaa
open Go.RowKit Pl
attribute [local go_sem] Lb.ba_get Lb.ba_cut Lb.ba_add Lb.ba_size Lb.take_rest

theorem sum_le_of (ls : List (List UInt8)) (b : Nat) (h : ∀ s ∈ ls, s.length ≤ b) : (ls.map fun s => s.length + 1).sum ≤ (b + 1) * ls.length := by
  induction ls with
  | nil => simp
  | cons a t ih =>
    have h1 := h a (by simp)
    have h2 := ih (fun s hs => h s (by simp [hs]))
    rw [List.map_cons, List.sum_cons, List.length_cons, Nat.mul_add, Nat.mul_one]
    omega

theorem all_of_take {ls : List (List UInt8)} {b : Nat} (h : ∀ (j : Nat) (hj : j < ls.length), (ls[j]).length ≤ b) : ∀ s ∈ ls, s.length ≤ b := by
  intro s hs
  obtain ⟨j, hj, rfl⟩ := List.getElem_of_mem hs
  exact h j hj

set_option maxHeartbeats 4000000 in
set_option maxRecDepth 100000 in
theorem sapMost_early (s : List UInt8) (A : Option Addr) (cap : Nat) (ls : List (List UInt8)) (most : Int) (w : World) (hs : s.length ≤ 9223372036854775807) (hm : ls.length ≤ 9223372036854775807)
    (h : 1024 < s.length ∨ s.length ≤ 1024 ∧ 60 < ls.length) :
    Calls Try.prog 8 #[.string ⟨s.toArray⟩, .slice A ls.length cap, .int .i64 most] w fun e w' => e = .returned (.bool true) ∧ Below w.heap.size w w' := by
  rcases h with h | ⟨h, h'⟩
  all_goals
    go_enter Try.func8, Try.ntmps8
    go_wp2_with (go_at_call 15; refine (awake_any _).mono ?_; rintro e w1 ⟨rfl, hB⟩)
    go_ret
    exact ⟨rfl, hB⟩

set_option maxHeartbeats 4000000 in
set_option maxRecDepth 100000 in
theorem sapMost_go (s : List UInt8) (A : Option Addr) (cap : Nat) (ls : List (List UInt8)) (most : Int) (w : World) (hs : s.length ≤ 1024) (hl : ls.length ≤ 60) (hS : Strs w w.heap.size A ls) (he : ∀ s ∈ ls, s.length ≤ 9223372036854775807) :
    Calls Try.prog 8 #[.string ⟨s.toArray⟩, .slice A ls.length cap, .int .i64 most] w fun e w' => e = .returned (.bool true) ∧ Below w.heap.size w w' := by
  have HS := Lib.hid hS
  have He := Lib.hid he
  obtain ⟨n, hn⟩ : ∃ n, n = ls.length := ⟨_, rfl⟩
  have Hn := Lib.hid hn
  rw [← hn] at hl ⊢
  clear hS he hn
  have e1 : decide ((1024 : Int) < (s.length : Int)) = false := by simp; omega
  have e2 : decide ((60 : Int) < (n : Int)) = false := by simp; omega
  go_enter Try.func8, Try.ntmps8
  go_wp2_with (go_at_call 15; refine (awake_any _).mono ?_; rintro e w1 ⟨rfl, hB⟩)
  have S1 := Lib.hid ((HS.out.below hB (Nat.le_refl _)).more hB.size)
  go_loop [7] (fun p => ∃ i : Nat, i ≤ n ∧ p = .int .i64 i ∧ ∀ (j : Nat) (hj : j < ls.length), j < i → (ls[j]).length ≤ 1024) (fun p => n - (intOf p).toNat)
  case atStart => exact ⟨0, by omega, rfl, fun j hj h => absurd h (by omega)⟩
  case round =>
    obtain ⟨i, hi, rfl, hall⟩ := hrel
    by_cases hin : i < n
    · have hlt : i < ls.length := by rw [← Hn.out]; exact hin
      obtain ⟨a, rfl, hab, hc⟩ := S1.out i hlt
      have hbnd := He.out _ (List.getElem_mem hlt)
      have Hall := Lib.hid hall
      obtain ⟨t, ht⟩ : ∃ t, t = ls[i] := ⟨_, rfl⟩
      have Ht := Lib.hid ht
      rw [← ht] at hc hbnd
      clear ht hall
      by_cases hlen : t.length ≤ 1024
      · go_wp2
        go_round
        case rel =>
          refine ⟨i + 1, by omega, by go_num, fun j hj h => ?_⟩
          by_cases e : j = i
          · subst e; rw [← Ht.out]; exact hlen
          · exact Hall.out j hj (by omega)
        case measure => simp [intOf]; omega
      · go_wp2
        go_ret
        exact ⟨rfl, hB⟩
    · obtain rfl : i = n := by omega
      have hbnd : ∀ s ∈ ls, s.length ≤ 1024 := all_of_take fun j hj => hall j hj (by rw [Hn.out]; exact hj)
      have hsum := sum_le_of ls 1024 hbnd
      have hrl := rowB_le9 ls (by rw [← Hn.out]; omega) (fun s hs => Nat.le_trans (hbnd s hs) (by omega))
      have hrl2 : (rowB ls).length ≤ 600000 := by rw [← Hn.out] at hsum; omega
      have Hlen := Lib.hid Hn.out
      have hN : ls.length ≤ 60 := by rw [← Hn.out]; omega
      have Hb := Lib.hid hbnd
      have htl : (textB s).length ≤ s.length + 9 := textB_le9 s (by omega)
      have rdT := rd_of_text s [] most (by omega)
      have rdR := rd_of_row ls [] most (by omega) (fun s hs => Nat.le_trans (hbnd s hs) (by omega))
      simp only [List.append_nil] at rdT rdR
      rw [← Hn.out] at rdR
      have RdT := Lib.hid rdT
      have RdR := Lib.hid rdR
      clear hall hbnd hsum hrl rdT rdR
      go_wp2_with fail
      refine (text_B s _ (by omega)).mono ?_
      rintro e w2 ⟨rfl, hB2⟩
      have b2 := hB.trans (hB2.mono hB.size)
      have S2 := Lib.hid ((S1.out.below hB2 (Nat.le_refl _)).more hB2.size)
      clear hB hB2 S1
      go_wp2_with fail
      refine (readText_c (textB s) most (by omega) _).mono ?_
      rintro e w3 ⟨t, r, ok, rfl, hg, hB3⟩
      have b3 := b2.trans (hB3.mono b2.size)
      have S3 := Lib.hid ((S2.out.below hB3 (Nat.le_refl _)).more hB3.size)
      have Hg := Lib.hid hg
      clear b2 hB3 S2 hg
      go_wp2_with fail
      rw [Hlen.out]
      refine (row_any A cap ls _ S3.out (by omega)).mono ?_
      rintro e w4 ⟨rfl, hB4⟩
      have b4 := b3.trans (hB4.mono b3.size)
      have S4 := Lib.hid ((S3.out.below hB4 (Nat.le_refl _)).more hB4.size)
      clear b3 hB4 S3
      go_wp2_with fail
      refine (readRow_c (rowB ls) most (.inr (by omega)) (by omega) _).mono ?_
      rintro e w5 ⟨A2, cap2, ts, r2, ok2, rfl, hg, hB5⟩
      have b5 := b4.trans (hB5.mono b4.size)
      have S5 := Lib.hid ((S4.out.below hB5 (Nat.le_refl _)).more hB5.size)
      have Hg2 := Lib.hid hg
      clear b4 hB5 S4 hg
      have Gt : (ok = true ∧ (s.length : Int) ≤ most ∧ t = s) ∨ (ok = false ∧ most < (s.length : Int)) := by
        rcases Hg.out with ⟨h1, h2⟩ | ⟨h1, h2, _⟩
        · rw [RdT.out] at h2; split at h2
          · rename_i h3; simp only [Option.some.injEq, Prod.mk.injEq] at h2; exact .inl ⟨h1, h3, h2.1.symm⟩
          · cases h2
        · rw [RdT.out] at h2; split at h2
          · cases h2
          · exact .inr ⟨h1, by omega⟩
      have Gr : (ok2 = true ∧ (ls.length : Int) ≤ most ∧ ts = ls) ∨ (ok2 = false ∧ most < (ls.length : Int)) := by
        rw [← Hlen.out]
        rcases Hg2.out.1 with ⟨h1, h2⟩ | ⟨h1, h2, _⟩
        · rw [RdR.out] at h2; split at h2
          · rename_i h3; simp only [Option.some.injEq, Prod.mk.injEq] at h2; exact .inl ⟨h1, h3, h2.1.symm⟩
          · cases h2
        · rw [RdR.out] at h2; split at h2
          · cases h2
          · exact .inr ⟨h1, by omega⟩
      have S6 := Lib.hid Hg2.out.2.1
      clear Hg Hg2 RdT RdR
      have Hsame := Lib.hid (fun w => same_eq A A2 cap cap2 ls ls rfl w)
      rcases Gr with ⟨rfl, hr1, rfl⟩ | ⟨rfl, hr1⟩
      · rcases Gt with ⟨rfl, ht1, rfl⟩ | ⟨rfl, ht1⟩
        all_goals
          go_wp2_with fail
          refine (same_eq A A2 cap cap2 ts ts rfl _ S5.out S6.out (by omega)).mono ?_
          rw [sameB_self]
          rintro e w6 ⟨rfl, hB6⟩
          have b6 := b5.trans (hB6.mono b5.size)
          go_wp2
          go_ret
          exact ⟨by first | (simp; done) | (simp; omega), b6⟩
      · rcases Gt with ⟨rfl, ht1, rfl⟩ | ⟨rfl, ht1⟩
        all_goals
          go_wp2
          go_ret
          exact ⟨by first | (simp; done) | (simp; omega), b5⟩
end Go.Proofs.Ytecofehfheodhaa
