/-
  The walk of SapNests.
-/
import Derived.Test.YtecofehfheodhaaSapN
set_option linter.unusedVariables false
set_option linter.unusedSimpArgs false
namespace Go.Proofs.Ytecofehfheodhaa
open Go.RowKit Pl
attribute [local go_sem] Lb.ba_get Lb.ba_cut Lb.ba_add Lb.ba_size Lb.take_rest

def nestB (l : List (List UInt8)) : Nat → List UInt8
  | 0 => rowB l
  | k + 1 => rowB [[120], nestB l k]

theorem nestB_succ_le (s : List UInt8) (h : s.length ≤ 9223372036854770000) : (rowB [[120], s]).length ≤ s.length + 28 := by
  have h1 := num_length 2 (by omega)
  have h2 := textB_le9 [120] (by simp)
  have h3 := textB_le9 s (by omega)
  have e : rowB [[120], s] = num 2 ++ (textB [120] ++ textB s) := by simp [rowB, textsB]
  rw [e, num_2]; simp only [List.length_append, List.length_cons, List.length_nil] at *; omega

theorem nestB_le (l : List (List UInt8)) (h : (rowB l).length ≤ 600000) (k : Nat) (hk : k ≤ 1000) : (nestB l k).length ≤ 600000 + 28 * k := by
  induction k with
  | zero => exact h
  | succ k ih =>
    have := ih (by omega)
    have := nestB_succ_le (nestB l k) (by omega)
    rw [nestB]; omega

set_option maxHeartbeats 4000000 in
set_option maxRecDepth 100000 in
theorem sapNests_early (A : Option Addr) (cap : Nat) (ls : List (List UInt8)) (deep : Int) (more : List UInt8) (w : World) (hm : ls.length ≤ 9223372036854775807) (h : 40 < ls.length) :
    Calls Try.prog 9 #[.slice A ls.length cap, .int .i64 deep, .string ⟨more.toArray⟩] w fun e w' => e = .returned (.bool true) ∧ Below w.heap.size w w' := by
  go_enter Try.func9, Try.ntmps9
  go_wp2_with (go_at_call 15; refine (awake_any _).mono ?_; rintro e w1 ⟨rfl, hB⟩)
  go_ret
  exact ⟨rfl, hB⟩

set_option maxHeartbeats 8000000 in
set_option maxRecDepth 100000 in
theorem sapNests_go (A : Option Addr) (cap : Nat) (ls : List (List UInt8)) (deep : Int) (more : List UInt8) (w : World) (hl : ls.length ≤ 40) (hmore : more.length ≤ 140737488351232) (hS : Strs w w.heap.size A ls) (he : ∀ s ∈ ls, s.length ≤ 9223372036854775807) :
    Calls Try.prog 9 #[.slice A ls.length cap, .int .i64 deep, .string ⟨more.toArray⟩] w fun e w' => e = .returned (.bool true) ∧ Below w.heap.size w w' := by
  have HS := Lib.hid hS
  have He := Lib.hid he
  obtain ⟨n, hn⟩ : ∃ n, n = ls.length := ⟨_, rfl⟩
  have Hn := Lib.hid hn
  rw [← hn] at hl ⊢
  have hu0 : 0 ≤ IntKind.u64.wrap deep := by rw [IntKind.wrap_u64]; omega
  obtain ⟨u, hu⟩ : ∃ u : Nat, IntKind.u64.wrap deep = (u : Int) := ⟨(IntKind.u64.wrap deep).toNat, by omega⟩
  obtain ⟨N, hN⟩ : ∃ N : Nat, (u : Int) % 7 = (N : Int) := ⟨u % 7, by omega⟩
  have hN7 : N < 7 := by omega
  clear hS he hn hu0
  have e2 : decide ((40 : Int) < (n : Int)) = false := by simp; omega
  go_enter Try.func9, Try.ntmps9
  go_wp2_with (go_at_call 15; refine (awake_any _).mono ?_; rintro e w1 ⟨rfl, hB⟩)
  have S1 := Lib.hid ((HS.out.below hB (Nat.le_refl _)).more hB.size)
  go_loop [7] (fun p => ∃ i : Nat, i ≤ n ∧ p = .int .i64 i ∧ ∀ (j : Nat) (hj : j < ls.length), j < i → (ls[j]).length ≤ 1024) (fun p => n - (intOf p).toNat)
  case atStart => exact ⟨0, by omega, rfl, fun j hj h => absurd h (by omega)⟩
  case round =>
    obtain ⟨i, hi, rfl, hall⟩ := hrel
    by_cases hin : i < n
    · have hlt : i < ls.length := by rw [← Hn.out]; exact hin
      obtain ⟨a, rfl, hab, hc⟩ := S1.out i hlt
      have hbnd := He.out _ (List.getElem_mem hlt)
      have Hall := Lib.hid hall
      obtain ⟨t, ht⟩ : ∃ t, t = ls[i] := ⟨_, rfl⟩
      have Ht := Lib.hid ht
      rw [← ht] at hc hbnd
      clear ht hall
      by_cases hlen : t.length ≤ 1024
      · go_wp2
        go_round
        case rel =>
          refine ⟨i + 1, by omega, by go_num, fun j hj h => ?_⟩
          by_cases e : j = i
          · subst e; rw [← Ht.out]; exact hlen
          · exact Hall.out j hj (by omega)
        case measure => simp [intOf]; omega
      · go_wp2
        go_ret
        exact ⟨rfl, hB⟩
    · obtain rfl : i = n := by omega
      have hbnd : ∀ s ∈ ls, s.length ≤ 1024 := all_of_take fun j hj => hall j hj (by rw [Hn.out]; exact hj)
      have hsum := sum_le_of ls 1024 hbnd
      have hrl := rowB_le9 ls (by rw [← Hn.out]; omega) (fun s hs => Nat.le_trans (hbnd s hs) (by omega))
      have hrl2 : (rowB ls).length ≤ 600000 := by rw [← Hn.out] at hsum; omega
      have Hlen := Lib.hid Hn.out
      have hNN : ls.length ≤ 40 := by rw [← Hn.out]; omega
      have Hb := Lib.hid hbnd
      have Hnl := Lib.hid (nestB_le ls hrl2)
      have Hnest0 : Hid (rowB ls = nestB ls 0) := rfl
      clear hall hbnd hsum hrl
      go_wp2_with fail
      rw [Hlen.out]
      refine (row_any A cap ls _ S1.out (by omega)).mono ?_
      rintro e w2 ⟨rfl, hB2⟩
      have b2 := hB.trans (hB2.mono hB.size)
      clear hB hB2 S1
      go_wp2
      go_loopw [9, 10] (fun v p wx => ∃ (j : Nat) (L : List UInt8), j ≤ N ∧ p = .int .i64 j ∧ v = .string ⟨L.toArray⟩ ∧ L = nestB ls j ∧ Below w.heap.size w wx) (fun _ p _ => N - (intOf p).toNat)
      case atStart => exact ⟨0, _, by omega, rfl, rfl, Hnest0.out, b2⟩
      case round =>
        obtain ⟨j, L, hj, rfl, rfl, hL, hbx⟩ := hrel
        have hLl : L.length ≤ 600200 := by rw [hL]; have := Hnl.out j (by omega); omega
        have hz := hbx.size
        by_cases hjN : j < N
        · have hLn : Hid (rowB [[120], L] = nestB ls (j + 1)) := Lib.hid (by rw [hL]; rfl)
          have hrl3 := nestB_succ_le L (by omega)
          clear hL
          go_wp2_with fail
          refine (row_any _ _ [[120], L] _ (by rw [World.size_alloc]; exact strs_two wr [120] L) (by omega)).mono ?_
          rintro e w3 ⟨rfl, hB3⟩
          have b3 := (hbx.alloc hz _).trans (hB3.mono (by rw [World.size_alloc]; omega))
          clear hbx hB3 b2
          go_wp2
          go_roundw
          case rel => exact ⟨j + 1, _, by omega, by go_num, rfl, hLn.out, b3⟩
          case measure => simp [intOf]; omega
        · obtain rfl : j = N := by omega
          have HL := Lib.hid hL
          have hlm : (L ++ more).length < 9223372036854770000 := by simp; omega
          have Hst : Hid (L ++ more = nestB ls (j - 0) ++ (if (0 : Nat) = 0 then more else [])) := Lib.hid (by rw [HL.out]; simp)
          clear hL b2
          go_wp2
          go_loopw [2, 9, 11] (fun v2 v9 p wx => ∃ (k : Nat) (M K : List UInt8), k ≤ j ∧ p = .int .i64 k ∧ v2 = .string ⟨M.toArray⟩ ∧ v9 = .string ⟨K.toArray⟩ ∧ K = nestB ls (j - k) ++ (if k = 0 then more else []) ∧ M = (if k = j ∧ 0 < j then [] else more) ∧ K.length < 9223372036854770000 ∧ Below w.heap.size w wx) (fun _ _ p _ => j - (intOf p).toNat)
          case atStart => exact ⟨0, more, _, by omega, rfl, rfl, rfl, Hst.out, by rw [if_neg (by omega)], hlm, hbx⟩
          case round =>
            obtain ⟨k, M, K, hk, rfl, rfl, rfl, hK, hM, hKl, hby⟩ := hrel
            by_cases hkj : k < j
            · rw [if_neg (by omega)] at hM
              subst hM
              obtain ⟨X, hX⟩ : ∃ X, X = nestB ls (j - (k + 1)) := ⟨_, rfl⟩
              have hXl : X.length ≤ 600200 := by rw [hX]; have := Hnl.out (j - (k + 1)) (by omega); omega
              have hK2 : K = rowB [[120], X] ++ (if k = 0 then M else []) := by
                rw [hK, hX, show j - k = (j - (k + 1)) + 1 from by omega]; rfl
              obtain ⟨R, hR⟩ : ∃ R, R = (if k = 0 then M else []) := ⟨_, rfl⟩
              rw [← hR] at hK2
              have hrd := rd_of_row [[120], X] R 2 (by simp) (by
                intro t ht
                simp only [List.mem_cons, List.not_mem_nil, or_false] at ht
                rcases ht with rfl | rfl
                · simp
                · omega)
              rw [if_pos (by simp), ← hK2] at hrd
              have Hrd := Lib.hid hrd
              have HX := Lib.hid hX
              have HR := Lib.hid hR
              clear hrd hK hK2 hX hR hbx HL Hst
              go_wp2_with fail
              refine (readRow_some Hrd.out (.inl (by omega)) _ (by omega)).mono ?_
              rintro e w4 ⟨A4, c4, rfl, hown, hB4⟩
              have b4 := hby.trans (hB4.mono hby.size)
              obtain ⟨g4, rfl⟩ : ∃ g4 : Nat, A4 = some ⟨g4, 0, none⟩ := by
                rcases hown.2 with ⟨_, h⟩ | ⟨g, cap, cur, hv, _⟩
                · simp at h
                · exact ⟨g, by injection hv⟩
              have hc0 : w4.cell? ⟨g4, 0, none⟩ = some (.string ⟨#[120]⟩) := (hown.cellAt 0 (by simp)).trans rfl
              have hc1 : w4.cell? ⟨g4, 1, none⟩ = some (.string ⟨X.toArray⟩) := (hown.cellAt 1 (by simp)).trans rfl
              clear hby hB4 hown
              have hcase : ((k = 0 ∧ R = M) ∨ (0 < k ∧ R = [])) := by
                rcases Nat.eq_zero_or_pos k with h | h
                · exact .inl ⟨h, by rw [HR.out, if_pos h]⟩
                · exact .inr ⟨h, by rw [HR.out, if_neg (by omega)]⟩
              have hnext : Hid (X = nestB ls (j - (k + 1)) ++ (if k + 1 = 0 then (if k + 1 = j ∧ 0 < j then [] else M) else [])) := Lib.hid (by rw [HX.out]; simp)
              have Hz : Hid (0 ≤ (k : Int)) := Lib.hid (by omega)
              rcases hcase with ⟨hk0, rfl⟩ | ⟨hk0, rfl⟩
              · have t1 : ((k : Int) == 0) = true := by simp; omega
                have t2 : ¬ (0 < (k : Int)) := by omega
                have Hk0 := Lib.hid hk0
                clear hk0
                by_cases hlast : k + 1 = j
                · have t3 : ((k : Int) == (j : Int) - 1) = true := by simp; omega
                  have Hlast := Lib.hid hlast
                  clear hlast
                  go_wp2
                  go_roundw
                  case rel => exact ⟨k + 1, [], X, by omega, by go_num, rfl, rfl, by rw [HX.out]; simp, by rw [if_pos ⟨Hlast.out, by omega⟩], by omega, b4⟩
                  case measure => simp [intOf]; omega
                · have t3 : ((k : Int) == (j : Int) - 1) = false := by simp; omega
                  have Hlast := Lib.hid hlast
                  clear hlast
                  go_wp2
                  go_roundw
                  case rel => exact ⟨k + 1, R, X, by omega, by go_num, rfl, rfl, by rw [HX.out]; simp, by rw [if_neg (fun h => Hlast.out h.1)], by omega, b4⟩
                  case measure => simp [intOf]; omega
              · have t1 : ((k : Int) == 0) = false := by simp; omega
                by_cases hlast : k + 1 = j
                · have t3 : ((k : Int) == (j : Int) - 1) = true := by simp; omega
                  have Hlast := Lib.hid hlast
                  clear hlast
                  go_wp2
                  go_roundw
                  case rel => exact ⟨k + 1, [], X, by omega, by go_num, rfl, rfl, by rw [HX.out]; simp, by rw [if_pos ⟨Hlast.out, by omega⟩], by omega, b4⟩
                  case measure => simp [intOf]; omega
                · have t3 : ((k : Int) == (j : Int) - 1) = false := by simp; omega
                  have Hlast := Lib.hid hlast
                  clear hlast
                  go_wp2
                  go_roundw
                  case rel => exact ⟨k + 1, M, X, by omega, by go_num, rfl, rfl, by rw [HX.out]; simp, by rw [if_neg (fun h => Hlast.out h.1)], by omega, b4⟩
                  case measure => simp [intOf]; omega
            · obtain rfl : k = j := by omega
              have hfin : ∃ R, K = rowB ls ++ R ∧ R = M := by
                rw [hK, hM, Nat.sub_self]
                refine ⟨_, rfl, ?_⟩
                by_cases h : k = 0
                · rw [if_pos h, if_neg (by omega)]
                · rw [if_neg h, if_pos ⟨rfl, by omega⟩]
              obtain ⟨R, hK2, rfl⟩ := hfin
              have hrd := rd_of_row ls R 40 (by omega) (fun s hs => Nat.le_trans (Hb.out s hs) (by omega))
              rw [if_pos (by omega), ← hK2] at hrd
              have Hrd := Lib.hid hrd
              clear hrd hK hK2 hM hbx HL Hst
              go_wp2_with fail
              refine (readRow_some Hrd.out (.inl (by omega)) _ (by omega)).mono ?_
              rintro e w5 ⟨A5, c5, rfl, hown, hB5⟩
              have b5 := hby.trans (hB5.mono hby.size)
              have S5 := Lib.hid (strs_of_own (ls := ls) hown rfl)
              have S6 := Lib.hid ((HS.out.below b5 (Nat.le_refl _)).more b5.size)
              clear hby hB5 hown
              go_wp2_with fail
              refine (same_eq A5 A c5 cap ls ls rfl _ S5.out S6.out (by omega)).mono ?_
              rw [sameB_self]
              rintro e w6 ⟨rfl, hB6⟩
              have b6 := b5.trans (hB6.mono b5.size)
              go_wp2
              go_ret
              exact ⟨by first | (simp; done) | (simp; omega), b6⟩
end Go.Proofs.Ytecofehfheodhaa
