/-
  Layer 3's laws: the walk of great.
-/
import Derived.Test.YtokdnfhglckpkaaDoorRcF
import Derived.Test.YtokdnfhglckpkaaDoorManiArg
set_option linter.unusedVariables false
set_option linter.unusedSimpArgs false
namespace Go.Proofs.YtokdnfhglckpkaaDoor
open Go.RowKit
attribute [local go_sem] Lb.ba_get Lb.ba_cut Lb.ba_add Lb.ba_size Lb.take_rest

def GreatPost (n : Nat) (ls : List (List UInt8)) (w : World) (e : Ending) (w' : World) : Prop :=
  (e = .returned (.bool true) ∨ (e = .returned (.bool false) ∧ n ≤ 40 ∧ ls.length ≤ 40 ∧ ∀ t ∈ ls, t.length ≤ 1000)) ∧ Below w.heap.size w w'

set_option maxHeartbeats 2000000 in
set_option maxRecDepth 100000 in
theorem great_any (m : ManiD) (A : Option Addr) (cap : Nat) (ls : List (List UInt8)) (w : World) (hm : m.Ok w w.heap.size) (hS : Strs w w.heap.size A ls) (hl : ls.length ≤ maxLen) (ht : ∀ t ∈ ls, t.length ≤ maxLen) :
    Calls Tryd.prog 21 #[.agg m.row, .slice A ls.length cap] w (GreatPost m.parts.length ls w) := by
  have hmw := hm.whole
  have hml := hm.len
  unfold maxLen at hl hml
  have hli : (ls.length : Int) ≤ 9223372036854775807 := by omega
  have hmi : (m.parts.length : Int) ≤ 9223372036854775807 := by omega
  go_enter Tryd.func21, Tryd.ntmps21
  go_upto_region 1 with fail
  obtain ⟨q, hq⟩ : ∃ q, q = w.heap.size := ⟨_, rfl⟩
  have h0 : (w.alloc (.cells m.row 27)).heap[q]? = some (.cells m.row 27 (0, 0)) := by rw [hq]; exact heap_alloc_new w _
  have b0 : Below w.heap.size w (w.alloc (.cells m.row 27)) := (Below.refl _ w).alloc (Nat.le_refl _) _
  obtain ⟨w1, hw1⟩ : ∃ w1, w1 = w.alloc (.cells m.row 27) := ⟨_, rfl⟩
  rw [← hw1] at h0 b0 ⊢
  rw [← hq]
  have c33 : w1.cell? ⟨q, 33, none⟩ = some (.slice m.A m.parts.length m.cap) := by rw [Lib.cell_of_heap h0]; exact m.at33 hmw
  obtain ⟨n, hn⟩ : ∃ n, n = m.parts.length := ⟨_, rfl⟩
  rw [← hn] at c33 hmi ⊢
  obtain ⟨L, hL⟩ : ∃ L, L = ls.length := ⟨_, rfl⟩
  rw [← hL] at hl hli ⊢
  have HS := Lib.hid (hS.below b0 (Nat.le_refl _))
  have Hb0 := Lib.hid b0
  have Ht := Lib.hid ht
  have HL := Lib.hid hL
  have Hn := Lib.hid hn
  clear hw1 h0 b0 hq hn hS ht hL hm
  by_cases h1 : n ≤ 40
  · have h1' : ¬ (40 : Int) < (n : Int) := by omega
    by_cases h2 : L ≤ 40
    · have h2' : ¬ (40 : Int) < (L : Int) := by omega
      go_wp2_with fail
      go_loopw [5] (fun c wr => ∃ k : Nat, k ≤ L ∧ c = .int .i64 k ∧ (∀ i, i < k → (ls.getD i []).length ≤ 1000) ∧ wr = w1) (fun c _ => L - (intOf c).toNat)
      case atStart => exact ⟨0, by omega, rfl, fun i hi => absurd hi (Nat.not_lt_zero _), rfl⟩
      case round =>
        obtain ⟨k, hk, rfl, hE, rfl⟩ := hrel
        have HE := Lib.hid hE
        clear hE
        by_cases hkL : k < L
        · have k1 : k < ls.length := by rw [← HL.out]; exact hkL
          obtain ⟨a, rfl, ha, hc⟩ := HS.out k k1
          obtain ⟨t, htd⟩ : ∃ t, t = ls[k] := ⟨_, rfl⟩
          rw [← htd] at hc
          have hg : ls.getD k [] = t := by rw [List.getD_eq_getElem?_getD, List.getElem?_eq_getElem k1, htd]; rfl
          have htl : t.length ≤ maxLen := Ht.out t (by rw [htd]; exact List.getElem_mem _)
          unfold maxLen at htl
          have hti : (t.length : Int) ≤ 9223372036854775807 := by omega
          have k0 : (0 : Int) ≤ (k : Int) := by omega
          have kL : (k : Int) < (L : Int) := by omega
          have Hg := Lib.hid hg
          clear htd hg
          by_cases h1000 : t.length ≤ 1000
          · have h3 : ¬ (1000 : Int) < (t.length : Int) := by omega
            have HE2 : Hid (∀ i, i < k + 1 → (ls.getD i []).length ≤ 1000) := Lib.hid (fun i hi => by
              rcases Nat.lt_or_ge i k with h | h
              · exact HE.out i h
              · obtain rfl : i = k := by omega
                rw [Hg.out]; exact h1000)
            go_wp2_with fail
            go_roundw
            case rel => exact ⟨k + 1, by omega, by go_num, HE2.out, by first | rfl | trivial⟩
            case measure => simp [intOf]; omega
          · have h3 : (1000 : Int) < (t.length : Int) := by omega
            go_wp2_with fail
            go_ret
            exact ⟨.inl rfl, Hb0.out⟩
        · obtain rfl : k = L := by omega
          have hfin : m.parts.length ≤ 40 ∧ ls.length ≤ 40 ∧ ∀ t ∈ ls, t.length ≤ 1000 := ⟨by rw [← Hn.out]; exact h1, by rw [← HL.out]; exact h2, fun t ht => by
            obtain ⟨i, hi, rfl⟩ := List.getElem_of_mem ht
            have := HE.out i (by rw [HL.out]; exact hi)
            rw [List.getD_eq_getElem?_getD, List.getElem?_eq_getElem hi] at this
            exact this⟩
          have Hfin := Lib.hid hfin
          clear hfin
          go_wp2_with fail
          go_ret
          exact ⟨.inr ⟨rfl, Hfin.out⟩, Hb0.out⟩
    · have h2' : (40 : Int) < (L : Int) := by omega
      go_wp2_with fail
      go_ret
      exact ⟨.inl rfl, Hb0.out⟩
  · have h1' : (40 : Int) < (n : Int) := by omega
    go_wp2_with fail
    go_ret
    exact ⟨.inl rfl, Hb0.out⟩
end Go.Proofs.YtokdnfhglckpkaaDoor
