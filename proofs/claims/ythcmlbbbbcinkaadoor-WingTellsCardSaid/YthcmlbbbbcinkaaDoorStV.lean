/-
  Layer 2's reference: plain facts on the padded text. Layer 2's reference: ranges of what is eaten; block over a list of eight words. Layer 2's reference: the walk of Of.
-/
import Derived.Test.YthcmlbbbbcinkaaDoorStT
import Derived.Test.YthcmlbbbbcinkaaDoorStH
import Derived.Test.YthcmlbbbbcinkaaDoorCoB
set_option linter.unusedVariables false
set_option linter.unusedSimpArgs false
namespace Go.Proofs.YthcmlbbbbcinkaaDoor
open Go.RowKit

theorem eatN_add (K : List Int) : ∀ (m n : Nat) (V : List Int) (l : List UInt8), eatN K (m + n) V l = eatN K n (eatN K m V l).1 (eatN K m V l).2
  | 0, n, V, l => by rw [Nat.zero_add]; rfl
  | m + 1, n, V, l => by
    rw [show m + 1 + n = (m + n) + 1 by omega]
    exact eatN_add K m n (mixS K (l.take 64) V) (l.drop 64)
theorem eatN_prefix (K : List Int) : ∀ (q : Nat) (V : List Int) (t x : List UInt8), 64 * q ≤ t.length → (eatN K q V (t ++ x)).1 = (eatN K q V t).1
  | 0, V, t, x, _ => rfl
  | q + 1, V, t, x, h => by
    show (eatN K q (mixS K ((t ++ x).take 64) V) ((t ++ x).drop 64)).1 = (eatN K q (mixS K (t.take 64) V) (t.drop 64)).1
    rw [List.take_append_of_le_length (by omega), List.drop_append_of_le_length (by omega)]
    exact eatN_prefix K q _ (t.drop 64) x (by simp; omega)
/-- the whole padded text, eaten, is what the program's digest under way comes to -/
theorem eat_whole (K : List Int) (t : List UInt8) : (eatN K (t.length / 64 + (padB (t.drop (64 * (t.length / 64))) t.length).length / 64) begunS (t.take (64 * (t.length / 64)) ++ padB (t.drop (64 * (t.length / 64))) t.length)).1 = endV K t := by
  have hq : 64 * (t.length / 64) ≤ t.length := by omega
  obtain ⟨q, hqe⟩ : ∃ q, q = t.length / 64 := ⟨_, rfl⟩
  unfold endV
  rw [← hqe] at hq ⊢
  have hl : (t.take (64 * q)).length = 64 * q := by simp; omega
  rw [eatN_add, eatN_rest]
  have e1 : (t.take (64 * q) ++ padB (t.drop (64 * q)) t.length).drop (64 * q) = padB (t.drop (64 * q)) t.length := by
    rw [List.drop_append_of_le_length (by omega), List.drop_of_length_le (by omega), List.nil_append]
  have e2 : (eatN K q begunS (t.take (64 * q) ++ padB (t.drop (64 * q)) t.length)).1 = (eatN K q begunS t).1 := by
    rw [eatN_prefix K q begunS (t.take (64 * q)) _ (by omega)]
    have := eatN_prefix K q begunS (t.take (64 * q)) (t.drop (64 * q)) (by omega)
    rw [List.take_append_drop] at this
    exact this.symm
  rw [e1, e2]
theorem pad_whole (t : List UInt8) : t.take (64 * (t.length / 64)) ++ padB (t.drop (64 * (t.length / 64))) t.length = (t ++ 128 :: List.replicate (zN (t.length % 64)) 0) ++ lensL t.length 8 := by
  have hd : (t.drop (64 * (t.length / 64))).length = t.length % 64 := by simp; omega
  unfold padB endL
  rw [hd, ← List.append_assoc, ← List.append_assoc, List.take_append_drop]
end Go.Proofs.YthcmlbbbbcinkaaDoor

set_option linter.unusedVariables false
set_option linter.unusedSimpArgs false
namespace Go.Proofs.YthcmlbbbbcinkaaDoor
open Go.RowKit

theorem begunS_range : ∀ x ∈ begunS, R32 x := by
  intro x hx
  simp only [begunS, List.mem_cons, List.not_mem_nil, or_false] at hx
  rcases hx with rfl | rfl | rfl | rfl | rfl | rfl | rfl | rfl <;> exact ⟨by omega, by omega⟩
theorem mixS_range (K : List Int) (bl : List UInt8) (V : List Int) : ∀ x ∈ mixS K bl V, R32 x := by
  intro x hx
  unfold mixS addL at hx
  obtain ⟨j, hj, rfl⟩ := List.mem_map.1 hx
  have := List.mem_range.1 hj
  rw [if_pos this]
  exact R32.mod _
theorem eatN_range (K : List Int) (V : List Int) (l : List UInt8) (hV : ∀ x ∈ V, R32 x) : ∀ n, ∀ x ∈ (eatN K n V l).1, R32 x
  | 0 => hV
  | n + 1 => by rw [eatN_succ]; exact mixS_range _ _ _
end Go.Proofs.YthcmlbbbbcinkaaDoor

set_option linter.unusedVariables false
set_option linter.unusedSimpArgs false
namespace Go.Proofs.YthcmlbbbbcinkaaDoor
open Go.RowKit
attribute [local go_sem] Lb.ba_get Lb.ba_cut Lb.ba_add Lb.ba_size Lb.take_rest

theorem rowB_one (l : List Int) : (rowB l).all (·.oneCell') = true := by
  rw [Array.all_eq_true_iff_forall_mem]
  intro v hv
  simp only [rowB, List.mem_toArray, List.mem_map] at hv
  obtain ⟨x, _, rfl⟩ := hv
  rfl
theorem of_whole (K : List Int) (t S : List UInt8) (N : Nat) (hS : S = (t ++ 128 :: List.replicate (zN (t.length % 64)) 0) ++ lensL t.length 8) (hN : S.length = 64 * N) : digL (eatN K N begunS S).1 32 = hashL K t := by
  have h := eat_whole K t
  have hl := congrArg List.length (pad_whole t)
  rw [← hS, List.length_append, List.length_take] at hl
  rw [pad_whole, ← hS] at h
  have hn : t.length / 64 + (padB (t.drop (64 * (t.length / 64))) t.length).length / 64 = N := by omega
  rw [hn] at h
  unfold hashL
  rw [h]

end Go.Proofs.YthcmlbbbbcinkaaDoor
