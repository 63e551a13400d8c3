/-
  Layer 2's reference: ranges of what is eaten; block over a list of eight words.
-/
import Derived.Test.YtfbjbhddapoopaaDoorStU
set_option linter.unusedVariables false
set_option linter.unusedSimpArgs false
namespace Go.Proofs.YtfbjbhddapoopaaDoor
open Go.RowKit

theorem begunS_range : ∀ x ∈ begunS, R32 x := by
  intro x hx
  simp only [begunS, List.mem_cons, List.not_mem_nil, or_false] at hx
  rcases hx with rfl | rfl | rfl | rfl | rfl | rfl | rfl | rfl <;> exact ⟨by omega, by omega⟩
theorem mixS_range (K : List Int) (bl : List UInt8) (V : List Int) : ∀ x ∈ mixS K bl V, R32 x := by
  intro x hx
  unfold mixS addL at hx
  obtain ⟨j, hj, rfl⟩ := List.mem_map.1 hx
  have := List.mem_range.1 hj
  rw [if_pos this]
  exact R32.mod _
theorem eatN_range (K : List Int) (V : List Int) (l : List UInt8) (hV : ∀ x ∈ V, R32 x) : ∀ n, ∀ x ∈ (eatN K n V l).1, R32 x
  | 0 => hV
  | n + 1 => by rw [eatN_succ]; exact mixS_range _ _ _
theorem block_list (V : List Int) (hV : V.length = 8) (K : List Int) (bl : List UInt8) (w : World) (hK : K.length = 64) (hbl : bl.length = 64) (hr : ∀ x ∈ V, R32 x) :
    Calls Tryd.prog 130 #[.agg (rowW V), .agg (rowW K), .string ⟨bl.toArray⟩] w fun e w' => e = .returned (.agg (rowW (mixS K bl V))) ∧ Below w.heap.size w w' := by
  match V, hV, hr with
  | [v0, v1, v2, v3, v4, v5, v6, v7], _, hr => exact block_any v0 v1 v2 v3 v4 v5 v6 v7 K bl w hK hbl hr
end Go.Proofs.YtfbjbhddapoopaaDoor
