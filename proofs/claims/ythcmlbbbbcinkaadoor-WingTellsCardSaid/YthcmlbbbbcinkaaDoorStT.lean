/-
  Layer 2's reference: the walk of block.
-/
import Derived.Test.YthcmlbbbbcinkaaDoorStS
set_option linter.unusedVariables false
set_option linter.unusedSimpArgs false
namespace Go.Proofs.YthcmlbbbbcinkaaDoor
open Go.RowKit
attribute [local go_sem] Lb.ba_get Lb.ba_cut Lb.ba_add Lb.ba_size Lb.take_rest

theorem roundsS_range (K W V : List Int) (hV : ∀ x ∈ V, R32 x) : ∀ k, ∀ x ∈ roundsS K W V k, R32 x
  | 0 => hV
  | k + 1 => by
    have ih := roundsS_range K W V hV k
    unfold roundsS
    intro x hx
    generalize roundsS K W V k = l at ih hx
    match l, ih, hx with
    | [a, b, c, d, e, f, g, h], ih, hx =>
      simp only [rstep, List.mem_cons, List.not_mem_nil, or_false] at hx
      rcases hx with rfl | rfl | rfl | rfl | rfl | rfl | rfl | rfl
      · exact R32.mod _
      · exact ih _ (by simp)
      · exact ih _ (by simp)
      · exact ih _ (by simp)
      · exact R32.mod _
      · exact ih _ (by simp)
      · exact ih _ (by simp)
      · exact ih _ (by simp)
    | [], ih, hx => exact ih x hx
    | [_], ih, hx => exact ih x hx
    | [_, _], ih, hx => exact ih x hx
    | [_, _, _], ih, hx => exact ih x hx
    | [_, _, _, _], ih, hx => exact ih x hx
    | [_, _, _, _, _], ih, hx => exact ih x hx
    | [_, _, _, _, _, _], ih, hx => exact ih x hx
    | [_, _, _, _, _, _, _], ih, hx => exact ih x hx
    | _ :: _ :: _ :: _ :: _ :: _ :: _ :: _ :: _ :: _, ih, hx => exact ih x hx

end Go.Proofs.YthcmlbbbbcinkaaDoor
