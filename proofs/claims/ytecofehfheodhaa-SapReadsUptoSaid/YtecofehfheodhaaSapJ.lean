/-
  What layer 1's statements ask first: awake() answers true.
-/
import Derived.Test.YtecofehfheodhaaSapI
set_option linter.unusedVariables false
set_option linter.unusedSimpArgs false
namespace Go.Proofs.Ytecofehfheodhaa
open Go.RowKit Pl
attribute [local go_sem] Lb.ba_get Lb.ba_cut Lb.ba_add Lb.ba_size Lb.take_rest

theorem num_300 : num 300 = [2, 1, 44] := by
  have e1 : mag 300 = 300 := by decide
  unfold num; rw [e1, be_pos (by decide), be_pos (by decide), show 300 / 256 / 256 = 0 from rfl, be_zero]; decide
theorem num_m2 : num (-2) = [129, 1] := by
  have e1 : mag (-2) = 1 := by decide
  unfold num; rw [e1, be_pos (by decide), show 1 / 256 = 0 from rfl, be_zero]; decide
theorem num_0 : num 0 = [0] := by
  have e1 : mag 0 = 0 := by decide
  unfold num; rw [e1, be_zero]; decide
theorem num_1 : num 1 = [1, 1] := by
  have e1 : mag 1 = 1 := by decide
  unfold num; rw [e1, be_pos (by decide), show 1 / 256 = 0 from rfl, be_zero]; decide
theorem num_2 : num 2 = [1, 2] := by
  have e1 : mag 2 = 2 := by decide
  unfold num; rw [e1, be_pos (by decide), show 2 / 256 = 0 from rfl, be_zero]; decide
theorem row_a : rowB [[97], []] = [1, 2, 1, 1, 97, 0] := by
  simp [rowB, textsB, textB, num_2, num_1, num_0]
theorem rd_300 : rdNum [2, 1, 44, 120] = some (300, [120]) := by decide
theorem rd_ab : rdText [1, 2, 97, 98, 99] 2 = some ([97, 98], [99]) := by decide

theorem strs_two (w : World) (x y : List UInt8) : Strs (w.alloc (.cells #[.string ⟨x.toArray⟩, .string ⟨y.toArray⟩] 9)) (w.heap.size + 1) (some ⟨w.heap.size, 0, none⟩) [x, y] := by
  intro i hi
  refine ⟨_, rfl, by simp, ?_⟩
  match i, hi with
  | 0, _ => simp [Addr.add]
  | 1, _ => simp [Addr.add]

set_option maxHeartbeats 2000000 in
set_option maxRecDepth 100000 in
theorem awake_any (w : World) : Calls Try.prog 15 #[] w fun e w' => e = .returned (.bool true) ∧ Below w.heap.size w w' := by
  go_enter Try.func15, Try.ntmps15
  go_wp2_with fail
  refine (readNum_some rd_300 _ (by decide)).mono ?_
  rintro e w1 ⟨rfl, hB1⟩
  go_wp2_with fail
  refine (readText_some rd_ab _ (by decide)).mono ?_
  rintro e w2 ⟨rfl, hB2⟩
  go_wp2_with fail
  refine (num_any 300 _ (by decide) (by decide)).mono ?_
  rw [num_300]
  rintro e w3 ⟨rfl, hB3⟩
  go_wp2_with fail
  refine (num_any (-2) _ (by decide) (by decide)).mono ?_
  rw [num_m2]
  rintro e w4 ⟨rfl, hB4⟩
  go_wp2_with fail
  refine (num_any 0 _ (by decide) (by decide)).mono ?_
  rw [num_0]
  rintro e w5 ⟨rfl, hB5⟩
  go_wp2_with fail
  refine (row_any _ _ [[97], []] _ (by rw [World.size_alloc]; exact strs_two w5 [97] []) (by rw [row_a]; decide)).mono ?_
  rw [row_a]
  rintro e w6 ⟨rfl, hB6⟩
  go_wp2
  go_ret
  have z1 := hB1.size; have z2 := hB2.size; have z3 := hB3.size; have z4 := hB4.size; have z5 := hB5.size
  have b5 : Below w.heap.size w w5 := (((hB1.trans (hB2.mono (by omega))).trans (hB3.mono (by omega))).trans (hB4.mono (by omega))).trans (hB5.mono (by omega))
  exact ⟨rfl, (b5.alloc (by omega) _).trans (hB6.mono (by rw [World.size_alloc]; omega))⟩
end Go.Proofs.Ytecofehfheodhaa
