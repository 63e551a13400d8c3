/-
  What holds between two calls of the laws of manifests' bytes.
-/
import Derived.Test.YtokdnfhglckpkaaDoorFmA
import Derived.Test.YtokdnfhglckpkaaDoorRcG
import Derived.Test.YtokdnfhglckpkaaDoorCoG
set_option linter.unusedVariables false
namespace Go.Proofs.YtokdnfhglckpkaaDoor
open Go.RowKit Pl

/-- what holds between two calls of the law -/
structure LwSt (w : World) (q p : Nat) (m n : ManiD) (W : World) : Prop where
  hq : W.heap[q]? = some (.cells m.row 27 (0, 0))
  hp : W.heap[p]? = some (.cells n.row 27 (0, 0))
  laid : Laid KK W
  om : m.Ok W W.heap.size
  on : n.Ok W W.heap.size
  below : Below w.heap.size w W
theorem LwSt.step {w : World} {q p : Nat} {m n : ManiD} {W W' : World} (h : LwSt w q p m n W) (hB : Below W.heap.size W W') : LwSt w q p m n W' :=
  ⟨below_keep hB h.hq, below_keep hB h.hp, h.laid.below hB, (h.om.below hB (Nat.le_refl _)).more hB.size, (h.on.below hB (Nat.le_refl _)).more hB.size, h.below.trans (hB.mono h.below.size)⟩
theorem ok_step {m : ManiD} {W W' : World} (h : m.Ok W W.heap.size) (hB : Below W.heap.size W W') : m.Ok W' W'.heap.size := (h.below hB (Nat.le_refl _)).more hB.size
theorem range_mani {W : World} {q : Nat} {m : ManiD} (h : W.heap[q]? = some (.cells m.row 27 (0, 0))) : W.rangeAt q 0 m.cells := fun k v hv => by
  rw [Nat.zero_add, Lib.cell_of_heap h]
  unfold ManiD.row
  rw [List.getElem?_toArray]
  exact hv
theorem mani_infoC (m : ManiD) (hm : m.whole.length = 32) : (Tryd.prog.info? 27).map (·.size) = some m.cells.length := by
  have := m.row_size hm; rw [mani_info]; unfold ManiD.row at this; simp only [List.size_toArray] at this; rw [this]
theorem mani_infoR (m : ManiD) (hm : m.whole.length = 32) : (Tryd.prog.info? 27).map (·.size) = some m.row.size := by rw [m.row_size hm]; exact mani_info
theorem strs_nil (W : World) (B : Nat) : Strs W B none [] := fun i hi => by simp at hi
theorem lw_start (m n : ManiD) (w : World) (hL : Laid KK w) (hm : m.Ok w w.heap.size) (hn : n.Ok w w.heap.size) :
    LwSt w w.heap.size (w.heap.size + 1) m n ((w.alloc (.cells m.row 27)).alloc (.cells n.row 27)) := by
  have b0 : Below w.heap.size w ((w.alloc (.cells m.row 27)).alloc (.cells n.row 27)) := ((Below.refl _ w).alloc (Nat.le_refl _) _).alloc (by simp) _
  exact ⟨(Below.heap_alloc _ _ _ (by simp)).trans (heap_alloc_new w _), heap_alloc2_new w _ _, hL.below b0, ok_step hm b0, ok_step hn b0, b0⟩
theorem lw_put {w : World} {q p : Nat} {m n : ManiD} {W : World} (h : LwSt w q p m n W) (x : ManiD) (hx : x.whole.length = 32) : Below W.heap.size W ((W.alloc (.cells zeroMani.row 27)).setRow W.heap.size x.row) ∧ ((W.alloc (.cells zeroMani.row 27)).setRow W.heap.size x.row).heap[W.heap.size]? = some (.cells x.row 27 (0, 0)) :=
  ⟨(((Only.refl [W.heap.size] W).alloc _).setRow (by simp) _).below (Nat.le_refl _) (by simp), setRow_heap _ _ _ x.row _ _ (heap_alloc_new W (.cells zeroMani.row 27))⟩

theorem encB_le (m : ManiD) (hw : m.whole.length = 32) (he : ∀ d ∈ m.parts, d.length = 32) (hg : goodS m.size m.parts.length = true) : (encB m).length ≤ 140737488351232 := by
  have hb := good_bounds hg
  have h1 := flat32_length m.parts he
  have h2 := num_length_le m.size (by omega) (by omega)
  have h3 := num_length 3 (by omega)
  have h4 := num_length (num m.size).length (by omega)
  have h5 := num_length 32 (by omega)
  have h6 := num_length m.parts.flatten.length (by rw [h1]; omega)
  have e : (encB m).length = (num (3 : Nat)).length + ((num (32 : Nat)).length + 32 + ((num (num m.size).length).length + (num m.size).length + ((num m.parts.flatten.length).length + m.parts.flatten.length))) := by
    unfold encB
    simp only [srow, textsB, textB, List.map_cons, List.map_nil, List.flatten_cons, List.flatten_nil, List.length_append, List.length_nil, List.length_cons, hw, Nat.add_zero, Nat.zero_add, Nat.reduceAdd]
  rw [e]
  omega
end Go.Proofs.YtokdnfhglckpkaaDoor
