/-
  What a round of Decode keeps.
-/
import Derived.RangeFuncNested
import Derived.RangeFuncCalls
import Derived.OwnWalkIn
import Derived.Orders
import Derived.OrdersIn
import Derived.WalkKit
import Derived.Test.YthcmlbbbbcinkaaDoorRoundB
import Derived.Test.YthcmlbbbbcinkaaDoorFmE
import Derived.Test.YthcmlbbbbcinkaaDoorFmG
set_option linter.unusedVariables false
namespace Go.Proofs.YthcmlbbbbcinkaaDoor
open Go Go.RowKit
/-- between two rounds of Decode: the manifest's block, and its digests so far -/
def InvD (p : Nat) (a c : List UInt8) (n : Int) (k : Nat) (w0 : World) (pre : List { x : Nat // x < k }) (W : World) : Prop :=
  ∃ v, (v = .slice none 0 0 ∨ 0 < (((pre.map fun x => cut32 c x.1).map byV).flatten).length) ∧ W.heap[p]? = some (.cells (maniRow a n v) 31 (0, 0)) ∧ Bag0 W w0.heap.size 32 v pre.length (((pre.map fun x => cut32 c x.1).map byV).flatten) ∧ Only [p] w0 W
theorem invD_own (p : Nat) (a c : List UInt8) (n : Int) (k : Nat) (w0 : World) (hp : p < w0.heap.size) : OwnFrom w0.heap.size (InvD p a c n k w0) := by
  rintro s W W' row ⟨v, h0, hP, hB, hO⟩ hg hr
  refine ⟨v, h0, ?_, ?_, ?_⟩
  · refine (hg.block p (heap_lt hP) (fun e => ?_)).trans hP
    have := (hr p e.symm).1
    omega
  · rcases hB with ⟨rfl, hl, hc⟩ | ⟨g, cap, rfl, hge, hb⟩
    · exact .inl ⟨rfl, hl, hc⟩
    · refine .inr ⟨g, cap, rfl, hge, hb.keep (hg.block g hb.lt (fun e => ?_))⟩
      obtain ⟨_, o, ho, hc⟩ := hr g e.symm
      rcases h0 with h0 | h0
      · cases h0
      · obtain ⟨cs, t, f, he⟩ := cells_of_cell (hb.holds 0 _ (List.getElem?_eq_getElem h0))
        rw [he] at ho
        cases ho
        cases hc
  · exact ⟨hg.os.trans hO.os, hg.tape.trans hO.tape, hg.output.trans hO.output, Nat.le_trans hO.size hg.size, fun i hi hn => (hg.block i (Nat.lt_of_lt_of_le hi hO.size) (fun e => by have := (hr i e.symm).1; omega)).trans (hO.block i hi hn)⟩
theorem pre_succ {k : Nat} (c : List UInt8) (pre : List { x : Nat // x < k }) (x : { x : Nat // x < k }) : ((((pre ++ [x]).map fun x => cut32 c x.1).map byV).flatten) = (((pre.map fun x => cut32 c x.1).map byV).flatten) ++ byV (cut32 c x.1) := by
  simp
end Go.Proofs.YthcmlbbbbcinkaaDoor
