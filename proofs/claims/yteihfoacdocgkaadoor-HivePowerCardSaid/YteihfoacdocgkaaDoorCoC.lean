/-
  Layer 3 (comb): the walk of Fits.
-/
import Derived.Test.YteihfoacdocgkaaDoorCoB
import Derived.BigQuiet
set_option linter.unusedVariables false
set_option linter.unusedSimpArgs false
namespace Go.Proofs.YteihfoacdocgkaaDoor
open Go.RowKit
attribute [local go_sem] Lb.ba_get Lb.ba_cut Lb.ba_add Lb.ba_size Lb.take_rest

theorem below_drewN'' {B : Nat} {a w : World} (h : Below B a w) (n : Nat) : Below B a (w.drewN n) := ⟨h.os, h.tape, h.output, h.size, h.block⟩
theorem Laid.drew {K : List Int} {w : World} (h : Laid K w) : Laid K w.drew := ⟨h.len, h.row⟩
theorem Laid.alloc {K : List Int} {w : World} (h : Laid K w) (o : Obj) : Laid K (w.alloc o) := h.below ((Below.refl _ w).alloc (Nat.le_refl _) o)
end Go.Proofs.YteihfoacdocgkaaDoor
