/-
  Layer 3 (comb): the walk of Join.
-/
import Derived.Test.YteihfoacdocgkaaDoorCoD
import Derived.Test.YteihfoacdocgkaaDoorShelf
set_option linter.unusedVariables false
set_option linter.unusedSimpArgs false
namespace Go.Proofs.YteihfoacdocgkaaDoor
open Go.RowKit
attribute [local go_sem] Lb.ba_get Lb.ba_cut Lb.ba_add Lb.ba_size Lb.take_rest

def joinS (K : List Int) (m : ManiD) (ts : List (List UInt8)) : List UInt8 × Int :=
  if goodS m.size m.parts.length = true ∧ ts.length = m.parts.length then
    if (List.range ts.length).all (fun i => fitsS K m i (ts.getD i [])) = true then
      if hashB K ts.flatten = m.whole then (ts.flatten, 0) else ([], 5)
    else ([], 5)
  else ([], 1)

end Go.Proofs.YteihfoacdocgkaaDoor
