/-
  Layer 3 (comb): the walk of Join.
-/
import Derived.Test.YteihfoacdocgkaaDoorCoD
import Derived.Test.YteihfoacdocgkaaDoorShelf
set_option linter.unusedVariables false
set_option linter.unusedSimpArgs false
namespace Go.Proofs.YteihfoacdocgkaaDoor
open Go.RowKit
attribute [local go_sem] Lb.ba_get Lb.ba_cut Lb.ba_add Lb.ba_size Lb.take_rest

def joinS (K : List Int) (m : ManiD) (ts : List (List UInt8)) : List UInt8 × Int :=
  if goodS m.size m.parts.length = true ∧ ts.length = m.parts.length then
    if (List.range ts.length).all (fun i => fitsS K m i (ts.getD i [])) = true then
      if hashB K ts.flatten = m.whole then (ts.flatten, 0) else ([], 5)
    else ([], 5)
  else ([], 1)

theorem flat_le : ∀ (ts : List (List UInt8)) (B : Nat), (∀ t ∈ ts, t.length ≤ B) → ts.flatten.length ≤ ts.length * B
  | [], B, _ => by simp
  | t :: ts, B, h => by
    have h1 := h t (by simp)
    have h2 := flat_le ts B (fun x hx => h x (by simp [hx]))
    rw [List.flatten_cons, List.length_append, List.length_cons, Nat.add_mul]
    omega

end Go.Proofs.YteihfoacdocgkaaDoor
