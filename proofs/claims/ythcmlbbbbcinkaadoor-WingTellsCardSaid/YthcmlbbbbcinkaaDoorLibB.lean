/-
  Run equations over any program: an owned row of bytes as a string.
-/
import Derived.Test.YthcmlbbbbcinkaaDoorBase
set_option linter.unusedVariables false
set_option linter.unusedSimpArgs false
namespace Go.Proofs.YthcmlbbbbcinkaaDoor.Lb
open Go Go.RowKit

section
variable {P : Program}

theorem run_str_own {src dst e : TypeId} (hs : P.underlying src = some (.slice e)) (he : P.underlying e = some (.int .u8)) (hd : P.underlying dst = some .string)
    {base g cap : Nat} {ds : List UInt8} (W : World) (hown : W.ownsRow base e 1 (.slice (some ⟨g, 0, none⟩) ds.length cap) ds.length (Lib.byteCells ds)) :
    (convert src dst (.slice (some ⟨g, 0, none⟩) ds.length cap)).run P W = .ok (.string ⟨ds.toArray⟩) W := by
  refine run_convert_bytes_back W src dst e ⟨g, 0, none⟩ cap ds hs he hd fun j hj => ?_
  exact hown.cells (g := g) rfl j _ (by simp [Lib.byteCells, hj])

theorem ofNat_sum (s L : Nat) : UInt8.ofNat ((s : Int) + (L : Int)).toNat = UInt8.ofNat (s + L) := by
  congr 1
end
end Go.Proofs.YthcmlbbbbcinkaaDoor.Lb
