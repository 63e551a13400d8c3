/-
  Arguments of array types.
-/
import Derived.Test.YtokdnfhglckpkaaDoorHaO
set_option linter.unusedVariables false
set_option linter.unusedSimpArgs false
namespace Go.Proofs.YtokdnfhglckpkaaDoor
open Go.RowKit Go.ChangeShapes Go.WideShapes Go.Deep
theorem okWide_array' {P : Program} {w : World} {r : Reach} {base : Nat} {t : TypeId} {v : Value} {n : Nat} {e : TypeId} (ht : P.underlying t = some (.array n e)) (h : Value.okWide P w r base t v) : ∃ cs, v = .agg cs := by
  simp only [Value.okWide, ht] at h
  obtain ⟨cs, h1, _⟩ := h
  exact ⟨cs, h1⟩
section
variable {H : Type} {enc : TypeId × Value → H} {w : World} {base : Nat} {held : Bool}
set_option maxRecDepth 100000 in
/-- an argument of type api.Digest -/
theorem open_digV {v : Value} {d : DataW H} {ps : List MemPlace} {r : Reach} {b0 : Nat} (hv : Value.okWide Tryd.prog w r b0 24 v) (h : DataW.Trod enc Tryd.prog w base (fun _ => true) held 24 v d ps) :
    ∃ o : List UInt8, v = .agg (digV o) ∧ o.length = 32 := by
  obtain ⟨cs, rfl⟩ := okWide_array' Tryd.underlying24 hv
  obtain ⟨fuel, hf⟩ := h
  obtain ⟨o, ho, e⟩ := open_dig hf
  refine ⟨o, ?_, ho⟩
  have e2 : cs = (byV o).toArray := by apply Array.ext'; exact e
  rw [e2]; rfl
end
end Go.Proofs.YtokdnfhglckpkaaDoor
