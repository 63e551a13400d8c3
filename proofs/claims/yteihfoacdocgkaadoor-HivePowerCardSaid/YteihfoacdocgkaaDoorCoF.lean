/-
  Layer 3 (comb): plain facts on a text's own manifest.
-/
import Derived.Test.YteihfoacdocgkaaDoorCoE
set_option linter.unusedVariables false
set_option linter.unusedSimpArgs false
namespace Go.Proofs.YteihfoacdocgkaaDoor
open Go.RowKit

theorem chunk_length (l : List UInt8) (j : Nat) : (chunk l j).length = min 64 (l.length - 64 * j) := by simp [chunk]
/-- the manifest m is that of the text l -/
structure OwnM (K : List Int) (m : ManiD) (l : List UInt8) : Prop where
  whole : m.whole = hashB K l
  size : m.size = l.length
  parts : m.parts = (chunks l).map (hashB K)
theorem OwnM.good {K : List Int} {m : ManiD} {l : List UInt8} (h : OwnM K m l) (hl : l.length ≤ 512) : goodS m.size m.parts.length = true := by
  unfold goodS
  rw [h.size, h.parts, List.length_map, chunks_length]
  simp
  omega
theorem OwnM.fits {K : List Int} {m : ManiD} {l : List UInt8} (h : OwnM K m l) (hl : l.length ≤ 512) (i : Nat) (hi : i < (chunks l).length) (x : List UInt8) :
    fitsS K m (i : Int) x = (decide (x.length = (chunk l i).length) && (hashB K x == hashB K (chunk l i))) := by
  have hc := chunks_length l
  unfold fitsS
  rw [h.good hl, h.size, h.parts, List.length_map, chunk_length]
  have e1 : decide ((0 : Int) ≤ (i : Int)) = true := by simp
  have e2 : decide ((i : Int) < ((chunks l).length : Int)) = true := by simp; exact hi
  have e3 : decide ((x.length : Int) = min ((l.length : Int) - (i : Int) * 64) 64) = decide (x.length = min 64 (l.length - 64 * i)) := by
    rw [Bool.eq_iff_iff]; simp only [decide_eq_true_eq]; omega
  have e4 : ((chunks l).map (hashB K)).getD (i : Int).toNat [] = hashB K (chunk l i) := by
    rw [List.getD_eq_getElem?_getD, List.getElem?_map, Int.toNat_natCast, List.getElem?_eq_getElem hi, chunks_get]; rfl
  rw [e1, e2, e3, e4]
  simp
end Go.Proofs.YteihfoacdocgkaaDoor
