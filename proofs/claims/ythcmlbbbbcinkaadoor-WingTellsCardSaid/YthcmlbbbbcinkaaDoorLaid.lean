/-
  What the row's listed variable gives: the words lie in the package's block.
-/
import Derived.Test.YthcmlbbbbcinkaaDoorStH
import Derived.Test.YthcmlbbbbcinkaaDoorRows
import Derived.ProofKit
import Derived.LaidMore
import Derived.OpenShut
import Derived.Stop.Joined
set_option linter.unusedVariables false
set_option linter.unusedSimpArgs false
namespace Go.Proofs.YthcmlbbbbcinkaaDoor
open Go.ChangeShapes Go.WideShapes Go.ChangeAt Go.RowKit

def intOfD : DataW Unit → Int
  | .lit (.int _ n) => n
  | _ => 0
def listOfD : DataW Unit → List (DataW Unit)
  | .agg l => l
  | _ => []
def KK : List Int := (listOfD Rows.laid_apiary_stamp_words).map intOfD
theorem KK_length : KK.length = 64 := rfl
theorem gWords : Tryd.prog.globalNamed "apiary/stamp.words" = some 0 := by kernel_rfl
theorem tWords : (Tryd.prog.globals[0]?).map (·.type) = some 139 := by kernel_rfl
def laid1 : List (String × DataW Unit) := [("apiary/stamp.words", Rows.laid_apiary_stamp_words)]

theorem of_laid {W : World} (h : laidMetH Tryd.prog laid1 W) : Laid KK W := by
  rw [MakeChecks.laidMetH_plain _ _ _ (by kernel_rfl)] at h
  obtain ⟨ps, ⟨g0, t0, cs0, f0, p0, q0, hg0, ht0, hv0, hd0, _, _⟩, _, _⟩ := h
  obtain rfl := Option.some.inj (gWords.symm.trans hg0)
  obtain rfl := Option.some.inj (tWords.symm.trans ht0)
  obtain ⟨xs, m1, rfl, hx1, hlen, hn, hel⟩ := DataW.trod_array Tryd.underlying139 hd0
  have c1 : Tryd.prog.cellsOf 121 = 1 := by kernel_rfl
  have c64 : Tryd.prog.cellsOf 139 = 64 := by kernel_rfl
  rw [c64] at hlen
  rw [c1] at hel
  simp only [Prod.mk.injEq] at hx1
  have hx : xs.map (·.1) = listOfD Rows.laid_apiary_stamp_words := by rw [hx1.1]; rfl
  have hcs : cs0 = rowW KK := by
    apply Array.ext'
    apply List.ext_getElem?
    intro i
    by_cases hi : i < 64
    · have hxi : i < xs.length := by omega
      have h1 := hel i hi
      rw [List.getElem?_eq_getElem hxi] at h1
      obtain ⟨k, e1, e2, _⟩ := DataW.trod_int Tryd.underlying121 h1
      rw [Nat.mul_one] at e1
      have hc : cs0.toList[i]? = some (.int .u32 k) := by
        have h2 := congrArg (fun l => l[0]?) e1
        simp only [List.getElem?_take, List.getElem?_drop] at h2
        simpa using h2
      rw [hc]
      have hk : KK[i]? = some k := by
        unfold KK
        rw [← hx, List.getElem?_map, List.getElem?_map, List.getElem?_eq_getElem hxi, e2]
        rfl
      rw [Array.getElem?_toList, rowW_get hk]
    · rw [List.getElem?_eq_none (by omega), List.getElem?_eq_none (by simp [rowW, KK_length]; omega)]
  subst hcs
  refine ⟨KK_length, ?_⟩
  have hv := hv0
  unfold World.var? at hv
  rw [gWords] at hv
  simp only [Option.bind_some] at hv
  split at hv
  · next c t f hh =>
    simp only [Option.some.injEq] at hv
    subst hv
    exact ⟨t, f, hh⟩
  · cases hv
end Go.Proofs.YthcmlbbbbcinkaaDoor
