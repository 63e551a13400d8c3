/-
  Arguments of type api.Manifest; slices of texts with their capacity.
-/
import Derived.Test.YteihfoacdocgkaaDoorRow
import Derived.Test.YteihfoacdocgkaaDoorCoB
import Derived.Deep.Slices
import Derived.Deep.Strs
set_option linter.unusedVariables false
set_option linter.unusedSimpArgs false
namespace Go.Proofs.YteihfoacdocgkaaDoor
open Go.RowKit Go.ChangeShapes Go.WideShapes Go.Deep

section
variable {H : Type} {enc : TypeId × Value → H} {w : World} {base : Nat} {held : Bool}

theorem wf_u8_ {n : Int} (h : (Lit.int .u8 n).wf = true) : 0 ≤ n ∧ n < 256 := by
  simp only [Lit.wf, Bool.and_eq_true, decide_eq_true_eq] at h
  have h1 := h.1
  have h2 := h.2
  have e1 : IntKind.u8.min = 0 := rfl
  have e2 : IntKind.u8.max = 255 := rfl
  rw [e1] at h1
  rw [e2] at h2
  omega

set_option maxRecDepth 100000 in
theorem open_dig {fuel : Nat} {cs : List Value} {x : DataW H × List MemPlace} (h : DataW.trod enc Tryd.prog w base (fun _ => true) held fuel 23 cs = some x) :
    ∃ d : List UInt8, d.length = 32 ∧ cs = byV d := by
  obtain ⟨xs, m, rfl, hx, hlen, hn, hel⟩ := DataW.trod_array Tryd.underlying23 h
  have c1 : Tryd.prog.cellsOf 5 = 1 := by kernel_rfl
  have c32 : Tryd.prog.cellsOf 23 = 32 := by kernel_rfl
  rw [c32] at hlen
  rw [c1] at hel
  have key : ∀ i (hi : i < cs.length), ∃ b : UInt8, cs[i] = .int .u8 ((b.toNat : Nat) : Int) := by
    intro i hi
    have hxi : i < xs.length := by omega
    have h1 := hel i (by omega)
    rw [List.getElem?_eq_getElem hxi, Nat.mul_one] at h1
    obtain ⟨k, e1, _, wf⟩ := DataW.trod_int Tryd.underlying5 h1
    have h2 := congrArg (fun l => l[0]?) e1
    simp only [List.getElem?_take, List.getElem?_drop] at h2
    have h3 : cs[i]? = some (.int .u8 k) := by simpa using h2
    rw [List.getElem?_eq_getElem hi] at h3
    have hb := wf_u8_ wf
    refine ⟨UInt8.ofNat k.toNat, ?_⟩
    rw [Option.some.inj h3]
    congr 1
    rw [UInt8.toNat_ofNat']
    omega
  refine ⟨(List.range cs.length).map fun i => Classical.epsilon fun b : UInt8 => cs[i]? = some (.int .u8 ((b.toNat : Nat) : Int)), by simp [hlen], ?_⟩
  apply List.ext_getElem
  · simp [byV]
  · intro i h1 h2
    obtain ⟨b, hb⟩ := key i h1
    have hs := Classical.epsilon_spec (p := fun b : UInt8 => cs[i]? = some (.int .u8 ((b.toNat : Nat) : Int))) ⟨b, by rw [List.getElem?_eq_getElem h1, hb]⟩
    have hs2 := (List.getElem?_eq_getElem h1).symm.trans hs
    simp only [byV, List.getElem_map, List.getElem_range]
    exact Option.some.inj hs2

end
end Go.Proofs.YteihfoacdocgkaaDoor
