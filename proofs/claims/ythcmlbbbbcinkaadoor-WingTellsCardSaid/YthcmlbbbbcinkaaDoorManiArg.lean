/-
  Arguments of type api.Manifest; slices of texts with their capacity.
-/
import Derived.Test.YthcmlbbbbcinkaaDoorRow
import Derived.Test.YthcmlbbbbcinkaaDoorCoB
import Derived.Deep.Slices
import Derived.Deep.Strs
set_option linter.unusedVariables false
set_option linter.unusedSimpArgs false
namespace Go.Proofs.YthcmlbbbbcinkaaDoor
open Go.RowKit Go.ChangeShapes Go.WideShapes Go.Deep

section
variable {H : Type} {enc : TypeId × Value → H} {w : World} {base : Nat} {held : Bool}

theorem wf_u8_ {n : Int} (h : (Lit.int .u8 n).wf = true) : 0 ≤ n ∧ n < 256 := by
  simp only [Lit.wf, Bool.and_eq_true, decide_eq_true_eq] at h
  have h1 := h.1
  have h2 := h.2
  have e1 : IntKind.u8.min = 0 := rfl
  have e2 : IntKind.u8.max = 255 := rfl
  rw [e1] at h1
  rw [e2] at h2
  omega

set_option maxRecDepth 100000 in
theorem open_dig {fuel : Nat} {cs : List Value} {x : DataW H × List MemPlace} (h : DataW.trod enc Tryd.prog w base (fun _ => true) held fuel 23 cs = some x) :
    ∃ d : List UInt8, d.length = 32 ∧ cs = byV d := by
  obtain ⟨xs, m, rfl, hx, hlen, hn, hel⟩ := DataW.trod_array Tryd.underlying23 h
  have c1 : Tryd.prog.cellsOf 5 = 1 := by kernel_rfl
  have c32 : Tryd.prog.cellsOf 23 = 32 := by kernel_rfl
  rw [c32] at hlen
  rw [c1] at hel
  have key : ∀ i (hi : i < cs.length), ∃ b : UInt8, cs[i] = .int .u8 ((b.toNat : Nat) : Int) := by
    intro i hi
    have hxi : i < xs.length := by omega
    have h1 := hel i (by omega)
    rw [List.getElem?_eq_getElem hxi, Nat.mul_one] at h1
    obtain ⟨k, e1, _, wf⟩ := DataW.trod_int Tryd.underlying5 h1
    have h2 := congrArg (fun l => l[0]?) e1
    simp only [List.getElem?_take, List.getElem?_drop] at h2
    have h3 : cs[i]? = some (.int .u8 k) := by simpa using h2
    rw [List.getElem?_eq_getElem hi] at h3
    have hb := wf_u8_ wf
    refine ⟨UInt8.ofNat k.toNat, ?_⟩
    rw [Option.some.inj h3]
    congr 1
    rw [UInt8.toNat_ofNat']
    omega
  refine ⟨(List.range cs.length).map fun i => Classical.epsilon fun b : UInt8 => cs[i]? = some (.int .u8 ((b.toNat : Nat) : Int)), by simp [hlen], ?_⟩
  apply List.ext_getElem
  · simp [byV]
  · intro i h1 h2
    obtain ⟨b, hb⟩ := key i h1
    have hs := Classical.epsilon_spec (p := fun b : UInt8 => cs[i]? = some (.int .u8 ((b.toNat : Nat) : Int))) ⟨b, by rw [List.getElem?_eq_getElem h1, hb]⟩
    have hs2 := (List.getElem?_eq_getElem h1).symm.trans hs
    simp only [byV, List.getElem_map, List.getElem_range]
    exact Option.some.inj hs2

theorem open_digs {fuel : Nat} {v : Value} {x : DataW H × List MemPlace} (h : DataW.trod enc Tryd.prog w base (fun _ => true) held fuel 29 [v] = some x) :
    ∃ (A : Option Addr) (cap : Nat) (ds : List (List UInt8)), v = .slice A ds.length cap ∧ Digs w w.heap.size A ds ∧ ds.length ≤ maxLen ∧ ∀ d ∈ ds, d.length = 32 := by
  rcases open_slice Tryd.underlying29 h with ⟨hcs, _⟩ | ⟨a, len, cap, m, n, D, Pl, hcs, _, hl, hm, hmm, _, hi⟩
  · simp only [List.cons.injEq, and_true] at hcs
    subst hcs
    exact ⟨none, 0, [], rfl, fun i hi => absurd hi (by simp), by simp, by simp⟩
  · simp only [List.cons.injEq, and_true] at hcs
    subst hcs
    simp only [if_true] at hmm
    have c32 : Tryd.prog.cellsOf 23 = 32 := by kernel_rfl
    have key : ∀ i, i < len → ∃ d : List UInt8, d.length = 32 ∧ ∀ k, k < 32 → w.cell? ((a.add (i * 32)).add k) = (byV d)[k]? := by
      intro i hil
      obtain ⟨cs', hc, ht⟩ := hi i (by omega)
      rw [c32] at hc
      obtain ⟨d, hd, rfl⟩ := open_dig ht
      obtain ⟨_, _, hat⟩ := World.cells?_some hc
      exact ⟨d, hd, fun k hk => hat k hk⟩
    refine ⟨some a, cap, (List.range len).map fun i => Classical.epsilon fun d : List UInt8 => d.length = 32 ∧ ∀ k, k < 32 → w.cell? ((a.add (i * 32)).add k) = (byV d)[k]?, by simp, ?_, by simp; omega, ?_⟩
    · intro i hil
      simp only [List.length_map, List.length_range] at hil
      have hs := Classical.epsilon_spec (key i hil)
      simp only [List.getElem_map, List.getElem_range]
      obtain ⟨d, hd⟩ : ∃ d, d = Classical.epsilon fun d : List UInt8 => d.length = 32 ∧ ∀ k, k < 32 → w.cell? ((a.add (i * 32)).add k) = (byV d)[k]? := ⟨_, rfl⟩
      rw [← hd] at hs ⊢
      obtain ⟨hd32, hc⟩ := hs
      have hsp : a.spot = none := by
        obtain ⟨d0, hd0, hc0⟩ := key 0 (by omega)
        have h0 := hc0 0 (by omega)
        have hlt : 0 < (byV d0).length := by rw [byV_length]; omega
        rw [List.getElem?_eq_getElem hlt] at h0
        have h1 : w.cell? a = some ((byV d0)[0]) := by
          have e : (a.add (0 * 32)).add 0 = a := by simp [Addr.add]
          rw [e] at h0; exact h0
        unfold World.cell? at h1
        split at h1
        · by_cases hs : a.spot.isSome = true
          · rw [if_pos hs] at h1; cases h1
          · cases hsp : a.spot with
            | none => rfl
            | some x => rw [hsp] at hs; simp at hs
        · cases h1
      have h0 := hc 0 (by omega)
      have hlt : 0 < (byV d).length := by rw [byV_length]; omega
      rw [List.getElem?_eq_getElem hlt] at h0
      obtain ⟨b, o, sp⟩ := a
      simp only at hsp
      subst hsp
      refine ⟨b, o, rfl, ?_, fun k v hv => ?_⟩
      · have := block_lt_of_cell h0
        rw [block_add, block_add] at this
        exact this
      · have hk : k < (byV d).length := (List.getElem?_eq_some_iff.1 hv).1
        have := hc k (by rw [byV_length] at hk; omega)
        rw [Addr.add_lit, Addr.add_lit] at this
        rw [this]; exact hv
    · intro d hd
      obtain ⟨i, hi', rfl⟩ := List.mem_map.1 hd
      exact (Classical.epsilon_spec (key i (List.mem_range.1 hi'))).1

/-- the cells of a manifest -/
theorem open_maniC {fuel : Nat} {cs : List Value} {x : DataW H × List MemPlace} (hf : DataW.trod enc Tryd.prog w base (fun _ => true) held fuel 31 cs = some x) :
    ∃ m : ManiD, cs = m.cells ∧ m.Ok w w.heap.size := by
  obtain ⟨y0, y1, y2, n, hx, hlen, h0, h1, h2⟩ := trod_struct3 Tryd.underlying31 hf
  have c34 : Tryd.prog.cellsOf 31 = 34 := by kernel_rfl
  have c32 : Tryd.prog.cellsOf 23 = 32 := by kernel_rfl
  have c1 : Tryd.prog.cellsOf 3 = 1 := by kernel_rfl
  have c1' : Tryd.prog.cellsOf 29 = 1 := by kernel_rfl
  rw [c34] at hlen
  simp only [c32, c1, c1'] at h0 h1 h2
  obtain ⟨d, hd, e0⟩ := open_dig h0
  obtain ⟨s, e1, _, wf⟩ := DataW.trod_int Tryd.underlying3 h1
  have l2 : ∃ v, (cs.drop 33).take 1 = [v] := by
    have : (cs.drop 33).length = 1 := by simp [hlen]
    match hq : cs.drop 33, this with
    | [v], _ => exact ⟨v, rfl⟩
  obtain ⟨v, e2⟩ := l2
  rw [e2] at h2
  obtain ⟨A, cap, ds, rfl, hD, hm, h32⟩ := open_digs h2
  have hb := wf_bounds_ wf
  refine ⟨⟨d, s, A, cap, ds⟩, ?_, ⟨hd, h32, hb.1, hb.2, hm, hD⟩⟩
  unfold ManiD.cells
  have e3 : cs = (cs.drop 0).take 32 ++ ((cs.drop 32).take 1 ++ (cs.drop 33).take 1) := by
    have a1 : (cs.drop 33).take 1 = cs.drop 33 := List.take_of_length_le (by simp [hlen])
    have a2 : (cs.drop 32).take 1 ++ cs.drop 33 = cs.drop 32 := by
      have := List.take_append_drop 1 (cs.drop 32)
      rw [List.drop_drop] at this
      exact this
    rw [a1, a2, List.drop_zero, List.take_append_drop]
  rw [e3, e0, e1, e2]
  rfl
set_option maxRecDepth 100000 in
/-- an argument of type api.Manifest -/
theorem open_mani {v : Value} {d : DataW H} {ps : List MemPlace} {r : Reach} {b0 : Nat} (hv : Value.okWide Tryd.prog w r b0 31 v) (h : DataW.Trod enc Tryd.prog w base (fun _ => true) held 31 v d ps) :
    ∃ m : ManiD, v = .agg m.row ∧ m.Ok w w.heap.size := by
  obtain ⟨cs, rfl, hsz⟩ := okWide_struct Tryd.underlying31 hv
  obtain ⟨fuel, hf⟩ := h
  obtain ⟨m, e, hm⟩ := open_maniC hf
  refine ⟨m, ?_, hm⟩
  have e2 : cs = m.cells.toArray := by
    apply Array.ext'
    exact e
  rw [e2]; rfl

set_option maxRecDepth 100000 in
/-- an argument of type []string, with its capacity -/
theorem open_strc {v : Value} {d : DataW H} {ps : List MemPlace} {r : Reach} {b0 : Nat} (hv : Value.okWide Tryd.prog w r b0 54 v) (h : DataW.Trod enc Tryd.prog w base (fun _ => true) held 54 v d ps) :
    ∃ (A : Option Addr) (cap : Nat) (ls : List (List UInt8)), v = .slice A ls.length cap ∧ Strs w w.heap.size A ls ∧ ls.length ≤ cap ∧ cap ≤ maxLen ∧ (∀ s ∈ ls, s.length ≤ maxLen) := by
  obtain ⟨a0, len, cap, rfl⟩ := okWide_slice Tryd.underlying54 hv
  obtain ⟨fuel, hf⟩ := h
  rcases open_strings Tryd.underlying54 Tryd.underlying9 (by kernel_rfl) hf with ⟨hcs, hx⟩ | ⟨a, len', cap', ss, hcs, _, hl, hm, hz, hx, hcell, hsz⟩
  · simp only [Value.cells, Array.toList, List.cons.injEq, Value.slice.injEq, and_true] at hcs
    obtain ⟨rfl, rfl, rfl⟩ := hcs
    exact ⟨none, 0, [], rfl, fun i hi => absurd hi (by simp), by simp, by simp, by simp⟩
  · simp only [Value.cells, Array.toList, List.cons.injEq, Value.slice.injEq, and_true] at hcs
    obtain ⟨rfl, rfl, rfl⟩ := hcs
    simp only [if_true] at hz
    have hlen : ((ss.take len).map fun s => s.data.toList).length = len := by simp; omega
    refine ⟨some a, cap, (ss.take len).map fun s => s.data.toList, by rw [hlen], ?_, by rw [hlen]; exact hl, hm, ?_⟩
    · intro i hi
      rw [hlen] at hi
      have hc := hcell i (by omega)
      refine ⟨a, rfl, ?_, ?_⟩
      · have := block_lt_of_cell hc
        rwa [block_add] at this
      · rw [hc]
        simp [List.getD, List.getElem?_eq_getElem (show i < ss.length by omega)]
    · intro s hs
      simp only [List.mem_map] at hs
      obtain ⟨b, hb, rfl⟩ := hs
      have := hsz b (List.mem_of_mem_take hb)
      simpa using this
end
end Go.Proofs.YthcmlbbbbcinkaaDoor
