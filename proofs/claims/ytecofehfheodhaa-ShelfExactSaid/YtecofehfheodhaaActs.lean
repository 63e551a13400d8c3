/-
  Arguments of type []Act: cells, texts, fates.
-/
import Derived.Test.YtecofehfheodhaaRow
import Derived.Deep.Slices
import Derived.Deep.Fields
import Derived.ChangeSame
set_option linter.unusedVariables false
set_option linter.unusedSimpArgs false
namespace Go.Proofs.Ytecofehfheodhaa
open Go.RowKit

structure ActD where
  kind : Int
  at_ : Int
  text : List UInt8
  A : Option Addr
  cap : Nat
  fs : List Int

structure ActAt (w : World) (B : Nat) (a : Addr) (d : ActD) : Prop where
  c0 : w.cell? a = some (.int .i64 d.kind)
  c1 : w.cell? (a.add 1) = some (.int .i64 d.at_)
  c2 : w.cell? (a.add 2) = some (.string ⟨d.text.toArray⟩)
  c3 : w.cell? (a.add 3) = some (.slice d.A d.fs.length d.cap)
  lt : a.block < B
  fates : Ints w B d.A d.fs
  kb : -9223372036854775808 ≤ d.kind ∧ d.kind ≤ 9223372036854775807
  ab : -9223372036854775808 ≤ d.at_ ∧ d.at_ ≤ 9223372036854775807
  tl : d.text.length ≤ maxLen
  fb : ∀ f ∈ d.fs, -9223372036854775808 ≤ f ∧ f ≤ 9223372036854775807
  fl : d.fs.length ≤ maxLen
/-- The slice value '.slice A ds.length _' holds the acts ds; all of it lies below block B. -/
def ActsAt (w : World) (B : Nat) (A : Option Addr) (ds : List ActD) : Prop :=
  ∀ (i : Nat) (h : i < ds.length), ∃ a : Addr, A = some a ∧ ActAt w B (a.add (i * 4)) ds[i]

theorem ActAt.below {w w' : World} {B B' : Nat} {a : Addr} {d : ActD} (h : ActAt w B a d) (hb : Below B' w w') (hB : B ≤ B') : ActAt w' B a d := by
  have hl := h.lt
  exact { h with
    c0 := (hb.cell (p := a) (by omega)).trans h.c0
    c1 := (hb.cell (p := a.add 1) (by rw [block_add]; omega)).trans h.c1
    c2 := (hb.cell (p := a.add 2) (by rw [block_add]; omega)).trans h.c2
    c3 := (hb.cell (p := a.add 3) (by rw [block_add]; omega)).trans h.c3
    fates := h.fates.below hb hB }
theorem ActsAt.below {w w' : World} {B B' : Nat} {A : Option Addr} {ds : List ActD} (h : ActsAt w B A ds) (hb : Below B' w w') (hB : B ≤ B') : ActsAt w' B A ds := fun i hi => by
  obtain ⟨a, e, ha⟩ := h i hi
  exact ⟨a, e, ha.below hb hB⟩

open Go.ChangeShapes Go.WideShapes Go.Deep
section
variable {H : Type} {enc : TypeId × Value → H} {P : Program} {w : World} {base : Nat} {spare : Nat → Bool} {held : Bool}
theorem open_slice_fields {t e : TypeId} {fs : Array Field} {fuel : Nat} {cs : List Value} {x : DataW H × List MemPlace} (ht : P.underlying t = some (.slice e)) (he : P.underlying e = some (.struct fs))
    (hone : oneCellFields P fs = true) (hC : P.cellsOf e = fs.size) (h : DataW.trod enc P w base spare held fuel t cs = some x) :
    (cs = [.slice none 0 0] ∧ x = (.nil, [])) ∨
    ∃ (a : Addr) (len cap m : Nat) (D : Nat → DataW H) (Pl : Nat → List MemPlace), cs = [.slice (some a) len cap] ∧ base ≤ a.block ∧ len ≤ cap ∧ cap ≤ maxLen ∧ m = (if spare a.block then cap else len) ∧
      x = (.slice ((List.range len).map D) ((List.range (m - len)).map fun j => D (len + j)), MemPlace.row a (m * fs.size) ++ (List.range m).flatMap Pl) ∧
      ∀ i, i < m → ∃ (ys : List (DataW H × List MemPlace)) (n : Nat), D i = .agg (ys.map (·.1)) ∧ Pl i = ys.flatMap (·.2) ∧ ys.length = fs.size ∧
        ∀ (j : Nat) (f : Field), fs[j]? = some f → ∃ (v : Value) (y : DataW H × List MemPlace), w.cell? (a.add (i * fs.size + j)) = some v ∧ ys[j]? = some y ∧ DataW.trod enc P w base spare held n f.type [v] = some y := by
  rcases open_slice ht h with h0 | ⟨a, len, cap, m, n, D, Pl, hcs, hb, hl, hm, hmm, hx, hi⟩
  · exact .inl h0
  · refine .inr ⟨a, len, cap, m, D, Pl, hcs, hb, hl, hm, hmm, by rw [hC] at hx; exact hx, fun i him => ?_⟩
    obtain ⟨cs', hc, ht'⟩ := hi i him
    rw [hC] at hc
    obtain ⟨ys, n', hn', hy, hlen, hyl, hf⟩ := DataW.trod_struct he ht'
    obtain ⟨_, hcl, hat⟩ := World.cells?_some hc
    simp only [Prod.mk.injEq] at hy
    refine ⟨ys, n', hy.1, hy.2, hyl, fun j f hj => ?_⟩
    obtain ⟨ho, hk⟩ := hone_of hone j f hj
    have hjl : j < fs.size := (Array.getElem?_eq_some_iff.1 hj).1
    have hcell := hat j hjl
    have hv : cs'[j]? = some (cs'[j]'(by omega)) := List.getElem?_eq_getElem (by omega)
    have h1 := hf j f hj
    rw [ho, hk] at h1
    have hone' : (cs'.drop j).take 1 = [cs'[j]'(by omega)] := by
      rw [List.drop_eq_getElem_cons (by omega)]
      rfl
    rw [hone'] at h1
    have hys : ys[j]? = some (ys[j]'(by omega)) := List.getElem?_eq_getElem (by omega)
    refine ⟨_, _, ?_, hys, h1.trans hys⟩
    rw [← Go.Deep.add_add, hcell, hv]
end

section
variable {H : Type} {enc : TypeId × Value → H} {w : World} {base : Nat} {held : Bool}
/-- a cell of type []int -/
theorem open_intsC {t e : TypeId} {v : Value} {x : DataW H × List MemPlace} {fuel : Nat} (ht : Try.prog.underlying t = some (.slice e)) (he : Try.prog.underlying e = some (.int .i64)) (hc : Try.prog.cellsOf e = 1)
    (hf : DataW.trod enc Try.prog w base (fun _ => true) held fuel t [v] = some x) :
    ∃ (A : Option Addr) (cap : Nat) (ns : List Int), v = .slice A ns.length cap ∧ Ints w w.heap.size A ns ∧ ns.length ≤ maxLen ∧ (∀ n ∈ ns, -9223372036854775808 ≤ n ∧ n ≤ 9223372036854775807) := by
  rcases open_ints ht he hc hf with ⟨hcs, hx⟩ | ⟨a, len', cap', zs, hcs, _, hl, hm, hz, hx, hcell, hwz⟩
  · simp only [List.cons.injEq, and_true] at hcs
    subst hcs
    exact ⟨none, 0, [], rfl, fun i hi => absurd hi (by simp), by simp, by simp⟩
  · simp only [List.cons.injEq, and_true] at hcs
    subst hcs
    simp only [if_true] at hz
    have hlen : (zs.take len').length = len' := by simp; omega
    refine ⟨some a, cap', zs.take len', by rw [hlen], ?_, by rw [hlen]; omega, fun n hn => wf_bounds_ (hwz n (List.mem_of_mem_take hn))⟩
    intro i hi
    rw [hlen] at hi
    have hc := hcell i (by omega)
    refine ⟨a, rfl, ?_, ?_⟩
    · have := block_lt_of_cell hc
      rwa [block_add] at this
    · rw [hc]
      simp [List.getD, List.getElem?_eq_getElem (show i < zs.length by omega)]

open Go.ChangeMaps (open_string shut_string)

/-- an argument of type []Act -/
theorem open_acts {v : Value} {d : DataW H} {ps : List MemPlace} {r : Reach} {b0 : Nat} (hv : Value.okWide Try.prog w r b0 46 v) (h : DataW.Trod enc Try.prog w base (fun _ => true) held 46 v d ps) :
    ∃ (A : Option Addr) (cap : Nat) (ds : List ActD), v = .slice A ds.length cap ∧ ActsAt w w.heap.size A ds ∧ ds.length ≤ maxLen := by
  obtain ⟨a0, len, cap, rfl⟩ := okWide_slice Try.underlying46 hv
  obtain ⟨fuel, hf⟩ := h
  rcases open_slice_fields Try.underlying46 Try.underlying52 (by kernel_rfl) (by kernel_rfl) hf with ⟨hcs, hx⟩ | ⟨a, len', cap', m, D, Pl, hcs, _, hl, hm, hmm, hx, hi⟩
  · simp only [Value.cells, Array.toList, List.cons.injEq, Value.slice.injEq, and_true] at hcs
    obtain ⟨rfl, rfl, rfl⟩ := hcs
    exact ⟨none, 0, [], rfl, fun i hi => absurd hi (by simp), by simp⟩
  · simp only [Value.cells, Array.toList, List.cons.injEq, Value.slice.injEq, and_true] at hcs
    obtain ⟨rfl, rfl, rfl⟩ := hcs
    simp only [if_true] at hmm
    subst hmm
    have key : ∀ i, i < len → ∃ d : ActD, ActAt w w.heap.size (a.add (i * 4)) d := by
      intro i hil
      obtain ⟨ys, n, hD, hPl, hyl, hfl⟩ := hi i (by omega)
      obtain ⟨v0, y0, k0, _, t0⟩ := hfl 0 _ rfl
      obtain ⟨v1, y1, k1, _, t1⟩ := hfl 1 _ rfl
      obtain ⟨v2, y2, k2, _, t2⟩ := hfl 2 _ rfl
      obtain ⟨v3, y3, k3, _, t3⟩ := hfl 3 _ rfl
      obtain ⟨n0, e0, _, w0⟩ := DataW.trod_int Try.underlying3 t0
      obtain ⟨n1, e1, _, w1⟩ := DataW.trod_int Try.underlying3 t1
      obtain ⟨s2, e2, _, w2⟩ := DataW.trod_string Try.underlying9 t2
      obtain ⟨A3, c3, fs, e3, hI, hfl3, hfb⟩ := open_intsC Try.underlying37 Try.underlying3 (by kernel_rfl) t3
      simp only [List.cons.injEq, and_true] at e0 e1 e2
      subst e0
      subst e1
      subst e2
      subst e3
      have hb0 := block_lt_of_cell k0
      rw [block_add] at hb0
      refine ⟨⟨n0, n1, s2.data.toList, A3, c3, fs⟩, ⟨k0, ?_, ?_, ?_, ?_, hI, wf_bounds_ w0, wf_bounds_ w1, ?_, hfb, hfl3⟩⟩
      · rw [Go.Deep.add_add]; exact k1
      · rw [Go.Deep.add_add]; simpa using k2
      · rw [Go.Deep.add_add]; exact k3
      · rw [block_add]; exact hb0
      · simpa using w2
    have hne : Nonempty ActD := ⟨⟨0, 0, [], none, 0, []⟩⟩
    refine ⟨some a, m, (List.range len).map fun i => Classical.epsilon fun d => ActAt w w.heap.size (a.add (i * 4)) d, by simp, ?_, by simp; omega⟩
    intro i hil
    simp only [List.length_map, List.length_range] at hil
    refine ⟨a, rfl, ?_⟩
    simp only [List.getElem_map, List.getElem_range]
    exact Classical.epsilon_spec (key i hil)
end
end Go.Proofs.Ytecofehfheodhaa
