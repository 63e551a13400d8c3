/-
  Frames in memory (what stands of layers 17 and 18 alike).
-/
import Derived.Test.YteihfoacdocgkaaDoorHaA
import Derived.IntWalk
import Derived.Great.BuildSlice
import Derived.Deep.Upon
set_option linter.unusedVariables false
set_option linter.unusedSimpArgs false
namespace Go.Proofs.YteihfoacdocgkaaDoor
open Go.RowKit
attribute [local go_sem] Lb.ba_get Lb.ba_cut Lb.ba_add Lb.ba_size Lb.take_rest

theorem fr_at {f : FrD} (hf : f.Fit) : f.cells[0]? = some (.int .i64 f.kind) ∧ f.cells[1]? = some (.int .i64 f.from_) ∧ f.cells[134]? = some (.int .i64 f.at_) ∧ f.cells[135]? = some (.string ⟨f.data.toArray⟩) ∧
    (∀ k v, (byV f.out)[k]? = some v → f.cells[102 + k]? = some v) ∧ (∀ k v, f.mani.cells[k]? = some v → f.cells[200 + k]? = some v) := by
  have ho : (byV f.out).length = 32 := by rw [byV_length, hf.lo]
  have h1 := hf.l1
  have h2 := hf.l2
  refine ⟨rfl, rfl, ?_, ?_, fun k v hv => ?_, fun k v hv => ?_⟩
  · unfold FrD.cells
    rw [List.getElem?_append_right (by simp), List.getElem?_append_right (by simp; omega), List.getElem?_append_right (by simp; omega), List.getElem?_append_left (by simp; omega)]
    simp [h1, ho]
  · unfold FrD.cells
    rw [List.getElem?_append_right (by simp), List.getElem?_append_right (by simp; omega), List.getElem?_append_right (by simp; omega), List.getElem?_append_left (by simp; omega)]
    simp [h1, ho]
  · have hk := (List.getElem?_eq_some_iff.1 hv).1
    unfold FrD.cells
    rw [List.getElem?_append_right (by simp; omega), List.getElem?_append_right (by simp; omega), List.getElem?_append_left (by simp; omega)]
    simp only [List.length_cons, List.length_nil, h1]
    have e : 102 + k - (0 + 1 + 1) - 100 = k := by omega
    rw [e]; exact hv
  · have hk := (List.getElem?_eq_some_iff.1 hv).1
    unfold FrD.cells
    rw [List.getElem?_append_right (by simp; omega), List.getElem?_append_right (by simp; omega), List.getElem?_append_right (by simp; omega), List.getElem?_append_right (by simp; omega), List.getElem?_append_right (by simp; omega), List.getElem?_append_left (by simp; omega)]
    simp only [List.length_cons, List.length_nil, h1, h2, ho]
    have e : 200 + k - (0 + 1 + 1) - 100 - 32 - (0 + 1 + 1) - 64 = k := by omega
    rw [e]; exact hv
structure FrAt (w : World) (b : Nat) (f : FrD) : Prop where
  kind : w.cell? ⟨b, 0, none⟩ = some (.int .i64 f.kind)
  from_ : w.cell? ⟨b, 1, none⟩ = some (.int .i64 f.from_)
  at_ : w.cell? ⟨b, 134, none⟩ = some (.int .i64 f.at_)
  data : w.cell? ⟨b, 135, none⟩ = some (.string ⟨f.data.toArray⟩)
  out : w.rangeAt b 102 (byV f.out)
  mani : w.rangeAt b 200 f.mani.cells
  whole : w.rangeAt b 200 (byV f.mani.whole)
  parts : w.cell? ⟨b, 233, none⟩ = some (.slice f.mani.A f.mani.parts.length f.mani.cap)
theorem fr_mem {w : World} {b : Nat} {f : FrD} {T : TypeId} {z : Nat × Nat} (hf : f.Fit) (h : w.heap[b]? = some (.cells f.row T z)) : FrAt w b f := by
  obtain ⟨a0, a1, a2, a3, a4, a5⟩ := fr_at hf
  have hm : w.rangeAt b 200 f.mani.cells := fun k v hv => by rw [Lib.cell_of_heap h]; simpa [FrD.row] using a5 k v hv
  refine ⟨by rw [Lib.cell_of_heap h]; simpa [FrD.row] using a0, by rw [Lib.cell_of_heap h]; simpa [FrD.row] using a1, by rw [Lib.cell_of_heap h]; simpa [FrD.row] using a2, by rw [Lib.cell_of_heap h]; simpa [FrD.row] using a3, fun k v hv => by rw [Lib.cell_of_heap h]; simpa [FrD.row] using a4 k v hv, hm, fun k v hv => ?_, ?_⟩
  · refine hm k v ?_
    unfold ManiD.cells
    rw [List.getElem?_append_left (List.getElem?_eq_some_iff.1 hv).1]; exact hv
  · have := hm 33 (.slice f.mani.A f.mani.parts.length f.mani.cap) (by have := f.mani.at33 hf.lm; simpa [ManiD.row] using this)
    simpa using this
/-- a frame whose numbers are numbers of 64 bits, whose manifest's digests lie in memory -/
structure FrD.Ok (w : World) (f : FrD) : Prop where
  fit : f.Fit
  klo : -9223372036854775808 ≤ f.kind
  khi : f.kind ≤ 9223372036854775807
  alo : -9223372036854775808 ≤ f.at_
  ahi : f.at_ ≤ 9223372036854775807
  data : f.data.length ≤ 140737488355328
  mani : f.mani.Ok w w.heap.size
theorem FrD.Ok.step {w w' : World} {f : FrD} (h : f.Ok w) (hb : Below w.heap.size w w') : f.Ok w' := { h with mani := (h.mani.below hb (Nat.le_refl _)).more hb.size }
def maniFr (x : Int) (m : ManiD) : FrD := { zeroFr with kind := 7, from_ := x, mani := m }
def partFr (x : Int) (o : List UInt8) (i : Int) (t : List UInt8) : FrD := { zeroFr with kind := 8, from_ := x, out := o, at_ := i, data := t }
theorem maniFr_fit (x : Int) (m : ManiD) (h : m.whole.length = 32) : (maniFr x m).Fit := ⟨rfl, rfl, rfl, h, rfl, rfl, rfl, rfl⟩
theorem partFr_fit (x : Int) (o : List UInt8) (i : Int) (t : List UInt8) (h : o.length = 32) : (partFr x o i t).Fit := ⟨rfl, h, rfl, rfl, rfl, rfl, rfl, rfl⟩
theorem built_maniFr (x : Int) (m : ManiD) (h : m.whole.length = 32) : Tryd.prog.built 36 [(0, .int .i64 7), (1, .int .i64 x), (11, .agg m.row)] = some (maniFr x m).row := by
  rw [built_fr, fr_fill0, fr_fill1, fr_fill11 _ ⟨rfl, rfl, rfl, rfl, rfl, rfl, rfl, rfl⟩ _ h, fill_nil]
  rfl
theorem built_partFr (x : Int) (o : List UInt8) (i : Int) (t : List UInt8) (h : o.length = 32) : Tryd.prog.built 36 [(0, .int .i64 8), (1, .int .i64 x), (7, .agg (byV o).toArray), (8, .int .i64 i), (9, .string ⟨t.toArray⟩)] = some (partFr x o i t).row := by
  have e : (byV o).toArray = digV o := rfl
  rw [e, built_fr, fr_fill0, fr_fill1, fr_fill7 _ ⟨rfl, rfl, rfl, rfl, rfl, rfl, rfl, rfl⟩ _ h, fr_fill8 _ ⟨rfl, h, rfl, rfl, rfl, rfl, rfl, rfl⟩, fr_fill9 _ ⟨rfl, h, rfl, rfl, rfl, rfl, rfl, rfl⟩, fill_nil]
  rfl
theorem built_zeroFr : Tryd.prog.built 36 [] = some zeroFr.row := by rw [built_fr, fill_nil]
theorem FrD.row_one {f : FrD} (h : f.Fit) : f.row.all (·.oneCell') = true := by unfold FrD.row; rw [List.all_toArray]; exact f.one h
theorem fr_infoR {f : FrD} (h : f.Fit) : (Tryd.prog.info? 36).map (·.size) = some f.row.size := by rw [fr_info, FrD.row_size h]
theorem wpList_build3 {P : Program} {ops : Array Oper} {rest : List Oper} {o : Oper} {a : Act} {w : World} {Q : Exit → Act → World → Prop} (hg : o.guard = none) (t : TypeId) (i j k : Nat) (x y z : Operand) (ho : o.op = .build t #[(i, x), (j, y), (k, z)])
    (vx vy vz : Value) (hx : a.eval x = vx) (hy : a.eval y = vy) (hz : a.eval z = vz) (C : Array Value) (hB : P.built t [(i, vx), (j, vy), (k, vz)] = some C)
    (h : wpList P ops Q rest (a.put o.dst (.agg C)) w) : wpList P ops Q (o :: rest) a w := by
  have e : ((#[(i, x), (j, y), (k, z)] : Array (Nat × Operand)).map fun (i, x) => (i, a.eval x)).toList = [(i, vx), (j, vy), (k, vz)] := by simp [hx, hy, hz]
  refine wpList_build hg t _ ho ?_ ?_
  · rw [e, hB]; rfl
  · rw [e, hB]; exact h
theorem wpList_build0 {P : Program} {ops : Array Oper} {rest : List Oper} {o : Oper} {a : Act} {w : World} {Q : Exit → Act → World → Prop} (hg : o.guard = none) (t : TypeId) (ho : o.op = .build t #[]) (C : Array Value) (hB : P.built t [] = some C)
    (h : wpList P ops Q rest (a.put o.dst (.agg C)) w) : wpList P ops Q (o :: rest) a w := by
  refine wpList_build hg t _ ho ?_ ?_
  · simp only [List.map_toArray, List.map_nil, hB]; rfl
  · simp only [List.map_toArray, List.map_nil, hB]; exact h

theorem Digs.only {w w' : World} {B : Nat} {A : Option Addr} {ds : List (List UInt8)} {bs : List Nat} (h : Digs w B A ds) (ho : Only bs w w') (hn : ∀ a, A = some a → a.block ∉ bs) (hB : B ≤ w.heap.size := by exact Nat.le_refl _) : Digs w' B A ds := fun i hi => by
  obtain ⟨b, o, e, hl, hr⟩ := h i hi
  exact ⟨b, o, e, hl, range_keep hr (ho.block b (by omega) (hn _ e))⟩
theorem range_only {w w' : World} {b o : Nat} {cs : List Value} {bs : List Nat} (h : w.rangeAt b o cs) (ho : Only bs w w') (hl : b < w.heap.size ∧ b ∉ bs) : w'.rangeAt b o cs := range_keep h (ho.block b hl.1 hl.2)
/-- nothing but block g has turned, which still holds n cells -/
def HeldO (w0 : World) (g n : Nat) (t : TypeId) (w' : World) : Prop := Only [g] w0 w' ∧ ∃ C : Array Value, C.size = n ∧ w'.heap[g]? = some (.cells C t (0, 0))
theorem HeldO.start {w0 : World} {g n : Nat} {t : TypeId} {C : Array Value} (hC : C.size = n) (h : w0.heap[g]? = some (.cells C t (0, 0))) : HeldO w0 g n t w0.drew := ⟨(Only.refl _ _).drew, C, hC, h⟩
theorem HeldO.put {w0 w' : World} {g n : Nat} {t : TypeId} (h : HeldO w0 g n t w') (R : Array Value) (hR : R.size = n) : HeldO w0 g n t (w'.setRow g R) := by
  obtain ⟨hb, C, hC, hg⟩ := h
  exact ⟨hb.setRow (by simp) R, R, hR, setRow_heap _ _ _ _ _ _ hg⟩
theorem rangeW_of_mani {w : World} {q : Nat} {m : ManiD} {T : TypeId} {z : Nat × Nat} (hm : m.whole.length = 32) (h : w.heap[q]? = some (.cells m.row T z)) : w.rangeAt q 0 (byV m.whole) := fun k v hv => by
  have hlt := (List.getElem?_eq_some_iff.1 hv).1
  rw [Lib.cell_of_heap h, Nat.zero_add]
  unfold ManiD.row ManiD.cells
  rw [List.getElem?_toArray, List.getElem?_append_left hlt]; exact hv
end Go.Proofs.YteihfoacdocgkaaDoor
