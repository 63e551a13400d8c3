/-
  Layer 17's reference: the memory of its fetch, beside the plain state of a fetch.
-/
import Derived.Test.YtfbjbhddapoopaaDoorHaL
set_option linter.unusedVariables false
set_option linter.unusedSimpArgs false
namespace Go.Proofs.YtfbjbhddapoopaaDoor
open Go.RowKit
attribute [local go_sem] Lb.ba_get Lb.ba_cut Lb.ba_add Lb.ba_size Lb.take_rest

theorem list_set_same {α : Type} (l : List α) (k : Nat) (x : α) (h : l[k]? = some x) : l.set k x = l := by
  obtain ⟨hl, rfl⟩ := List.getElem?_eq_some_iff.1 h
  exact List.set_getElem_self hl
namespace Hl
theorem fillAt_full (t : Int) (cks : List Ck) (n j : Nat) (h : 2 ≤ (fillAt t cks n j).2.1) : ∀ i, fillAt t cks n (j + i) = fillAt t cks n j
  | 0 => rfl
  | i + 1 => by
    have ih := fillAt_full t cks n j h i
    rw [← Nat.add_assoc, fillAt, ih]
    unfold fillStep
    split
    · rw [if_neg (by omega)]
    · rfl
end Hl

structure RfD where
  out : List UInt8
  peer : Int
  ticks : Int
  m : ManiD
  has : Bool
  vc : Value
  vd : Value
  va : Value
  text : List UInt8
  done : Bool
  fail : Bool
def RfD.cells (r : RfD) : List Value := byV r.out ++ ([Value.int .i64 r.peer, Value.int .i64 r.ticks] ++ (r.m.cells ++ [Value.bool r.has, r.vc, r.vd, r.va, Value.string ⟨r.text.toArray⟩, Value.bool r.done, Value.bool r.fail]))
def RfMem (w : World) (p : Nat) (r : RfD) : Prop := w.heap[p]? = some (.cells r.cells.toArray 57 (0, 0))
structure RfD.Fit (r : RfD) : Prop where
  out : r.out.length = 32
  whole : r.m.whole.length = 32
theorem RfD.len {r : RfD} (h : r.Fit) : r.cells.length = 75 := by simp [RfD.cells, byV_length, h.out, mani_cells_len _ h.whole]
theorem RfD.tail {r : RfD} (h : r.Fit) (j : Nat) : r.cells[68 + j]? = [Value.bool r.has, r.vc, r.vd, r.va, Value.string ⟨r.text.toArray⟩, Value.bool r.done, Value.bool r.fail][j]? := by
  have h32 : (byV r.out).length = 32 := by rw [byV_length, h.out]
  have h34 := mani_cells_len _ h.whole
  unfold RfD.cells
  rw [List.getElem?_append_right (by omega), List.getElem?_append_right (by simp; omega), List.getElem?_append_right (by simp; omega)]
  congr 1
  simp; omega
theorem RfD.head {r : RfD} (h : r.Fit) : r.cells[32]? = some (.int .i64 r.peer) ∧ r.cells[33]? = some (.int .i64 r.ticks) ∧ (∀ (k : Nat) (v : Value), (byV r.out)[k]? = some v → r.cells[k]? = some v) ∧ (∀ (k : Nat) (v : Value), r.m.cells[k]? = some v → r.cells[34 + k]? = some v) := by
  have h32 : (byV r.out).length = 32 := by rw [byV_length, h.out]
  have h34 := mani_cells_len _ h.whole
  refine ⟨?_, ?_, fun k v hv => ?_, fun k v hv => ?_⟩
  · unfold RfD.cells
    rw [List.getElem?_append_right (by omega), List.getElem?_append_left (by simp; omega)]
    simp [h32]
  · unfold RfD.cells
    rw [List.getElem?_append_right (by omega), List.getElem?_append_left (by simp; omega)]
    simp [h32]
  · unfold RfD.cells
    rw [List.getElem?_append_left (List.getElem?_eq_some_iff.1 hv).1]; exact hv
  · have hl := (List.getElem?_eq_some_iff.1 hv).1
    unfold RfD.cells
    rw [List.getElem?_append_right (by omega), List.getElem?_append_right (by simp; omega), List.getElem?_append_left (by simp; omega)]
    rw [show 34 + k - (byV r.out).length - [Value.int .i64 r.peer, Value.int .i64 r.ticks].length = k by simp; omega]
    exact hv
structure RfAll (w : World) (p : Nat) (r : RfD) : Prop where
  peer : w.cell? ⟨p, 32, none⟩ = some (.int .i64 r.peer)
  ticks : w.cell? ⟨p, 33, none⟩ = some (.int .i64 r.ticks)
  has : w.cell? ⟨p, 68, none⟩ = some (.bool r.has)
  vc : w.cell? ⟨p, 69, none⟩ = some r.vc
  vd : w.cell? ⟨p, 70, none⟩ = some r.vd
  va : w.cell? ⟨p, 71, none⟩ = some r.va
  text : w.cell? ⟨p, 72, none⟩ = some (.string ⟨r.text.toArray⟩)
  done : w.cell? ⟨p, 73, none⟩ = some (.bool r.done)
  fail : w.cell? ⟨p, 74, none⟩ = some (.bool r.fail)
  out : w.rangeAt p 0 (byV r.out)
  mani : w.rangeAt p 34 r.m.cells
  frz : ∀ j, w.frozen? ⟨p, j, none⟩ = false
theorem rf_all {w : World} {p : Nat} {r : RfD} (hf : r.Fit) (h : RfMem w p r) : RfAll w p r := by
  obtain ⟨a32, a33, a0, a34⟩ := r.head hf
  have t := r.tail hf
  have c : ∀ j v, r.cells[j]? = some v → w.cell? ⟨p, j, none⟩ = some v := fun j v hv => by rw [Lib.cell_of_heap h]; simpa using hv
  exact ⟨c _ _ a32, c _ _ a33, c _ _ (t 0), c _ _ (t 1), c _ _ (t 2), c _ _ (t 3), c _ _ (t 4), c _ _ (t 5), c _ _ (t 6), fun k v hv => c _ _ (by rw [Nat.zero_add]; exact a0 k v hv), fun k v hv => c _ _ (a34 k v hv), fun j => Lib.frozen_of_heap h j⟩

/-! ### one field is written -/
theorem rf_set33 {r : RfD} (h : r.Fit) (t : Int) : r.cells.toArray.setIfInBounds 33 (.int .i64 t) = ({ r with ticks := t } : RfD).cells.toArray := by
  have h32 : (byV r.out).length = 32 := by rw [byV_length, h.out]
  rw [List.setIfInBounds_toArray]
  congr 1
  unfold RfD.cells
  rw [List.set_append_right _ _ (by omega), List.set_append_left _ _ (by simp; omega), h32]
  rfl
theorem rf_setT {r : RfD} (h : r.Fit) (j : Nat) (v : Value) : r.cells.toArray.setIfInBounds (68 + j) v = (byV r.out ++ ([Value.int .i64 r.peer, Value.int .i64 r.ticks] ++ (r.m.cells ++ [Value.bool r.has, r.vc, r.vd, r.va, Value.string ⟨r.text.toArray⟩, Value.bool r.done, Value.bool r.fail].set j v))).toArray := by
  have h32 : (byV r.out).length = 32 := by rw [byV_length, h.out]
  have h34 := mani_cells_len _ h.whole
  rw [List.setIfInBounds_toArray]
  congr 1
  unfold RfD.cells
  rw [List.set_append_right _ _ (by omega), List.set_append_right _ _ (by simp; omega), List.set_append_right _ _ (by simp; omega)]
  rw [show 68 + j - (byV r.out).length - [Value.int .i64 r.peer, Value.int .i64 r.ticks].length - r.m.cells.length = j by simp; omega]
theorem rf_set68 {r : RfD} (h : r.Fit) (b : Bool) : r.cells.toArray.setIfInBounds 68 (.bool b) = ({ r with has := b } : RfD).cells.toArray := rf_setT h 0 _
theorem rf_set69 {r : RfD} (h : r.Fit) (v : Value) : r.cells.toArray.setIfInBounds 69 v = ({ r with vc := v } : RfD).cells.toArray := rf_setT h 1 _
theorem rf_set70 {r : RfD} (h : r.Fit) (v : Value) : r.cells.toArray.setIfInBounds 70 v = ({ r with vd := v } : RfD).cells.toArray := rf_setT h 2 _
theorem rf_set71 {r : RfD} (h : r.Fit) (v : Value) : r.cells.toArray.setIfInBounds 71 v = ({ r with va := v } : RfD).cells.toArray := rf_setT h 3 _
theorem rf_set72 {r : RfD} (h : r.Fit) (s : List UInt8) : r.cells.toArray.setIfInBounds 72 (.string ⟨s.toArray⟩) = ({ r with text := s } : RfD).cells.toArray := rf_setT h 4 _
theorem rf_set73 {r : RfD} (h : r.Fit) (b : Bool) : r.cells.toArray.setIfInBounds 73 (.bool b) = ({ r with done := b } : RfD).cells.toArray := rf_setT h 5 _
theorem rf_set74 {r : RfD} (h : r.Fit) (b : Bool) : r.cells.toArray.setIfInBounds 74 (.bool b) = ({ r with fail := b } : RfD).cells.toArray := rf_setT h 6 _
theorem rf_set67 {r : RfD} (h : r.Fit) (A : Option Addr) (cap : Nat) : r.cells.toArray.setIfInBounds 67 (.slice A r.m.parts.length cap) = ({ r with m := { r.m with A := A, cap := cap } } : RfD).cells.toArray := by
  have h32 : (byV r.out).length = 32 := by rw [byV_length, h.out]
  have h34 := mani_cells_len _ h.whole
  rw [List.setIfInBounds_toArray]
  congr 1
  unfold RfD.cells
  rw [List.set_append_right _ _ (by omega), List.set_append_right _ _ (by simp; omega), List.set_append_left _ _ (by simp; omega)]
  rw [show 67 - (byV r.out).length - [Value.int .i64 r.peer, Value.int .i64 r.ticks].length = 33 by simp; omega]
  congr 3
  unfold ManiD.cells
  rw [List.set_append_right _ _ (by simp [byV, h.whole])]
  simp [byV, h.whole]

/-! ### what belongs to a fetch -/
def comeV (cks : List Ck) : List Value := cks.map fun c => Value.bool c.come
def dataV (cks : List Ck) : List Value := rowT (cks.map (·.data))
def askV (cks : List Ck) : List Value := cks.map fun c => Value.int .i64 (if c.asked = true then c.at_ + 1 else 0)
theorem askV_set (cks : List Ck) (k : Nat) (c : Ck) (t : Int) : (askV cks).toArray.setIfInBounds k (.int .i64 (t + 1)) = (askV (cks.set k { c with asked := true, at_ := t })).toArray := by
  rw [List.setIfInBounds_toArray]
  congr 1
  unfold askV
  rw [List.map_set]; rfl
theorem askV_setA (cks : List Ck) (k : Nat) (c : Ck) (hc : c.asked = true) (t : Int) : (askV cks).toArray.setIfInBounds k (.int .i64 (t + 1)) = (askV (cks.set k { c with at_ := t })).toArray := by
  rw [List.setIfInBounds_toArray]
  congr 1
  unfold askV
  rw [List.map_set, hc]; rfl
structure RfIs (r : RfD) (d : HlD) : Prop where
  out : r.out = d.out
  peer : r.peer = d.peer
  ticks : r.ticks = d.ticks
  text : r.text = d.blob
  done : r.done = d.done
  fail : r.fail = d.failed
structure RfNone (r : RfD) (d : HlD) : Prop where
  mani : d.mani = none
  has : r.has = false
  vc : r.vc = .slice none 0 0
  vd : r.vd = .slice none 0 0
  va : r.va = .slice none 0 0
structure RfHas (w : World) (S : List Nat) (p : Nat) (d : HlD) (c1 c2 c3 : Nat) (r : RfD) : Prop where
  mani : d.mani = some (r.m.size, r.m.parts)
  whole : r.m.whole = d.out
  has : r.has = true
  vc : r.vc = .slice (some ⟨c1, 0, none⟩) d.cks.length d.cks.length
  vd : r.vd = .slice (some ⟨c2, 0, none⟩) d.cks.length d.cks.length
  va : r.va = .slice (some ⟨c3, 0, none⟩) d.cks.length d.cks.length
  h1 : w.heap[c1]? = some (.cells (comeV d.cks).toArray 4 (0, 0))
  h2 : w.heap[c2]? = some (.cells (dataV d.cks).toArray 9 (0, 0))
  h3 : w.heap[c3]? = some (.cells (askV d.cks).toArray 3 (0, 0))
  s1 : c1 ∈ S
  s2 : c2 ∈ S
  s3 : c3 ∈ S
  p1 : c1 ≠ p
  p2 : c2 ≠ p
  p3 : c3 ≠ p
  n12 : c1 ≠ c2
  n13 : c1 ≠ c3
  n23 : c2 ≠ c3
  digs : DigsIn w S [p, c1, c2, c3] r.m.A r.m.parts
/-- The reference's fetch d lies at block p; all that is its own lies in the blocks S. -/
structure RfAt (w : World) (S : List Nat) (p : Nat) (d : HlD) : Prop where
  ok : Hl.Ok d
  und : d.done = false → d.blob = []
  lt : ∀ k ∈ S, k < w.heap.size
  pS : p ∈ S
  mem : ∃ r : RfD, RfMem w p r ∧ r.Fit ∧ RfIs r d ∧ (RfNone r d ∨ ∃ c1 c2 c3, RfHas w S p d c1 c2 c3 r)
theorem RfHas.keep {w w' : World} {S : List Nat} {p : Nat} {d : HlD} {c1 c2 c3 : Nat} {r : RfD} (h : RfHas w S p d c1 c2 c3 r) (hk : ∀ k ∈ S, w'.heap[k]? = w.heap[k]?) : RfHas w' S p d c1 c2 c3 r :=
  { h with h1 := (hk c1 h.s1).trans h.h1, h2 := (hk c2 h.s2).trans h.h2, h3 := (hk c3 h.s3).trans h.h3, digs := h.digs.keep fun k hk' _ => hk k hk' }
theorem RfAt.keep {w w' : World} {S : List Nat} {p : Nat} {d : HlD} (h : RfAt w S p d) (hs : w.heap.size ≤ w'.heap.size) (hk : ∀ k ∈ S, w'.heap[k]? = w.heap[k]?) : RfAt w' S p d := by
  obtain ⟨ok, und, lt, pS, r, hm, hf, hi, hx⟩ := h
  refine ⟨ok, und, fun k hk' => Nat.lt_of_lt_of_le (lt k hk') hs, pS, r, (hk p pS).trans hm, hf, hi, ?_⟩
  rcases hx with hx | ⟨c1, c2, c3, hx⟩
  · exact .inl hx
  · exact .inr ⟨c1, c2, c3, hx.keep hk⟩
theorem RfAt.below {w w' : World} {S : List Nat} {p : Nat} {d : HlD} (h : RfAt w S p d) (hb : Below w.heap.size w w') : RfAt w' S p d := h.keep hb.size (fun k hk => hb.block k (h.lt k hk))
theorem RfAt.only {w w' : World} {S bs : List Nat} {p : Nat} {d : HlD} (h : RfAt w S p d) (ho : Only bs w w') (hn : ∀ k ∈ S, k ∉ bs) : RfAt w' S p d := h.keep ho.size (fun k hk => ho.block k (h.lt k hk) (hn k hk))
/-- what a call of the reference's fetch leaves -/
def RefPost (w : World) (S : List Nat) (p : Nat) (peer : Int) (out : List UInt8) (ats : List Int) (d : HlD) (e : Ending) (w' : World) : Prop :=
  ∃ v S', e = .returned v ∧ Asks w' w.heap.size v peer out ats ∧ RfAt w' S' p d ∧ Only S w w' ∧ (∀ k ∈ S', k ∈ S ∨ w.heap.size ≤ k) ∧ Apart v S'
theorem RfHas.mok {w : World} {S : List Nat} {p : Nat} {d : HlD} {c1 c2 c3 : Nat} {r : RfD} (h : RfHas w S p d c1 c2 c3 r) (ok : Hl.Ok d) (lt : ∀ k ∈ S, k < w.heap.size) : r.m.Ok w w.heap.size := by
  obtain ⟨hg, hl, h32⟩ := ok.some _ h.mani
  have h8 := ok.len
  unfold goodS at hg
  simp only [decide_eq_true_eq] at hg
  refine ⟨by rw [h.whole]; exact ok.out, h32, by omega, by omega, by unfold maxLen; simp only at hl; omega, fun i hi => ?_⟩
  obtain ⟨b, o, e, hb, -, hr⟩ := h.digs i hi
  exact ⟨b, o, e, lt b hb, hr⟩
/-- behind a call that turns the fetch's own block and what was asked for -/
theorem RfHas.turn {w w' : World} {S : List Nat} {p : Nat} {d d' : HlD} {c1 c2 c3 : Nat} {r r' : RfD} (h : RfHas w S p d c1 c2 c3 r) (lt : ∀ k ∈ S, k < w.heap.size) (ho : Only [p, c3] w w')
    (h3 : w'.heap[c3]? = some (.cells (askV d'.cks).toArray 3 (0, 0))) (e1 : comeV d'.cks = comeV d.cks) (e2 : dataV d'.cks = dataV d.cks) (hl : d'.cks.length = d.cks.length) (hm : d'.mani = d.mani) (hout : d'.out = d.out)
    (rm : r'.m = r.m) (rh : r'.has = r.has) (r1 : r'.vc = r.vc) (r2 : r'.vd = r.vd) (r3 : r'.va = r.va) : RfHas w' S p d' c1 c2 c3 r' :=
  { h with
    mani := by rw [hm, rm]; exact h.mani
    whole := by rw [rm, hout]; exact h.whole
    has := rh.trans h.has
    vc := by rw [r1, hl]; exact h.vc
    vd := by rw [r2, hl]; exact h.vd
    va := by rw [r3, hl]; exact h.va
    h1 := by rw [e1]; exact ho.keep h.h1 (by simp; exact ⟨h.p1, h.n13⟩)
    h2 := by rw [e2]; exact ho.keep h.h2 (by simp; exact ⟨h.p2, h.n23⟩)
    h3 := h3
    digs := by
      rw [rm]
      intro i hi
      obtain ⟨b, o, e, hb, hn, hr⟩ := h.digs i hi
      exact ⟨b, o, e, hb, hn, range_keep hr (ho.block b (lt b hb) (by simp at hn ⊢; exact ⟨hn.1, hn.2.2.2⟩))⟩ }
theorem RfIs.fit {r : RfD} {d : HlD} (h : RfIs r d) (ok : Hl.Ok d) : r.out.length = 32 := by rw [h.out]; exact ok.out

namespace Hl
theorem fillAt_cd (t : Int) (cks : List Ck) (n : Nat) : ∀ j, comeV (fillAt t cks n j).1 = comeV cks ∧ dataV (fillAt t cks n j).1 = dataV cks
  | 0 => ⟨rfl, rfl⟩
  | j + 1 => by
    obtain ⟨h1, h2⟩ := fillAt_cd t cks n j
    rw [fillAt]
    unfold fillStep
    split
    · rename_i c hc
      split
      · obtain ⟨hl, hg⟩ := List.getElem?_eq_some_iff.1 hc
        refine ⟨?_, ?_⟩
        · rw [← h1]
          simp only
          unfold comeV
          rw [List.map_set]
          refine list_set_same _ _ _ ?_
          rw [List.getElem?_map, hc]; rfl
        · rw [← h2]
          simp only
          unfold dataV rowT
          rw [List.map_set, List.map_set]
          refine list_set_same _ _ _ ?_
          rw [List.getElem?_map, List.getElem?_map, hc]; rfl
      · exact ⟨h1, h2⟩
    · exact ⟨h1, h2⟩
theorem againAt_cd (t : Int) (cks : List Ck) : ∀ j, comeV (againAt t cks j).1 = comeV cks ∧ dataV (againAt t cks j).1 = dataV cks
  | 0 => ⟨rfl, rfl⟩
  | j + 1 => by
    obtain ⟨h1, h2⟩ := againAt_cd t cks j
    rw [againAt]
    unfold againStep
    split
    · rename_i c hc
      split
      · refine ⟨?_, ?_⟩
        · rw [← h1]
          simp only
          unfold comeV
          rw [List.map_set]
          refine list_set_same _ _ _ ?_
          rw [List.getElem?_map, hc]; rfl
        · rw [← h2]
          simp only
          unfold dataV rowT
          rw [List.map_set, List.map_set]
          refine list_set_same _ _ _ ?_
          rw [List.getElem?_map, List.getElem?_map, hc]; rfl
      · exact ⟨h1, h2⟩
    · exact ⟨h1, h2⟩
end Hl
end Go.Proofs.YtfbjbhddapoopaaDoor
