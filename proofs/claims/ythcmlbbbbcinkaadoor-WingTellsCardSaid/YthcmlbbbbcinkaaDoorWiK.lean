/-
  Layer 19 (wing): a frame in a block of the call's own of which a part is stored anew.
-/
import Derived.Test.YthcmlbbbbcinkaaDoorWiJ
set_option linter.unusedVariables false
set_option linter.unusedSimpArgs false
namespace Go.Proofs.YthcmlbbbbcinkaaDoor
open Go.RowKit Pl
namespace Wi

theorem heap_setCells_seg (p : Nat) (T : TypeId) : ∀ (vs pre old post : List Value) (w : World), w.heap[p]? = some (.cells (pre ++ (old ++ post)).toArray T (0, 0)) → old.length = vs.length → (w.setCells p pre.length vs).heap[p]? = some (.cells (pre ++ (vs ++ post)).toArray T (0, 0))
  | [], pre, old, post, w, h, hl => by
    obtain rfl : old = [] := List.eq_nil_of_length_eq_zero (by simpa using hl)
    exact h
  | v :: vs, pre, o :: old, post, w, h, hl => by
    have h1 := heap_setCell_same w p pre.length _ _ v h
    have e : (pre ++ (o :: old ++ post)).toArray.setIfInBounds pre.length v = ((pre ++ [v]) ++ (old ++ post)).toArray := by
      rw [List.setIfInBounds_toArray]
      congr 1
      rw [List.set_append_right _ _ (by omega), Nat.sub_self]
      simp
    rw [e] at h1
    have h2 := heap_setCells_seg p T vs (pre ++ [v]) old post _ h1 (by simpa using hl)
    rw [List.length_append, List.length_singleton] at h2
    simpa [World.setCells] using h2
  | v :: vs, pre, [], post, w, h, hl => by simp at hl
theorem only_setCells {bs : List Nat} {a : World} {p : Nat} (hp : p ∈ bs) : ∀ (vs : List Value) (o : Nat) (b : World), Only bs a b → Only bs a (b.setCells p o vs)
  | [], _, _, h => h
  | v :: vs, o, b, h => only_setCells hp vs (o + 1) _ (h.setCell (p := ⟨p, o, none⟩) hp v)

theorem fm_put_seq {w : World} {q : Nat} {f : Fm} {x : Adr} {T : TypeId} (hw : f.Wf) (h : w.heap[q]? = some (.cells (f.cells x).toArray T (0, 0))) (n : Int) :
    (w.setCells q 2 [.int .i64 n]).heap[q]? = some (.cells (({ f with seq := n } : Fm).cells (x : Adr)).toArray T (0, 0)) := by
  have h1 := mani_len f x hw.whole
  have h2 := Rc.len hw.rcd
  have h3 : (byV f.key).length = 32 := by rw [byV_length]; exact hw.key
  have h4 : (byV f.out).length = 32 := by rw [byV_length]; exact hw.out
  have h5 : (byV f.haze).length = 64 := by rw [byV_length]; exact hw.haze
  have hp : ([.int .i64 f.kind] ++ [.int .i64 f.from_] : List Value).length = 2 := by simp only [List.length_append, List.length_cons, List.length_nil, h1, h2, h3, h4, h5]
  have hs := heap_setCells_seg q T [.int .i64 n] ([.int .i64 f.kind] ++ [.int .i64 f.from_]) [.int .i64 f.seq] ([.int .i64 f.node] ++ (byV f.key) ++ [.bool f.found] ++ f.rcd.cells ++ (byV f.out) ++ [.int .i64 f.at_] ++ [.string ⟨f.data.toArray⟩] ++ (byV f.haze) ++ (f.mani x).cells ++ [.slice x.RA f.rngs.length x.rc] ++ [.slice x.IA f.items.length x.ic] ++ [.slice x.MA f.mems.length x.mc]) w (by unfold Fm.cells at h; simpa only [List.append_assoc, List.nil_append, List.append_nil, List.singleton_append, List.cons_append] using h) (rfl)
  rw [hp] at hs
  unfold Fm.cells
  simp only [List.append_assoc, List.nil_append, List.append_nil, List.singleton_append, List.cons_append] at hs ⊢
  exact hs
theorem fm_put_node {w : World} {q : Nat} {f : Fm} {x : Adr} {T : TypeId} (hw : f.Wf) (h : w.heap[q]? = some (.cells (f.cells x).toArray T (0, 0))) (n : Int) :
    (w.setCells q 3 [.int .i64 n]).heap[q]? = some (.cells (({ f with node := n } : Fm).cells (x : Adr)).toArray T (0, 0)) := by
  have h1 := mani_len f x hw.whole
  have h2 := Rc.len hw.rcd
  have h3 : (byV f.key).length = 32 := by rw [byV_length]; exact hw.key
  have h4 : (byV f.out).length = 32 := by rw [byV_length]; exact hw.out
  have h5 : (byV f.haze).length = 64 := by rw [byV_length]; exact hw.haze
  have hp : ([.int .i64 f.kind] ++ [.int .i64 f.from_] ++ [.int .i64 f.seq] : List Value).length = 3 := by simp only [List.length_append, List.length_cons, List.length_nil, h1, h2, h3, h4, h5]
  have hs := heap_setCells_seg q T [.int .i64 n] ([.int .i64 f.kind] ++ [.int .i64 f.from_] ++ [.int .i64 f.seq]) [.int .i64 f.node] ((byV f.key) ++ [.bool f.found] ++ f.rcd.cells ++ (byV f.out) ++ [.int .i64 f.at_] ++ [.string ⟨f.data.toArray⟩] ++ (byV f.haze) ++ (f.mani x).cells ++ [.slice x.RA f.rngs.length x.rc] ++ [.slice x.IA f.items.length x.ic] ++ [.slice x.MA f.mems.length x.mc]) w (by unfold Fm.cells at h; simpa only [List.append_assoc, List.nil_append, List.append_nil, List.singleton_append, List.cons_append] using h) (rfl)
  rw [hp] at hs
  unfold Fm.cells
  simp only [List.append_assoc, List.nil_append, List.append_nil, List.singleton_append, List.cons_append] at hs ⊢
  exact hs
theorem fm_put_key {w : World} {q : Nat} {f : Fm} {x : Adr} {T : TypeId} (hw : f.Wf) (h : w.heap[q]? = some (.cells (f.cells x).toArray T (0, 0))) (d : Bs) (hd : d.length = 32) :
    (w.setCells q 4 (byV d)).heap[q]? = some (.cells (({ f with key := d } : Fm).cells (x : Adr)).toArray T (0, 0)) := by
  have h1 := mani_len f x hw.whole
  have h2 := Rc.len hw.rcd
  have h3 : (byV f.key).length = 32 := by rw [byV_length]; exact hw.key
  have h4 : (byV f.out).length = 32 := by rw [byV_length]; exact hw.out
  have h5 : (byV f.haze).length = 64 := by rw [byV_length]; exact hw.haze
  have hp : ([.int .i64 f.kind] ++ [.int .i64 f.from_] ++ [.int .i64 f.seq] ++ [.int .i64 f.node] : List Value).length = 4 := by simp only [List.length_append, List.length_cons, List.length_nil, h1, h2, h3, h4, h5]
  have hs := heap_setCells_seg q T (byV d) ([.int .i64 f.kind] ++ [.int .i64 f.from_] ++ [.int .i64 f.seq] ++ [.int .i64 f.node]) (byV f.key) ([.bool f.found] ++ f.rcd.cells ++ (byV f.out) ++ [.int .i64 f.at_] ++ [.string ⟨f.data.toArray⟩] ++ (byV f.haze) ++ (f.mani x).cells ++ [.slice x.RA f.rngs.length x.rc] ++ [.slice x.IA f.items.length x.ic] ++ [.slice x.MA f.mems.length x.mc]) w (by unfold Fm.cells at h; simpa only [List.append_assoc, List.nil_append, List.append_nil, List.singleton_append, List.cons_append] using h) (by rw [byV_length, byV_length, hw.key, hd])
  rw [hp] at hs
  unfold Fm.cells
  simp only [List.append_assoc, List.nil_append, List.append_nil, List.singleton_append, List.cons_append] at hs ⊢
  exact hs
theorem fm_put_found {w : World} {q : Nat} {f : Fm} {x : Adr} {T : TypeId} (hw : f.Wf) (h : w.heap[q]? = some (.cells (f.cells x).toArray T (0, 0))) (b : Bool) :
    (w.setCells q 36 [.bool b]).heap[q]? = some (.cells (({ f with found := b } : Fm).cells (x : Adr)).toArray T (0, 0)) := by
  have h1 := mani_len f x hw.whole
  have h2 := Rc.len hw.rcd
  have h3 : (byV f.key).length = 32 := by rw [byV_length]; exact hw.key
  have h4 : (byV f.out).length = 32 := by rw [byV_length]; exact hw.out
  have h5 : (byV f.haze).length = 64 := by rw [byV_length]; exact hw.haze
  have hp : ([.int .i64 f.kind] ++ [.int .i64 f.from_] ++ [.int .i64 f.seq] ++ [.int .i64 f.node] ++ (byV f.key) : List Value).length = 36 := by simp only [List.length_append, List.length_cons, List.length_nil, h1, h2, h3, h4, h5]
  have hs := heap_setCells_seg q T [.bool b] ([.int .i64 f.kind] ++ [.int .i64 f.from_] ++ [.int .i64 f.seq] ++ [.int .i64 f.node] ++ (byV f.key)) [.bool f.found] (f.rcd.cells ++ (byV f.out) ++ [.int .i64 f.at_] ++ [.string ⟨f.data.toArray⟩] ++ (byV f.haze) ++ (f.mani x).cells ++ [.slice x.RA f.rngs.length x.rc] ++ [.slice x.IA f.items.length x.ic] ++ [.slice x.MA f.mems.length x.mc]) w (by unfold Fm.cells at h; simpa only [List.append_assoc, List.nil_append, List.append_nil, List.singleton_append, List.cons_append] using h) (rfl)
  rw [hp] at hs
  unfold Fm.cells
  simp only [List.append_assoc, List.nil_append, List.append_nil, List.singleton_append, List.cons_append] at hs ⊢
  exact hs
theorem fm_put_rcd {w : World} {q : Nat} {f : Fm} {x : Adr} {T : TypeId} (hw : f.Wf) (h : w.heap[q]? = some (.cells (f.cells x).toArray T (0, 0))) (r : Rc) (hr : r.Wf) :
    (w.setCells q 37 r.cells).heap[q]? = some (.cells (({ f with rcd := r } : Fm).cells (x : Adr)).toArray T (0, 0)) := by
  have h1 := mani_len f x hw.whole
  have h2 := Rc.len hw.rcd
  have h3 : (byV f.key).length = 32 := by rw [byV_length]; exact hw.key
  have h4 : (byV f.out).length = 32 := by rw [byV_length]; exact hw.out
  have h5 : (byV f.haze).length = 64 := by rw [byV_length]; exact hw.haze
  have hp : ([.int .i64 f.kind] ++ [.int .i64 f.from_] ++ [.int .i64 f.seq] ++ [.int .i64 f.node] ++ (byV f.key) ++ [.bool f.found] : List Value).length = 37 := by simp only [List.length_append, List.length_cons, List.length_nil, h1, h2, h3, h4, h5]
  have hs := heap_setCells_seg q T r.cells ([.int .i64 f.kind] ++ [.int .i64 f.from_] ++ [.int .i64 f.seq] ++ [.int .i64 f.node] ++ (byV f.key) ++ [.bool f.found]) f.rcd.cells ((byV f.out) ++ [.int .i64 f.at_] ++ [.string ⟨f.data.toArray⟩] ++ (byV f.haze) ++ (f.mani x).cells ++ [.slice x.RA f.rngs.length x.rc] ++ [.slice x.IA f.items.length x.ic] ++ [.slice x.MA f.mems.length x.mc]) w (by unfold Fm.cells at h; simpa only [List.append_assoc, List.nil_append, List.append_nil, List.singleton_append, List.cons_append] using h) (by rw [Rc.len hw.rcd, Rc.len hr])
  rw [hp] at hs
  unfold Fm.cells
  simp only [List.append_assoc, List.nil_append, List.append_nil, List.singleton_append, List.cons_append] at hs ⊢
  exact hs
theorem fm_put_out {w : World} {q : Nat} {f : Fm} {x : Adr} {T : TypeId} (hw : f.Wf) (h : w.heap[q]? = some (.cells (f.cells x).toArray T (0, 0))) (d : Bs) (hd : d.length = 32) :
    (w.setCells q 102 (byV d)).heap[q]? = some (.cells (({ f with out := d } : Fm).cells (x : Adr)).toArray T (0, 0)) := by
  have h1 := mani_len f x hw.whole
  have h2 := Rc.len hw.rcd
  have h3 : (byV f.key).length = 32 := by rw [byV_length]; exact hw.key
  have h4 : (byV f.out).length = 32 := by rw [byV_length]; exact hw.out
  have h5 : (byV f.haze).length = 64 := by rw [byV_length]; exact hw.haze
  have hp : ([.int .i64 f.kind] ++ [.int .i64 f.from_] ++ [.int .i64 f.seq] ++ [.int .i64 f.node] ++ (byV f.key) ++ [.bool f.found] ++ f.rcd.cells : List Value).length = 102 := by simp only [List.length_append, List.length_cons, List.length_nil, h1, h2, h3, h4, h5]
  have hs := heap_setCells_seg q T (byV d) ([.int .i64 f.kind] ++ [.int .i64 f.from_] ++ [.int .i64 f.seq] ++ [.int .i64 f.node] ++ (byV f.key) ++ [.bool f.found] ++ f.rcd.cells) (byV f.out) ([.int .i64 f.at_] ++ [.string ⟨f.data.toArray⟩] ++ (byV f.haze) ++ (f.mani x).cells ++ [.slice x.RA f.rngs.length x.rc] ++ [.slice x.IA f.items.length x.ic] ++ [.slice x.MA f.mems.length x.mc]) w (by unfold Fm.cells at h; simpa only [List.append_assoc, List.nil_append, List.append_nil, List.singleton_append, List.cons_append] using h) (by rw [byV_length, byV_length, hw.out, hd])
  rw [hp] at hs
  unfold Fm.cells
  simp only [List.append_assoc, List.nil_append, List.append_nil, List.singleton_append, List.cons_append] at hs ⊢
  exact hs
theorem fm_put_at {w : World} {q : Nat} {f : Fm} {x : Adr} {T : TypeId} (hw : f.Wf) (h : w.heap[q]? = some (.cells (f.cells x).toArray T (0, 0))) (n : Int) :
    (w.setCells q 134 [.int .i64 n]).heap[q]? = some (.cells (({ f with at_ := n } : Fm).cells (x : Adr)).toArray T (0, 0)) := by
  have h1 := mani_len f x hw.whole
  have h2 := Rc.len hw.rcd
  have h3 : (byV f.key).length = 32 := by rw [byV_length]; exact hw.key
  have h4 : (byV f.out).length = 32 := by rw [byV_length]; exact hw.out
  have h5 : (byV f.haze).length = 64 := by rw [byV_length]; exact hw.haze
  have hp : ([.int .i64 f.kind] ++ [.int .i64 f.from_] ++ [.int .i64 f.seq] ++ [.int .i64 f.node] ++ (byV f.key) ++ [.bool f.found] ++ f.rcd.cells ++ (byV f.out) : List Value).length = 134 := by simp only [List.length_append, List.length_cons, List.length_nil, h1, h2, h3, h4, h5]
  have hs := heap_setCells_seg q T [.int .i64 n] ([.int .i64 f.kind] ++ [.int .i64 f.from_] ++ [.int .i64 f.seq] ++ [.int .i64 f.node] ++ (byV f.key) ++ [.bool f.found] ++ f.rcd.cells ++ (byV f.out)) [.int .i64 f.at_] ([.string ⟨f.data.toArray⟩] ++ (byV f.haze) ++ (f.mani x).cells ++ [.slice x.RA f.rngs.length x.rc] ++ [.slice x.IA f.items.length x.ic] ++ [.slice x.MA f.mems.length x.mc]) w (by unfold Fm.cells at h; simpa only [List.append_assoc, List.nil_append, List.append_nil, List.singleton_append, List.cons_append] using h) (rfl)
  rw [hp] at hs
  unfold Fm.cells
  simp only [List.append_assoc, List.nil_append, List.append_nil, List.singleton_append, List.cons_append] at hs ⊢
  exact hs
theorem fm_put_data {w : World} {q : Nat} {f : Fm} {x : Adr} {T : TypeId} (hw : f.Wf) (h : w.heap[q]? = some (.cells (f.cells x).toArray T (0, 0))) (d : Bs) :
    (w.setCells q 135 [.string ⟨d.toArray⟩]).heap[q]? = some (.cells (({ f with data := d } : Fm).cells (x : Adr)).toArray T (0, 0)) := by
  have h1 := mani_len f x hw.whole
  have h2 := Rc.len hw.rcd
  have h3 : (byV f.key).length = 32 := by rw [byV_length]; exact hw.key
  have h4 : (byV f.out).length = 32 := by rw [byV_length]; exact hw.out
  have h5 : (byV f.haze).length = 64 := by rw [byV_length]; exact hw.haze
  have hp : ([.int .i64 f.kind] ++ [.int .i64 f.from_] ++ [.int .i64 f.seq] ++ [.int .i64 f.node] ++ (byV f.key) ++ [.bool f.found] ++ f.rcd.cells ++ (byV f.out) ++ [.int .i64 f.at_] : List Value).length = 135 := by simp only [List.length_append, List.length_cons, List.length_nil, h1, h2, h3, h4, h5]
  have hs := heap_setCells_seg q T [.string ⟨d.toArray⟩] ([.int .i64 f.kind] ++ [.int .i64 f.from_] ++ [.int .i64 f.seq] ++ [.int .i64 f.node] ++ (byV f.key) ++ [.bool f.found] ++ f.rcd.cells ++ (byV f.out) ++ [.int .i64 f.at_]) [.string ⟨f.data.toArray⟩] ((byV f.haze) ++ (f.mani x).cells ++ [.slice x.RA f.rngs.length x.rc] ++ [.slice x.IA f.items.length x.ic] ++ [.slice x.MA f.mems.length x.mc]) w (by unfold Fm.cells at h; simpa only [List.append_assoc, List.nil_append, List.append_nil, List.singleton_append, List.cons_append] using h) (rfl)
  rw [hp] at hs
  unfold Fm.cells
  simp only [List.append_assoc, List.nil_append, List.append_nil, List.singleton_append, List.cons_append] at hs ⊢
  exact hs
theorem fm_put_haze {w : World} {q : Nat} {f : Fm} {x : Adr} {T : TypeId} (hw : f.Wf) (h : w.heap[q]? = some (.cells (f.cells x).toArray T (0, 0))) (d : Bs) (hd : d.length = 64) :
    (w.setCells q 136 (byV d)).heap[q]? = some (.cells (({ f with haze := d } : Fm).cells (x : Adr)).toArray T (0, 0)) := by
  have h1 := mani_len f x hw.whole
  have h2 := Rc.len hw.rcd
  have h3 : (byV f.key).length = 32 := by rw [byV_length]; exact hw.key
  have h4 : (byV f.out).length = 32 := by rw [byV_length]; exact hw.out
  have h5 : (byV f.haze).length = 64 := by rw [byV_length]; exact hw.haze
  have hp : ([.int .i64 f.kind] ++ [.int .i64 f.from_] ++ [.int .i64 f.seq] ++ [.int .i64 f.node] ++ (byV f.key) ++ [.bool f.found] ++ f.rcd.cells ++ (byV f.out) ++ [.int .i64 f.at_] ++ [.string ⟨f.data.toArray⟩] : List Value).length = 136 := by simp only [List.length_append, List.length_cons, List.length_nil, h1, h2, h3, h4, h5]
  have hs := heap_setCells_seg q T (byV d) ([.int .i64 f.kind] ++ [.int .i64 f.from_] ++ [.int .i64 f.seq] ++ [.int .i64 f.node] ++ (byV f.key) ++ [.bool f.found] ++ f.rcd.cells ++ (byV f.out) ++ [.int .i64 f.at_] ++ [.string ⟨f.data.toArray⟩]) (byV f.haze) ((f.mani x).cells ++ [.slice x.RA f.rngs.length x.rc] ++ [.slice x.IA f.items.length x.ic] ++ [.slice x.MA f.mems.length x.mc]) w (by unfold Fm.cells at h; simpa only [List.append_assoc, List.nil_append, List.append_nil, List.singleton_append, List.cons_append] using h) (by rw [byV_length, byV_length, hw.haze, hd])
  rw [hp] at hs
  unfold Fm.cells
  simp only [List.append_assoc, List.nil_append, List.append_nil, List.singleton_append, List.cons_append] at hs ⊢
  exact hs
theorem fm_put_mani {w : World} {q : Nat} {f : Fm} {x : Adr} {T : TypeId} (hw : f.Wf) (h : w.heap[q]? = some (.cells (f.cells x).toArray T (0, 0))) (m : ManiD) (hm : m.whole.length = 32) :
    (w.setCells q 200 m.cells).heap[q]? = some (.cells (({ f with whole := m.whole, size := m.size, parts := m.parts } : Fm).cells ({ x with PA := m.A, pc := m.cap } : Adr)).toArray T (0, 0)) := by
  have h1 := mani_len f x hw.whole
  have h2 := Rc.len hw.rcd
  have h3 : (byV f.key).length = 32 := by rw [byV_length]; exact hw.key
  have h4 : (byV f.out).length = 32 := by rw [byV_length]; exact hw.out
  have h5 : (byV f.haze).length = 64 := by rw [byV_length]; exact hw.haze
  have hp : ([.int .i64 f.kind] ++ [.int .i64 f.from_] ++ [.int .i64 f.seq] ++ [.int .i64 f.node] ++ (byV f.key) ++ [.bool f.found] ++ f.rcd.cells ++ (byV f.out) ++ [.int .i64 f.at_] ++ [.string ⟨f.data.toArray⟩] ++ (byV f.haze) : List Value).length = 200 := by simp only [List.length_append, List.length_cons, List.length_nil, h1, h2, h3, h4, h5]
  have hs := heap_setCells_seg q T m.cells ([.int .i64 f.kind] ++ [.int .i64 f.from_] ++ [.int .i64 f.seq] ++ [.int .i64 f.node] ++ (byV f.key) ++ [.bool f.found] ++ f.rcd.cells ++ (byV f.out) ++ [.int .i64 f.at_] ++ [.string ⟨f.data.toArray⟩] ++ (byV f.haze)) (f.mani x).cells ([.slice x.RA f.rngs.length x.rc] ++ [.slice x.IA f.items.length x.ic] ++ [.slice x.MA f.mems.length x.mc]) w (by unfold Fm.cells at h; simpa only [List.append_assoc, List.nil_append, List.append_nil, List.singleton_append, List.cons_append] using h) (by rw [mani_len f x hw.whole]; simp [ManiD.cells, byV_length, hm])
  rw [hp] at hs
  unfold Fm.cells
  simp only [List.append_assoc, List.nil_append, List.append_nil, List.singleton_append, List.cons_append] at hs ⊢
  exact hs
theorem fm_put_rngs {w : World} {q : Nat} {f : Fm} {x : Adr} {T : TypeId} (hw : f.Wf) (h : w.heap[q]? = some (.cells (f.cells x).toArray T (0, 0))) (l : List Rg) (A : Option Addr) (c : Nat) :
    (w.setCells q 234 [.slice A l.length c]).heap[q]? = some (.cells (({ f with rngs := l } : Fm).cells ({ x with RA := A, rc := c } : Adr)).toArray T (0, 0)) := by
  have h1 := mani_len f x hw.whole
  have h2 := Rc.len hw.rcd
  have h3 : (byV f.key).length = 32 := by rw [byV_length]; exact hw.key
  have h4 : (byV f.out).length = 32 := by rw [byV_length]; exact hw.out
  have h5 : (byV f.haze).length = 64 := by rw [byV_length]; exact hw.haze
  have hp : ([.int .i64 f.kind] ++ [.int .i64 f.from_] ++ [.int .i64 f.seq] ++ [.int .i64 f.node] ++ (byV f.key) ++ [.bool f.found] ++ f.rcd.cells ++ (byV f.out) ++ [.int .i64 f.at_] ++ [.string ⟨f.data.toArray⟩] ++ (byV f.haze) ++ (f.mani x).cells : List Value).length = 234 := by simp only [List.length_append, List.length_cons, List.length_nil, h1, h2, h3, h4, h5]
  have hs := heap_setCells_seg q T [.slice A l.length c] ([.int .i64 f.kind] ++ [.int .i64 f.from_] ++ [.int .i64 f.seq] ++ [.int .i64 f.node] ++ (byV f.key) ++ [.bool f.found] ++ f.rcd.cells ++ (byV f.out) ++ [.int .i64 f.at_] ++ [.string ⟨f.data.toArray⟩] ++ (byV f.haze) ++ (f.mani x).cells) [.slice x.RA f.rngs.length x.rc] ([.slice x.IA f.items.length x.ic] ++ [.slice x.MA f.mems.length x.mc]) w (by unfold Fm.cells at h; simpa only [List.append_assoc, List.nil_append, List.append_nil, List.singleton_append, List.cons_append] using h) (rfl)
  rw [hp] at hs
  unfold Fm.cells
  simp only [List.append_assoc, List.nil_append, List.append_nil, List.singleton_append, List.cons_append] at hs ⊢
  exact hs
theorem fm_put_items {w : World} {q : Nat} {f : Fm} {x : Adr} {T : TypeId} (hw : f.Wf) (h : w.heap[q]? = some (.cells (f.cells x).toArray T (0, 0))) (l : List Rc) (A : Option Addr) (c : Nat) :
    (w.setCells q 235 [.slice A l.length c]).heap[q]? = some (.cells (({ f with items := l } : Fm).cells ({ x with IA := A, ic := c } : Adr)).toArray T (0, 0)) := by
  have h1 := mani_len f x hw.whole
  have h2 := Rc.len hw.rcd
  have h3 : (byV f.key).length = 32 := by rw [byV_length]; exact hw.key
  have h4 : (byV f.out).length = 32 := by rw [byV_length]; exact hw.out
  have h5 : (byV f.haze).length = 64 := by rw [byV_length]; exact hw.haze
  have hp : ([.int .i64 f.kind] ++ [.int .i64 f.from_] ++ [.int .i64 f.seq] ++ [.int .i64 f.node] ++ (byV f.key) ++ [.bool f.found] ++ f.rcd.cells ++ (byV f.out) ++ [.int .i64 f.at_] ++ [.string ⟨f.data.toArray⟩] ++ (byV f.haze) ++ (f.mani x).cells ++ [.slice x.RA f.rngs.length x.rc] : List Value).length = 235 := by simp only [List.length_append, List.length_cons, List.length_nil, h1, h2, h3, h4, h5]
  have hs := heap_setCells_seg q T [.slice A l.length c] ([.int .i64 f.kind] ++ [.int .i64 f.from_] ++ [.int .i64 f.seq] ++ [.int .i64 f.node] ++ (byV f.key) ++ [.bool f.found] ++ f.rcd.cells ++ (byV f.out) ++ [.int .i64 f.at_] ++ [.string ⟨f.data.toArray⟩] ++ (byV f.haze) ++ (f.mani x).cells ++ [.slice x.RA f.rngs.length x.rc]) [.slice x.IA f.items.length x.ic] ([.slice x.MA f.mems.length x.mc]) w (by unfold Fm.cells at h; simpa only [List.append_assoc, List.nil_append, List.append_nil, List.singleton_append, List.cons_append] using h) (rfl)
  rw [hp] at hs
  unfold Fm.cells
  simp only [List.append_assoc, List.nil_append, List.append_nil, List.singleton_append, List.cons_append] at hs ⊢
  exact hs
end Wi
end Go.Proofs.YthcmlbbbbcinkaaDoor
