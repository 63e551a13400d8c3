/-
  Layer 17 (haul): the walk of Hear: frames that change nothing.
-/
import Derived.Test.YtfbjbhddapoopaaDoorHaF
set_option linter.unusedVariables false
set_option linter.unusedSimpArgs false
namespace Go.Proofs.YtfbjbhddapoopaaDoor
open Go.RowKit
attribute [local go_sem] Lb.ba_get Lb.ba_cut Lb.ba_add Lb.ba_size Lb.take_rest

theorem fr_at {f : FrD} (hf : f.Fit) : f.cells[0]? = some (.int .i64 f.kind) ∧ f.cells[1]? = some (.int .i64 f.from_) ∧ f.cells[134]? = some (.int .i64 f.at_) ∧ f.cells[135]? = some (.string ⟨f.data.toArray⟩) ∧
    (∀ k v, (byV f.out)[k]? = some v → f.cells[102 + k]? = some v) ∧ (∀ k v, f.mani.cells[k]? = some v → f.cells[200 + k]? = some v) := by
  have ho : (byV f.out).length = 32 := by rw [byV_length, hf.lo]
  have h1 := hf.l1
  have h2 := hf.l2
  refine ⟨rfl, rfl, ?_, ?_, fun k v hv => ?_, fun k v hv => ?_⟩
  · unfold FrD.cells
    rw [List.getElem?_append_right (by simp), List.getElem?_append_right (by simp; omega), List.getElem?_append_right (by simp; omega), List.getElem?_append_left (by simp; omega)]
    simp [h1, ho]
  · unfold FrD.cells
    rw [List.getElem?_append_right (by simp), List.getElem?_append_right (by simp; omega), List.getElem?_append_right (by simp; omega), List.getElem?_append_left (by simp; omega)]
    simp [h1, ho]
  · have hk := (List.getElem?_eq_some_iff.1 hv).1
    unfold FrD.cells
    rw [List.getElem?_append_right (by simp; omega), List.getElem?_append_right (by simp; omega), List.getElem?_append_left (by simp; omega)]
    simp only [List.length_cons, List.length_nil, h1]
    have e : 102 + k - (0 + 1 + 1) - 100 = k := by omega
    rw [e]; exact hv
  · have hk := (List.getElem?_eq_some_iff.1 hv).1
    unfold FrD.cells
    rw [List.getElem?_append_right (by simp; omega), List.getElem?_append_right (by simp; omega), List.getElem?_append_right (by simp; omega), List.getElem?_append_right (by simp; omega), List.getElem?_append_right (by simp; omega), List.getElem?_append_left (by simp; omega)]
    simp only [List.length_cons, List.length_nil, h1, h2, ho]
    have e : 200 + k - (0 + 1 + 1) - 100 - 32 - (0 + 1 + 1) - 64 = k := by omega
    rw [e]; exact hv
structure FrAt (w : World) (b : Nat) (f : FrD) : Prop where
  kind : w.cell? ⟨b, 0, none⟩ = some (.int .i64 f.kind)
  from_ : w.cell? ⟨b, 1, none⟩ = some (.int .i64 f.from_)
  at_ : w.cell? ⟨b, 134, none⟩ = some (.int .i64 f.at_)
  data : w.cell? ⟨b, 135, none⟩ = some (.string ⟨f.data.toArray⟩)
  out : w.rangeAt b 102 (byV f.out)
  mani : w.rangeAt b 200 f.mani.cells
  whole : w.rangeAt b 200 (byV f.mani.whole)
  parts : w.cell? ⟨b, 233, none⟩ = some (.slice f.mani.A f.mani.parts.length f.mani.cap)
theorem fr_mem {w : World} {b : Nat} {f : FrD} {T : TypeId} {z : Nat × Nat} (hf : f.Fit) (h : w.heap[b]? = some (.cells f.row T z)) : FrAt w b f := by
  obtain ⟨a0, a1, a2, a3, a4, a5⟩ := fr_at hf
  have hm : w.rangeAt b 200 f.mani.cells := fun k v hv => by rw [Lib.cell_of_heap h]; simpa [FrD.row] using a5 k v hv
  refine ⟨by rw [Lib.cell_of_heap h]; simpa [FrD.row] using a0, by rw [Lib.cell_of_heap h]; simpa [FrD.row] using a1, by rw [Lib.cell_of_heap h]; simpa [FrD.row] using a2, by rw [Lib.cell_of_heap h]; simpa [FrD.row] using a3, fun k v hv => by rw [Lib.cell_of_heap h]; simpa [FrD.row] using a4 k v hv, hm, fun k v hv => ?_, ?_⟩
  · refine hm k v ?_
    unfold ManiD.cells
    rw [List.getElem?_append_left (List.getElem?_eq_some_iff.1 hv).1]; exact hv
  · have := hm 33 (.slice f.mani.A f.mani.parts.length f.mani.cap) (by have := f.mani.at33 hf.lm; simpa [ManiD.row] using this)
    simpa using this
/-- a frame whose numbers are numbers of 64 bits, whose manifest's digests lie in memory -/
structure FrD.Ok (w : World) (f : FrD) : Prop where
  fit : f.Fit
  klo : -9223372036854775808 ≤ f.kind
  khi : f.kind ≤ 9223372036854775807
  alo : -9223372036854775808 ≤ f.at_
  ahi : f.at_ ≤ 9223372036854775807
  data : f.data.length ≤ 140737488355328
  mani : f.mani.Ok w w.heap.size
theorem FrD.Ok.step {w w' : World} {f : FrD} (h : f.Ok w) (hb : Below w.heap.size w w') : f.Ok w' := { h with mani := (h.mani.below hb (Nat.le_refl _)).more hb.size }

def hearOf (K : List Int) (d : HlD) (f : FrD) : HlD × List Int := Hl.hear K d f.kind f.from_ f.out f.at_ f.data (f.mani.whole, f.mani.size, f.mani.parts)
def HearPost (K : List Int) (w : World) (S : List Nat) (p : Nat) (d : HlD) (f : FrD) : Ending → World → Prop := ActPost w S p d.peer d.out (hearOf K d f).2 (hearOf K d f).1

/-- nothing has come of it -/
theorem hear_same {K : List Int} {w w' : World} {S : List Nat} {p : Nat} {d : HlD} {f : FrD} (h : HlAt w S p d) (hh : hearOf K d f = (d, [])) (hb : Below w.heap.size w w') : HearPost K w S p d f (.returned (.slice none 0 0)) w' := by
  unfold HearPost
  rw [hh]
  exact ⟨_, S, rfl, Bag0.nil _ _ _, h.below hb, Only.of_below hb, fun k hk => .inl hk, apart_nil _ _ _⟩

set_option maxHeartbeats 4000000 in
set_option maxRecDepth 100000 in
theorem hear_closed (K : List Int) (p : Nat) (S : List Nat) (d : HlD) (f : FrD) (w : World) (h : HlAt w S p d) (hf : f.Ok w) (hc : d.done = true ∨ d.failed = true ∨ f.from_ ≠ d.peer) :
    Calls Tryd.prog 19 #[.pointer (some ⟨p, 0, none⟩), .agg f.row] w (HearPost K w S p d f) := by
  have hh : hearOf K d f = (d, []) := by unfold hearOf Hl.hear; rw [if_pos hc]
  have fin := Lib.hid (fun w' (hb : Below w.heap.size w w') => hear_same (K := K) h hh hb)
  obtain ⟨ok, lt, pS, mv, cv, hm, -⟩ := h
  have ho := ok.out
  have hB := (Below.refl w.heap.size w).alloc (Nat.le_refl _) (.cells f.row 44)
  have hm1 := below_keep hB hm
  have fa := fr_mem hf.fit (heap_alloc_new w (.cells f.row 44))
  obtain ⟨-, -, -, c35, -, -, -, -⟩ := hl_cells ho hm1
  have f1 := fa.from_
  have hop := Lib.hid (fun n => (open_any p d mv cv ((w.alloc (.cells f.row 44)).drewN n) ho hm1).mono fun _ _ h => And.intro h.1 h.2.symm)
  have HB := Lib.hid hB
  obtain ⟨w1, hw1⟩ : ∃ y, y = w.alloc (.cells f.row 44) := ⟨_, rfl⟩
  obtain ⟨b, hb⟩ : ∃ y, y = w.heap.size := ⟨_, rfl⟩
  go_enter Tryd.func19, Tryd.ntmps19
  go_upto_region 1 with fail
  rw [← hw1] at c35 f1 hop HB ⊢
  rw [← hb] at f1 ⊢
  have Hb := Lib.hid hb
  clear hw1 hb fa hm1 hB hm hf lt pS ok ho hh
  by_cases hcl : (!d.done && !d.failed) = false
  · rw [hcl] at hop
    clear hcl hc
    go_quiet ((go_at_call 60; exact Calls.quiet_of_same (hop.out _)))
    go_wp2_with fail
    (try simp only [Exit.inBlock, Exit.then])
    refine bodyPost_ret (results_tmp rfl _ _ _) rfl ?_
    exact fin.out _ (below_drewN'' HB.out _)
  · have hne : f.from_ ≠ d.peer := by
      rcases hc with h | h | h
      · rw [h] at hcl; simp at hcl
      · rw [h] at hcl; simp at hcl
      · exact h
    have hcl : (!d.done && !d.failed) = true := by simpa using hcl
    rw [hcl] at hop
    obtain ⟨x, hx⟩ : ∃ x, x = f.from_ := ⟨_, rfl⟩
    obtain ⟨y, hy⟩ : ∃ y, y = d.peer := ⟨_, rfl⟩
    rw [← hx, ← hy] at hne
    rw [← hx] at f1
    rw [← hy] at c35
    have hb1 : (x != y) = true := by simp [hne]
    have hb2 : (x == y) = false := by simp [hne]
    clear hcl hc hne hx hy
    go_quiet ((go_at_call 60; exact Calls.quiet_of_same (hop.out _)))
    go_wp2_with fail
    (try simp only [Exit.inBlock, Exit.then])
    refine bodyPost_ret (results_tmp rfl _ _ _) rfl ?_
    exact fin.out _ (below_drewN'' HB.out _)
end Go.Proofs.YtfbjbhddapoopaaDoor
