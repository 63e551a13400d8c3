/-
  Layer 5's laws: an act in a block of its own; a store that is looked at behind a loss of power.
-/
import Derived.Test.YteihfoacdocgkaaDoorHyF
set_option linter.unusedVariables false
set_option linter.unusedSimpArgs false
namespace Go.Proofs.YteihfoacdocgkaaDoor
open Go.RowKit Pl Sh

theorem act05_info : (Tryd.prog.info? 71).map (·.size) = some 69 := by kernel_rfl
theorem act05_zero : Tryd.zeroCells71.size = 69 := by kernel_rfl
theorem actH_one (a : ActH) : a.cells.toArray.all (·.oneCell') = true := by
  rw [Array.all_eq_true_iff_forall_mem]
  intro v hv
  rw [List.mem_toArray] at hv
  unfold ActH.cells at hv
  simp only [List.mem_cons, List.mem_append, List.not_mem_nil, or_false] at hv
  rcases hv with rfl | rfl | h | rfl | rfl
  · rfl
  · rfl
  · obtain ⟨kd, n, rfl⟩ := rec_cells_int a.r v h
    rfl
  · rfl
  · rfl
theorem act_blk {w : World} {xb : Nat} {a : ActH} (h : w.heap[xb]? = some (.cells a.cells.toArray 71 (0, 0))) (hf : a.r.Fit) :
    w.cell? ⟨xb, 0, none⟩ = some (.int .i64 a.kind) ∧ w.cell? ⟨xb, 1, none⟩ = some (.string ⟨a.text.toArray⟩) ∧ w.rangeAt xb 2 a.r.cells ∧ w.rangeAt xb 2 (byV a.r.key) ∧ w.cell? ⟨xb, 67, none⟩ = some (.int .i64 a.at_) ∧ w.cell? ⟨xb, 68, none⟩ = some (.slice a.A a.fs.length a.cap) := by
  have hr : w.rangeAt xb 0 a.cells := fun k v hv => by
    rw [Lib.cell_of_heap h, Nat.zero_add, List.getElem?_toArray]; exact hv
  obtain ⟨c0, c1, cr, c3, c4⟩ := actH_cells hr hf
  rw [Nat.zero_add] at c1 cr c3 c4
  refine ⟨c0, c1, cr, fun k v hv => ?_, c3, c4⟩
  refine cr k v ?_
  unfold RecD.cells
  rw [List.getElem?_append_left (List.getElem?_eq_some_iff.1 hv).1]; exact hv
theorem rec_blk {w : World} {b : Nat} {r : RecD} {T : TypeId} (h : w.heap[b]? = some (.cells r.row T (0, 0))) : w.rangeAt b 0 (byV r.key) ∧ w.rangeAt b 0 r.cells := by
  have hr : w.rangeAt b 0 r.cells := fun k v hv => by
    rw [Lib.cell_of_heap h, Nat.zero_add]; unfold RecD.row; rw [List.getElem?_toArray]; exact hv
  refine ⟨fun k v hv => hr k v ?_, hr⟩
  unfold RecD.cells
  rw [List.getElem?_append_left (List.getElem?_eq_some_iff.1 hv).1]; exact hv
/-- a store, and a block of an act beside it -/
def PAll (w wx : World) (q : HvP) (n k sb sg xb : Nat) (A : Bool) (ac : List Value) (C Kp : List (List UInt8)) (S : List Nat) : Prop :=
  q.b = sb ∧ q.g = sg ∧ PBox KK wx q n k A C Kp S ∧ (∀ x ∈ S, w.heap.size ≤ x) ∧ xb ∉ S ∧ wx.heap[xb]? = some (.cells ac.toArray 71 (0, 0)) ∧ Below w.heap.size w wx
theorem PAll.step {w wx wy : World} {q : HvP} {n k k' sb sg xb : Nat} {A : Bool} {ac : List Value} {C Kp C' Kp' : List (List UInt8)} {S S' : List Nat} (h : PAll w wx q n k sb sg xb A ac C Kp S) (hb : PBox KK wy q n k' A C' Kp' S') (hO : Only S wx wy) (hS : ∀ x ∈ S', x ∈ S ∨ wx.heap.size ≤ x) : PAll w wy q n k' sb sg xb A ac C' Kp' S' := by
  obtain ⟨h1, h2, h3, h4, h5, h6, h7⟩ := h
  have hx := heap_lt h6
  refine ⟨h1, h2, hb, fun x hx => ?_, fun hx2 => ?_, (hO.block xb hx h5).trans h6, h7.trans (hO.below h7.size h4)⟩
  · rcases hS x hx with h | h
    · exact h4 x h
    · exact Nat.le_trans h7.size h
  · rcases hS xb hx2 with h | h
    · exact h5 h
    · omega
theorem PAll.below {w wx wy : World} {q : HvP} {n k sb sg xb : Nat} {A : Bool} {ac : List Value} {C Kp : List (List UInt8)} {S : List Nat} (h : PAll w wx q n k sb sg xb A ac C Kp S) (hb : Below wx.heap.size wx wy) : PAll w wy q n k sb sg xb A ac C Kp S := by
  obtain ⟨h1, h2, h3, h4, h5, h6, h7⟩ := h
  exact ⟨h1, h2, h3.below hb, h4, h5, below_keep hb h6, h7.trans (hb.mono h7.size)⟩
theorem PAll.less {w wx : World} {q : HvP} {n k k' sb sg xb : Nat} {A : Bool} {ac : List Value} {C Kp : List (List UInt8)} {S : List Nat} (h : PAll w wx q n k sb sg xb A ac C Kp S) (hk : k' ≤ k) : PAll w wx q n k' sb sg xb A ac C Kp S := by
  obtain ⟨h1, h2, h3, h4, h5, h6, h7⟩ := h
  exact ⟨h1, h2, h3.less hk, h4, h5, h6, h7⟩
theorem PAll.box {w wx : World} {q : HvP} {n k sb sg xb : Nat} {A : Bool} {ac : List Value} {C Kp : List (List UInt8)} {S : List Nat} (h : PAll w wx q n k sb sg xb A ac C Kp S) : PBox KK wx q n k A C Kp S := h.2.2.1
theorem PAll.lo {w wx : World} {q : HvP} {n k sb sg xb : Nat} {A : Bool} {ac : List Value} {C Kp : List (List UInt8)} {S : List Nat} (h : PAll w wx q n k sb sg xb A ac C Kp S) : ∀ x ∈ S, w.heap.size ≤ x := h.2.2.2.1
theorem PAll.blk {w wx : World} {q : HvP} {n k sb sg xb : Nat} {A : Bool} {ac : List Value} {C Kp : List (List UInt8)} {S : List Nat} (h : PAll w wx q n k sb sg xb A ac C Kp S) : wx.heap[xb]? = some (.cells ac.toArray 71 (0, 0)) := h.2.2.2.2.2.1
theorem PAll.old {w wx : World} {q : HvP} {n k sb sg xb : Nat} {A : Bool} {ac : List Value} {C Kp : List (List UInt8)} {S : List Nat} (h : PAll w wx q n k sb sg xb A ac C Kp S) : Below w.heap.size w wx := h.2.2.2.2.2.2
theorem PAll.zero {w wx : World} {q : HvP} {n k sb sg xb : Nat} {A : Bool} {ac : List Value} {C Kp : List (List UInt8)} {S : List Nat} (h : PAll w wx q n k sb sg xb A ac C Kp S) (h0 : 0 < w.heap.size) : 0 ∉ S := fun hx => by have := h.lo 0 hx; omega
/-- a store of which only its length is asked yet -/
def LenBox (w : World) (q : HvP) (m : Nat) : Prop := ∃ d, HvAt w q d ∧ d.L.length = m
theorem PBox.lenBox {K : List Int} {w : World} {q : HvP} {n k : Nat} {A : Bool} {C Kp : List (List UInt8)} {S : List Nat} (h : PBox K w q n k A C Kp S) : LenBox w q C.length := by
  obtain ⟨d, h1, h2, h3, h4, h5⟩ := h
  exact ⟨d, h1, by rw [← h3]; unfold rowsOf; rw [List.length_map]⟩
theorem LenBox.step {w w' : World} {q : HvP} {m : Nat} (h : LenBox w q m) (hO : Only [q.b, q.g] w w') (hs : ∃ s, ShAt w' q.b q.g s) : LenBox w' q m := by
  obtain ⟨d, h1, h2⟩ := h
  obtain ⟨s, hs⟩ := hs
  exact ⟨_, hv_shelf h1 hO hs, h2⟩
theorem LenBox.len {w : World} {q : HvP} {m : Nat} (h : LenBox w q m) : Calls Tryd.prog 26 #[.pointer (some ⟨q.p, 0, none⟩)] w fun r w' => r = .returned (.int .i64 m) ∧ w = w' := by
  obtain ⟨d, h1, h2⟩ := h
  rw [← h2]
  exact hlen_any q d w h1
theorem LenBox.below {w w' : World} {q : HvP} {m : Nat} (h : LenBox w q m) (hb : Below w.heap.size w w') : LenBox w' q m := by
  obtain ⟨d, h1, h2⟩ := h
  exact ⟨d, h1.below hb, h2⟩
theorem PBox.sh {K : List Int} {w : World} {q : HvP} {n k : Nat} {A : Bool} {C Kp : List (List UInt8)} {S : List Nat} (h : PBox K w q n k A C Kp S) : ∃ s, ShAt w q.b q.g s := by
  obtain ⟨d, h1, -⟩ := h
  exact ⟨_, h1.sh⟩
theorem DOff.sh {K : List Int} {w : World} {b g n k : Nat} {C Kp : List (List UInt8)} (h : DOff K w b g n k C Kp) : ∃ s, ShAt w b g s := by
  obtain ⟨s, h1, -⟩ := h
  exact ⟨s, h1⟩
theorem DOn.sh {K : List Int} {w : World} {b g n k : Nat} {C Kp : List (List UInt8)} (h : DOn K w b g n k C Kp) : ∃ s, ShAt w b g s := by
  obtain ⟨s, h1, -⟩ := h
  exact ⟨s, h1⟩
theorem AgI.same {ds : List ActH} {i : Nat} {C C' : List (List UInt8)} (h : AgI ds i C) (h1 : ∀ r ∈ C', r ∈ C) (h2 : ∀ r ∈ C, r ∈ C') (hl : C'.length = C.length) : AgI ds i C' :=
  ⟨by rw [hl]; exact h.len, fun r hr => h.src r (h1 r hr), fun j hj hji hk hl2 => h2 _ (h.all j hj hji hk hl2)⟩
end Go.Proofs.YteihfoacdocgkaaDoor
