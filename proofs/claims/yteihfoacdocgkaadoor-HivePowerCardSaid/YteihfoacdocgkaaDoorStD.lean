/-
  The walks of layer 2 (stamp): digest, New.
-/
import Derived.Test.YteihfoacdocgkaaDoorBase
set_option linter.unusedVariables false
set_option linter.unusedSimpArgs false
namespace Go.Proofs.YteihfoacdocgkaaDoor
open Go.RowKit
attribute [local go_sem] Lb.ba_get Lb.ba_cut Lb.ba_add Lb.ba_size Lb.take_rest

def byteOf (V : List Int) (i : Nat) : Int := V.getD (i / 4) 0 / 2 ^ (24 - i % 4 * 8) % 256
def digL (V : List Int) (i : Nat) : List Int := (List.range i).map (byteOf V) ++ List.replicate (32 - i) 0
def rowB (l : List Int) : Array Value := (l.map fun x => Value.int .u8 x).toArray

theorem digL_length (V : List Int) (i : Nat) (h : i ≤ 32) : (digL V i).length = 32 := by simp [digL]; omega
theorem digL_at (V : List Int) (i : Nat) (h : i < 32) : (digL V i)[i]? = some 0 := by
  unfold digL
  rw [List.getElem?_append_right (by simp), List.getElem?_replicate]
  simp only [List.length_map, List.length_range, Nat.sub_self]
  rw [if_pos (by omega)]
theorem digL_succ (V : List Int) (i : Nat) (h : i < 32) : (digL V i).set i (byteOf V i) = digL V (i + 1) := by
  unfold digL
  rw [List.set_append_right _ _ (by simp)]
  have e : 32 - i = (32 - (i + 1)) + 1 := by omega
  rw [e, List.replicate_succ, List.range_succ, List.map_append]
  simp

set_option maxRecDepth 100000 in
set_option maxHeartbeats 4000000 in
theorem digest_any (b : Nat) (T : TypeId) (V : List Int) (X : List Value) (w : World) (hV : V.length = 8)
    (hS : w.heap[b]? = some (.cells ((V.map fun x => Value.int .u32 x) ++ X).toArray T (0, 0))) :
    Calls Tryd.prog 121 #[.pointer (some ⟨b, 0, none⟩)] w fun e w' => e = .returned (.agg (rowB (digL V 32))) ∧ Below w.heap.size w w' := by
  have HS := Lib.hid hS
  have HV := Lib.hid hV
  have hbw := heap_lt hS
  clear hS hV
  go_enter Tryd.func121, Tryd.ntmps121
  go_upto_block 0 with fail
  show Code.wp _ _ _ _ (w.alloc (.cells (rowB (List.replicate 32 0)) 23))
  obtain ⟨q, hq⟩ : ∃ q, q = w.heap.size := ⟨_, rfl⟩
  have h0 : (w.alloc (.cells (rowB (List.replicate 32 0)) 23)).heap[q]? = some (.cells (rowB (digL V 0)) 23 (0, 0)) := by
    rw [hq]; exact heap_alloc_new w _
  have o0 : Only [] w (w.alloc (.cells (rowB (List.replicate 32 0)) 23)) := (Only.refl [] w).alloc _
  obtain ⟨w1, hw1⟩ : ∃ w1, w1 = w.alloc (.cells (rowB (List.replicate 32 0)) 23) := ⟨_, rfl⟩
  rw [← hw1] at h0 o0 ⊢
  rw [← hq]
  rw [← hq] at hbw
  have Hq := Lib.hid hq
  have H0 := Lib.hid h0
  have HS1 := Lib.hid (o0.keep HS.out (by simp))
  have HO := Lib.hid o0
  clear hw1 hq h0 o0
  go_wp2_with fail
  go_loopw [4] (fun p wr => ∃ i : Nat, i ≤ 32 ∧ p = .int .i64 i ∧ wr.heap[q]? = some (.cells (rowB (digL V i)) 23 (0, 0)) ∧ Only [q] w1 wr) (fun p _ => 32 - (intOf p).toNat)
  case atStart => exact ⟨0, by omega, rfl, H0.out, Only.refl _ _⟩
  case round =>
    clear H0
    obtain ⟨i, hi, rfl, hW, ho⟩ := hrel
    by_cases hi32 : i < 32
    · have hS2 := ho.keep HS1.out (by simp; omega)
      have hj : i / 4 < V.length := by rw [HV.out]; omega
      obtain ⟨x, hx⟩ : ∃ x, x = V.getD (i / 4) 0 := ⟨_, rfl⟩
      have hxe : V[i / 4]? = some x := by rw [hx, List.getD_eq_getElem?_getD, List.getElem?_eq_getElem hj]; rfl
      obtain ⟨j, hjd⟩ : ∃ j, j = i / 4 := ⟨_, rfl⟩
      have a1 : wr.cell? ⟨b, j, none⟩ = some (.int .u32 x) := by
        rw [hjd, Lib.cell_of_heap hS2]
        rw [List.getElem?_toArray, List.getElem?_append_left (by simpa using hj), List.getElem?_map, hxe]
        rfl
      have a2 : wr.cell? ⟨q, i, none⟩ = some (.int .u8 0) := by
        rw [Lib.cell_of_heap hW]; simp [rowB, digL_at V i hi32]
      have z2 : wr.frozen? ⟨q, i, none⟩ = false := Lib.frozen_of_heap hW _
      obtain ⟨m, hm⟩ : ∃ m, m = i % 4 := ⟨_, rfl⟩
      obtain ⟨s, hs⟩ : ∃ s, s = 24 - m * 8 := ⟨_, rfl⟩
      have td : (i : Int).tdiv 4 = (j : Int) := by rw [hjd]; rfl
      have tm : (i : Int).tmod 4 = (m : Int) := by rw [hm]; rfl
      have ts : (24 : Int) - (m : Int) * 8 = (s : Int) := by omega
      have i0 : (0 : Int) ≤ (i : Int) := by omega
      have i1 : (i : Int) < 32 := by omega
      have j0 : (0 : Int) ≤ (j : Int) := by omega
      have j1 : (j : Int) < 8 := by omega
      have m1 : (m : Int) < 4 := by omega
      have s1 : (s : Int) ≤ 24 := by omega
      have hB : byteOf V i = x / 2 ^ s % 256 := by unfold byteOf; rw [← hx, hs, hm]
      have hWn := heap_setCell_same _ q i _ _ (.int .u8 (x / 2 ^ s % 256)) hW
      have hWm : (rowB (digL V i)).setIfInBounds i (.int .u8 (x / 2 ^ s % 256)) = rowB (digL V (i + 1)) := by
        rw [← digL_succ V i hi32, hB]; simp [rowB, List.map_set]
      rw [hWm] at hWn
      have HWn := Lib.hid hWn
      have Ho := Lib.hid ho
      clear hS2 hj hx hxe hjd hm hs hB hWn hWm hW ho
      go_wp2_with fail
      go_roundw
      case rel => exact ⟨i + 1, by omega, by go_num, HWn.out, Ho.out.setCell (by simp) _⟩
      case measure => simp [intOf]; omega
    · have hi32' : i = 32 := by omega
      subst hi32'
      have hsz : (rowB (digL V 32)).size = 32 := by simp [rowB, digL_length V 32 (by omega)]
      have h1c : (rowB (digL V 32)).all (·.oneCell') = true := by
        rw [Array.all_eq_true_iff_forall_mem]
        intro v hv
        simp only [rowB, List.mem_toArray, List.mem_map] at hv
        obtain ⟨x, _, rfl⟩ := hv
        rfl
      obtain ⟨C, hC⟩ : ∃ C, C = rowB (digL V 32) := ⟨_, rfl⟩
      have hg : wr.heap[q]? = some (.cells C 23 (0, 0)) := by rw [hC]; exact hW
      rw [← hC] at hsz h1c
      have hst := store_rowP (P := Tryd.prog) hg rfl h1c
      have Hg := Lib.hid hg
      have HC := Lib.hid hC
      have Ho := Lib.hid ho
      clear hW hC ho hg
      go_wp2_with (refine wpList_load_row rfl 23 _ rfl q rfl 23 _ (0, 0) _ Hg.out Tryd.underlying23 rfl (by rw [hsz]; kernel_rfl) ?_)
      (try simp only [Exit.inBlock, Exit.then])
      refine bodyPost_ret (results_cell_row rfl _ _ q 23 C (0, 0) _ rfl (setRow_heap _ _ _ _ _ _ Hg.out) Tryd.underlying23 rfl (by rw [hsz]; kernel_rfl)) rfl ?_
      refine ⟨by rw [HC.out], ?_⟩
      have o5 : Only [q] w1 (wr.setRow q C) := Ho.out.setRow (by simp) C
      have b1 : Below w.heap.size w w1 := HO.out.below (Nat.le_refl _) (by simp)
      exact b1.trans (o5.below HO.out.size (by intro x hx; simp at hx; rw [hx, Hq.out]; exact Nat.le_refl _))
def begunS : List Int := [1779033703, 3144134277, 1013904242, 2773480762, 1359893119, 2600822924, 528734635, 1541459225]
def PressAt (w : World) (g : Nat) (V : List Int) (r : List UInt8) (n : Nat) : Prop := w.heap[g]? = some (.cells ((V.map fun x => Value.int .u32 x) ++ [Value.string ⟨r.toArray⟩, Value.int .i64 (n : Int)]).toArray 190 (0, 0))

set_option maxHeartbeats 1000000 in
theorem begun_any (w : World) :
    Calls Tryd.prog 119 #[] w fun e w' => e = .returned (.agg (begunS.map fun x => Value.int .u32 x).toArray) ∧ Below w.heap.size w w' := by
  go_enter Tryd.func119, Tryd.ntmps119
  go_wp2
  refine bodyPost_ret (results_cell_row rfl _ _ w.heap.size 187 (begunS.map fun x => Value.int .u32 x).toArray (0, 0) _ rfl (heap_alloc_new w _) Tryd.underlying187 rfl (by kernel_rfl)) rfl ?_
  exact ⟨rfl, (Below.refl _ w).alloc (Nat.le_refl _) _⟩

set_option maxHeartbeats 1000000 in
theorem press_any (w : World) :
    Calls Tryd.prog 60 #[] w fun e w' => ∃ g, e = .returned (.pointer (some ⟨g, 0, none⟩)) ∧ w.heap.size ≤ g ∧ PressAt w' g begunS [] 0 ∧ Below w.heap.size w w' := by
  go_enter Tryd.func60, Tryd.ntmps60
  go_wp2_with fail
  refine (begun_any w).mono ?_
  rintro e w1 ⟨rfl, hB⟩
  have hsz := hB.size
  go_wp2
  go_ret
  exact ⟨w1.heap.size, rfl, hsz, heap_alloc_new w1 _, hB.alloc hsz _⟩
end Go.Proofs.YteihfoacdocgkaaDoor
