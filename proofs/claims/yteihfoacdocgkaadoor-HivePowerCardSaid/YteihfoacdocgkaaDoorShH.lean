/-
  The walks of shelf: New, Arm.
-/
import Derived.Test.YteihfoacdocgkaaDoorShG
set_option linter.unusedVariables false
set_option linter.unusedSimpArgs false
namespace Go.Proofs.YteihfoacdocgkaaDoor
open Go.RowKit Sh
attribute [local go_sem] Lb.ba_get Lb.ba_cut Lb.ba_add Lb.ba_size Lb.take_rest

def slot0 : Slot := { now := [], sure := [], opn := false }
def St.new (m : Nat) : St := { pw := { down := false, acts := 0, armed := 0, life := 0 }, slots := List.replicate m slot0 }

theorem slotCells_length (ss : List Slot) : (slotCells ss).length = ss.length * 3 := by
  unfold slotCells; induction ss with
  | nil => rfl
  | cons s ss ih => simp only [List.flatMap_cons, List.length_append, ih]; simp; omega
theorem made_slots (m : Nat) : madeCells #[.string ⟨#[]⟩, .string ⟨#[]⟩, .bool false] (m * 3) = (slotCells (List.replicate m slot0)).toArray := by
  apply Array.ext
  · rw [size_madeCells]; simp [slotCells_length]
  · intro i h1 h2
    rw [size_madeCells] at h1
    have hk : i / 3 < (List.replicate m slot0).length := by simp; omega
    obtain ⟨g0, g1, g2⟩ := slotCells_get (List.replicate m slot0) (i / 3) hk
    have hi : i % 3 = 0 ∨ i % 3 = 1 ∨ i % 3 = 2 := by omega
    simp only [madeCells, Array.getElem_map, Array.getElem_range, List.getElem_toArray]
    simp only [List.getElem_replicate] at g0 g1 g2
    rw [show ((#[Value.string ⟨#[]⟩, .string ⟨#[]⟩, .bool false] : Array Value)).size = 3 from rfl]
    have hl : i < (slotCells (List.replicate m slot0)).length := by simpa using h2
    rcases hi with hi | hi | hi
    · have e : i / 3 * 3 = i := by omega
      rw [e, List.getElem?_eq_getElem hl] at g0
      injection g0 with g0
      rw [hi, g0]; rfl
    · have e : i / 3 * 3 + 1 = i := by omega
      rw [e, List.getElem?_eq_getElem hl] at g1
      injection g1 with g1
      rw [hi, g1]; rfl
    · have e : i / 3 * 3 + 2 = i := by omega
      rw [e, List.getElem?_eq_getElem hl] at g2
      injection g2 with g2
      rw [hi, g2]; rfl

set_option maxHeartbeats 1000000 in
theorem new_any (m : Nat) (w : World) (hm : m ≤ 128) :
    Calls Tryd.prog 20 #[.int .i64 m] w fun e w' => e = .returned (.pointer (some ⟨w.heap.size + 1, 0, none⟩)) ∧ ShAt w' (w.heap.size + 1) w.heap.size (St.new m) ∧ Below w.heap.size w w' := by
  have m0 : (0 : Int) ≤ (m : Int) := by omega
  have m1 : (m : Int) ≤ 128 := by omega
  have hmk : ∀ u : World, (Instr.makeSlice 121 (.int .i64 m) (.int .i64 m)).run Tryd.prog u = .ok (.slice (some ⟨u.heap.size, 0, none⟩) m m) (u.alloc (.cells (madeCells #[.string ⟨#[]⟩, .string ⟨#[]⟩, .bool false] (m * 3)) 141)) := by
    intro u
    have h := run_makeSlice (P := Tryd.prog) u 121 141 Tryd.t141 (.agg #[.string ⟨#[]⟩, .string ⟨#[]⟩, .bool false]) Tryd.underlying121 (by kernel_rfl) (by kernel_rfl) .i64 .i64 m m (by omega) (by omega) (by show (m : Int).toNat * 3 ≤ _; omega) (by show ((40 : Nat) : Int) * _ ≤ _; omega) (by omega)
    exact h
  go_enter Tryd.func20, Tryd.ntmps20
  go_wp2
  go_ret
  refine ⟨rfl, ⟨?_, ?_, by omega, ?_⟩, ((Below.refl _ w).alloc (Nat.le_refl _) _).alloc (by simp) _⟩
  · have h := heap_alloc_new (w.alloc (.cells (madeCells #[.string ⟨#[]⟩, .string ⟨#[]⟩, .bool false] (m * 3)) 141)) (.cells #[.bool false, .int .i64 0, .int .i64 0, .int .i64 0, .slice (some ⟨w.heap.size, 0, none⟩) m m] 125)
    have e : (w.alloc (.cells (madeCells #[.string ⟨#[]⟩, .string ⟨#[]⟩, .bool false] (m * 3)) 141)).heap.size = w.heap.size + 1 := by simp
    rw [e] at h
    simpa [PwAt, pwCells, St.new, slV] using h
  · have h := heap_alloc2_old w (.cells (madeCells #[.string ⟨#[]⟩, .string ⟨#[]⟩, .bool false] (m * 3)) 141) (.cells #[.bool false, .int .i64 0, .int .i64 0, .int .i64 0, .slice (some ⟨w.heap.size, 0, none⟩) m m] 125)
    rw [made_slots] at h ⊢
    exact h
  · simpa [St.new] using hm

theorem new_small (m : Nat) : St.small (St.new m) := by
  intro k h
  simp [St.new, slot0]
set_option maxHeartbeats 1000000 in
theorem arm_any (b g : Nat) (s : St) (n : Int) (w : World) (h : ShAt w b g s) (hn : -9223372036854775808 ≤ n ∧ n ≤ 9223372036854775807) :
    Calls Tryd.prog 35 #[.pointer (some ⟨b, 0, none⟩), .int .i64 n] w fun e w' => e = .returned (.tuple #[]) ∧ ShAt w' b g (St.arm s n) ∧ Only [b, g] w w' := by
  have H := Lib.hid h
  have c2 : w.cell? ⟨b, 2, none⟩ = some (.int .i64 s.pw.armed) := by rw [Lib.cell_of_heap h.pw]; rfl
  have z2 : w.frozen? ⟨b, 2, none⟩ = false := Lib.frozen_of_heap h.pw _
  clear h
  by_cases hc : n < 0
  · go_enter Tryd.func35, Tryd.ntmps35
    go_wp2
    go_end0
    have e : (((n.toNat : Nat)) : Int) = 0 := by omega
    refine ⟨rfl, ⟨?_, ?_, H.out.ne, H.out.len⟩, (Only.refl _ _).setCell (by simp) _⟩
    · refine (heap_setCell_same _ b 2 _ _ _ H.out.pw).trans ?_
      simp [pwCells, St.arm, e]
    · exact ((Only.refl [b] w).setCell (p := ⟨b, 2, none⟩) (by simp) _).keep H.out.slots (by simpa using fun e => H.out.ne e.symm)
  · go_enter Tryd.func35, Tryd.ntmps35
    go_wp2
    go_end0
    have e : (((n.toNat : Nat)) : Int) = n := by omega
    refine ⟨rfl, ⟨?_, ?_, H.out.ne, H.out.len⟩, (Only.refl _ _).setCell (by simp) _⟩
    · refine (heap_setCell_same _ b 2 _ _ _ H.out.pw).trans ?_
      simp [pwCells, St.arm, e]
    · exact ((Only.refl [b] w).setCell (p := ⟨b, 2, none⟩) (by simp) _).keep H.out.slots (by simpa using fun e => H.out.ne e.symm)
end Go.Proofs.YteihfoacdocgkaaDoor
