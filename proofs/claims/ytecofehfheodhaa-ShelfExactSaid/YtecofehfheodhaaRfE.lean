/-
  The document's shelf: New; shelf.New of any number.
-/
import Derived.Test.YtecofehfheodhaaRfD
set_option linter.unusedVariables false
set_option linter.unusedSimpArgs false
namespace Go.Proofs.Ytecofehfheodhaa
open Go.RowKit Sh
attribute [local go_sem] Lb.ba_get Lb.ba_cut Lb.ba_add Lb.ba_size Lb.take_rest

theorem made_one (v : Value) (m : Nat) : madeCells #[v] (m * 1) = (List.replicate m v).toArray := by
  apply Array.ext
  · simp [size_madeCells]
  · intro i h1 h2
    simp [madeCells, Nat.mod_one]
/-- how many slots New makes -/
def clampN (n : Int) : Nat := (min (max n 0) 128).toNat
theorem clampN_le (n : Int) : clampN n ≤ 128 := by unfold clampN; omega

theorem four_made (w : World) (X Y Z T : Obj) : ((((w.alloc X).alloc Y).alloc Z).alloc T).heap[w.heap.size]? = some X ∧ ((((w.alloc X).alloc Y).alloc Z).alloc T).heap[w.heap.size + 1]? = some Y ∧
    ((((w.alloc X).alloc Y).alloc Z).alloc T).heap[w.heap.size + 2]? = some Z ∧ ((((w.alloc X).alloc Y).alloc Z).alloc T).heap[w.heap.size + 3]? = some T := by
  have a1 := heap_alloc_new w X
  have a2 := heap_alloc_new (w.alloc X) Y
  have a3 := heap_alloc_new ((w.alloc X).alloc Y) Z
  have a4 := heap_alloc_new (((w.alloc X).alloc Y).alloc Z) T
  have z2 : (w.alloc X).heap.size = w.heap.size + 1 := by simp
  have z3 : ((w.alloc X).alloc Y).heap.size = w.heap.size + 2 := by simp
  have z4 : (((w.alloc X).alloc Y).alloc Z).heap.size = w.heap.size + 3 := by simp
  rw [z2] at a2
  rw [z3] at a3
  rw [z4] at a4
  refine ⟨?_, ?_, ?_, a4⟩
  · exact Only.keep (bs := []) ((((Only.refl [] _).alloc _).alloc _).alloc _) a1 (by simp)
  · exact Only.keep (bs := []) (((Only.refl [] _).alloc _).alloc _) a2 (by simp)
  · exact Only.keep (bs := []) ((Only.refl [] _).alloc _) a3 (by simp)

theorem mk_strs (m : Nat) (hm : m ≤ 128) (i : Int) (hi : i = m) (u : World) : (Instr.makeSlice 22 (.int .i64 i) (.int .i64 i)).run Try.prog u = .ok (.slice (some ⟨u.heap.size, 0, none⟩) m m) (u.alloc (.cells (madeCells #[.string ⟨#[]⟩] m) 9)) := by
  subst hi
  have h := run_makeSlice (P := Try.prog) u 22 9 Try.t9 (.string ⟨#[]⟩) Try.underlying22 (by kernel_rfl) (by kernel_rfl) .i64 .i64 m m (by omega) (by omega) (by show (m : Int).toNat * 1 ≤ _; omega) (by show ((16 : Nat) : Int) * _ ≤ _; omega) (by omega)
  have e : (madeCells #[Value.string ⟨#[]⟩] m) = madeCells (Value.string ⟨#[]⟩).cells (m * 1) := by rw [Nat.mul_one]; rfl
  rw [e]
  exact h
theorem mk_bools (m : Nat) (hm : m ≤ 128) (i : Int) (hi : i = m) (u : World) : (Instr.makeSlice 65 (.int .i64 i) (.int .i64 i)).run Try.prog u = .ok (.slice (some ⟨u.heap.size, 0, none⟩) m m) (u.alloc (.cells (madeCells #[.bool false] m) 4)) := by
  subst hi
  have h := run_makeSlice (P := Try.prog) u 65 4 Try.t4 (.bool false) Try.underlying65 (by kernel_rfl) (by kernel_rfl) .i64 .i64 m m (by omega) (by omega) (by show (m : Int).toNat * 1 ≤ _; omega) (by show ((1 : Nat) : Int) * _ ≤ _; omega) (by omega)
  have e : (madeCells #[Value.bool false] m) = madeCells (Value.bool false).cells (m * 1) := by rw [Nat.mul_one]; rfl
  rw [e]
  exact h
theorem ref_fin (W : World) (b g1 g2 g3 m : Nat) (hT : W.heap[b]? = some (.cells #[.slice (some ⟨g1, 0, none⟩) m m, .slice (some ⟨g2, 0, none⟩) m m, .slice (some ⟨g3, 0, none⟩) m m, .bool false, .int .i64 0, .int .i64 0, .int .i64 0] 67 (0, 0)))
    (h1 : W.heap[g1]? = some (.cells (madeCells #[.string ⟨#[]⟩] m) 9 (0, 0))) (h2 : W.heap[g2]? = some (.cells (madeCells #[.string ⟨#[]⟩] m) 9 (0, 0))) (h3 : W.heap[g3]? = some (.cells (madeCells #[.bool false] m) 4 (0, 0)))
    (ap : b ≠ g1 ∧ b ≠ g2 ∧ b ≠ g3 ∧ g1 ≠ g2 ∧ g1 ≠ g3 ∧ g2 ≠ g3) (hm : m ≤ 128) : RefAt W b g1 g2 g3 (St.new m) := by
  have e1 : madeCells #[.string ⟨#[]⟩] m = nowCells (St.new m).slots := by
    have := made_one (.string ⟨#[]⟩) m
    rw [Nat.mul_one] at this
    rw [this]; simp [nowCells, St.new, slot0]
  have e2 : madeCells #[.string ⟨#[]⟩] m = sureCells (St.new m).slots := by
    have := made_one (.string ⟨#[]⟩) m
    rw [Nat.mul_one] at this
    rw [this]; simp [sureCells, St.new, slot0]
  have e3 : madeCells #[.bool false] m = openCells (St.new m).slots := by
    have := made_one (.bool false) m
    rw [Nat.mul_one] at this
    rw [this]; simp [openCells, St.new, slot0]
  refine ⟨?_, by rw [← e1]; exact h1, by rw [← e2]; exact h2, by rw [← e3]; exact h3, ap, by simpa [St.new] using hm⟩
  unfold RefTop
  rw [hT]
  simp [refCells, slV, St.new]

theorem ref_fin' (W : World) (b g1 g2 g3 m B : Nat) (hT : W.heap[b]? = some (.cells #[.slice (some ⟨g1, 0, none⟩) m m, .slice (some ⟨g2, 0, none⟩) m m, .slice (some ⟨g3, 0, none⟩) m m, .bool false, .int .i64 0, .int .i64 0, .int .i64 0] 67 (0, 0)))
    (h1 : W.heap[g1]? = some (.cells (madeCells #[.string ⟨#[]⟩] m) 9 (0, 0))) (h2 : W.heap[g2]? = some (.cells (madeCells #[.string ⟨#[]⟩] m) 9 (0, 0))) (h3 : W.heap[g3]? = some (.cells (madeCells #[.bool false] m) 4 (0, 0)))
    (ap : (b ≠ g1 ∧ b ≠ g2 ∧ b ≠ g3 ∧ g1 ≠ g2 ∧ g1 ≠ g3 ∧ g2 ≠ g3) ∧ B ≤ g1 ∧ B ≤ g2 ∧ B ≤ g3) (hm : m ≤ 128) : ∃ g1 g2 g3, B ≤ g1 ∧ B ≤ g2 ∧ B ≤ g3 ∧ RefAt W.drew b g1 g2 g3 (St.new m) :=
  ⟨g1, g2, g3, ap.2.1, ap.2.2.1, ap.2.2.2, (ref_fin W b g1 g2 g3 m hT h1 h2 h3 ap.1 hm).drew⟩

set_option maxHeartbeats 1000000 in
theorem refmade_any (n : Int) (m : Nat) (hm : m = clampN n) (w : World) (hn : -9223372036854775808 ≤ n ∧ n ≤ 9223372036854775807) :
    Calls Try.prog 37 #[.int .i64 n] w fun e w' => e = .returned (.pointer (some ⟨w.heap.size + 3, 0, none⟩)) ∧ (∃ g1 g2 g3, w.heap.size ≤ g1 ∧ w.heap.size ≤ g2 ∧ w.heap.size ≤ g3 ∧ RefAt w' (w.heap.size + 3) g1 g2 g3 (St.new m)) ∧ Below w.heap.size w w' := by
  have hm128 : m ≤ 128 := by rw [hm]; exact clampN_le n
  have hin : n < 0 ∧ m = 0 ∨ 128 < n ∧ m = 128 ∨ 0 ≤ n ∧ n ≤ 128 ∧ n = m := by rw [hm]; unfold clampN; omega
  clear hm
  rcases hin with ⟨hn0, hm⟩ | ⟨hn0, hm⟩ | ⟨hn0, hn1, hm⟩
  · have hmk1 := fun u => mk_strs m hm128 0 (by omega) u
    have hmk2 := fun u => mk_bools m hm128 0 (by omega) u
    clear hm
    go_enter Try.func37, Try.ntmps37
    go_wp2_with fail
    go_region
    all_goals
      go_wp2
      go_ret
      refine ⟨rfl, ref_fin' _ _ _ _ _ m _ (four_made w _ _ _ _).2.2.2 ?_ ?_ ?_ ?_ hm128, ?_⟩
      · first | exact (four_made w _ _ _ _).1 | exact (four_made w _ _ _ _).2.1 | exact (four_made w _ _ _ _).2.2.1
      · first | exact (four_made w _ _ _ _).1 | exact (four_made w _ _ _ _).2.1 | exact (four_made w _ _ _ _).2.2.1
      · first | exact (four_made w _ _ _ _).1 | exact (four_made w _ _ _ _).2.1 | exact (four_made w _ _ _ _).2.2.1
      · omega
      · exact (((((Below.refl _ w).alloc (Nat.le_refl _) _).alloc (by simp) _).alloc (by simp; omega) _).alloc (by simp; omega) _).drew
  · have hmk1 := fun u => mk_strs m hm128 128 (by omega) u
    have hmk2 := fun u => mk_bools m hm128 128 (by omega) u
    clear hm
    go_enter Try.func37, Try.ntmps37
    go_wp2_with fail
    go_region
    all_goals
      go_wp2
      go_ret
      refine ⟨rfl, ref_fin' _ _ _ _ _ m _ (four_made w _ _ _ _).2.2.2 ?_ ?_ ?_ ?_ hm128, ?_⟩
      · first | exact (four_made w _ _ _ _).1 | exact (four_made w _ _ _ _).2.1 | exact (four_made w _ _ _ _).2.2.1
      · first | exact (four_made w _ _ _ _).1 | exact (four_made w _ _ _ _).2.1 | exact (four_made w _ _ _ _).2.2.1
      · first | exact (four_made w _ _ _ _).1 | exact (four_made w _ _ _ _).2.1 | exact (four_made w _ _ _ _).2.2.1
      · omega
      · exact (((((Below.refl _ w).alloc (Nat.le_refl _) _).alloc (by simp) _).alloc (by simp; omega) _).alloc (by simp; omega) _).drew
  · subst hm
    have hmk1 := fun u => mk_strs m hm128 m (by omega) u
    have hmk2 := fun u => mk_bools m hm128 m (by omega) u
    go_enter Try.func37, Try.ntmps37
    go_wp2_with fail
    go_region
    all_goals
      go_wp2
      go_ret
      refine ⟨rfl, ref_fin' _ _ _ _ _ m _ (four_made w _ _ _ _).2.2.2 ?_ ?_ ?_ ?_ hm128, ?_⟩
      · first | exact (four_made w _ _ _ _).1 | exact (four_made w _ _ _ _).2.1 | exact (four_made w _ _ _ _).2.2.1
      · first | exact (four_made w _ _ _ _).1 | exact (four_made w _ _ _ _).2.1 | exact (four_made w _ _ _ _).2.2.1
      · first | exact (four_made w _ _ _ _).1 | exact (four_made w _ _ _ _).2.1 | exact (four_made w _ _ _ _).2.2.1
      · omega
      · exact (((((Below.refl _ w).alloc (Nat.le_refl _) _).alloc (by simp) _).alloc (by simp; omega) _).alloc (by simp; omega) _).drew

theorem mk_slots (m : Nat) (hm : m ≤ 128) (i : Int) (hi : i = m) (u : World) : (Instr.makeSlice 85 (.int .i64 i) (.int .i64 i)).run Try.prog u = .ok (.slice (some ⟨u.heap.size, 0, none⟩) m m) (u.alloc (.cells (madeCells #[.string ⟨#[]⟩, .string ⟨#[]⟩, .bool false] (m * 3)) 94)) := by
  subst hi
  exact run_makeSlice (P := Try.prog) u 85 94 Try.t94 (.agg #[.string ⟨#[]⟩, .string ⟨#[]⟩, .bool false]) Try.underlying85 (by kernel_rfl) (by kernel_rfl) .i64 .i64 m m (by omega) (by omega) (by show (m : Int).toNat * 3 ≤ _; omega) (by show ((40 : Nat) : Int) * _ ≤ _; omega) (by omega)
end Go.Proofs.Ytecofehfheodhaa
