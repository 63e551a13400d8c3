/-
  Layer 17 (haul): the walks of open, Blob, Failed, New, fill, again.
-/
import Derived.Test.YtfbjbhddapoopaaDoorHaA
import Derived.Great.BuildSlice
set_option linter.unusedVariables false
set_option linter.unusedSimpArgs false
namespace Go.Proofs.YtfbjbhddapoopaaDoor
open Go.RowKit
attribute [local go_sem] Lb.ba_get Lb.ba_cut Lb.ba_add Lb.ba_size Lb.take_rest

theorem hl_cells {w : World} {p : Nat} {d : HlD} {mv cv : Value} (ho : d.out.length = 32) (h : HlMem w p d mv cv) :
    w.cell? ⟨p, 0, none⟩ = some (.string ⟨d.blob.toArray⟩) ∧ w.cell? ⟨p, 1, none⟩ = some (.bool d.done) ∧ w.cell? ⟨p, 2, none⟩ = some (.bool d.failed) ∧ w.cell? ⟨p, 35, none⟩ = some (.int .i64 d.peer) ∧ w.cell? ⟨p, 36, none⟩ = some (.int .i64 d.ticks) ∧
    w.cell? ⟨p, 37, none⟩ = some mv ∧ w.cell? ⟨p, 38, none⟩ = some cv ∧ w.rangeAt p 3 (byV d.out) := by
  obtain ⟨-, a35, a36, a37, a38, a3⟩ := hl_at ho (mv := mv) (cv := cv)
  refine ⟨by rw [Lib.cell_of_heap h]; rfl, by rw [Lib.cell_of_heap h]; rfl, by rw [Lib.cell_of_heap h]; rfl, by rw [Lib.cell_of_heap h]; simpa using a35, by rw [Lib.cell_of_heap h]; simpa using a36, by rw [Lib.cell_of_heap h]; simpa using a37, by rw [Lib.cell_of_heap h]; simpa using a38, fun k v hv => by rw [Lib.cell_of_heap h]; simpa using a3 k v hv⟩

set_option maxHeartbeats 1000000 in
theorem open_any (p : Nat) (d : HlD) (mv cv : Value) (w : World) (ho : d.out.length = 32) (h : HlMem w p d mv cv) :
    Calls Tryd.prog 60 #[.pointer (some ⟨p, 0, none⟩)] w fun e w' => e = .returned (.bool (!d.done && !d.failed)) ∧ w = w' := by
  obtain ⟨-, c1, c2, -, -, -, -, -⟩ := hl_cells ho h
  obtain ⟨a, ha⟩ : ∃ a, a = d.done := ⟨_, rfl⟩
  obtain ⟨b, hb⟩ : ∃ b, b = d.failed := ⟨_, rfl⟩
  rw [← ha, ← hb]
  rw [← ha] at c1
  rw [← hb] at c2
  clear ha hb h ho
  go_enter Tryd.func60, Tryd.ntmps60
  cases a <;> cases b
  all_goals
    go_wp2
    go_ret
    exact ⟨rfl, rfl⟩
set_option maxHeartbeats 1000000 in
theorem open_nil (w : World) : Calls Tryd.prog 60 #[.pointer none] w fun e w' => e = .returned (.bool false) ∧ w = w' := by
  go_enter Tryd.func60, Tryd.ntmps60
  go_wp2
  go_ret
  exact ⟨rfl, rfl⟩
set_option maxHeartbeats 1000000 in
theorem failed_any (p : Nat) (d : HlD) (mv cv : Value) (w : World) (ho : d.out.length = 32) (h : HlMem w p d mv cv) :
    Calls Tryd.prog 22 #[.pointer (some ⟨p, 0, none⟩)] w fun e w' => e = .returned (.bool d.failed) ∧ w = w' := by
  obtain ⟨-, -, c2, -, -, -, -, -⟩ := hl_cells ho h
  obtain ⟨b, hb⟩ : ∃ b, b = d.failed := ⟨_, rfl⟩
  rw [← hb]
  rw [← hb] at c2
  clear hb h ho
  go_enter Tryd.func22, Tryd.ntmps22
  go_wp2
  go_ret
  exact ⟨rfl, rfl⟩
set_option maxHeartbeats 1000000 in
theorem failed_nil (w : World) : Calls Tryd.prog 22 #[.pointer none] w fun e w' => e = .returned (.bool false) ∧ w = w' := by
  go_enter Tryd.func22, Tryd.ntmps22
  go_wp2
  go_ret
  exact ⟨rfl, rfl⟩
set_option maxHeartbeats 1000000 in
theorem blob_any (p : Nat) (d : HlD) (mv cv : Value) (w : World) (ho : d.out.length = 32) (h : HlMem w p d mv cv) :
    Calls Tryd.prog 21 #[.pointer (some ⟨p, 0, none⟩)] w fun e w' => e = .returned (.tuple #[.string ⟨d.blob.toArray⟩, .bool d.done]) ∧ Below w.heap.size w w' := by
  obtain ⟨c0, c1, -, -, -, -, -, -⟩ := hl_cells ho h
  obtain ⟨s, hs⟩ : ∃ s, s = d.blob := ⟨_, rfl⟩
  obtain ⟨b, hb⟩ : ∃ b, b = d.done := ⟨_, rfl⟩
  rw [← hb, ← hs]
  rw [← hb] at c1
  rw [← hs] at c0
  clear hb hs h ho
  go_enter Tryd.func21, Tryd.ntmps21
  go_wp2_with fail
  go_quiet (fail)
  go_wp2_with fail
  go_ret2
  exact ⟨rfl, below_drewN'' (Below.refl _ _) _⟩
set_option maxHeartbeats 1000000 in
theorem blob_nil (w : World) : Calls Tryd.prog 21 #[.pointer none] w fun e w' => e = .returned (.tuple #[.string ⟨#[]⟩, .bool false]) ∧ w = w' := by
  go_enter Tryd.func21, Tryd.ntmps21
  go_wp2
  go_ret2
  exact ⟨rfl, rfl⟩

/-! ### New -/
def NewPost (w : World) (out : List UInt8) (peer : Int) (e : Ending) (w' : World) : Prop := ∃ p, e = .returned (.pointer (some ⟨p, 0, none⟩)) ∧ w.heap.size ≤ p ∧ HlAt w' [p] p (Hl.new out peer) ∧ Below w.heap.size w w'
def hlPlaces : List (Nat × Nat) := [(0, 3), (3, 32), (35, 1), (36, 1), (37, 1), (38, 1)]
set_option maxRecDepth 100000 in
theorem hl_zero : (Tryd.prog.info? 119).map (·.zero) = some (some (.agg (hlCells (Hl.new (List.replicate 32 0) 0) (.pointer none) (.slice none 0 0)).toArray)) := by kernel_rfl
set_option maxRecDepth 100000 in
theorem built_hl (out : List UInt8) (peer : Int) (h : out.length = 32) : Tryd.prog.built 119 [(1, .agg (byV out).toArray), (2, .int .i64 peer)] = some (hlCells (Hl.new out peer) (.pointer none) (.slice none 0 0)).toArray := by
  obtain ⟨it, hit, hz⟩ := Option.map_eq_some_iff.1 hl_zero
  have hp : ∀ fs, Tryd.prog.underlying 119 = some (.struct fs) → fs.toList.mapM (fun f => (Tryd.prog.info? f.type).map fun i => (f.offset, i.size)) = some hlPlaces := by
    intro fs h
    obtain rfl := (TypeDesc.struct.inj (Option.some.inj (Tryd.underlying119.symm.trans h)))
    kernel_rfl
  unfold Program.built
  rw [hit]
  simp only [Tryd.underlying119]
  rw [hz, hp _ Tryd.underlying119]
  have h1 := fill_seg (place := (hlPlaces.toArray[·]?)) (i := 1) (v := .agg (byV out).toArray) (rest := [(2, .int .i64 peer)]) (pre := [Value.string ⟨#[]⟩, Value.bool false, Value.bool false]) (old := byV (List.replicate 32 0)) (vs := byV out) (off := 3) (size := 32)
    (post := [Value.int .i64 0, Value.int .i64 0, Value.pointer none, Value.slice none 0 0]) rfl (cells_agg _) (by rw [byV_length, h]) rfl rfl
  have h2 := fill_seg (place := (hlPlaces.toArray[·]?)) (i := 2) (v := .int .i64 peer) (rest := []) (pre := [Value.string ⟨#[]⟩, Value.bool false, Value.bool false] ++ byV out) (old := [Value.int .i64 0]) (vs := [Value.int .i64 peer]) (off := 35) (size := 1)
    (post := [Value.int .i64 0, Value.pointer none, Value.slice none 0 0]) rfl (cells_int _ _) rfl (by simp [byV_length, h]) rfl
  rw [List.append_assoc, List.append_assoc] at h2
  exact (h1.trans h2).trans (fill_nil _ _)
theorem new_ok (out : List UInt8) (peer : Int) (h : out.length = 32) (h1 : 1 ≤ peer) (h6 : peer ≤ 6) : Hl.Ok (Hl.new out peer) :=
  ⟨h, h1, h6, Int.le_refl _, by show (0 : Int) ≤ 15; decide, fun _ => by show (0 : Int) ≤ 14; decide, by show 0 ≤ 8; decide, fun _ => rfl, (fun _ h => by cases h), (fun _ h => by cases h), (fun _ h => by cases h)⟩
set_option maxHeartbeats 2000000 in
set_option maxRecDepth 100000 in
theorem hnew_any (out : List UInt8) (peer : Int) (w : World) (h : out.length = 32) (h1 : 1 ≤ peer) (h6 : peer ≤ 6) :
    Calls Tryd.prog 15 #[.agg (digV out), .int .i64 peer] w (NewPost w out peer) := by
  have hb := built_hl out peer h
  have hok := new_ok out peer h h1 h6
  have hd : (digV out) = (byV out).toArray := rfl
  have i1 : ¬ peer < 1 := by omega
  have i2 : ¬ 6 < peer := by omega
  go_enter Tryd.func15, Tryd.ntmps15
  go_upto_region 3 with fail
  rw [hd]
  have dix : (Tryd.prog.info? 23).map (·.size) = some (byV out).toArray.size := by rw [dig_info]; simp [byV_length, h]
  go_wp2_with (first
    | (refine wpList_load_row rfl 23 _ rfl w.heap.size rfl 23 (byV out).toArray (0, 0) _ (heap_alloc_new w _) Tryd.underlying23 rfl dix ?_)
    | (refine wpList_build2 rfl 119 _ _ _ _ rfl _ _ rfl rfl _ hb ?_))
  go_ret
  have b2 : Below w.heap.size w ((w.alloc (.cells (byV out).toArray 23)).alloc (.cells (hlCells (Hl.new out peer) (.pointer none) (.slice none 0 0)).toArray 119)) := ((Below.refl _ _).alloc (Nat.le_refl _) _).alloc (by simp) _
  have h2 := heap_alloc_new (w.alloc (.cells (byV out).toArray 23)) (.cells (hlCells (Hl.new out peer) (.pointer none) (.slice none 0 0)).toArray 119)
  simp only [World.size_alloc] at h2
  exact ⟨w.heap.size + 1, rfl, by omega, ⟨hok, by intro k hk; simp at hk; subst hk; exact heap_lt h2, by simp, _, _, h2, .inl ⟨rfl, rfl, rfl⟩⟩, b2⟩
set_option maxHeartbeats 2000000 in
theorem hnew_nil (out : List UInt8) (peer : Int) (w : World) (h : out.length = 32) (h1 : ¬ (1 ≤ peer ∧ peer ≤ 6)) :
    Calls Tryd.prog 15 #[.agg (digV out), .int .i64 peer] w fun e w' => e = .returned (.pointer none) ∧ Below w.heap.size w w' := by
  by_cases h6 : peer < 1
  · go_enter Tryd.func15, Tryd.ntmps15
    go_wp2_with fail
    go_ret
    exact ⟨rfl, (Below.refl _ _).alloc (Nat.le_refl _) _⟩
  · have h7 : 6 < peer := by omega
    clear h1
    go_enter Tryd.func15, Tryd.ntmps15
    go_wp2_with fail
    go_ret
    exact ⟨rfl, (Below.refl _ _).alloc (Nat.le_refl _) _⟩
end Go.Proofs.YtfbjbhddapoopaaDoor
