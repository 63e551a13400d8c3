/-
  Layer 5 (hive): the walks of find, Blob, PutBlob.
-/
import Derived.Test.YtfbjbhddapoopaaDoorHvE
set_option linter.unusedVariables false
set_option linter.unusedSimpArgs false
namespace Go.Proofs.YtfbjbhddapoopaaDoor
open Go.RowKit Pl Sh
attribute [local go_sem] Lb.ba_get Lb.ba_cut Lb.ba_add Lb.ba_size Lb.take_rest

theorem look_yes {w : World} {q : HvP} {d : HvD} (h : HvAt w q d) {e : HEnt} (he : e ∈ d.L) : (Instr.lookup 140 (.map (some q.ma)) (nameV (e.isB, e.id)) false).run Tryd.prog w = .ok (.pointer (some ⟨e.blk, 0, none⟩)) w := by
  have hm : ((e.isB, e.id), Value.pointer (some ⟨e.blk, 0, none⟩)) ∈ keysOf d.L := List.mem_map.2 ⟨e, he, rfl⟩
  rcases h.all.look name_fam Tryd.underlying140 (zero_entR w) (a := (e.isB, e.id)) (h.fit e he).1 with ⟨v, hv, hr⟩ | ⟨hn, -⟩
  · rw [h.all.uniq name_fam hv hm] at hr
    exact hr
  · exact absurd rfl (hn _ hm)
theorem look_no {w : World} {q : HvP} {d : HvD} (h : HvAt w q d) {isB : Bool} {id : List UInt8} (hid : id.length = 32) (hn : ∀ e ∈ d.L, (e.isB, e.id) ≠ (isB, id)) : (Instr.lookup 140 (.map (some q.ma)) (nameV (isB, id)) false).run Tryd.prog w = .ok (.pointer none) w := by
  rcases h.all.look name_fam Tryd.underlying140 (zero_entR w) (a := (isB, id)) hid with ⟨v, hv, hr⟩ | ⟨-, hr⟩
  · obtain ⟨e, he, e1⟩ := List.mem_map.1 hv
    exact absurd (Prod.mk.inj e1).1 (hn e he)
  · exact hr

set_option maxHeartbeats 4000000 in
set_option maxRecDepth 100000 in
theorem find_none (K : List Int) (q : HvP) (d : HvD) (isB : Bool) (id : List UInt8) (w : World) (h : HvAt w q d) (hL : Laid K w) (hr : d.ready) (hid : id.length = 32) (hk : ∀ e ∈ d.L, (e.isB, e.id) ≠ (isB, id)) :
    Calls Tryd.prog 80 #[.pointer (some ⟨q.p, 0, none⟩), .agg (Value.bool isB :: byV id).toArray] w fun r w' => r = .returned (.tuple #[.string ⟨#[]⟩, .bool false]) ∧ Below w.heap.size w w' := by
  obtain ⟨NC, hNC⟩ : ∃ x, x = (Value.bool isB :: byV id).toArray := ⟨_, rfl⟩
  have hNl : NC.toList.length = 33 := by rw [hNC]; simp [byV_length, hid]
  have hb1 := (Below.refl w.heap.size w).alloc (Nat.le_refl _) (.cells NC 137)
  have hn0 := heap_alloc_new w (.cells NC 137)
  have h1 := h.below hb1
  have hL1 := hL.below hb1
  obtain ⟨w1, hw1⟩ : ∃ y, y = w.alloc (.cells NC 137) := ⟨_, rfl⟩
  obtain ⟨n0, hn⟩ : ∃ y, y = w.heap.size := ⟨_, rfl⟩
  rw [← hw1] at h1 hn0 hb1 hL1
  rw [← hn] at hn0
  have hrd := Lib.hid (fun W (hW : Below w1.heap.size w1 W) => ready_ok q d W (h1.below hW) hr)
  have r0 : w1.rangeAt n0 0 NC.toList := fun k v hv => by rw [Lib.cell_of_heap hn0, Nat.zero_add]; simpa using hv
  have l0 : n0 < w1.heap.size := heap_lt hn0
  have x1 := (hv_cells h1).2.1
  have lp : q.p < w1.heap.size := heap_lt h1.hp
  have ndix : (Tryd.prog.info? 137).map (·.size) = some NC.toList.length := by rw [name_info, hNl]
  have nund := Tryd.underlying137
  have H := Lib.hid h
  have H1 := Lib.hid h1
  have HL1 := Lib.hid hL1
  have Hb1 := Lib.hid hb1
  have Hn := Lib.hid hn
  have Hw1 := Lib.hid hw1
  have HNC := Lib.hid hNC
  have Hid' := Lib.hid hid
  have hlook := Lib.hid (fun W (hW : Below w1.heap.size w1 W) => look_no (h1.below hW) hid hk)
  rw [show nameV (isB, id) = .agg NC from by rw [hNC]; rfl] at hlook
  rw [← hNC]
  clear h h1 hL hL1 hb1 hn hw1 hn0 hNC hid hNl hr hk
  go_enter Tryd.func80, Tryd.ntmps80
  go_upto_region 1 with fail
  rw [← Hw1.out, ← Hn.out]
  refine wp_region_held_drew (S := fun w' => Below w1.heap.size w1 w') (by kernel_rfl) ((Below.refl _ _).drew) (fun hH0 => ?_)
  obtain ⟨W0, hW0⟩ : ∃ W, W = w1.drew := ⟨_, rfl⟩
  rw [← hW0] at hH0 ⊢
  clear hW0
  refine wpAnyH_take (i := 0) (v := ?_) rfl (by kernel_rfl) (by kernel_rfl) (by kernel_rfl) (fun _ _ _ h => h) (Or.inl ⟨by kernel_rfl, ?_⟩) hH0 ?_
  rotate_left 1
  · intro w hSw
    go_simp
    try with_reducible rfl
  try simp only [Act.put, List.getElem_toArray, List.getElem_cons_zero, List.getElem_cons_succ, List.setIfInBounds_toArray, List.set_cons_zero, List.set_cons_succ]
  refine wpAnyH_ready (rs := [1]) (by kernel_rfl) (by simp) ?_
  refine AllReadyH.cons rfl (fun K_ hK => ?_) ?_
  · go_simp
    refine (hrd.out W0 hH0).mono ?_
    rintro e W1 ⟨rfl, hb1⟩
    refine hK.out _ _ ((hH0).trans (hb1.mono (hH0).size)) (fun hH1 => ?_)
    clear hK K_
    try simp only [Act.put, List.getElem_toArray, List.getElem_cons_zero, List.getElem_cons_succ, List.setIfInBounds_toArray, List.set_cons_zero, List.set_cons_succ]
    refine wpAnyH_take (i := 2) (v := ?_) rfl (by kernel_rfl) (by kernel_rfl) (by kernel_rfl) (fun _ _ _ h => h) (Or.inl ⟨by kernel_rfl, ?_⟩) hH1 ?_
    rotate_left 1
    · intro w hSw
      go_simp
      try with_reducible rfl
    try simp only [Act.put, List.getElem_toArray, List.getElem_cons_zero, List.getElem_cons_succ, List.setIfInBounds_toArray, List.set_cons_zero, List.set_cons_succ]
    refine wpAnyH_take (i := 3) (v := ?_) rfl (by kernel_rfl) (by kernel_rfl) (by kernel_rfl) (fun _ _ _ h => h) (Or.inl ⟨by kernel_rfl, ?_⟩) hH1 ?_
    rotate_left 1
    · intro w hSw
      go_simp
      try with_reducible rfl
    try simp only [Act.put, List.getElem_toArray, List.getElem_cons_zero, List.getElem_cons_succ, List.setIfInBounds_toArray, List.set_cons_zero, List.set_cons_succ]
    refine wpAnyH_take (i := 4) (v := ?_) rfl (by kernel_rfl) (by kernel_rfl) (by kernel_rfl) (fun _ _ _ h => h) (Or.inl ⟨by kernel_rfl, ?_⟩) hH1 ?_
    rotate_left 1
    · intro w hSw
      go_simp
      try with_reducible rfl
    try simp only [Act.put, List.getElem_toArray, List.getElem_cons_zero, List.getElem_cons_succ, List.setIfInBounds_toArray, List.set_cons_zero, List.set_cons_succ]
    refine wpAnyH_take (i := 5) (v := ?_) rfl (by kernel_rfl) (by kernel_rfl) (by kernel_rfl) (fun _ _ _ h => h) (Or.inl ⟨by kernel_rfl, ?_⟩) hH1 ?_
    rotate_left 1
    · intro w hSw
      go_simp
      try with_reducible rfl
    try simp only [Act.put, List.getElem_toArray, List.getElem_cons_zero, List.getElem_cons_succ, List.setIfInBounds_toArray, List.set_cons_zero, List.set_cons_succ]
    refine wpAnyH_take (i := 6) (v := ?_) rfl (by kernel_rfl) (by kernel_rfl) (by kernel_rfl) (fun _ _ _ h => h) (Or.inl ⟨by kernel_rfl, ?_⟩) hH1 ?_
    rotate_left 1
    · intro w hSw
      go_simp
      try with_reducible rfl
    try simp only [Act.put, List.getElem_toArray, List.getElem_cons_zero, List.getElem_cons_succ, List.setIfInBounds_toArray, List.set_cons_zero, List.set_cons_succ]
    refine wpAnyH_take (i := 7) (v := ?_) rfl (by kernel_rfl) (by kernel_rfl) (by kernel_rfl) (fun _ _ _ h => h) (Or.inl ⟨by kernel_rfl, ?_⟩) hH1 ?_
    rotate_left 1
    · intro w hSw
      have f0 := (hSw.cell (p := ⟨q.p, 1, none⟩) lp).trans x1
      go_simp
      try with_reducible rfl
    try simp only [Act.put, List.getElem_toArray, List.getElem_cons_zero, List.getElem_cons_succ, List.setIfInBounds_toArray, List.set_cons_zero, List.set_cons_succ]
    refine wpAnyH_take (i := 8) (v := _) rfl (by kernel_rfl) (by kernel_rfl) (by kernel_rfl) (fun _ _ _ h => h) (yieldsIf_load_mid (by kernel_rfl) _ _ rfl _ _ rfl NC.toList _ (fun W hW => range_below r0 hW l0) nund rfl ndix) hH1 ?_
    try simp only [Act.put, List.getElem_toArray, List.getElem_cons_zero, List.getElem_cons_succ, List.setIfInBounds_toArray, List.set_cons_zero, List.set_cons_succ]
    refine wpAnyH_take (i := 9) (v := _) rfl (by kernel_rfl) (by kernel_rfl) (by kernel_rfl) (fun _ _ _ h => h) (yieldsIf_lookup (by kernel_rfl) 140 (.tmp 16) (.tmp 17) rfl (.pointer none) (fun W hW => hlook.out W hW)) hH1 ?_
    try simp only [Act.put, List.getElem_toArray, List.getElem_cons_zero, List.getElem_cons_succ, List.setIfInBounds_toArray, List.set_cons_zero, List.set_cons_succ]
    refine wpAnyH_take (i := 10) (v := ?_) rfl (by kernel_rfl) (by kernel_rfl) (by kernel_rfl) (fun _ _ _ h => h) (Or.inl ⟨by kernel_rfl, ?_⟩) hH1 ?_
    rotate_left 1
    · intro w hSw
      go_simp
      try with_reducible rfl
    try simp only [Act.put, List.getElem_toArray, List.getElem_cons_zero, List.getElem_cons_succ, List.setIfInBounds_toArray, List.set_cons_zero, List.set_cons_succ]
    refine wpAnyH_take (i := 11) (v := ?_) rfl (by kernel_rfl) (by kernel_rfl) (by kernel_rfl) (fun _ _ _ h => h) (Or.inl ⟨by kernel_rfl, ?_⟩) hH1 ?_
    rotate_left 1
    · intro w hSw
      go_simp
      try with_reducible rfl
    try simp only [Act.put, List.getElem_toArray, List.getElem_cons_zero, List.getElem_cons_succ, List.setIfInBounds_toArray, List.set_cons_zero, List.set_cons_succ]
    refine wpAnyH_done (by kernel_rfl) ?_ _
    have HH := Lib.hid hH1
    clear hH1
    go_wp2_with fail
    go_ret2
    exact ⟨rfl, Hb1.out.trans (HH.out.mono Hb1.out.size)⟩
  exact AllReadyH.nil

set_option maxHeartbeats 4000000 in
set_option maxRecDepth 100000 in
theorem find_ok (K : List Int) (q : HvP) (d : HvD) (j : Nat) (e : HEnt) (w : World) (h : HvAt w q d) (hL : Laid K w) (hr : d.ready) (hj : d.L[j]? = some e) (hc : d.clk < 1000000) (htx : St.read d.s e.at_ = textS K e.row) :
    Calls Tryd.prog 80 #[.pointer (some ⟨q.p, 0, none⟩), .agg (Value.bool e.isB :: byV e.id).toArray] w fun r w' => r = .returned (.tuple #[.string ⟨e.row.toArray⟩, .bool true]) ∧ HvAt w' q { d with L := d.L.set j { e with used := ((d.clk + 1 : Nat) : Int) }, clk := d.clk + 1 } ∧ Only (q.own d.L) w w' := by
  have he := List.mem_of_getElem? hj
  have hfe := h.fit e he
  have hid := hfe.1
  obtain ⟨NC, hNC⟩ : ∃ x, x = (Value.bool e.isB :: byV e.id).toArray := ⟨_, rfl⟩
  have hNl : NC.toList.length = 33 := by rw [hNC]; simp [byV_length, hid]
  have hb1 := (Below.refl w.heap.size w).alloc (Nat.le_refl _) (.cells NC 137)
  have hn0 := heap_alloc_new w (.cells NC 137)
  have h1 := h.below hb1
  have hL1 := hL.below hb1
  obtain ⟨w1, hw1⟩ : ∃ y, y = w.alloc (.cells NC 137) := ⟨_, rfl⟩
  obtain ⟨n0, hn⟩ : ∃ y, y = w.heap.size := ⟨_, rfl⟩
  rw [← hw1] at h1 hn0 hb1 hL1
  rw [← hn] at hn0
  have hrd := Lib.hid (fun W (hW : Below w1.heap.size w1 W) => ready_ok q d W (h1.below hW) hr)
  have r0 : w1.rangeAt n0 0 NC.toList := fun k v hv => by rw [Lib.cell_of_heap hn0, Nat.zero_add]; simpa using hv
  have l0 : n0 < w1.heap.size := heap_lt hn0
  have x1 := (hv_cells h1).2.1
  have lp : q.p < w1.heap.size := heap_lt h1.hp
  have ndix : (Tryd.prog.info? 137).map (·.size) = some NC.toList.length := by rw [name_info, hNl]
  have nund := Tryd.underlying137
  have H := Lib.hid h
  have H1 := Lib.hid h1
  have HL1 := Lib.hid hL1
  have Hb1 := Lib.hid hb1
  have Hn := Lib.hid hn
  have Hw1 := Lib.hid hw1
  have HNC := Lib.hid hNC
  have Hid' := Lib.hid hid
  have hlook := Lib.hid (fun W (hW : Below w1.heap.size w1 W) => look_yes (h1.below hW) he)
  rw [show nameV (e.isB, e.id) = .agg NC from by rw [hNC]; rfl] at hlook
  rw [← hNC]
  have hread := Lib.hid (fun W (hW : Below w1.heap.size w1 W) => (read_any q.b q.g d.s e.at_ W (h1.below hW).sh).mono fun r w' hh => (And.intro hh.1 (hh.2 ▸ Below.refl W.heap.size W) : _ ∧ Below W.heap.size W w'))
  have htext := Lib.hid (fun W (hW : Below w1.heap.size w1 W) => htext_any K e.row W (hL1.below hW) (by have := hfe.2.2; omega))
  obtain ⟨y33, y34, y35, -⟩ := ent_cells hfe (h1.ents e he)
  have lb : e.blk < w1.heap.size := heap_lt (h1.ents e he)
  have x0 := (hv_cells h1).1
  obtain ⟨tx, htx'⟩ : ∃ t, t = textS K e.row := ⟨_, rfl⟩
  simp only [htx] at hread
  rw [← htx'] at hread htext
  have Hj := Lib.hid hj
  obtain ⟨bk, hbk⟩ : ∃ x, x = e.blk := ⟨_, rfl⟩
  obtain ⟨rw_, hrw⟩ : ∃ x, x = e.row := ⟨_, rfl⟩
  obtain ⟨ea, hea⟩ : ∃ x, x = e.at_ := ⟨_, rfl⟩
  rw [← hbk] at hlook y33 y34 y35 lb
  rw [← hrw] at y35 htext
  rw [← hea] at y33 hread
  have Hbk := Lib.hid hbk
  have Hrw := Lib.hid hrw
  have Hfe := Lib.hid hfe
  have He := Lib.hid he
  clear h h1 hL hL1 hb1 hn hw1 hn0 hNC hid hNl hr hj he htx htx' hfe hbk hrw hea
  go_enter Tryd.func80, Tryd.ntmps80
  go_upto_region 1 with fail
  rw [← Hw1.out, ← Hn.out]
  refine wp_region_held_drew (S := fun w' => Below w1.heap.size w1 w') (by kernel_rfl) ((Below.refl _ _).drew) (fun hH0 => ?_)
  obtain ⟨W0, hW0⟩ : ∃ W, W = w1.drew := ⟨_, rfl⟩
  rw [← hW0] at hH0 ⊢
  clear hW0
  refine wpAnyH_take (i := 0) (v := ?_) rfl (by kernel_rfl) (by kernel_rfl) (by kernel_rfl) (fun _ _ _ h => h) (Or.inl ⟨by kernel_rfl, ?_⟩) hH0 ?_
  rotate_left 1
  · intro w hSw
    go_simp
    try with_reducible rfl
  try simp only [Act.put, List.getElem_toArray, List.getElem_cons_zero, List.getElem_cons_succ, List.setIfInBounds_toArray, List.set_cons_zero, List.set_cons_succ]
  refine wpAnyH_ready (rs := [1]) (by kernel_rfl) (by simp) ?_
  refine AllReadyH.cons rfl (fun K_ hK => ?_) ?_
  · go_simp
    refine (hrd.out W0 hH0).mono ?_
    rintro e W1 ⟨rfl, hb1⟩
    refine hK.out _ _ ((hH0).trans (hb1.mono (hH0).size)) (fun hH1 => ?_)
    clear hK K_
    try simp only [Act.put, List.getElem_toArray, List.getElem_cons_zero, List.getElem_cons_succ, List.setIfInBounds_toArray, List.set_cons_zero, List.set_cons_succ]
    refine wpAnyH_take (i := 2) (v := ?_) rfl (by kernel_rfl) (by kernel_rfl) (by kernel_rfl) (fun _ _ _ h => h) (Or.inl ⟨by kernel_rfl, ?_⟩) hH1 ?_
    rotate_left 1
    · intro w hSw
      go_simp
      try with_reducible rfl
    try simp only [Act.put, List.getElem_toArray, List.getElem_cons_zero, List.getElem_cons_succ, List.setIfInBounds_toArray, List.set_cons_zero, List.set_cons_succ]
    refine wpAnyH_take (i := 3) (v := ?_) rfl (by kernel_rfl) (by kernel_rfl) (by kernel_rfl) (fun _ _ _ h => h) (Or.inl ⟨by kernel_rfl, ?_⟩) hH1 ?_
    rotate_left 1
    · intro w hSw
      go_simp
      try with_reducible rfl
    try simp only [Act.put, List.getElem_toArray, List.getElem_cons_zero, List.getElem_cons_succ, List.setIfInBounds_toArray, List.set_cons_zero, List.set_cons_succ]
    refine wpAnyH_take (i := 4) (v := ?_) rfl (by kernel_rfl) (by kernel_rfl) (by kernel_rfl) (fun _ _ _ h => h) (Or.inl ⟨by kernel_rfl, ?_⟩) hH1 ?_
    rotate_left 1
    · intro w hSw
      go_simp
      try with_reducible rfl
    try simp only [Act.put, List.getElem_toArray, List.getElem_cons_zero, List.getElem_cons_succ, List.setIfInBounds_toArray, List.set_cons_zero, List.set_cons_succ]
    refine wpAnyH_take (i := 5) (v := ?_) rfl (by kernel_rfl) (by kernel_rfl) (by kernel_rfl) (fun _ _ _ h => h) (Or.inl ⟨by kernel_rfl, ?_⟩) hH1 ?_
    rotate_left 1
    · intro w hSw
      go_simp
      try with_reducible rfl
    try simp only [Act.put, List.getElem_toArray, List.getElem_cons_zero, List.getElem_cons_succ, List.setIfInBounds_toArray, List.set_cons_zero, List.set_cons_succ]
    refine wpAnyH_take (i := 6) (v := ?_) rfl (by kernel_rfl) (by kernel_rfl) (by kernel_rfl) (fun _ _ _ h => h) (Or.inl ⟨by kernel_rfl, ?_⟩) hH1 ?_
    rotate_left 1
    · intro w hSw
      go_simp
      try with_reducible rfl
    try simp only [Act.put, List.getElem_toArray, List.getElem_cons_zero, List.getElem_cons_succ, List.setIfInBounds_toArray, List.set_cons_zero, List.set_cons_succ]
    refine wpAnyH_take (i := 7) (v := ?_) rfl (by kernel_rfl) (by kernel_rfl) (by kernel_rfl) (fun _ _ _ h => h) (Or.inl ⟨by kernel_rfl, ?_⟩) hH1 ?_
    rotate_left 1
    · intro w hSw
      have f0 := (hSw.cell (p := ⟨q.p, 1, none⟩) lp).trans x1
      go_simp
      try with_reducible rfl
    try simp only [Act.put, List.getElem_toArray, List.getElem_cons_zero, List.getElem_cons_succ, List.setIfInBounds_toArray, List.set_cons_zero, List.set_cons_succ]
    refine wpAnyH_take (i := 8) (v := _) rfl (by kernel_rfl) (by kernel_rfl) (by kernel_rfl) (fun _ _ _ h => h) (yieldsIf_load_mid (by kernel_rfl) _ _ rfl _ _ rfl NC.toList _ (fun W hW => range_below r0 hW l0) nund rfl ndix) hH1 ?_
    try simp only [Act.put, List.getElem_toArray, List.getElem_cons_zero, List.getElem_cons_succ, List.setIfInBounds_toArray, List.set_cons_zero, List.set_cons_succ]
    refine wpAnyH_take (i := 9) (v := _) rfl (by kernel_rfl) (by kernel_rfl) (by kernel_rfl) (fun _ _ _ h => h) (yieldsIf_lookup (by kernel_rfl) 140 (.tmp 16) (.tmp 17) rfl (.pointer (some ⟨bk, 0, none⟩)) (fun W hW => hlook.out W hW)) hH1 ?_
    try simp only [Act.put, List.getElem_toArray, List.getElem_cons_zero, List.getElem_cons_succ, List.setIfInBounds_toArray, List.set_cons_zero, List.set_cons_succ]
    refine wpAnyH_take (i := 10) (v := ?_) rfl (by kernel_rfl) (by kernel_rfl) (by kernel_rfl) (fun _ _ _ h => h) (Or.inl ⟨by kernel_rfl, ?_⟩) hH1 ?_
    rotate_left 1
    · intro w hSw
      go_simp
      try with_reducible rfl
    try simp only [Act.put, List.getElem_toArray, List.getElem_cons_zero, List.getElem_cons_succ, List.setIfInBounds_toArray, List.set_cons_zero, List.set_cons_succ]
    refine wpAnyH_take (i := 11) (v := ?_) rfl (by kernel_rfl) (by kernel_rfl) (by kernel_rfl) (fun _ _ _ h => h) (Or.inl ⟨by kernel_rfl, ?_⟩) hH1 ?_
    rotate_left 1
    · intro w hSw
      go_simp
      try with_reducible rfl
    try simp only [Act.put, List.getElem_toArray, List.getElem_cons_zero, List.getElem_cons_succ, List.setIfInBounds_toArray, List.set_cons_zero, List.set_cons_succ]
    refine wpAnyH_done (by kernel_rfl) ?_ _
    have HH := Lib.hid hH1
    obtain ⟨w2, hw2⟩ : ∃ y, y = W1 := ⟨_, rfl⟩
    rw [← hw2] at HH ⊢
    clear hH1 hw2
    go_upto_region 3 with fail
    have x1b : w2.cell? ⟨q.p, 1, none⟩ = some (.map (some q.ma)) := (HH.out.cell (p := ⟨q.p, 1, none⟩) lp).trans x1
    have r0b := range_below r0 HH.out l0
    have lpb : q.p < w2.heap.size := Nat.lt_of_lt_of_le lp HH.out.size
    have l0b : n0 < w2.heap.size := Nat.lt_of_lt_of_le l0 HH.out.size
    have hlook2 := Lib.hid (fun W (hW : Below w2.heap.size w2 W) => hlook.out W (HH.out.trans (hW.mono HH.out.size)))
    refine wp_region_held_drew (S := fun w' => Below w2.heap.size w2 w') (by kernel_rfl) ((Below.refl _ _).drew) (fun hH0 => ?_)
    obtain ⟨W0, hW0⟩ : ∃ W, W = w2.drew := ⟨_, rfl⟩
    rw [← hW0] at hH0 ⊢
    clear hW0
    refine wpAnyH_take (i := 0) (v := ?_) rfl (by kernel_rfl) (by kernel_rfl) (by kernel_rfl) (fun _ _ _ h => h) (Or.inl ⟨by kernel_rfl, ?_⟩) hH0 ?_
    rotate_left 1
    · intro w hSw
      go_simp
      try with_reducible rfl
    try simp only [Act.put, List.getElem_toArray, List.getElem_cons_zero, List.getElem_cons_succ, List.setIfInBounds_toArray, List.set_cons_zero, List.set_cons_succ]
    refine wpAnyH_take (i := 1) (v := ?_) rfl (by kernel_rfl) (by kernel_rfl) (by kernel_rfl) (fun _ _ _ h => h) (Or.inl ⟨by kernel_rfl, ?_⟩) hH0 ?_
    rotate_left 1
    · intro w hSw
      go_simp
      try with_reducible rfl
    try simp only [Act.put, List.getElem_toArray, List.getElem_cons_zero, List.getElem_cons_succ, List.setIfInBounds_toArray, List.set_cons_zero, List.set_cons_succ]
    refine wpAnyH_take (i := 2) (v := ?_) rfl (by kernel_rfl) (by kernel_rfl) (by kernel_rfl) (fun _ _ _ h => h) (Or.inl ⟨by kernel_rfl, ?_⟩) hH0 ?_
    rotate_left 1
    · intro w hSw
      go_simp
      try with_reducible rfl
    try simp only [Act.put, List.getElem_toArray, List.getElem_cons_zero, List.getElem_cons_succ, List.setIfInBounds_toArray, List.set_cons_zero, List.set_cons_succ]
    refine wpAnyH_take (i := 3) (v := ?_) rfl (by kernel_rfl) (by kernel_rfl) (by kernel_rfl) (fun _ _ _ h => h) (Or.inl ⟨by kernel_rfl, ?_⟩) hH0 ?_
    rotate_left 1
    · intro w hSw
      have f0 := (hSw.cell (p := ⟨q.p, 1, none⟩) lpb).trans x1b
      go_simp
      try with_reducible rfl
    try simp only [Act.put, List.getElem_toArray, List.getElem_cons_zero, List.getElem_cons_succ, List.setIfInBounds_toArray, List.set_cons_zero, List.set_cons_succ]
    refine wpAnyH_take (i := 4) (v := _) rfl (by kernel_rfl) (by kernel_rfl) (by kernel_rfl) (fun _ _ _ h => h) (yieldsIf_load_mid (by kernel_rfl) _ _ rfl _ _ rfl NC.toList _ (fun W hW => range_below r0b hW l0b) nund rfl ndix) hH0 ?_
    try simp only [Act.put, List.getElem_toArray, List.getElem_cons_zero, List.getElem_cons_succ, List.setIfInBounds_toArray, List.set_cons_zero, List.set_cons_succ]
    refine wpAnyH_take (i := 5) (v := _) rfl (by kernel_rfl) (by kernel_rfl) (by kernel_rfl) (fun _ _ _ h => h) (yieldsIf_lookup (by kernel_rfl) 140 (.tmp 24) (.tmp 25) rfl (.pointer (some ⟨bk, 0, none⟩)) (fun W hW => hlook2.out W hW)) hH0 ?_
    try simp only [Act.put, List.getElem_toArray, List.getElem_cons_zero, List.getElem_cons_succ, List.setIfInBounds_toArray, List.set_cons_zero, List.set_cons_succ]
    refine wpAnyH_take (i := 6) (v := ?_) rfl (by kernel_rfl) (by kernel_rfl) (by kernel_rfl) (fun _ _ _ h => h) (Or.inl ⟨by kernel_rfl, ?_⟩) hH0 ?_
    rotate_left 1
    · intro w hSw
      go_simp
      try with_reducible rfl
    try simp only [Act.put, List.getElem_toArray, List.getElem_cons_zero, List.getElem_cons_succ, List.setIfInBounds_toArray, List.set_cons_zero, List.set_cons_succ]
    refine wpAnyH_done (by kernel_rfl) ?_ _
    have H3 := Lib.hid (HH.out.trans ((hH0).mono HH.out.size))
    obtain ⟨w3, hw3⟩ : ∃ y, y = W0 := ⟨_, rfl⟩
    rw [← hw3] at H3 ⊢
    clear hH0 hw3 hlook2 x1b r0b lpb l0b
    go_upto_region 4 with fail
    have x0b : w3.cell? ⟨q.p, 0, none⟩ = some (.pointer (some ⟨q.b, 0, none⟩)) := (H3.out.cell (p := ⟨q.p, 0, none⟩) lp).trans x0
    have y33b : w3.cell? ⟨bk, 33, none⟩ = some (.int .i64 ea) := (H3.out.cell (p := ⟨bk, 33, none⟩) lb).trans y33
    have lpc : q.p < w3.heap.size := Nat.lt_of_lt_of_le lp H3.out.size
    have lbc : bk < w3.heap.size := Nat.lt_of_lt_of_le lb H3.out.size
    have hread3 := Lib.hid (fun W (hW : Below w3.heap.size w3 W) => hread.out W (H3.out.trans (hW.mono H3.out.size)))
    refine wp_region_held_drew (S := fun w' => Below w3.heap.size w3 w') (by kernel_rfl) ((Below.refl _ _).drew) (fun hH0 => ?_)
    obtain ⟨W0, hW0⟩ : ∃ W, W = w3.drew := ⟨_, rfl⟩
    rw [← hW0] at hH0 ⊢
    clear hW0
    refine wpAnyH_take (i := 0) (v := ?_) rfl (by kernel_rfl) (by kernel_rfl) (by kernel_rfl) (fun _ _ _ h => h) (Or.inl ⟨by kernel_rfl, ?_⟩) hH0 ?_
    rotate_left 1
    · intro w hSw
      go_simp
      try with_reducible rfl
    try simp only [Act.put, List.getElem_toArray, List.getElem_cons_zero, List.getElem_cons_succ, List.setIfInBounds_toArray, List.set_cons_zero, List.set_cons_succ]
    refine wpAnyH_take (i := 1) (v := ?_) rfl (by kernel_rfl) (by kernel_rfl) (by kernel_rfl) (fun _ _ _ h => h) (Or.inl ⟨by kernel_rfl, ?_⟩) hH0 ?_
    rotate_left 1
    · intro w hSw
      go_simp
      try with_reducible rfl
    try simp only [Act.put, List.getElem_toArray, List.getElem_cons_zero, List.getElem_cons_succ, List.setIfInBounds_toArray, List.set_cons_zero, List.set_cons_succ]
    refine wpAnyH_take (i := 2) (v := ?_) rfl (by kernel_rfl) (by kernel_rfl) (by kernel_rfl) (fun _ _ _ h => h) (Or.inl ⟨by kernel_rfl, ?_⟩) hH0 ?_
    rotate_left 1
    · intro w hSw
      go_simp
      try with_reducible rfl
    try simp only [Act.put, List.getElem_toArray, List.getElem_cons_zero, List.getElem_cons_succ, List.setIfInBounds_toArray, List.set_cons_zero, List.set_cons_succ]
    refine wpAnyH_take (i := 3) (v := ?_) rfl (by kernel_rfl) (by kernel_rfl) (by kernel_rfl) (fun _ _ _ h => h) (Or.inl ⟨by kernel_rfl, ?_⟩) hH0 ?_
    rotate_left 1
    · intro w hSw
      have f0 := (hSw.cell (p := ⟨q.p, 0, none⟩) lpc).trans x0b
      have f1 := (hSw.cell (p := ⟨bk, 33, none⟩) lbc).trans y33b
      go_simp
      try with_reducible rfl
    try simp only [Act.put, List.getElem_toArray, List.getElem_cons_zero, List.getElem_cons_succ, List.setIfInBounds_toArray, List.set_cons_zero, List.set_cons_succ]
    refine wpAnyH_take (i := 4) (v := ?_) rfl (by kernel_rfl) (by kernel_rfl) (by kernel_rfl) (fun _ _ _ h => h) (Or.inl ⟨by kernel_rfl, ?_⟩) hH0 ?_
    rotate_left 1
    · intro w hSw
      go_simp
      try with_reducible rfl
    try simp only [Act.put, List.getElem_toArray, List.getElem_cons_zero, List.getElem_cons_succ, List.setIfInBounds_toArray, List.set_cons_zero, List.set_cons_succ]
    refine wpAnyH_take (i := 5) (v := ?_) rfl (by kernel_rfl) (by kernel_rfl) (by kernel_rfl) (fun _ _ _ h => h) (Or.inl ⟨by kernel_rfl, ?_⟩) hH0 ?_
    rotate_left 1
    · intro w hSw
      go_simp
      try with_reducible rfl
    try simp only [Act.put, List.getElem_toArray, List.getElem_cons_zero, List.getElem_cons_succ, List.setIfInBounds_toArray, List.set_cons_zero, List.set_cons_succ]
    refine wpAnyH_take (i := 6) (v := ?_) rfl (by kernel_rfl) (by kernel_rfl) (by kernel_rfl) (fun _ _ _ h => h) (Or.inl ⟨by kernel_rfl, ?_⟩) hH0 ?_
    rotate_left 1
    · intro w hSw
      go_simp
      try with_reducible rfl
    try simp only [Act.put, List.getElem_toArray, List.getElem_cons_zero, List.getElem_cons_succ, List.setIfInBounds_toArray, List.set_cons_zero, List.set_cons_succ]
    refine wpAnyH_take (i := 7) (v := ?_) rfl (by kernel_rfl) (by kernel_rfl) (by kernel_rfl) (fun _ _ _ h => h) (Or.inl ⟨by kernel_rfl, ?_⟩) hH0 ?_
    rotate_left 1
    · intro w hSw
      have f0 := (hSw.cell (p := ⟨q.p, 0, none⟩) lpc).trans x0b
      have f1 := (hSw.cell (p := ⟨bk, 33, none⟩) lbc).trans y33b
      go_simp
      try with_reducible rfl
    try simp only [Act.put, List.getElem_toArray, List.getElem_cons_zero, List.getElem_cons_succ, List.setIfInBounds_toArray, List.set_cons_zero, List.set_cons_succ]
    refine wpAnyH_ready (rs := [8]) (by kernel_rfl) (by simp) ?_
    refine AllReadyH.cons rfl (fun K_ hK => ?_) ?_
    · go_simp
      refine (hread3.out W0 hH0).mono ?_
      rintro e W1 ⟨rfl, hb1⟩
      refine hK.out _ _ ((hH0).trans (hb1.mono (hH0).size)) (fun hH1 => ?_)
      clear hK K_
      try simp only [Act.put, List.getElem_toArray, List.getElem_cons_zero, List.getElem_cons_succ, List.setIfInBounds_toArray, List.set_cons_zero, List.set_cons_succ]
      refine wpAnyH_take (i := 9) (v := ?_) rfl (by kernel_rfl) (by kernel_rfl) (by kernel_rfl) (fun _ _ _ h => h) (Or.inl ⟨by kernel_rfl, ?_⟩) hH1 ?_
      rotate_left 1
      · intro w hSw
        go_simp
        try with_reducible rfl
      try simp only [Act.put, List.getElem_toArray, List.getElem_cons_zero, List.getElem_cons_succ, List.setIfInBounds_toArray, List.set_cons_zero, List.set_cons_succ]
      refine wpAnyH_take (i := 10) (v := ?_) rfl (by kernel_rfl) (by kernel_rfl) (by kernel_rfl) (fun _ _ _ h => h) (Or.inl ⟨by kernel_rfl, ?_⟩) hH1 ?_
      rotate_left 1
      · intro w hSw
        go_simp
        try with_reducible rfl
      try simp only [Act.put, List.getElem_toArray, List.getElem_cons_zero, List.getElem_cons_succ, List.setIfInBounds_toArray, List.set_cons_zero, List.set_cons_succ]
      refine wpAnyH_take (i := 11) (v := ?_) rfl (by kernel_rfl) (by kernel_rfl) (by kernel_rfl) (fun _ _ _ h => h) (Or.inl ⟨by kernel_rfl, ?_⟩) hH1 ?_
      rotate_left 1
      · intro w hSw
        go_simp
        try with_reducible rfl
      try simp only [Act.put, List.getElem_toArray, List.getElem_cons_zero, List.getElem_cons_succ, List.setIfInBounds_toArray, List.set_cons_zero, List.set_cons_succ]
      refine wpAnyH_take (i := 12) (v := ?_) rfl (by kernel_rfl) (by kernel_rfl) (by kernel_rfl) (fun _ _ _ h => h) (Or.inl ⟨by kernel_rfl, ?_⟩) hH1 ?_
      rotate_left 1
      · intro w hSw
        go_simp
        try with_reducible rfl
      try simp only [Act.put, List.getElem_toArray, List.getElem_cons_zero, List.getElem_cons_succ, List.setIfInBounds_toArray, List.set_cons_zero, List.set_cons_succ]
      refine wpAnyH_take (i := 13) (v := ?_) rfl (by kernel_rfl) (by kernel_rfl) (by kernel_rfl) (fun _ _ _ h => h) (Or.inl ⟨by kernel_rfl, ?_⟩) hH1 ?_
      rotate_left 1
      · intro w hSw
        go_simp
        try with_reducible rfl
      try simp only [Act.put, List.getElem_toArray, List.getElem_cons_zero, List.getElem_cons_succ, List.setIfInBounds_toArray, List.set_cons_zero, List.set_cons_succ]
      refine wpAnyH_done (by kernel_rfl) ?_ _
      have H4 := Lib.hid (H3.out.trans ((hH1).mono H3.out.size))
      obtain ⟨w4, hw4⟩ : ∃ y, y = W1 := ⟨_, rfl⟩
      rw [← hw4] at H4 ⊢
      clear hH1 hw4 hread3 x0b y33b lpc lbc
      have y35b : w4.cell? ⟨bk, 35, none⟩ = some (.string ⟨rw_.toArray⟩) := (H4.out.cell (p := ⟨bk, 35, none⟩) lb).trans y35
      have ht4 := Lib.hid (htext.out w4 H4.out)
      clear htext hread hlook hrd
      go_wp2_with fail
      refine ht4.out.mono ?_
      rintro r w5 ⟨rfl, hB5⟩
      have H5 := Lib.hid (H4.out.trans (hB5.mono H4.out.size))
      have h5 := H1.out.below H5.out
      have huse := Lib.hid (use_any q d j e w5 h5 Hj.out hc)
      rw [show (Value.pointer (some ⟨e.blk, 0, none⟩)) = .pointer (some ⟨bk, 0, none⟩) by rw [Hbk.out]] at huse
      have hself : ((⟨tx.toArray⟩ : ByteArray) != ⟨tx.toArray⟩) = false := by rw [ba_bneL]; simp
      clear hB5 ht4 h5 y35b
      go_wp2_with fail
      refine huse.out.mono ?_
      rintro r w6 ⟨rfl, h6, hO6⟩
      have hjl := (List.getElem?_eq_some_iff.1 Hj.out).1
      have hem : ({ e with used := ((d.clk + 1 : Nat) : Int) } : HEnt) ∈ d.L.set j { e with used := ((d.clk + 1 : Nat) : Int) } := List.mem_of_getElem? (by rw [List.getElem?_set_self hjl])
      have z35 : w6.cell? ⟨bk, 35, none⟩ = some (.string ⟨rw_.toArray⟩) := by
        have := (ent_cells (h6.fit _ hem) (h6.ents _ hem)).2.2.1
        rw [Hbk.out, Hrw.out]; exact this
      have H6 := Lib.hid h6
      have O6 := Lib.hid hO6
      clear h6 hO6 hem huse
      go_wp2_with fail
      go_ret2
      exact ⟨by rw [← Hrw.out]; rfl, H6.out, ((Only.of_below Hb1.out).trans (Only.of_below H5.out)).trans O6.out⟩
    exact AllReadyH.nil
  exact AllReadyH.nil
end Go.Proofs.YtfbjbhddapoopaaDoor
