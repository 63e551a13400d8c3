/-
  Layer 3 (comb): the laws' own look at examples: awake.
-/
import Derived.Test.YtokdnfhglckpkaaDoorCoF
set_option linter.unusedVariables false
set_option linter.unusedSimpArgs false
namespace Go.Proofs.YtokdnfhglckpkaaDoor
open Go.RowKit
attribute [local go_sem] Lb.ba_get Lb.ba_cut Lb.ba_add Lb.ba_size Lb.take_rest

set_option maxHeartbeats 4000000 in
set_option maxRecDepth 100000 in
theorem awake_any (K : List Int) (w : World) (hL : Laid K w) :
    Calls Tryd.prog 14 #[] w fun e w' => e = .returned (.bool true) ∧ Below w.heap.size w w' := by
  go_enter Tryd.func14, Tryd.ntmps14
  go_upto_region 2 with fail
  obtain ⟨s, hs⟩ : ∃ s : List UInt8, s = ([48, 49, 50, 51, 52, 53, 54, 55, 56, 57, 48, 49, 50, 51, 52, 53, 54, 55, 56, 57, 48, 49, 50, 51, 52, 53, 54, 55, 56, 57, 48, 49, 50, 51, 52].append [53, 54, 55, 56, 57, 48, 49, 50, 51, 52, 53, 54, 55, 56, 57, 48, 49, 50, 51, 52, 53, 54, 55, 56, 57, 48, 49, 50, 51, 52, 53, 54, 55, 56, 57]) := ⟨_, rfl⟩
  rw [← hs]
  have hs70 : s.length = 70 := by rw [hs]; rfl
  clear hs
  have hn2 : (chunks s).length = 2 := by rw [chunks_length, hs70]
  have hc0 : (chunk s 0).length = 64 := by rw [chunk_length, hs70]; rfl
  have hc1 : (chunk s 1).length = 6 := by rw [chunk_length, hs70]; rfl
  have HL := Lib.hid hL
  clear hL
  have Hs := Lib.hid hs70
  have Hn := Lib.hid hn2
  clear hs70 hn2
  go_wp2_with fail
  refine (split_any s w (by rw [Hs.out]; omega)).mono ?_
  rintro e w1 ⟨v, rfl, hT, hB1⟩
  obtain ⟨A, cap, rfl, hcx, hcap⟩ := Bag0.shape hT
  obtain ⟨g, hA, hg, hgl, hl0⟩ := hT.cell 0 (by rw [Hn.out]; omega)
  obtain ⟨g', hA', hg', hgl', hl1⟩ := hT.cell 1 (by rw [Hn.out]; omega)
  subst hA
  obtain rfl : g = g' := by injection hA' with h1; injection h1
  rw [chunks_get] at hl0 hl1
  rw [Hn.out] at hcap
  have hS1 : Strs w1 w1.heap.size (some ⟨g, 0, none⟩) (chunks s) := by
    intro i hi
    obtain ⟨g2, e2, _, hl, hc⟩ := hT.cell i hi
    exact ⟨⟨g, 0, none⟩, rfl, hgl, by rw [Addr.add_lit, Nat.zero_add]; injection e2 with h1; injection h1 with h2; rw [h2]; exact hc⟩
  have HS1 := Lib.hid hS1
  have HL1 := Lib.hid (HL.out.below hB1)
  have HB1 := Lib.hid hB1
  clear hT hB1 hA' hS1 hg' hgl'
  rw [Hn.out]
  go_wp2_with fail
  refine (mani_any K s w1 HL1.out (by rw [Hs.out]; omega)).mono ?_
  rintro e w2 ⟨m, rfl, hm, hmw, hms, hmp, hB2⟩
  have hown : OwnM K m s := ⟨hmw, hms, hmp⟩
  have hmw32 := hm.whole
  have hinf : (Tryd.prog.info? 27).map (·.size) = some m.row.size := by rw [m.row_size hmw32]; exact mani_info
  have hsz := m.row_size hmw32
  have hone := m.row_one
  have Hown := Lib.hid hown
  have Hm2 := Lib.hid hm
  have HS2 := Lib.hid ((HS1.out.below hB2 (Nat.le_refl _)).more hB2.size)
  have HL2 := Lib.hid (HL1.out.below hB2)
  have HB2 := Lib.hid hB2
  clear hm hown hB2 hmw hms hmp
  go_upto_region 4 with (refine wpList_store_row rfl 27 _ _ rfl w2.heap.size m.row rfl rfl 27 _ (heap_alloc_new w2 _) hinf (by rw [hsz]; rfl) hone ?_)
  obtain ⟨p, hp⟩ : ∃ p, p = w2.heap.size := ⟨_, rfl⟩
  have h3 := setRow_heap _ _ _ m.row _ _ (heap_alloc_new w2 (.cells zeroMani.row 27))
  have o3 : Only [p] w2 ((w2.alloc (.cells zeroMani.row 27)).setRow w2.heap.size m.row) := ((Only.refl [p] w2).alloc _).setRow (by simp [hp]) m.row
  show Code.wp _ _ _ _ ((w2.alloc (.cells zeroMani.row 27)).setRow w2.heap.size m.row)
  obtain ⟨w3, hw3⟩ : ∃ w3, w3 = (w2.alloc (.cells zeroMani.row 27)).setRow w2.heap.size m.row := ⟨_, rfl⟩
  rw [← hw3] at h3 o3 ⊢
  rw [← hp] at h3 ⊢
  have b3 : Below w2.heap.size w2 w3 := o3.below (Nat.le_refl _) (by simp [hp])
  have HL3 := Lib.hid (HL2.out.below b3)
  have HS3 := Lib.hid ((HS2.out.below b3 (Nat.le_refl _)).more b3.size)
  have Hm3 := Lib.hid ((Hm2.out.below b3 (Nat.le_refl _)).more b3.size)
  have H3 := Lib.hid h3
  have hb13 : Below w1.heap.size w1 w3 := HB2.out.trans (b3.mono HB2.out.size)
  have l0 := (hb13.cell (p := ⟨g, 0, none⟩) hgl).trans hl0
  have l1 := (hb13.cell (p := ⟨g, 1, none⟩) hgl).trans hl1
  have hgl3 : g < w3.heap.size := Nat.lt_of_lt_of_le hgl hb13.size
  have HB3 := Lib.hid (HB1.out.trans (hb13.mono HB1.out.size))
  clear hw3 h3 o3 hp b3 hb13 hl0 hl1 HL2 HS2 Hm2 HL1 HS1 HB2
  have hj := join_any K m (some ⟨g, 0, none⟩) cap (chunks s) w3 HL3.out Hm3.out HS3.out (by rw [Hn.out]; exact hcap) hcx (by rw [Hn.out]; omega) (fun t ht => by have := chunks_le s t ht; omega)
  rw [Hn.out, Hown.out.join (by rw [Hs.out]; omega)] at hj
  have Hj := Lib.hid hj
  clear hj
  go_wp2_with (refine wpList_load_row rfl 27 _ rfl p rfl 27 _ (0, 0) _ H3.out Tryd.underlying27 rfl hinf ?_)
  refine Hj.out.mono ?_
  rintro e w4 ⟨rfl, hB4⟩
  have h4 := below_keep hB4 H3.out
  have l0 := (hB4.cell (p := ⟨g, 0, none⟩) hgl3).trans l0
  have l1 := (hB4.cell (p := ⟨g, 1, none⟩) hgl3).trans l1
  have HL4 := Lib.hid (HL3.out.below hB4)
  have Hm4 := Lib.hid ((Hm3.out.below hB4 (Nat.le_refl _)).more hB4.size)
  have HB4 := Lib.hid (HB3.out.trans (hB4.mono HB3.out.size))
  have hgl4 : g < w4.heap.size := Nat.lt_of_lt_of_le hgl3 hB4.size
  have hp4 := heap_lt h4
  have c32 : w4.cell? ⟨p, 32, none⟩ = some (.int .i64 70) := by rw [Lib.cell_of_heap h4, m.at32 hmw32, Hown.out.size, Hs.out]; rfl
  have c33 : w4.cell? ⟨p, 33, none⟩ = some (.slice m.A 2 m.cap) := by rw [Lib.cell_of_heap h4, m.at33 hmw32, Hown.out.parts, List.length_map, Hn.out]
  have rw_ : w4.rangeAt p 0 (byV m.whole) := fun k v hv => by
    rw [Nat.zero_add, Lib.cell_of_heap h4]
    unfold ManiD.row ManiD.cells
    rw [List.getElem?_toArray, List.getElem?_append_left (List.getElem?_eq_some_iff.1 hv).1]
    exact hv
  have rm_ : w4.rangeAt p 0 m.cells := fun k v hv => by
    rw [Nat.zero_add, Lib.cell_of_heap h4]
    unfold ManiD.row
    rw [List.getElem?_toArray]
    exact hv
  clear hB4 HL3 HS3 Hm3 H3 h4 hgl3 hinf hsz hone
  obtain ⟨K0, hK0⟩ : ∃ K0, K0 = K := ⟨_, rfl⟩
  subst hK0
  have hwh : (m.whole == hashB K0 s) = true := by rw [Hown.out.whole]; simp
  have heq : ∀ W : World, (Op.equalIn 10000 24 (.agg (byV m.whole).toArray) (.agg (digV (hashB K0 s)))).run Tryd.prog W = .ok true W := fun W => by
    rw [← hwh]; exact eqIn_dig W m.whole (hashB K0 s) hmw32 (hashB_length K0 s)
  have hl5 : s.length ≤ 512 := by rw [Hs.out]; omega
  have hf1 : fitsS K0 m 1 (chunk s 1) = true := Hown.out.fits_own hl5 1 (by rw [Hn.out]; omega)
  have hf0 : fitsS K0 m 0 (chunk s 1) = false := by
    have h := Hown.out.fits hl5 0 (by rw [Hn.out]; omega) (chunk s 1)
    rw [hc1, hc0] at h
    simpa using h
  have hgood := Hown.out.good hl5
  have dund := Tryd.underlying24
  have dinfo : (Tryd.prog.info? 24).map (·.size) = some (byV m.whole).length := by rw [dig_info, byV_length, hmw32]
  have mund := Tryd.underlying27
  have minfo : (Tryd.prog.info? 27).map (·.size) = some m.cells.length := by rw [mani_info]; have := m.row_size hmw32; simp only [ManiD.row, List.size_toArray] at this; rw [this]
  clear hwh
  go_upto_region 5 with fail
  refine wp_region_held_drew (S := fun w' => Below w4.heap.size w4 w') (by kernel_rfl) ((Below.refl _ _).drew) (fun hHeld => ?_)
  refine wpAnyH_take (i := 0) (v := ?_) rfl (by kernel_rfl) (by kernel_rfl) (by kernel_rfl) (fun _ _ _ h => h) (Or.inl ⟨by kernel_rfl, ?_⟩) hHeld ?_
  rotate_left 1
  · intro w hSw
    go_simp
    try with_reducible rfl
  try simp only [Act.put, List.getElem_toArray, List.getElem_cons_zero, List.getElem_cons_succ, List.setIfInBounds_toArray, List.set_cons_zero, List.set_cons_succ]
  refine wpAnyH_take (i := 1) (v := ?_) rfl (by kernel_rfl) (by kernel_rfl) (by kernel_rfl) (fun _ _ _ h => h) (Or.inl ⟨by kernel_rfl, ?_⟩) hHeld ?_
  rotate_left 1
  · intro w hSw
    go_simp
    try with_reducible rfl
  try simp only [Act.put, List.getElem_toArray, List.getElem_cons_zero, List.getElem_cons_succ, List.setIfInBounds_toArray, List.set_cons_zero, List.set_cons_succ]
  refine wpAnyH_take (i := 2) (v := ?_) rfl (by kernel_rfl) (by kernel_rfl) (by kernel_rfl) (fun _ _ _ h => h) (Or.inl ⟨by kernel_rfl, ?_⟩) hHeld ?_
  rotate_left 1
  · intro w hSw
    go_simp
    try with_reducible rfl
  try simp only [Act.put, List.getElem_toArray, List.getElem_cons_zero, List.getElem_cons_succ, List.setIfInBounds_toArray, List.set_cons_zero, List.set_cons_succ]
  refine wpAnyH_take (i := 3) (v := ?_) rfl (by kernel_rfl) (by kernel_rfl) (by kernel_rfl) (fun _ _ _ h => h) (Or.inl ⟨by kernel_rfl, ?_⟩) hHeld ?_
  rotate_left 1
  · intro w hSw
    go_simp
    try with_reducible rfl
  try simp only [Act.put, List.getElem_toArray, List.getElem_cons_zero, List.getElem_cons_succ, List.setIfInBounds_toArray, List.set_cons_zero, List.set_cons_succ]
  refine wpAnyH_take (i := 4) (v := ?_) rfl (by kernel_rfl) (by kernel_rfl) (by kernel_rfl) (fun _ _ _ h => h) (Or.inl ⟨by kernel_rfl, ?_⟩) hHeld ?_
  rotate_left 1
  · intro w hSw
    go_simp
    try with_reducible rfl
  try simp only [Act.put, List.getElem_toArray, List.getElem_cons_zero, List.getElem_cons_succ, List.setIfInBounds_toArray, List.set_cons_zero, List.set_cons_succ]
  refine wpAnyH_take (i := 5) (v := ?_) rfl (by kernel_rfl) (by kernel_rfl) (by kernel_rfl) (fun _ _ _ h => h) (Or.inl ⟨by kernel_rfl, ?_⟩) hHeld ?_
  rotate_left 1
  · intro w hSw
    go_simp
    try with_reducible rfl
  try simp only [Act.put, List.getElem_toArray, List.getElem_cons_zero, List.getElem_cons_succ, List.setIfInBounds_toArray, List.set_cons_zero, List.set_cons_succ]
  refine wpAnyH_take (i := 6) (v := ?_) rfl (by kernel_rfl) (by kernel_rfl) (by kernel_rfl) (fun _ _ _ h => h) (Or.inl ⟨by kernel_rfl, ?_⟩) hHeld ?_
  rotate_left 1
  · intro w hSw
    have f0 := (hSw.cell (p := ⟨g, 0, none⟩) hgl4).trans l0
    have f1 := (hSw.cell (p := ⟨g, 1, none⟩) hgl4).trans l1
    have f32 := (hSw.cell (p := ⟨p, 32, none⟩) hp4).trans c32
    have f33 := (hSw.cell (p := ⟨p, 33, none⟩) hp4).trans c33
    go_simp
    try with_reducible rfl
  try simp only [Act.put, List.getElem_toArray, List.getElem_cons_zero, List.getElem_cons_succ, List.setIfInBounds_toArray, List.set_cons_zero, List.set_cons_succ]
  refine wpAnyH_take (i := 7) (v := ?_) rfl (by kernel_rfl) (by kernel_rfl) (by kernel_rfl) (fun _ _ _ h => h) (Or.inl ⟨by kernel_rfl, ?_⟩) hHeld ?_
  rotate_left 1
  · intro w hSw
    go_simp
    try with_reducible rfl
  try simp only [Act.put, List.getElem_toArray, List.getElem_cons_zero, List.getElem_cons_succ, List.setIfInBounds_toArray, List.set_cons_zero, List.set_cons_succ]
  refine wpAnyH_take (i := 8) (v := ?_) rfl (by kernel_rfl) (by kernel_rfl) (by kernel_rfl) (fun _ _ _ h => h) (Or.inl ⟨by kernel_rfl, ?_⟩) hHeld ?_
  rotate_left 1
  · intro w hSw
    go_simp
    try with_reducible rfl
  try simp only [Act.put, List.getElem_toArray, List.getElem_cons_zero, List.getElem_cons_succ, List.setIfInBounds_toArray, List.set_cons_zero, List.set_cons_succ]
  refine wpAnyH_take (i := 9) (v := ?_) rfl (by kernel_rfl) (by kernel_rfl) (by kernel_rfl) (fun _ _ _ h => h) (Or.inl ⟨by kernel_rfl, ?_⟩) hHeld ?_
  rotate_left 1
  · intro w hSw
    go_simp
    try with_reducible rfl
  try simp only [Act.put, List.getElem_toArray, List.getElem_cons_zero, List.getElem_cons_succ, List.setIfInBounds_toArray, List.set_cons_zero, List.set_cons_succ]
  refine wpAnyH_take (i := 10) (v := ?_) rfl (by kernel_rfl) (by kernel_rfl) (by kernel_rfl) (fun _ _ _ h => h) (Or.inl ⟨by kernel_rfl, ?_⟩) hHeld ?_
  rotate_left 1
  · intro w hSw
    go_simp
    try with_reducible rfl
  try simp only [Act.put, List.getElem_toArray, List.getElem_cons_zero, List.getElem_cons_succ, List.setIfInBounds_toArray, List.set_cons_zero, List.set_cons_succ]
  refine wpAnyH_take (i := 11) (v := ?_) rfl (by kernel_rfl) (by kernel_rfl) (by kernel_rfl) (fun _ _ _ h => h) (Or.inl ⟨by kernel_rfl, ?_⟩) hHeld ?_
  rotate_left 1
  · intro w hSw
    go_simp
    try with_reducible rfl
  try simp only [Act.put, List.getElem_toArray, List.getElem_cons_zero, List.getElem_cons_succ, List.setIfInBounds_toArray, List.set_cons_zero, List.set_cons_succ]
  refine wpAnyH_take (i := 12) (v := ?_) rfl (by kernel_rfl) (by kernel_rfl) (by kernel_rfl) (fun _ _ _ h => h) (Or.inl ⟨by kernel_rfl, ?_⟩) hHeld ?_
  rotate_left 1
  · intro w hSw
    go_simp
    try with_reducible rfl
  try simp only [Act.put, List.getElem_toArray, List.getElem_cons_zero, List.getElem_cons_succ, List.setIfInBounds_toArray, List.set_cons_zero, List.set_cons_succ]
  refine wpAnyH_take (i := 13) (v := ?_) rfl (by kernel_rfl) (by kernel_rfl) (by kernel_rfl) (fun _ _ _ h => h) (Or.inl ⟨by kernel_rfl, ?_⟩) hHeld ?_
  rotate_left 1
  · intro w hSw
    go_simp
    try with_reducible rfl
  try simp only [Act.put, List.getElem_toArray, List.getElem_cons_zero, List.getElem_cons_succ, List.setIfInBounds_toArray, List.set_cons_zero, List.set_cons_succ]
  refine wpAnyH_take (i := 14) (v := ?_) rfl (by kernel_rfl) (by kernel_rfl) (by kernel_rfl) (fun _ _ _ h => h) (Or.inl ⟨by kernel_rfl, ?_⟩) hHeld ?_
  rotate_left 1
  · intro w hSw
    go_simp
    try with_reducible rfl
  try simp only [Act.put, List.getElem_toArray, List.getElem_cons_zero, List.getElem_cons_succ, List.setIfInBounds_toArray, List.set_cons_zero, List.set_cons_succ]
  refine wpAnyH_take (i := 15) (v := ?_) rfl (by kernel_rfl) (by kernel_rfl) (by kernel_rfl) (fun _ _ _ h => h) (Or.inl ⟨by kernel_rfl, ?_⟩) hHeld ?_
  rotate_left 1
  · intro w hSw
    go_simp
    try with_reducible rfl
  try simp only [Act.put, List.getElem_toArray, List.getElem_cons_zero, List.getElem_cons_succ, List.setIfInBounds_toArray, List.set_cons_zero, List.set_cons_succ]
  refine wpAnyH_take (i := 16) (v := ?_) rfl (by kernel_rfl) (by kernel_rfl) (by kernel_rfl) (fun _ _ _ h => h) (Or.inl ⟨by kernel_rfl, ?_⟩) hHeld ?_
  rotate_left 1
  · intro w hSw
    have f0 := (hSw.cell (p := ⟨g, 0, none⟩) hgl4).trans l0
    have f1 := (hSw.cell (p := ⟨g, 1, none⟩) hgl4).trans l1
    have f32 := (hSw.cell (p := ⟨p, 32, none⟩) hp4).trans c32
    have f33 := (hSw.cell (p := ⟨p, 33, none⟩) hp4).trans c33
    go_simp
    try with_reducible rfl
  try simp only [Act.put, List.getElem_toArray, List.getElem_cons_zero, List.getElem_cons_succ, List.setIfInBounds_toArray, List.set_cons_zero, List.set_cons_succ]
  refine wpAnyH_take (i := 17) (v := ?_) rfl (by kernel_rfl) (by kernel_rfl) (by kernel_rfl) (fun _ _ _ h => h) (Or.inl ⟨by kernel_rfl, ?_⟩) hHeld ?_
  rotate_left 1
  · intro w hSw
    go_simp
    try with_reducible rfl
  try simp only [Act.put, List.getElem_toArray, List.getElem_cons_zero, List.getElem_cons_succ, List.setIfInBounds_toArray, List.set_cons_zero, List.set_cons_succ]
  refine wpAnyH_take (i := 18) (v := ?_) rfl (by kernel_rfl) (by kernel_rfl) (by kernel_rfl) (fun _ _ _ h => h) (Or.inl ⟨by kernel_rfl, ?_⟩) hHeld ?_
  rotate_left 1
  · intro w hSw
    go_simp
    try with_reducible rfl
  try simp only [Act.put, List.getElem_toArray, List.getElem_cons_zero, List.getElem_cons_succ, List.setIfInBounds_toArray, List.set_cons_zero, List.set_cons_succ]
  refine wpAnyH_take (i := 19) (v := ?_) rfl (by kernel_rfl) (by kernel_rfl) (by kernel_rfl) (fun _ _ _ h => h) (Or.inl ⟨by kernel_rfl, ?_⟩) hHeld ?_
  rotate_left 1
  · intro w hSw
    go_simp
    try with_reducible rfl
  try simp only [Act.put, List.getElem_toArray, List.getElem_cons_zero, List.getElem_cons_succ, List.setIfInBounds_toArray, List.set_cons_zero, List.set_cons_succ]
  refine wpAnyH_take (i := 20) (v := ?_) rfl (by kernel_rfl) (by kernel_rfl) (by kernel_rfl) (fun _ _ _ h => h) (Or.inl ⟨by kernel_rfl, ?_⟩) hHeld ?_
  rotate_left 1
  · intro w hSw
    go_simp
    try with_reducible rfl
  try simp only [Act.put, List.getElem_toArray, List.getElem_cons_zero, List.getElem_cons_succ, List.setIfInBounds_toArray, List.set_cons_zero, List.set_cons_succ]
  refine wpAnyH_take (i := 21) (v := ?_) rfl (by kernel_rfl) (by kernel_rfl) (by kernel_rfl) (fun _ _ _ h => h) (Or.inl ⟨by kernel_rfl, ?_⟩) hHeld ?_
  rotate_left 1
  · intro w hSw
    have f0 := (hSw.cell (p := ⟨g, 0, none⟩) hgl4).trans l0
    have f1 := (hSw.cell (p := ⟨g, 1, none⟩) hgl4).trans l1
    have f32 := (hSw.cell (p := ⟨p, 32, none⟩) hp4).trans c32
    have f33 := (hSw.cell (p := ⟨p, 33, none⟩) hp4).trans c33
    go_simp
    try with_reducible rfl
  try simp only [Act.put, List.getElem_toArray, List.getElem_cons_zero, List.getElem_cons_succ, List.setIfInBounds_toArray, List.set_cons_zero, List.set_cons_succ]
  refine wpAnyH_take (i := 22) (v := ?_) rfl (by kernel_rfl) (by kernel_rfl) (by kernel_rfl) (fun _ _ _ h => h) (Or.inl ⟨by kernel_rfl, ?_⟩) hHeld ?_
  rotate_left 1
  · intro w hSw
    go_simp
    try with_reducible rfl
  try simp only [Act.put, List.getElem_toArray, List.getElem_cons_zero, List.getElem_cons_succ, List.setIfInBounds_toArray, List.set_cons_zero, List.set_cons_succ]
  refine wpAnyH_take (i := 23) (v := ?_) rfl (by kernel_rfl) (by kernel_rfl) (by kernel_rfl) (fun _ _ _ h => h) (Or.inl ⟨by kernel_rfl, ?_⟩) hHeld ?_
  rotate_left 1
  · intro w hSw
    go_simp
    try with_reducible rfl
  try simp only [Act.put, List.getElem_toArray, List.getElem_cons_zero, List.getElem_cons_succ, List.setIfInBounds_toArray, List.set_cons_zero, List.set_cons_succ]
  refine wpAnyH_take (i := 24) (v := ?_) rfl (by kernel_rfl) (by kernel_rfl) (by kernel_rfl) (fun _ _ _ h => h) (Or.inl ⟨by kernel_rfl, ?_⟩) hHeld ?_
  rotate_left 1
  · intro w hSw
    go_simp
    try with_reducible rfl
  try simp only [Act.put, List.getElem_toArray, List.getElem_cons_zero, List.getElem_cons_succ, List.setIfInBounds_toArray, List.set_cons_zero, List.set_cons_succ]
  refine wpAnyH_take (i := 25) (v := ?_) rfl (by kernel_rfl) (by kernel_rfl) (by kernel_rfl) (fun _ _ _ h => h) (Or.inl ⟨by kernel_rfl, ?_⟩) hHeld ?_
  rotate_left 1
  · intro w hSw
    go_simp
    try with_reducible rfl
  try simp only [Act.put, List.getElem_toArray, List.getElem_cons_zero, List.getElem_cons_succ, List.setIfInBounds_toArray, List.set_cons_zero, List.set_cons_succ]
  refine wpAnyH_take (i := 26) (v := ?_) rfl (by kernel_rfl) (by kernel_rfl) (by kernel_rfl) (fun _ _ _ h => h) (Or.inl ⟨by kernel_rfl, ?_⟩) hHeld ?_
  rotate_left 1
  · intro w hSw
    go_simp
    try with_reducible rfl
  try simp only [Act.put, List.getElem_toArray, List.getElem_cons_zero, List.getElem_cons_succ, List.setIfInBounds_toArray, List.set_cons_zero, List.set_cons_succ]
  refine wpAnyH_take (i := 27) (v := _) rfl (by kernel_rfl) (by kernel_rfl) (by kernel_rfl) (fun _ _ _ h => h) (yieldsIf_load_mid (by kernel_rfl) _ _ rfl _ _ rfl (byV m.whole) _ (fun W hW => range_below rw_ hW hp4) dund rfl dinfo) hHeld ?_
  try simp only [Act.put, List.getElem_toArray, List.getElem_cons_zero, List.getElem_cons_succ, List.setIfInBounds_toArray, List.set_cons_zero, List.set_cons_succ]
  refine wpAnyH_take (i := 28) (v := ?_) rfl (by kernel_rfl) (by kernel_rfl) (by kernel_rfl) (fun _ _ _ h => h) (Or.inl ⟨by kernel_rfl, ?_⟩) hHeld ?_
  rotate_left 1
  · intro w hSw
    go_simp
    try with_reducible rfl
  try simp only [Act.put, List.getElem_toArray, List.getElem_cons_zero, List.getElem_cons_succ, List.setIfInBounds_toArray, List.set_cons_zero, List.set_cons_succ]
  refine wpAnyH_ready (rs := [29]) (by kernel_rfl) (by simp) ?_
  refine AllReadyH.cons rfl (fun K hK => ?_) ?_
  rotate_left 1
  · exact AllReadyH.nil
  go_simp
  refine hK.out _ _ ((hHeld).alloc (by have := (hHeld).size; omega) _) (fun hH29 => ?_)
  clear hK K
  try simp only [Act.put, List.getElem_toArray, List.getElem_cons_zero, List.getElem_cons_succ, List.setIfInBounds_toArray, List.set_cons_zero, List.set_cons_succ]
  refine wpAnyH_ready (rs := [30]) (by kernel_rfl) (by simp) ?_
  refine AllReadyH.cons rfl (fun K hK => ?_) ?_
  rotate_left 1
  · exact AllReadyH.nil
  go_simp
  refine (of_hash K0 _ 1 s _ ((HL4.out.drew).alloc _) (fts_new w4.drew s _) (by rw [Hs.out]; omega)).mono ?_
  rintro e w' ⟨rfl, hB30⟩
  refine hK.out _ _ ((hH29).trans (hB30.mono (hH29).size)) (fun hH30 => ?_)
  clear hK K
  try simp only [Act.put, List.getElem_toArray, List.getElem_cons_zero, List.getElem_cons_succ, List.setIfInBounds_toArray, List.set_cons_zero, List.set_cons_succ]
  refine wpAnyH_take (i := 31) (v := ?_) rfl (by kernel_rfl) (by kernel_rfl) (by kernel_rfl) (fun _ _ _ h => h) (Or.inl ⟨by kernel_rfl, ?_⟩) hH30 ?_
  rotate_left 1
  · intro w hSw
    go_simp
    try with_reducible rfl
  try simp only [Act.put, List.getElem_toArray, List.getElem_cons_zero, List.getElem_cons_succ, List.setIfInBounds_toArray, List.set_cons_zero, List.set_cons_succ]
  refine wpAnyH_take (i := 32) (v := ?_) rfl (by kernel_rfl) (by kernel_rfl) (by kernel_rfl) (fun _ _ _ h => h) (Or.inl ⟨by kernel_rfl, ?_⟩) hH30 ?_
  rotate_left 1
  · intro w hSw
    go_simp
    try with_reducible rfl
  try simp only [Act.put, List.getElem_toArray, List.getElem_cons_zero, List.getElem_cons_succ, List.setIfInBounds_toArray, List.set_cons_zero, List.set_cons_succ]
  refine wpAnyH_take (i := 33) (v := ?_) rfl (by kernel_rfl) (by kernel_rfl) (by kernel_rfl) (fun _ _ _ h => h) (Or.inl ⟨by kernel_rfl, ?_⟩) hH30 ?_
  rotate_left 1
  · intro w hSw
    go_simp
    try with_reducible rfl
  try simp only [Act.put, List.getElem_toArray, List.getElem_cons_zero, List.getElem_cons_succ, List.setIfInBounds_toArray, List.set_cons_zero, List.set_cons_succ]
  refine wpAnyH_take (i := 34) (v := _) rfl (by kernel_rfl) (by kernel_rfl) (by kernel_rfl) (fun _ _ _ h => h) (yieldsIf_load_mid (by kernel_rfl) _ _ rfl _ _ rfl m.cells _ (fun W hW => range_below rm_ hW hp4) mund rfl minfo) hH30 ?_
  try simp only [Act.put, List.getElem_toArray, List.getElem_cons_zero, List.getElem_cons_succ, List.setIfInBounds_toArray, List.set_cons_zero, List.set_cons_succ]
  refine wpAnyH_take (i := 35) (v := ?_) rfl (by kernel_rfl) (by kernel_rfl) (by kernel_rfl) (fun _ _ _ h => h) (Or.inl ⟨by kernel_rfl, ?_⟩) hH30 ?_
  rotate_left 1
  · intro w hSw
    go_simp
    try with_reducible rfl
  try simp only [Act.put, List.getElem_toArray, List.getElem_cons_zero, List.getElem_cons_succ, List.setIfInBounds_toArray, List.set_cons_zero, List.set_cons_succ]
  refine wpAnyH_take (i := 36) (v := ?_) rfl (by kernel_rfl) (by kernel_rfl) (by kernel_rfl) (fun _ _ _ h => h) (Or.inl ⟨by kernel_rfl, ?_⟩) hH30 ?_
  rotate_left 1
  · intro w hSw
    go_simp
    try with_reducible rfl
  try simp only [Act.put, List.getElem_toArray, List.getElem_cons_zero, List.getElem_cons_succ, List.setIfInBounds_toArray, List.set_cons_zero, List.set_cons_succ]
  refine wpAnyH_take (i := 37) (v := ?_) rfl (by kernel_rfl) (by kernel_rfl) (by kernel_rfl) (fun _ _ _ h => h) (Or.inl ⟨by kernel_rfl, ?_⟩) hH30 ?_
  rotate_left 1
  · intro w hSw
    have f0 := (hSw.cell (p := ⟨g, 0, none⟩) hgl4).trans l0
    have f1 := (hSw.cell (p := ⟨g, 1, none⟩) hgl4).trans l1
    have f32 := (hSw.cell (p := ⟨p, 32, none⟩) hp4).trans c32
    have f33 := (hSw.cell (p := ⟨p, 33, none⟩) hp4).trans c33
    go_simp
    try with_reducible rfl
  try simp only [Act.put, List.getElem_toArray, List.getElem_cons_zero, List.getElem_cons_succ, List.setIfInBounds_toArray, List.set_cons_zero, List.set_cons_succ]
  refine wpAnyH_ready (rs := [38]) (by kernel_rfl) (by simp) ?_
  refine AllReadyH.cons rfl (fun K hK => ?_) ?_
  rotate_left 1
  · exact AllReadyH.nil
  go_simp
  refine (fits_any K0 m 1 (chunk s 1) _ (HL4.out.below hH30) ((Hm4.out.below hH30 (Nat.le_refl _)).more (hH30).size) (by omega) (by omega) (by omega)).mono ?_
  rintro e w' ⟨rfl, hB38⟩
  rw [hf1]
  refine hK.out _ _ ((hH30).trans (hB38.mono (hH30).size)) (fun hH38 => ?_)
  clear hK K
  try simp only [Act.put, List.getElem_toArray, List.getElem_cons_zero, List.getElem_cons_succ, List.setIfInBounds_toArray, List.set_cons_zero, List.set_cons_succ]
  refine wpAnyH_take (i := 39) (v := ?_) rfl (by kernel_rfl) (by kernel_rfl) (by kernel_rfl) (fun _ _ _ h => h) (Or.inl ⟨by kernel_rfl, ?_⟩) hH38 ?_
  rotate_left 1
  · intro w hSw
    go_simp
    try with_reducible rfl
  try simp only [Act.put, List.getElem_toArray, List.getElem_cons_zero, List.getElem_cons_succ, List.setIfInBounds_toArray, List.set_cons_zero, List.set_cons_succ]
  refine wpAnyH_take (i := 40) (v := ?_) rfl (by kernel_rfl) (by kernel_rfl) (by kernel_rfl) (fun _ _ _ h => h) (Or.inl ⟨by kernel_rfl, ?_⟩) hH38 ?_
  rotate_left 1
  · intro w hSw
    go_simp
    try with_reducible rfl
  try simp only [Act.put, List.getElem_toArray, List.getElem_cons_zero, List.getElem_cons_succ, List.setIfInBounds_toArray, List.set_cons_zero, List.set_cons_succ]
  refine wpAnyH_take (i := 41) (v := _) rfl (by kernel_rfl) (by kernel_rfl) (by kernel_rfl) (fun _ _ _ h => h) (yieldsIf_load_mid (by kernel_rfl) _ _ rfl _ _ rfl m.cells _ (fun W hW => range_below rm_ hW hp4) mund rfl minfo) hH38 ?_
  try simp only [Act.put, List.getElem_toArray, List.getElem_cons_zero, List.getElem_cons_succ, List.setIfInBounds_toArray, List.set_cons_zero, List.set_cons_succ]
  refine wpAnyH_take (i := 42) (v := ?_) rfl (by kernel_rfl) (by kernel_rfl) (by kernel_rfl) (fun _ _ _ h => h) (Or.inl ⟨by kernel_rfl, ?_⟩) hH38 ?_
  rotate_left 1
  · intro w hSw
    go_simp
    try with_reducible rfl
  try simp only [Act.put, List.getElem_toArray, List.getElem_cons_zero, List.getElem_cons_succ, List.setIfInBounds_toArray, List.set_cons_zero, List.set_cons_succ]
  refine wpAnyH_take (i := 43) (v := ?_) rfl (by kernel_rfl) (by kernel_rfl) (by kernel_rfl) (fun _ _ _ h => h) (Or.inl ⟨by kernel_rfl, ?_⟩) hH38 ?_
  rotate_left 1
  · intro w hSw
    go_simp
    try with_reducible rfl
  try simp only [Act.put, List.getElem_toArray, List.getElem_cons_zero, List.getElem_cons_succ, List.setIfInBounds_toArray, List.set_cons_zero, List.set_cons_succ]
  refine wpAnyH_take (i := 44) (v := ?_) rfl (by kernel_rfl) (by kernel_rfl) (by kernel_rfl) (fun _ _ _ h => h) (Or.inl ⟨by kernel_rfl, ?_⟩) hH38 ?_
  rotate_left 1
  · intro w hSw
    have f0 := (hSw.cell (p := ⟨g, 0, none⟩) hgl4).trans l0
    have f1 := (hSw.cell (p := ⟨g, 1, none⟩) hgl4).trans l1
    have f32 := (hSw.cell (p := ⟨p, 32, none⟩) hp4).trans c32
    have f33 := (hSw.cell (p := ⟨p, 33, none⟩) hp4).trans c33
    go_simp
    try with_reducible rfl
  try simp only [Act.put, List.getElem_toArray, List.getElem_cons_zero, List.getElem_cons_succ, List.setIfInBounds_toArray, List.set_cons_zero, List.set_cons_succ]
  refine wpAnyH_ready (rs := [45]) (by kernel_rfl) (by simp) ?_
  refine AllReadyH.cons rfl (fun K hK => ?_) ?_
  rotate_left 1
  · exact AllReadyH.nil
  go_simp
  refine (fits_any K0 m 0 (chunk s 1) _ (HL4.out.below hH38) ((Hm4.out.below hH38 (Nat.le_refl _)).more (hH38).size) (by omega) (by omega) (by omega)).mono ?_
  rintro e w' ⟨rfl, hB45⟩
  rw [hf0]
  refine hK.out _ _ ((hH38).trans (hB45.mono (hH38).size)) (fun hH45 => ?_)
  clear hK K
  try simp only [Act.put, List.getElem_toArray, List.getElem_cons_zero, List.getElem_cons_succ, List.setIfInBounds_toArray, List.set_cons_zero, List.set_cons_succ]
  refine wpAnyH_take (i := 46) (v := ?_) rfl (by kernel_rfl) (by kernel_rfl) (by kernel_rfl) (fun _ _ _ h => h) (Or.inl ⟨by kernel_rfl, ?_⟩) hH45 ?_
  rotate_left 1
  · intro w hSw
    go_simp
    try with_reducible rfl
  try simp only [Act.put, List.getElem_toArray, List.getElem_cons_zero, List.getElem_cons_succ, List.setIfInBounds_toArray, List.set_cons_zero, List.set_cons_succ]
  refine wpAnyH_take (i := 47) (v := ?_) rfl (by kernel_rfl) (by kernel_rfl) (by kernel_rfl) (fun _ _ _ h => h) (Or.inl ⟨by kernel_rfl, ?_⟩) hH45 ?_
  rotate_left 1
  · intro w hSw
    go_simp
    try with_reducible rfl
  try simp only [Act.put, List.getElem_toArray, List.getElem_cons_zero, List.getElem_cons_succ, List.setIfInBounds_toArray, List.set_cons_zero, List.set_cons_succ]
  refine wpAnyH_take (i := 48) (v := ?_) rfl (by kernel_rfl) (by kernel_rfl) (by kernel_rfl) (fun _ _ _ h => h) (Or.inl ⟨by kernel_rfl, ?_⟩) hH45 ?_
  rotate_left 1
  · intro w hSw
    go_simp
    try with_reducible rfl
  try simp only [Act.put, List.getElem_toArray, List.getElem_cons_zero, List.getElem_cons_succ, List.setIfInBounds_toArray, List.set_cons_zero, List.set_cons_succ]
  refine wpAnyH_take (i := 49) (v := ?_) rfl (by kernel_rfl) (by kernel_rfl) (by kernel_rfl) (fun _ _ _ h => h) (Or.inl ⟨by kernel_rfl, ?_⟩) hH45 ?_
  rotate_left 1
  · intro w hSw
    go_simp
    try with_reducible rfl
  try simp only [Act.put, List.getElem_toArray, List.getElem_cons_zero, List.getElem_cons_succ, List.setIfInBounds_toArray, List.set_cons_zero, List.set_cons_succ]
  refine wpAnyH_take (i := 50) (v := ?_) rfl (by kernel_rfl) (by kernel_rfl) (by kernel_rfl) (fun _ _ _ h => h) (Or.inl ⟨by kernel_rfl, ?_⟩) hH45 ?_
  rotate_left 1
  · intro w hSw
    go_simp
    try with_reducible rfl
  try simp only [Act.put, List.getElem_toArray, List.getElem_cons_zero, List.getElem_cons_succ, List.setIfInBounds_toArray, List.set_cons_zero, List.set_cons_succ]
  refine wpAnyH_take (i := 51) (v := ?_) rfl (by kernel_rfl) (by kernel_rfl) (by kernel_rfl) (fun _ _ _ h => h) (Or.inl ⟨by kernel_rfl, ?_⟩) hH45 ?_
  rotate_left 1
  · intro w hSw
    go_simp
    try with_reducible rfl
  try simp only [Act.put, List.getElem_toArray, List.getElem_cons_zero, List.getElem_cons_succ, List.setIfInBounds_toArray, List.set_cons_zero, List.set_cons_succ]
  refine wpAnyH_take (i := 52) (v := ?_) rfl (by kernel_rfl) (by kernel_rfl) (by kernel_rfl) (fun _ _ _ h => h) (Or.inl ⟨by kernel_rfl, ?_⟩) hH45 ?_
  rotate_left 1
  · intro w hSw
    go_simp
    try with_reducible rfl
  try simp only [Act.put, List.getElem_toArray, List.getElem_cons_zero, List.getElem_cons_succ, List.setIfInBounds_toArray, List.set_cons_zero, List.set_cons_succ]
  refine wpAnyH_take (i := 53) (v := ?_) rfl (by kernel_rfl) (by kernel_rfl) (by kernel_rfl) (fun _ _ _ h => h) (Or.inl ⟨by kernel_rfl, ?_⟩) hH45 ?_
  rotate_left 1
  · intro w hSw
    go_simp
    try with_reducible rfl
  try simp only [Act.put, List.getElem_toArray, List.getElem_cons_zero, List.getElem_cons_succ, List.setIfInBounds_toArray, List.set_cons_zero, List.set_cons_succ]
  refine wpAnyH_take (i := 54) (v := ?_) rfl (by kernel_rfl) (by kernel_rfl) (by kernel_rfl) (fun _ _ _ h => h) (Or.inl ⟨by kernel_rfl, ?_⟩) hH45 ?_
  rotate_left 1
  · intro w hSw
    go_simp
    try with_reducible rfl
  try simp only [Act.put, List.getElem_toArray, List.getElem_cons_zero, List.getElem_cons_succ, List.setIfInBounds_toArray, List.set_cons_zero, List.set_cons_succ]
  refine wpAnyH_take (i := 55) (v := ?_) rfl (by kernel_rfl) (by kernel_rfl) (by kernel_rfl) (fun _ _ _ h => h) (Or.inl ⟨by kernel_rfl, ?_⟩) hH45 ?_
  rotate_left 1
  · intro w hSw
    go_simp
    try with_reducible rfl
  try simp only [Act.put, List.getElem_toArray, List.getElem_cons_zero, List.getElem_cons_succ, List.setIfInBounds_toArray, List.set_cons_zero, List.set_cons_succ]
  refine wpAnyH_take (i := 56) (v := ?_) rfl (by kernel_rfl) (by kernel_rfl) (by kernel_rfl) (fun _ _ _ h => h) (Or.inl ⟨by kernel_rfl, ?_⟩) hH45 ?_
  rotate_left 1
  · intro w hSw
    go_simp
    try with_reducible rfl
  try simp only [Act.put, List.getElem_toArray, List.getElem_cons_zero, List.getElem_cons_succ, List.setIfInBounds_toArray, List.set_cons_zero, List.set_cons_succ]
  refine wpAnyH_take (i := 57) (v := ?_) rfl (by kernel_rfl) (by kernel_rfl) (by kernel_rfl) (fun _ _ _ h => h) (Or.inl ⟨by kernel_rfl, ?_⟩) hH45 ?_
  rotate_left 1
  · intro w hSw
    go_simp
    try with_reducible rfl
  try simp only [Act.put, List.getElem_toArray, List.getElem_cons_zero, List.getElem_cons_succ, List.setIfInBounds_toArray, List.set_cons_zero, List.set_cons_succ]
  refine wpAnyH_take (i := 58) (v := _) rfl (by kernel_rfl) (by kernel_rfl) (by kernel_rfl) (fun _ _ _ h => h) (yieldsIf_load_mid (by kernel_rfl) _ _ rfl _ _ rfl m.cells _ (fun W hW => range_below rm_ hW hp4) mund rfl minfo) hH45 ?_
  try simp only [Act.put, List.getElem_toArray, List.getElem_cons_zero, List.getElem_cons_succ, List.setIfInBounds_toArray, List.set_cons_zero, List.set_cons_succ]
  refine wpAnyH_ready (rs := [59]) (by kernel_rfl) (by simp) ?_
  refine AllReadyH.cons rfl (fun K hK => ?_) ?_
  rotate_left 1
  · exact AllReadyH.nil
  go_simp
  refine (good_any m _ hmw32 Hm4.out.lo Hm4.out.hi Hm4.out.len).mono ?_
  rintro e w' ⟨rfl, hB59⟩
  rw [hgood]
  refine hK.out _ _ ((hH45).trans (hB59.mono (hH45).size)) (fun hH59 => ?_)
  clear hK K
  try simp only [Act.put, List.getElem_toArray, List.getElem_cons_zero, List.getElem_cons_succ, List.setIfInBounds_toArray, List.set_cons_zero, List.set_cons_succ]
  refine wpAnyH_take (i := 60) (v := ?_) rfl (by kernel_rfl) (by kernel_rfl) (by kernel_rfl) (fun _ _ _ h => h) (Or.inl ⟨by kernel_rfl, ?_⟩) hH59 ?_
  rotate_left 1
  · intro w hSw
    go_simp
    try with_reducible rfl
  try simp only [Act.put, List.getElem_toArray, List.getElem_cons_zero, List.getElem_cons_succ, List.setIfInBounds_toArray, List.set_cons_zero, List.set_cons_succ]
  refine wpAnyH_take (i := 61) (v := ?_) rfl (by kernel_rfl) (by kernel_rfl) (by kernel_rfl) (fun _ _ _ h => h) (Or.inl ⟨by kernel_rfl, ?_⟩) hH59 ?_
  rotate_left 1
  · intro w hSw
    go_simp
    try with_reducible rfl
  try simp only [Act.put, List.getElem_toArray, List.getElem_cons_zero, List.getElem_cons_succ, List.setIfInBounds_toArray, List.set_cons_zero, List.set_cons_succ]
  refine wpAnyH_done (by kernel_rfl) ?_ _
  --@end awake
  have HH := Lib.hid hH59
  clear hH59
  go_wp2_with fail
  go_ret
  exact ⟨rfl, HB4.out.trans (HH.out.mono HB4.out.size)⟩
end Go.Proofs.YtokdnfhglckpkaaDoor
