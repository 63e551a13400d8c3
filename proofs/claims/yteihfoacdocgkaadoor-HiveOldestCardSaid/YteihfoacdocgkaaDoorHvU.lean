/-
  Layer 5 (hive): the walk of PutBlob over a store in general: a blob that is too long, one that is there, one that is put.
-/
import Derived.Test.YteihfoacdocgkaaDoorHvT
set_option linter.unusedVariables false
set_option linter.unusedSimpArgs false
namespace Go.Proofs.YteihfoacdocgkaaDoor
open Go.RowKit Pl Sh
attribute [local go_sem] Lb.ba_get Lb.ba_cut Lb.ba_add Lb.ba_size Lb.take_rest

set_option maxHeartbeats 4000000 in
set_option maxRecDepth 100000 in
theorem gpb_wide (q : HvP) (d : HvD) (b : List UInt8) (K : List Int) (w : World) (hat : HvAt w q d) (hL : Laid K w) (hr : d.ready) (hb : 512 < b.length) :
    Calls Tryd.prog 23 #[.pointer (some ⟨q.p, 0, none⟩), .string ⟨b.toArray⟩] w fun e w' => e = .returned (.tuple #[.agg (digV (List.replicate 32 0)), .int .i64 33]) ∧ Below w.heap.size w w' := by
  have hi : (512 : Int) < (b.length : Int) := by omega
  have hbd := built_dig0
  have hb1 := (Below.refl w.heap.size w).alloc (Nat.le_refl _) (.cells (digV (List.replicate 32 0)) 23)
  have hn0 := heap_alloc_new w (.cells (digV (List.replicate 32 0)) 23)
  have h1 := hat.below hb1
  have hL1 := hL.below hb1
  obtain ⟨w1, hw1⟩ : ∃ y, y = w.alloc (.cells (digV (List.replicate 32 0)) 23) := ⟨_, rfl⟩
  obtain ⟨n0, hn⟩ : ∃ y, y = w.heap.size := ⟨_, rfl⟩
  rw [← hw1] at h1 hn0 hb1 hL1
  rw [← hn] at hn0
  have hrd := Lib.hid (ready_ok q d w1 h1 hr)
  have dund := Tryd.underlying23
  have Hn0 := Lib.hid hn0
  have Hb1 := Lib.hid hb1
  have Hn := Lib.hid hn
  have Hw1 := Lib.hid hw1
  have HAT := Lib.hid hat
  have HL1 := Lib.hid hL1
  have H1 := Lib.hid h1
  obtain ⟨DV, hDV⟩ : ∃ v, v = digV (List.replicate 32 0) := ⟨_, rfl⟩
  have dixA : (Tryd.prog.info? 23).map (·.size) = some DV.size := by rw [hDV, dig_info]; rfl
  have hone : DV.all (·.oneCell') = true := by rw [hDV]; exact digV_one _
  rw [← hDV] at hbd
  have HDV := Lib.hid hDV
  clear hat hr hL hL1 h1 hb1 hn0 hn hw1 hb hDV
  go_enter Tryd.func23, Tryd.ntmps23
  go_upto_region 1 with fail
  show Code.wp _ _ _ _ (w.alloc (.cells (digV (List.replicate 32 0)) 23))
  rw [← Hw1.out, ← Hn.out]
  go_wp2_with fail
  refine hrd.out.mono ?_
  rintro r w2 ⟨rfl, hB2⟩
  have B2 := Lib.hid (Hb1.out.trans (hB2.mono Hb1.out.size))
  have Hn2 := Lib.hid (below_keep hB2 Hn0.out)
  have H2 := Lib.hid (H1.out.below hB2)
  have HL2 := Lib.hid (HL1.out.below hB2)
  clear hB2 hrd
  have hn2 := Hn2.out
  rw [← HDV.out] at hn2
  have Hn2b := Lib.hid hn2
  clear hn2
  go_wp2_with (first
    | (refine wpList_build0' rfl 23 rfl DV hbd ?_)
    | (refine wpList_store_row rfl 23 _ _ rfl n0 DV rfl rfl 23 DV Hn2b.out dixA rfl hone ?_))
  (try simp only [Exit.inBlock, Exit.then])
  refine bodyPost_ret (results_cell_row2 rfl _ _ n0 23 DV (0, 0) _ rfl (setRow_heap _ _ _ _ _ _ Hn2b.out) dund rfl dixA) rfl ?_
  have hB3 : Below w.heap.size w (w2.setRow n0 DV) := B2.out.trans (((Only.refl [n0] w2).setRow (by simp) _).below B2.out.size (by intro x hx; simp at hx; rw [hx, Hn.out]; exact Nat.le_refl _))
  rw [← HDV.out]
  exact ⟨rfl, hB3⟩

set_option maxHeartbeats 4000000 in
set_option maxRecDepth 100000 in
theorem gpb_again (K : List Int) (q : HvP) (d : HvD) (j : Nat) (e : HEnt) (b : List UInt8) (w : World) (hat : HvAt w q d) (hL : Laid K w) (hr : d.ready) (hb : b.length ≤ 512) (hj : d.L[j]? = some e) (e1 : e.isB = true) (e2 : e.id = hashB K b) (hcl : d.clk < 1000000) :
    Calls Tryd.prog 23 #[.pointer (some ⟨q.p, 0, none⟩), .string ⟨b.toArray⟩] w fun r w' => r = .returned (.tuple #[.agg (digV (hashB K b)), .int .i64 0]) ∧ HvAt w' q { d with L := d.L.set j { e with used := ((d.clk + 1 : Nat) : Int) }, clk := d.clk + 1 } ∧ Only (q.own d.L) w w' := by
  have ib : ¬ (512 : Int) < (b.length : Int) := by omega
  obtain ⟨dg, hdg⟩ : ∃ x, x = hashB K b := ⟨_, rfl⟩
  have hdl : dg.length = 32 := by rw [hdg]; exact hashB_length K b
  have hbn := built_name true dg hdl
  obtain ⟨NV, hNV⟩ : ∃ x, x = (Value.bool true :: byV dg).toArray := ⟨_, rfl⟩
  rw [← hNV] at hbn
  have hNs : NV.size = 33 := by rw [hNV]; simp [byV_length, hdl]
  have ndixA : (Tryd.prog.info? 127).map (·.size) = some NV.size := by rw [name_info, hNs]
  have hNone : NV.all (·.oneCell') = true := by rw [hNV, List.all_toArray, List.all_cons, byV_one]; rfl
  obtain ⟨DL, hDL⟩ : ∃ x, x = byV dg := ⟨_, rfl⟩
  have dixL : (Tryd.prog.info? 23).map (·.size) = some DL.length := by rw [hDL, dig_info, byV_length, hdl]
  have dixA : (Tryd.prog.info? 23).map (·.size) = some DL.toArray.size := by rw [dixL]; simp
  have doneA : DL.toArray.all (·.oneCell') = true := by rw [hDL, List.all_toArray, byV_one]
  have dsz : DL.toArray.size = 32 := by rw [hDL]; simp [byV_length, hdl]
  have Hdg := Lib.hid hdg
  have HNV := Lib.hid hNV
  have HDL := Lib.hid hDL
  have Hdl := Lib.hid hdl

  have hb1 := (Below.refl w.heap.size w).alloc (Nat.le_refl _) (.cells (digV (List.replicate 32 0)) 23)
  have hn0 := heap_alloc_new w (.cells (digV (List.replicate 32 0)) 23)
  have h1 := hat.below hb1
  have hL1 := hL.below hb1
  obtain ⟨w1, hw1⟩ : ∃ y, y = w.alloc (.cells (digV (List.replicate 32 0)) 23) := ⟨_, rfl⟩
  obtain ⟨n0, hn⟩ : ∃ y, y = w.heap.size := ⟨_, rfl⟩
  rw [← hw1] at h1 hn0 hb1 hL1
  rw [← hn] at hn0
  have hrd := Lib.hid (ready_ok q d w1 h1 hr)
  have dund := Tryd.underlying23
  have Hn0 := Lib.hid hn0
  have Hb1 := Lib.hid hb1
  have Hn := Lib.hid hn
  have Hw1 := Lib.hid hw1
  have HAT := Lib.hid hat
  have HL1 := Lib.hid hL1
  have H1 := Lib.hid h1
  rw [← hdg] at e2
  have Hj := Lib.hid hj
  have E1 := Lib.hid e1
  have E2 := Lib.hid e2
  have Hown := Lib.hid (own_use (q := q) hj ((d.clk + 1 : Nat) : Int))
  clear hat hr hL hL1 h1 hb1 hn0 hn hw1 hj e1 e2 hdg hNV hDL hdl
  go_enter Tryd.func23, Tryd.ntmps23
  go_upto_region 1 with fail
  show Code.wp _ _ _ _ (w.alloc (.cells (digV (List.replicate 32 0)) 23))
  rw [← Hw1.out, ← Hn.out]
  go_wp2_with fail
  refine hrd.out.mono ?_
  rintro r w2 ⟨rfl, hB2⟩
  have B2 := Lib.hid (Hb1.out.trans (hB2.mono Hb1.out.size))
  have Hn2 := Lib.hid (below_keep hB2 Hn0.out)
  have H2 := Lib.hid (H1.out.below hB2)
  have HL2 := Lib.hid (HL1.out.below hB2)
  clear hB2 hrd
  have hb1s := (Below.refl w2.heap.size w2).alloc (Nat.le_refl _) (.cells #[.string ⟨b.toArray⟩] 9)
  have cb : (w2.alloc (.cells #[.string ⟨b.toArray⟩] 9)).cell? ⟨w2.heap.size, 0, none⟩ = some (.string ⟨b.toArray⟩) := by rw [Lib.cell_of_heap (heap_alloc_new w2 _)]; rfl
  have hof := Lib.hid (of_hash K (some ⟨w2.heap.size, 0, none⟩) 1 b _ (HL2.out.below hb1s) ⟨_, rfl, cb⟩ (by omega))
  have Hb1s := Lib.hid hb1s
  rw [← Hdg.out] at hof
  have hdd : digV dg = (byV dg).toArray := rfl
  rw [hdd] at hof
  clear hb1s cb hdd
  go_wp2_with fail
  refine hof.out.mono ?_
  rintro r w3 ⟨rfl, hB3⟩
  have hb23 : Below w2.heap.size w2 w3 := Hb1s.out.trans (hB3.mono Hb1s.out.size)
  have B3 := Lib.hid hb23
  clear hB3 hof hb23 Hb1s
  go_upto_region 7 with (first
    | (refine wpList_build2 rfl 127 _ _ _ _ rfl _ _ rfl rfl _ hbn ?_)
    | (refine wpList_store_row rfl 127 _ _ rfl w3.heap.size NV rfl rfl 127 _ (heap_alloc_new w3 _) ndixA (by rw [hNs]; rfl) hNone ?_))
  show Code.wp _ _ _ _ ((w3.alloc (.cells zeroName 127)).setRow w3.heap.size NV)
  have hq := setRow_heap _ _ _ NV _ _ (heap_alloc_new w3 (.cells zeroName 127))
  have hB4 : Below w3.heap.size w3 ((w3.alloc (.cells zeroName 127)).setRow w3.heap.size NV) := (Only.below (((Only.refl [w3.heap.size] w3).alloc _).setRow (by simp) _) (Nat.le_refl _) (by simp))
  obtain ⟨nb, hnb⟩ : ∃ q, q = w3.heap.size := ⟨_, rfl⟩
  obtain ⟨w5, hw5⟩ : ∃ y, y = ((w3.alloc (.cells zeroName 127)).setRow w3.heap.size NV) := ⟨_, rfl⟩
  rw [← hw5] at hq hB4 ⊢
  rw [← hnb] at hq ⊢
  have hb5 : Below w2.heap.size w2 w5 := B3.out.trans (hB4.mono B3.out.size)
  have h5 := H2.out.below hb5
  have hnb2 : w2.heap.size ≤ nb := by rw [hnb]; exact B3.out.size
  have r5 : w5.rangeAt nb 0 NV.toList := fun k v hv => by rw [Lib.cell_of_heap hq, Nat.zero_add]; simpa using hv
  have l5 : nb < w5.heap.size := heap_lt hq
  have x1 := (hv_cells h5).2.1
  have lp : q.p < w5.heap.size := heap_lt h5.hp
  have hLv : ∀ W, Below w5.heap.size w5 W → HvAt W q d := fun W hW => h5.below hW
  have ndix : (Tryd.prog.info? 127).map (·.size) = some NV.toList.length := by rw [ndixA]; simp
  have nund := Tryd.underlying127
  have rD : w5.rangeAt nb 1 DL := fun k v hv => by
    have h1 : NV[1 + k]? = some v := by
      rw [HNV.out, List.getElem?_toArray, Nat.add_comm, List.getElem?_cons_succ]
      rw [HDL.out] at hv; exact hv
    rw [Lib.cell_of_heap hq]; exact h1
  have Hn5 := Lib.hid (below_keep hb5 Hn2.out)
  have B5 := Lib.hid (B2.out.trans (hb5.mono B2.out.size))
  have H5 := Lib.hid h5
  have HL5 := Lib.hid (HL2.out.below hb5)
  have hlt := HAT.out.lt
  have hnS : nb ∉ q.own d.L := fun hm => by have := hlt nb hm; have := B2.out.size; omega
  have hn0S : n0 ∉ q.own d.L := fun hm => by have := hlt n0 hm; have := Hn.out; omega
  have HnS := Lib.hid hnS
  have Hn0S := Lib.hid hn0S
  have l0 : n0 < w5.heap.size := heap_lt Hn5.out
  clear hw5 hnb hB4 hq hb5 h5 hnb2 hlt hnS hn0S
  have hlook := Lib.hid (fun W (hW : Below w5.heap.size w5 W) => look_yes (hLv W hW) (List.mem_of_getElem? Hj.out))
  rw [show nameV (e.isB, e.id) = .agg NV from by rw [HNV.out, E1.out, E2.out]; rfl] at hlook
  obtain ⟨bk, hbk⟩ : ∃ x, x = e.blk := ⟨_, rfl⟩
  rw [← hbk] at hlook
  have Hbk := Lib.hid hbk
  clear hLv hbk
  refine wp_region_held_drew (S := fun w' => Below w5.heap.size w5 w') (by kernel_rfl) ((Below.refl _ _).drew) (fun hH0 => ?_)
  obtain ⟨W0, hW0⟩ : ∃ W, W = w5.drew := ⟨_, rfl⟩
  rw [← hW0] at hH0 ⊢
  clear hW0
  refine wpAnyH_take (i := 0) (v := ?_) rfl (by kernel_rfl) (by kernel_rfl) (by kernel_rfl) (fun _ _ _ h => h) (Or.inl ⟨by kernel_rfl, ?_⟩) hH0 ?_
  rotate_left 1
  · intro w hSw
    go_simp
    try with_reducible rfl
  try simp only [Act.put, List.getElem_toArray, List.getElem_cons_zero, List.getElem_cons_succ, List.setIfInBounds_toArray, List.set_cons_zero, List.set_cons_succ]
  refine wpAnyH_take (i := 1) (v := ?_) rfl (by kernel_rfl) (by kernel_rfl) (by kernel_rfl) (fun _ _ _ h => h) (Or.inl ⟨by kernel_rfl, ?_⟩) hH0 ?_
  rotate_left 1
  · intro w hSw
    go_simp
    try with_reducible rfl
  try simp only [Act.put, List.getElem_toArray, List.getElem_cons_zero, List.getElem_cons_succ, List.setIfInBounds_toArray, List.set_cons_zero, List.set_cons_succ]
  refine wpAnyH_take (i := 2) (v := ?_) rfl (by kernel_rfl) (by kernel_rfl) (by kernel_rfl) (fun _ _ _ h => h) (Or.inl ⟨by kernel_rfl, ?_⟩) hH0 ?_
  rotate_left 1
  · intro w hSw
    go_simp
    try with_reducible rfl
  try simp only [Act.put, List.getElem_toArray, List.getElem_cons_zero, List.getElem_cons_succ, List.setIfInBounds_toArray, List.set_cons_zero, List.set_cons_succ]
  refine wpAnyH_take (i := 3) (v := ?_) rfl (by kernel_rfl) (by kernel_rfl) (by kernel_rfl) (fun _ _ _ h => h) (Or.inl ⟨by kernel_rfl, ?_⟩) hH0 ?_
  rotate_left 1
  · intro w hSw
    have f0 := (hSw.cell (p := ⟨q.p, 1, none⟩) lp).trans x1
    go_simp
    try with_reducible rfl
  try simp only [Act.put, List.getElem_toArray, List.getElem_cons_zero, List.getElem_cons_succ, List.setIfInBounds_toArray, List.set_cons_zero, List.set_cons_succ]
  refine wpAnyH_take (i := 4) (v := _) rfl (by kernel_rfl) (by kernel_rfl) (by kernel_rfl) (fun _ _ _ h => h) (yieldsIf_load_mid (by kernel_rfl) _ _ rfl _ _ rfl NV.toList _ (fun W hW => range_below r5 hW l5) nund rfl ndix) hH0 ?_
  try simp only [Act.put, List.getElem_toArray, List.getElem_cons_zero, List.getElem_cons_succ, List.setIfInBounds_toArray, List.set_cons_zero, List.set_cons_succ]
  refine wpAnyH_take (i := 5) (v := _) rfl (by kernel_rfl) (by kernel_rfl) (by kernel_rfl) (fun _ _ _ h => h) (yieldsIf_lookup (by kernel_rfl) 116 (.tmp 27) (.tmp 28) rfl (.pointer (some ⟨bk, 0, none⟩)) (fun W hW => hlook.out W hW)) hH0 ?_
  try simp only [Act.put, List.getElem_toArray, List.getElem_cons_zero, List.getElem_cons_succ, List.setIfInBounds_toArray, List.set_cons_zero, List.set_cons_succ]
  refine wpAnyH_take (i := 6) (v := ?_) rfl (by kernel_rfl) (by kernel_rfl) (by kernel_rfl) (fun _ _ _ h => h) (Or.inl ⟨by kernel_rfl, ?_⟩) hH0 ?_
  rotate_left 1
  · intro w hSw
    go_simp
    try with_reducible rfl
  try simp only [Act.put, List.getElem_toArray, List.getElem_cons_zero, List.getElem_cons_succ, List.setIfInBounds_toArray, List.set_cons_zero, List.set_cons_succ]
  refine wpAnyH_done (by kernel_rfl) ?_ _
  have H6 := Lib.hid hH0
  obtain ⟨w6, hw6⟩ : ∃ y, y = W0 := ⟨_, rfl⟩
  rw [← hw6] at H6 ⊢
  clear hH0 hw6 hlook
  have huse := Lib.hid (use_any q d j e w6 (H5.out.below H6.out) Hj.out hcl)
  rw [show (Value.pointer (some ⟨e.blk, 0, none⟩)) = .pointer (some ⟨bk, 0, none⟩) by rw [Hbk.out]] at huse
  go_wp2_with fail
  refine huse.out.mono ?_
  rintro r w7 ⟨rfl, h7, hO7⟩
  have hO : Only (q.own d.L) w5 w7 := (Only.of_below H6.out).trans hO7
  have rF := range_onlyH rD hO ⟨l5, HnS.out⟩
  have HnF := Lib.hid (hO.keep Hn5.out Hn0S.out)
  have H7 := Lib.hid h7
  have O7 := Lib.hid hO
  clear h7 hO7 hO huse
  go_wp2_with (first
    | (refine wpList_load_mid rfl 23 _ rfl nb 1 rfl DL _ rF dund rfl dixL ?_)
    | (refine wpList_store_row rfl 23 _ _ rfl n0 DL.toArray rfl rfl 23 _ HnF.out dixA (by rw [dsz]; rfl) doneA ?_))
  (try simp only [Exit.inBlock, Exit.then])
  refine bodyPost_ret (results_cell_row2 rfl _ _ n0 23 DL.toArray (0, 0) _ rfl (setRow_heap _ _ _ _ _ _ HnF.out) dund rfl dixA) rfl ?_
  have hO9 : Only (q.own d.L) w (w7.setRow n0 DL.toArray) := (((Only.of_below B5.out).trans O7.out)).trans' n0 (by rw [Hn.out]; exact Nat.le_refl _) DL.toArray
  rw [← Hdg.out]
  refine ⟨by rw [HDL.out]; rfl, H7.out.keep (fun x hx => ?_), hO9⟩
  exact setRow_other _ _ _ (by rw [Hown.out] at hx; exact fun e0 => Hn0S.out (e0 ▸ hx))

/-- what a call of put does, R: of its error and the store behind it -/
def PutR (q : HvP) (d : HvD) (R : Int → HvD → Prop) (W : World) (r : Ending) (w' : World) : Prop :=
  ∃ er d', r = .returned (.int .i64 er) ∧ R er d' ∧ HvAt w' q d' ∧ Only (q.own d.L) W w' ∧ ∀ x ∈ q.own d'.L, x ∈ q.own d.L ∨ W.heap.size ≤ x
def PbR (K : List Int) (q : HvP) (d : HvD) (b : List UInt8) (R : Int → HvD → Prop) (W : World) (r : Ending) (w' : World) : Prop :=
  ∃ er d', r = .returned (.tuple #[.agg (digV (if er = 0 then hashB K b else List.replicate 32 0)), .int .i64 er]) ∧ R er d' ∧ HvAt w' q d' ∧ Only (q.own d.L) W w' ∧ ∀ x ∈ q.own d'.L, x ∈ q.own d.L ∨ W.heap.size ≤ x
set_option maxHeartbeats 4000000 in
set_option maxRecDepth 100000 in
theorem gpb_new (K : List Int) (q : HvP) (d : HvD) (b : List UInt8) (R : Int → HvD → Prop) (w : World) (hat : HvAt w q d) (hL : Laid K w) (h0 : 0 ∉ q.own d.L) (hr : d.ready) (hb : b.length ≤ 512) (hne : ∀ e ∈ d.L, (e.isB, e.id) ≠ (true, hashB K b))
    (hput : ∀ W, HvAt W q d → Laid K W → Calls Tryd.prog 68 #[.pointer (some ⟨q.p, 0, none⟩), .agg (Value.bool true :: byV (hashB K b)).toArray, .string ⟨(blobRowS b).toArray⟩] W (PutR q d R W)) :
    Calls Tryd.prog 23 #[.pointer (some ⟨q.p, 0, none⟩), .string ⟨b.toArray⟩] w (PbR K q d b R w) := by
  have ib : ¬ (512 : Int) < (b.length : Int) := by omega
  obtain ⟨dg, hdg⟩ : ∃ x, x = hashB K b := ⟨_, rfl⟩
  have hdl : dg.length = 32 := by rw [hdg]; exact hashB_length K b
  have hbn := built_name true dg hdl
  obtain ⟨NV, hNV⟩ : ∃ x, x = (Value.bool true :: byV dg).toArray := ⟨_, rfl⟩
  rw [← hNV] at hbn
  have hNs : NV.size = 33 := by rw [hNV]; simp [byV_length, hdl]
  have ndixA : (Tryd.prog.info? 127).map (·.size) = some NV.size := by rw [name_info, hNs]
  have hNone : NV.all (·.oneCell') = true := by rw [hNV, List.all_toArray, List.all_cons, byV_one]; rfl
  obtain ⟨DL, hDL⟩ : ∃ x, x = byV dg := ⟨_, rfl⟩
  have dixL : (Tryd.prog.info? 23).map (·.size) = some DL.length := by rw [hDL, dig_info, byV_length, hdl]
  have dixA : (Tryd.prog.info? 23).map (·.size) = some DL.toArray.size := by rw [dixL]; simp
  have doneA : DL.toArray.all (·.oneCell') = true := by rw [hDL, List.all_toArray, byV_one]
  have dsz : DL.toArray.size = 32 := by rw [hDL]; simp [byV_length, hdl]
  have Hdg := Lib.hid hdg
  have HNV := Lib.hid hNV
  have HDL := Lib.hid hDL
  have Hdl := Lib.hid hdl

  have hb1 := (Below.refl w.heap.size w).alloc (Nat.le_refl _) (.cells (digV (List.replicate 32 0)) 23)
  have hn0 := heap_alloc_new w (.cells (digV (List.replicate 32 0)) 23)
  have h1 := hat.below hb1
  have hL1 := hL.below hb1
  obtain ⟨w1, hw1⟩ : ∃ y, y = w.alloc (.cells (digV (List.replicate 32 0)) 23) := ⟨_, rfl⟩
  obtain ⟨n0, hn⟩ : ∃ y, y = w.heap.size := ⟨_, rfl⟩
  rw [← hw1] at h1 hn0 hb1 hL1
  rw [← hn] at hn0
  have hrd := Lib.hid (ready_ok q d w1 h1 hr)
  have dund := Tryd.underlying23
  have Hn0 := Lib.hid hn0
  have Hb1 := Lib.hid hb1
  have Hn := Lib.hid hn
  have Hw1 := Lib.hid hw1
  have HAT := Lib.hid hat
  have HL1 := Lib.hid hL1
  have H1 := Lib.hid h1
  rw [← hdg] at hne hput
  have Hne := Lib.hid hne
  have H0' := Lib.hid h0
  have hbr := Lib.hid (fun W => blobRow_any b W hb)
  obtain ⟨rw_, hrw⟩ : ∃ x, x = blobRowS b := ⟨_, rfl⟩
  rw [← hrw] at hbr hput
  rw [← hNV] at hput
  have hput := Lib.hid hput
  clear hat hr hL hL1 h1 hb1 hn0 hn hw1 hdg hNV hDL hdl hne h0 hrw
  unfold PbR
  go_enter Tryd.func23, Tryd.ntmps23
  go_upto_region 1 with fail
  show Code.wp _ _ _ _ (w.alloc (.cells (digV (List.replicate 32 0)) 23))
  rw [← Hw1.out, ← Hn.out]
  go_wp2_with fail
  refine hrd.out.mono ?_
  rintro r w2 ⟨rfl, hB2⟩
  have B2 := Lib.hid (Hb1.out.trans (hB2.mono Hb1.out.size))
  have Hn2 := Lib.hid (below_keep hB2 Hn0.out)
  have H2 := Lib.hid (H1.out.below hB2)
  have HL2 := Lib.hid (HL1.out.below hB2)
  clear hB2 hrd
  have hb1s := (Below.refl w2.heap.size w2).alloc (Nat.le_refl _) (.cells #[.string ⟨b.toArray⟩] 9)
  have cb : (w2.alloc (.cells #[.string ⟨b.toArray⟩] 9)).cell? ⟨w2.heap.size, 0, none⟩ = some (.string ⟨b.toArray⟩) := by rw [Lib.cell_of_heap (heap_alloc_new w2 _)]; rfl
  have hof := Lib.hid (of_hash K (some ⟨w2.heap.size, 0, none⟩) 1 b _ (HL2.out.below hb1s) ⟨_, rfl, cb⟩ (by omega))
  have Hb1s := Lib.hid hb1s
  rw [← Hdg.out] at hof
  have hdd : digV dg = (byV dg).toArray := rfl
  rw [hdd] at hof
  clear hb1s cb hdd
  go_wp2_with fail
  refine hof.out.mono ?_
  rintro r w3 ⟨rfl, hB3⟩
  have hb23 : Below w2.heap.size w2 w3 := Hb1s.out.trans (hB3.mono Hb1s.out.size)
  have B3 := Lib.hid hb23
  clear hB3 hof hb23 Hb1s
  go_upto_region 7 with (first
    | (refine wpList_build2 rfl 127 _ _ _ _ rfl _ _ rfl rfl _ hbn ?_)
    | (refine wpList_store_row rfl 127 _ _ rfl w3.heap.size NV rfl rfl 127 _ (heap_alloc_new w3 _) ndixA (by rw [hNs]; rfl) hNone ?_))
  show Code.wp _ _ _ _ ((w3.alloc (.cells zeroName 127)).setRow w3.heap.size NV)
  have hq := setRow_heap _ _ _ NV _ _ (heap_alloc_new w3 (.cells zeroName 127))
  have hB4 : Below w3.heap.size w3 ((w3.alloc (.cells zeroName 127)).setRow w3.heap.size NV) := (Only.below (((Only.refl [w3.heap.size] w3).alloc _).setRow (by simp) _) (Nat.le_refl _) (by simp))
  obtain ⟨nb, hnb⟩ : ∃ q, q = w3.heap.size := ⟨_, rfl⟩
  obtain ⟨w5, hw5⟩ : ∃ y, y = ((w3.alloc (.cells zeroName 127)).setRow w3.heap.size NV) := ⟨_, rfl⟩
  rw [← hw5] at hq hB4 ⊢
  rw [← hnb] at hq ⊢
  have hb5 : Below w2.heap.size w2 w5 := B3.out.trans (hB4.mono B3.out.size)
  have h5 := H2.out.below hb5
  have hnb2 : w2.heap.size ≤ nb := by rw [hnb]; exact B3.out.size
  have r5 : w5.rangeAt nb 0 NV.toList := fun k v hv => by rw [Lib.cell_of_heap hq, Nat.zero_add]; simpa using hv
  have l5 : nb < w5.heap.size := heap_lt hq
  have x1 := (hv_cells h5).2.1
  have lp : q.p < w5.heap.size := heap_lt h5.hp
  have hLv : ∀ W, Below w5.heap.size w5 W → HvAt W q d := fun W hW => h5.below hW
  have ndix : (Tryd.prog.info? 127).map (·.size) = some NV.toList.length := by rw [ndixA]; simp
  have nund := Tryd.underlying127
  have rD : w5.rangeAt nb 1 DL := fun k v hv => by
    have h1 : NV[1 + k]? = some v := by
      rw [HNV.out, List.getElem?_toArray, Nat.add_comm, List.getElem?_cons_succ]
      rw [HDL.out] at hv; exact hv
    rw [Lib.cell_of_heap hq]; exact h1
  have Hn5 := Lib.hid (below_keep hb5 Hn2.out)
  have B5 := Lib.hid (B2.out.trans (hb5.mono B2.out.size))
  have H5 := Lib.hid h5
  have HL5 := Lib.hid (HL2.out.below hb5)
  have hlt := HAT.out.lt
  have hnS : nb ∉ q.own d.L := fun hm => by have := hlt nb hm; have := B2.out.size; omega
  have hn0S : n0 ∉ q.own d.L := fun hm => by have := hlt n0 hm; have := Hn.out; omega
  have HnS := Lib.hid hnS
  have Hn0S := Lib.hid hn0S
  have l0 : n0 < w5.heap.size := heap_lt Hn5.out
  clear hw5 hnb hB4 hq hb5 h5 hnb2 hlt hnS hn0S
  have hlook := Lib.hid (fun W (hW : Below w5.heap.size w5 W) => look_no (hLv W hW) Hdl.out Hne.out)
  rw [show nameV (true, dg) = .agg NV from by rw [HNV.out]; rfl] at hlook
  clear hLv
  refine wp_region_held_drew (S := fun w' => Below w5.heap.size w5 w') (by kernel_rfl) ((Below.refl _ _).drew) (fun hH0 => ?_)
  obtain ⟨W0, hW0⟩ : ∃ W, W = w5.drew := ⟨_, rfl⟩
  rw [← hW0] at hH0 ⊢
  clear hW0
  refine wpAnyH_take (i := 0) (v := ?_) rfl (by kernel_rfl) (by kernel_rfl) (by kernel_rfl) (fun _ _ _ h => h) (Or.inl ⟨by kernel_rfl, ?_⟩) hH0 ?_
  rotate_left 1
  · intro w hSw
    go_simp
    try with_reducible rfl
  try simp only [Act.put, List.getElem_toArray, List.getElem_cons_zero, List.getElem_cons_succ, List.setIfInBounds_toArray, List.set_cons_zero, List.set_cons_succ]
  refine wpAnyH_take (i := 1) (v := ?_) rfl (by kernel_rfl) (by kernel_rfl) (by kernel_rfl) (fun _ _ _ h => h) (Or.inl ⟨by kernel_rfl, ?_⟩) hH0 ?_
  rotate_left 1
  · intro w hSw
    go_simp
    try with_reducible rfl
  try simp only [Act.put, List.getElem_toArray, List.getElem_cons_zero, List.getElem_cons_succ, List.setIfInBounds_toArray, List.set_cons_zero, List.set_cons_succ]
  refine wpAnyH_take (i := 2) (v := ?_) rfl (by kernel_rfl) (by kernel_rfl) (by kernel_rfl) (fun _ _ _ h => h) (Or.inl ⟨by kernel_rfl, ?_⟩) hH0 ?_
  rotate_left 1
  · intro w hSw
    go_simp
    try with_reducible rfl
  try simp only [Act.put, List.getElem_toArray, List.getElem_cons_zero, List.getElem_cons_succ, List.setIfInBounds_toArray, List.set_cons_zero, List.set_cons_succ]
  refine wpAnyH_take (i := 3) (v := ?_) rfl (by kernel_rfl) (by kernel_rfl) (by kernel_rfl) (fun _ _ _ h => h) (Or.inl ⟨by kernel_rfl, ?_⟩) hH0 ?_
  rotate_left 1
  · intro w hSw
    have f0 := (hSw.cell (p := ⟨q.p, 1, none⟩) lp).trans x1
    go_simp
    try with_reducible rfl
  try simp only [Act.put, List.getElem_toArray, List.getElem_cons_zero, List.getElem_cons_succ, List.setIfInBounds_toArray, List.set_cons_zero, List.set_cons_succ]
  refine wpAnyH_take (i := 4) (v := _) rfl (by kernel_rfl) (by kernel_rfl) (by kernel_rfl) (fun _ _ _ h => h) (yieldsIf_load_mid (by kernel_rfl) _ _ rfl _ _ rfl NV.toList _ (fun W hW => range_below r5 hW l5) nund rfl ndix) hH0 ?_
  try simp only [Act.put, List.getElem_toArray, List.getElem_cons_zero, List.getElem_cons_succ, List.setIfInBounds_toArray, List.set_cons_zero, List.set_cons_succ]
  refine wpAnyH_take (i := 5) (v := _) rfl (by kernel_rfl) (by kernel_rfl) (by kernel_rfl) (fun _ _ _ h => h) (yieldsIf_lookup (by kernel_rfl) 116 (.tmp 27) (.tmp 28) rfl (.pointer none) (fun W hW => hlook.out W hW)) hH0 ?_
  try simp only [Act.put, List.getElem_toArray, List.getElem_cons_zero, List.getElem_cons_succ, List.setIfInBounds_toArray, List.set_cons_zero, List.set_cons_succ]
  refine wpAnyH_take (i := 6) (v := ?_) rfl (by kernel_rfl) (by kernel_rfl) (by kernel_rfl) (fun _ _ _ h => h) (Or.inl ⟨by kernel_rfl, ?_⟩) hH0 ?_
  rotate_left 1
  · intro w hSw
    go_simp
    try with_reducible rfl
  try simp only [Act.put, List.getElem_toArray, List.getElem_cons_zero, List.getElem_cons_succ, List.setIfInBounds_toArray, List.set_cons_zero, List.set_cons_succ]
  refine wpAnyH_done (by kernel_rfl) ?_ _
  have H6 := Lib.hid hH0
  obtain ⟨w6, hw6⟩ : ∃ y, y = W0 := ⟨_, rfl⟩
  rw [← hw6] at H6 ⊢
  clear hH0 hw6 hlook
  have h6 := H5.out.below H6.out
  have r6 := range_below r5 H6.out l5
  have l6 : nb < w6.heap.size := Nat.lt_of_lt_of_le l5 H6.out.size
  have HV6 := Lib.hid h6
  have HL6 := Lib.hid (HL5.out.below H6.out)
  clear h6
  go_upto_region 11 with fail
  refine wp_region_held_drew (S := fun w' => Only (q.own d.L) w6 w') (by kernel_rfl) ((Only.refl _ _).drew) (fun hH0 => ?_)
  obtain ⟨W0, hW0⟩ : ∃ W, W = w6.drew := ⟨_, rfl⟩
  have hA0 : Hid (HvAt W0 q d) := Lib.hid (by rw [hW0]; exact HV6.out.keep (fun k hk => rfl))
  rw [← hW0] at hH0 ⊢
  clear hW0
  refine wpAnyH_take (i := 0) (v := ?_) rfl (by kernel_rfl) (by kernel_rfl) (by kernel_rfl) (fun _ _ _ h => h) (Or.inl ⟨by kernel_rfl, ?_⟩) hH0 ?_
  rotate_left 1
  · intro w hSw
    go_simp
    try with_reducible rfl
  try simp only [Act.put, List.getElem_toArray, List.getElem_cons_zero, List.getElem_cons_succ, List.setIfInBounds_toArray, List.set_cons_zero, List.set_cons_succ]
  refine wpAnyH_take (i := 1) (v := _) rfl (by kernel_rfl) (by kernel_rfl) (by kernel_rfl) (fun _ _ _ h => h) (yieldsIf_load_mid (by kernel_rfl) _ _ rfl _ _ rfl NV.toList _ (fun W hW => range_onlyH r6 hW ⟨l6, HnS.out⟩) nund rfl ndix) hH0 ?_
  try simp only [Act.put, List.getElem_toArray, List.getElem_cons_zero, List.getElem_cons_succ, List.setIfInBounds_toArray, List.set_cons_zero, List.set_cons_succ]
  refine wpAnyH_take (i := 2) (v := ?_) rfl (by kernel_rfl) (by kernel_rfl) (by kernel_rfl) (fun _ _ _ h => h) (Or.inl ⟨by kernel_rfl, ?_⟩) hH0 ?_
  rotate_left 1
  · intro w hSw
    go_simp
    try with_reducible rfl
  try simp only [Act.put, List.getElem_toArray, List.getElem_cons_zero, List.getElem_cons_succ, List.setIfInBounds_toArray, List.set_cons_zero, List.set_cons_succ]
  refine wpAnyH_ready (rs := [3]) (by kernel_rfl) (by simp) ?_
  refine AllReadyH.cons rfl (fun K_ hK => ?_) ?_
  · go_simp
    refine (hbr.out W0).mono ?_
    rintro r W1 ⟨rfl, hb1⟩
    have hA1 := Lib.hid (hA0.out.below hb1)
    have hS1 : Only (q.own d.L) w6 W1 := Only.trans hH0 (Only.of_below hb1)
    clear hA0 hb1
    refine hK.out _ _ hS1 (fun hH1 => ?_)
    clear hK K_
    try simp only [Act.put, List.getElem_toArray, List.getElem_cons_zero, List.getElem_cons_succ, List.setIfInBounds_toArray, List.set_cons_zero, List.set_cons_succ]
    refine wpAnyH_ready (rs := [4]) (by kernel_rfl) (by simp) ?_
    refine AllReadyH.cons rfl (fun K_ hK => ?_) ?_
    · go_simp
      have hpu := hput.out W1 hA1.out (HL6.out.only hH1 H0'.out)
      refine hpu.mono ?_
      rintro r W2 ⟨er, d9, rfl, hR2, hd2, hO2, hn2⟩
      have HR := Lib.hid hR2
      have HA2 := Lib.hid hd2
      have Hnw := Lib.hid hn2
      have HW7 := Lib.hid (hH1).size
      have hS2 : Only (q.own d.L) w6 W2 := Only.trans hH1 hO2
      clear hR2 hd2 hO2 hn2 hA1 hpu
      refine hK.out _ _ hS2 (fun hH2 => ?_)
      clear hK K_
      try simp only [Act.put, List.getElem_toArray, List.getElem_cons_zero, List.getElem_cons_succ, List.setIfInBounds_toArray, List.set_cons_zero, List.set_cons_succ]
      refine wpAnyH_take (i := 5) (v := ?_) rfl (by kernel_rfl) (by kernel_rfl) (by kernel_rfl) (fun _ _ _ h => h) (Or.inl ⟨by kernel_rfl, ?_⟩) hH2 ?_
      rotate_left 1
      · intro w hSw
        go_simp
        try with_reducible rfl
      try simp only [Act.put, List.getElem_toArray, List.getElem_cons_zero, List.getElem_cons_succ, List.setIfInBounds_toArray, List.set_cons_zero, List.set_cons_succ]
      refine wpAnyH_done (by kernel_rfl) ?_ _
      have O7 := Lib.hid ((Only.of_below H6.out).trans hH2)
      obtain ⟨w7, hw7⟩ : ∃ y, y = W2 := ⟨_, rfl⟩
      rw [← hw7] at O7 HA2 ⊢
      clear hH2 hw7
      have rF := range_onlyH rD O7.out ⟨l5, HnS.out⟩
      have HnF := Lib.hid (O7.out.keep Hn5.out Hn0S.out)
      have hsz6 : w.heap.size < w6.heap.size := by have := H6.out.size; have := B5.out.size; have := l0; have := Hn.out; omega
      have hn09 : ∀ x ∈ q.own d9.L, x ≠ n0 := fun x hx e0 => by
        rcases Hnw.out x hx with h | h
        · exact Hn0S.out (e0 ▸ h)
        · have := HW7.out; have := Hn.out; omega
      have Hn09 := Lib.hid hn09
      have hnew : ∀ x ∈ q.own d9.L, x ∈ q.own d.L ∨ w.heap.size ≤ x := fun x hx => by
        rcases Hnw.out x hx with h | h
        · exact .inl h
        · right; have := HW7.out; omega
      have Hnew := Lib.hid hnew
      clear hn09 hnew
      by_cases hz : er = 0
      · have Hz := Lib.hid hz
        have ez : (er != 0) = false := by simpa using hz
        clear hz
        go_wp2_with (first
          | (refine wpList_load_mid rfl 23 _ rfl nb 1 rfl DL _ rF dund rfl dixL ?_)
          | (refine wpList_store_row rfl 23 _ _ rfl n0 DL.toArray rfl rfl 23 _ HnF.out dixA (by rw [dsz]; rfl) doneA ?_))
        (try simp only [Exit.inBlock, Exit.then])
        refine bodyPost_ret (results_cell_row2 rfl _ _ n0 23 DL.toArray (0, 0) _ rfl (setRow_heap _ _ _ _ _ _ HnF.out) dund rfl dixA) rfl ?_
        have hO9 : Only (q.own d.L) w (w7.setRow n0 DL.toArray) := (((Only.of_below B5.out).trans O7.out)).trans' n0 (by rw [Hn.out]; exact Nat.le_refl _) DL.toArray
        refine ⟨er, d9, by rw [if_pos Hz.out, ← Hdg.out, HDL.out, Hz.out]; rfl, HR.out, HA2.out.keep (fun x hx => setRow_other _ _ _ (Hn09.out x hx)), hO9, Hnew.out⟩
      · have Hz := Lib.hid hz
        have ez : (er != 0) = true := by simpa using hz
        have hbd := built_dig0
        obtain ⟨DV, hDV⟩ : ∃ v, v = digV (List.replicate 32 0) := ⟨_, rfl⟩
        have dixV : (Tryd.prog.info? 23).map (·.size) = some DV.size := by rw [hDV, dig_info]; rfl
        have hone : DV.all (·.oneCell') = true := by rw [hDV]; exact digV_one _
        rw [← hDV] at hbd HnF
        have HDV := Lib.hid hDV
        clear hz hDV
        go_wp2_with (first
          | (refine wpList_build0' rfl 23 rfl DV hbd ?_)
          | (refine wpList_store_row rfl 23 _ _ rfl n0 DV rfl rfl 23 DV HnF.out dixV rfl hone ?_))
        (try simp only [Exit.inBlock, Exit.then])
        refine bodyPost_ret (results_cell_row2 rfl _ _ n0 23 DV (0, 0) _ rfl (setRow_heap _ _ _ _ _ _ HnF.out) dund rfl dixV) rfl ?_
        have hO9 : Only (q.own d.L) w (w7.setRow n0 DV) := (((Only.of_below B5.out).trans O7.out)).trans' n0 (by rw [Hn.out]; exact Nat.le_refl _) DV
        refine ⟨er, d9, by rw [if_neg Hz.out, ← HDV.out]; rfl, HR.out, HA2.out.keep (fun x hx => setRow_other _ _ _ (Hn09.out x hx)), hO9, Hnew.out⟩
    exact AllReadyH.nil
  exact AllReadyH.nil
end Go.Proofs.YteihfoacdocgkaaDoor
