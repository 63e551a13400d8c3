/-
  Layer 5 (hive): the walks of Blob over a store in general, Pin, Sync.
-/
import Derived.Test.YteihfoacdocgkaaDoorHvU
set_option linter.unusedVariables false
set_option linter.unusedSimpArgs false
namespace Go.Proofs.YteihfoacdocgkaaDoor
open Go.RowKit Pl Sh
attribute [local go_sem] Lb.ba_get Lb.ba_cut Lb.ba_add Lb.ba_size Lb.take_rest

set_option maxHeartbeats 4000000 in
set_option maxRecDepth 100000 in
theorem gblob_yes (K : List Int) (q : HvP) (d : HvD) (j : Nat) (e : HEnt) (dg : List UInt8) (w : World) (hat : HvAt w q d) (hL : Laid K w) (hr : d.ready) (hdg : dg.length = 32) (hj : d.L[j]? = some e) (e1 : e.isB = true) (e2 : e.id = dg) (hc : d.clk < 1000000) (htx : St.read d.s e.at_ = textS K e.row) :
    Calls Tryd.prog 27 #[.pointer (some ⟨q.p, 0, none⟩), .agg (byV dg).toArray] w fun r w' => r = .returned (.tuple #[.string ⟨((asBlobS e.row).1).toArray⟩, .bool (asBlobS e.row).2]) ∧ HvAt w' q { d with L := d.L.set j { e with used := ((d.clk + 1 : Nat) : Int) }, clk := d.clk + 1 } ∧ Only (q.own d.L) w w' := by
  have hb1 := (Below.refl w.heap.size w).alloc (Nat.le_refl _) (.cells (byV dg).toArray 23)
  have hn0 := heap_alloc_new w (.cells (byV dg).toArray 23)
  have h1 := hat.below hb1
  have hL1 := hL.below hb1
  obtain ⟨w1, hw1⟩ : ∃ y, y = w.alloc (.cells (byV dg).toArray 23) := ⟨_, rfl⟩
  obtain ⟨n0, hn⟩ : ∃ y, y = w.heap.size := ⟨_, rfl⟩
  rw [← hw1] at h1 hn0 hb1 hL1
  rw [← hn] at hn0
  have hbu := built_name true dg hdg
  obtain ⟨DV, hDV⟩ : ∃ x, x = (byV dg).toArray := ⟨_, rfl⟩
  have dix : (Tryd.prog.info? 23).map (·.size) = some DV.size := by rw [hDV, dig_info]; simp [byV_length, hdg]
  have dund := Tryd.underlying23
  rw [← hDV] at hbu hn0 ⊢
  obtain ⟨NV, hNV⟩ : ∃ x, x = (Value.bool true :: byV dg).toArray := ⟨_, rfl⟩
  rw [← hNV] at hbu
  have Hn0 := Lib.hid hn0
  have Hb1 := Lib.hid hb1
  have Hn := Lib.hid hn
  have Hw1 := Lib.hid (show w1 = w.alloc (.cells DV 23) by rw [hDV]; exact hw1)
  have hfi := find_ok K q d j e w1 h1 hL1 hr hj hc htx
  have ha : (Value.bool e.isB :: byV e.id).toArray = NV := by rw [e1, e2, hNV]
  rw [ha] at hfi
  have hfit := (hat.fit e (List.mem_of_getElem? hj)).2.2
  have hab := Lib.hid (fun W => asBlob_any e.row W (by omega))
  have Hfi := Lib.hid hfi
  clear hat hr hL hL1 h1 hb1 hn0 hn hw1 hDV hNV hj e1 e2 hfi ha hc htx hfit
  go_enter Tryd.func27, Tryd.ntmps27
  go_upto_region 1 with fail
  rw [← Hw1.out, ← Hn.out]
  go_wp2_with (first
    | (refine wpList_load_row rfl 23 _ rfl n0 rfl 23 DV (0, 0) _ Hn0.out dund rfl dix ?_)
    | (refine wpList_build2 rfl 127 _ _ _ _ rfl _ _ rfl rfl _ hbu ?_))
  refine Hfi.out.mono ?_
  rintro r w2 ⟨rfl, h2, hO2⟩
  have H2 := Lib.hid h2
  have O2 := Lib.hid hO2
  clear h2 hO2 Hfi
  go_wp2_with fail
  refine (hab.out _).mono ?_
  rintro r w3 ⟨rfl, hB3⟩
  have B3 := Lib.hid hB3
  clear hB3 hab
  go_wp2_with fail
  go_ret2
  exact ⟨rfl, H2.out.below B3.out, ((Only.of_below Hb1.out).trans O2.out).trans (Only.of_below B3.out)⟩
set_option maxHeartbeats 4000000 in
set_option maxRecDepth 100000 in
theorem gblob_no (K : List Int) (q : HvP) (d : HvD) (dg : List UInt8) (w : World) (hat : HvAt w q d) (hL : Laid K w) (hr : d.ready) (hdg : dg.length = 32) (hno : ∀ e ∈ d.L, (e.isB, e.id) ≠ (true, dg)) :
    Calls Tryd.prog 27 #[.pointer (some ⟨q.p, 0, none⟩), .agg (byV dg).toArray] w fun r w' => r = .returned (.tuple #[.string ⟨#[]⟩, .bool false]) ∧ Below w.heap.size w w' := by
  have hb1 := (Below.refl w.heap.size w).alloc (Nat.le_refl _) (.cells (byV dg).toArray 23)
  have hn0 := heap_alloc_new w (.cells (byV dg).toArray 23)
  have h1 := hat.below hb1
  have hL1 := hL.below hb1
  obtain ⟨w1, hw1⟩ : ∃ y, y = w.alloc (.cells (byV dg).toArray 23) := ⟨_, rfl⟩
  obtain ⟨n0, hn⟩ : ∃ y, y = w.heap.size := ⟨_, rfl⟩
  rw [← hw1] at h1 hn0 hb1 hL1
  rw [← hn] at hn0
  have hbu := built_name true dg hdg
  obtain ⟨DV, hDV⟩ : ∃ x, x = (byV dg).toArray := ⟨_, rfl⟩
  have dix : (Tryd.prog.info? 23).map (·.size) = some DV.size := by rw [hDV, dig_info]; simp [byV_length, hdg]
  have dund := Tryd.underlying23
  rw [← hDV] at hbu hn0 ⊢
  obtain ⟨NV, hNV⟩ : ∃ x, x = (Value.bool true :: byV dg).toArray := ⟨_, rfl⟩
  rw [← hNV] at hbu
  have Hn0 := Lib.hid hn0
  have Hb1 := Lib.hid hb1
  have Hn := Lib.hid hn
  have Hw1 := Lib.hid (show w1 = w.alloc (.cells DV 23) by rw [hDV]; exact hw1)
  have hfi := find_none K q d true dg w1 h1 hL1 hr hdg hno
  rw [← hNV] at hfi
  have Hfi := Lib.hid hfi
  clear hat hr hL hL1 h1 hb1 hn0 hn hw1 hDV hNV hno hfi
  go_enter Tryd.func27, Tryd.ntmps27
  go_upto_region 1 with fail
  rw [← Hw1.out, ← Hn.out]
  go_wp2_with (first
    | (refine wpList_load_row rfl 23 _ rfl n0 rfl 23 DV (0, 0) _ Hn0.out dund rfl dix ?_)
    | (refine wpList_build2 rfl 127 _ _ _ _ rfl _ _ rfl rfl _ hbu ?_))
  refine Hfi.out.mono ?_
  rintro r w2 ⟨rfl, hB2⟩
  have B2 := Lib.hid (Hb1.out.trans (hB2.mono Hb1.out.size))
  clear hB2 Hfi
  go_wp2_with fail
  go_ret2
  exact ⟨rfl, B2.out⟩

/-- a block is made, and a row lies in it -/
theorem put_newH (w : World) (Z R : Array Value) (t : TypeId) : ((w.alloc (.cells Z t)).setRow w.heap.size R).heap[w.heap.size]? = some (.cells R t (0, 0)) ∧ Below w.heap.size w ((w.alloc (.cells Z t)).setRow w.heap.size R) :=
  ⟨setRow_heap _ _ _ R _ _ (heap_alloc_new w (.cells Z t)), (Only.below (((Only.refl [w.heap.size] w).alloc _).setRow (by simp) _) (Nat.le_refl _) (by simp))⟩

/-! ### Pin -/
def pinAdd (pins : List (List UInt8)) (x : List UInt8) : List (List UInt8) := if x ∈ pins then pins else pins ++ [x]
def pinsAt (pins : List (List UInt8)) (ds : List (List UInt8)) : Nat → List (List UInt8)
  | 0 => pins
  | k + 1 => pinAdd (pinsAt pins ds k) (ds.getD k [])
theorem hv_pins {w w2 : World} {q : HvP} {d : HvD} {pins : List (List UInt8)} (h : HvAt w q d) (hO : Only [q.mp] w w2) (hp : MapAt digK (fun x => x.length = 32) w2 q.mp (pinsOf pins)) : HvAt w2 q { d with pins := pins } := by
  obtain ⟨n1, n2⟩ := own_nd h.nd
  obtain ⟨a1, a2, a3, a4, a5, a6, a7, a8, a9, a10, a11, a12, a13, a14, a15⟩ := own_six h.nd
  exact ⟨hO.keep h.hp (by simp; exact a3), h.all.keep (hO.block q.ma h.all.lt (by simp; exact a7)), h.taken.keep (hO.block q.mt h.taken.lt (by simp; exact a10)), hp, fun e he => hO.keep (h.ents e he) (by simp; exact (n2 e he).2.2.2.1), h.fit,
    ⟨hO.keep h.sh.pw (by simp; exact fun e => a13 e.symm), hO.keep h.sh.slots (by simp; exact fun e => a14 e.symm), h.sh.ne, h.sh.len⟩, h.nd⟩
theorem pin_put {w : World} {q : HvP} {d : HvD} (h : HvAt w q d) {x : List UInt8} (hx : x.length = 32) :
    ∃ w', (Instr.mapUpdate 118 (.map (some q.mp)) (digK x) (.bool true)).run Tryd.prog w = .ok () w' ∧ HvAt w' q { d with pins := pinAdd d.pins x } ∧ Only [q.mp] w w' := by
  unfold pinAdd
  by_cases hm : x ∈ d.pins
  · rw [if_pos hm]
    obtain ⟨w', hr, hp, hO⟩ := h.pin.putSame dig_fam Tryd.underlying118 (a := x) (v := .bool true) (List.mem_map.2 ⟨x, hm, rfl⟩)
    exact ⟨w', hr, hv_pins h hO hp, hO⟩
  · rw [if_neg hm]
    obtain ⟨w', hr, hp, hO⟩ := h.pin.put dig_fam Tryd.underlying118 (a := x) hx (by intro p hp e1; obtain ⟨y, hy, rfl⟩ := List.mem_map.1 hp; exact hm (by rw [← e1]; exact hy)) (.bool true)
    refine ⟨w', hr, hv_pins h hO ?_, hO⟩
    unfold pinsOf at hp ⊢
    rw [List.map_append]
    exact hp
set_option maxHeartbeats 4000000 in
set_option maxRecDepth 100000 in
theorem pin_any (q : HvP) (d : HvD) (A : Option Addr) (cap : Nat) (ds : List (List UInt8)) (w : World) (h : HvAt w q d) (hD : Digs w w.heap.size A ds) (hA : ∀ a, A = some a → a.block ∉ q.own d.L) (hn : ds.length ≤ maxLen) (h32 : ∀ x ∈ ds, x.length = 32) :
    Calls Tryd.prog 25 #[.pointer (some ⟨q.p, 0, none⟩), .slice A ds.length cap] w fun r w' => r = .returned (.tuple #[]) ∧ HvAt w' q { d with pins := pinsAt d.pins ds ds.length } ∧ Only [q.mp] w w' := by
  have H := Lib.hid h
  have HD := Lib.hid hD
  have HA := Lib.hid hA
  have H32 := Lib.hid h32
  obtain ⟨n, hnn⟩ : ∃ n, n = ds.length := ⟨_, rfl⟩
  rw [← hnn] at hn ⊢
  unfold maxLen at hn
  have Hn := Lib.hid hnn
  have n63 : (n : Int) ≤ 9223372036854775807 := by omega
  clear h hD hA h32 hnn
  go_enter Tryd.func25, Tryd.ntmps25
  go_wp2_with fail
  go_loopw [10] (fun i wr => ∃ k : Nat, k ≤ n ∧ i = .int .i64 k ∧ HvAt wr q { d with pins := pinsAt d.pins ds k } ∧ Only [q.mp] w wr) (fun i _ => n - (intOf i).toNat)
  case atStart => exact ⟨0, by omega, rfl, H.out, Only.refl _ _⟩
  case round =>
    obtain ⟨k, hk, rfl, hat, ho⟩ := hrel
    have Hat := Lib.hid hat
    have Ho := Lib.hid ho
    by_cases hkn : k < n
    · have j1 : (k : Int) < (n : Int) := by omega
      have hkl : k < ds.length := by rw [← Hn.out]; exact hkn
      obtain ⟨b, o, rfl, hbl, hr⟩ := HD.out k hkl
      have hbm : b ∉ [q.mp] := by
        have := HA.out _ rfl
        simp; exact fun e => this (e ▸ (@own_mem q d.L).2.2.2.1)
      have hr := range_onlyH hr ho ⟨hbl, hbm⟩
      obtain ⟨x, hx⟩ : ∃ x, x = ds[k] := ⟨_, rfl⟩
      have hxl : x.length = 32 := by rw [hx]; exact H32.out _ (List.getElem_mem hkl)
      rw [← hx] at hr
      have hxd : x = ds.getD k [] := by rw [hx]; simp [List.getD, hkl]
      have Hxd := Lib.hid hxd
      have dix : (Tryd.prog.info? 23).map (·.size) = some (byV x).length := by rw [dig_info, byV_length, hxl]
      have dund := Tryd.underlying23
      have dixA : (Tryd.prog.info? 23).map (·.size) = some (byV x).toArray.size := by rw [dix]; simp
      have doneA : (byV x).toArray.all (·.oneCell') = true := by rw [List.all_toArray, byV_one]
      have dsz : (byV x).toArray.size = 32 := by simp [byV_length, hxl]
      have hdk : digK x = .agg (byV x).toArray := rfl
      have Hxl := Lib.hid hxl
      obtain ⟨dl, hdl⟩ : ∃ l, l = byV x := ⟨_, rfl⟩
      rw [← hdl] at hr dix dixA doneA dsz hdk
      have Hdk := Lib.hid hdk
      clear hat ho hx hxl hxd hdl hdk
      go_upto_region 4 with (first | (refine wpList_load_mid rfl 23 _ rfl b (o + k * 32) rfl dl _ hr dund rfl dix ?_) | (refine wpList_store_row rfl 23 _ _ rfl wr.heap.size dl.toArray rfl rfl 23 _ (heap_alloc_new wr _) dixA (by rw [dsz]; rfl) doneA ?_))
      show Code.wp _ _ _ _ ((wr.alloc (.cells (digV (List.replicate 32 0)) 23)).setRow wr.heap.size dl.toArray)
      obtain ⟨hq_w5, hB_w5⟩ := put_newH wr (digV (List.replicate 32 0)) dl.toArray 23
      obtain ⟨nb, hp_w5⟩ : ∃ q, q = wr.heap.size := ⟨_, rfl⟩
      obtain ⟨w5, hw_w5⟩ : ∃ y, y = ((wr.alloc (.cells (digV (List.replicate 32 0)) 23)).setRow wr.heap.size dl.toArray) := ⟨_, rfl⟩
      rw [← hw_w5] at hq_w5 hB_w5 ⊢
      rw [← hp_w5] at hq_w5 ⊢
      have HQ_w5 := Lib.hid hq_w5
      have HB_w5 := Lib.hid hB_w5
      have Hp_w5 := Lib.hid hp_w5
      clear hq_w5 hB_w5 hp_w5 hw_w5
      have H5 := Lib.hid (Hat.out.below HB_w5.out)
      have x3 := (hv_cells H5.out).2.2.2.1
      have lp : q.p < w5.heap.size := heap_lt H5.out.hp
      have r5 : w5.rangeAt nb 0 dl := fun k v hv => by rw [Lib.cell_of_heap HQ_w5.out, Nat.zero_add, List.getElem?_toArray]; exact hv
      have l5 : nb < w5.heap.size := heap_lt HQ_w5.out
      clear hr
      have np : q.p ∉ [q.mp] := by simpa using (own_six H5.out.nd).2.2.1
      have nnb : nb ∉ [q.mp] := by simp; have := Hat.out.lt q.mp (by simp [HvP.own]); have := Hp_w5.out; omega
      refine wp_region_held_drew (S := fun w' => Only [q.mp] w5 w') (by kernel_rfl) ((Only.refl _ _).drew) (fun hH0 => ?_)
      obtain ⟨W0, hW0⟩ : ∃ W, W = w5.drew := ⟨_, rfl⟩
      have hA0 : Hid (HvAt W0 q { d with pins := pinsAt d.pins ds k }) := Lib.hid (by rw [hW0]; exact H5.out.keep (fun k hk => rfl))
      rw [← hW0] at hH0 ⊢
      clear hW0
      refine wpAnyH_take (i := 0) (v := ?_) rfl (by kernel_rfl) (by kernel_rfl) (by kernel_rfl) (fun _ _ _ h => h) (Or.inl ⟨by kernel_rfl, ?_⟩) hH0 ?_
      rotate_left 1
      · intro w hSw
        go_simp
        try with_reducible rfl
      try simp only [Act.put, List.getElem_toArray, List.getElem_cons_zero, List.getElem_cons_succ, List.setIfInBounds_toArray, List.set_cons_zero, List.set_cons_succ]
      refine wpAnyH_take (i := 1) (v := ?_) rfl (by kernel_rfl) (by kernel_rfl) (by kernel_rfl) (fun _ _ _ h => h) (Or.inl ⟨by kernel_rfl, ?_⟩) hH0 ?_
      rotate_left 1
      · intro w hSw
        go_simp
        try with_reducible rfl
      try simp only [Act.put, List.getElem_toArray, List.getElem_cons_zero, List.getElem_cons_succ, List.setIfInBounds_toArray, List.set_cons_zero, List.set_cons_succ]
      refine wpAnyH_take (i := 2) (v := ?_) rfl (by kernel_rfl) (by kernel_rfl) (by kernel_rfl) (fun _ _ _ h => h) (Or.inl ⟨by kernel_rfl, ?_⟩) hH0 ?_
      rotate_left 1
      · intro w hSw
        go_simp
        try with_reducible rfl
      try simp only [Act.put, List.getElem_toArray, List.getElem_cons_zero, List.getElem_cons_succ, List.setIfInBounds_toArray, List.set_cons_zero, List.set_cons_succ]
      refine wpAnyH_take (i := 3) (v := ?_) rfl (by kernel_rfl) (by kernel_rfl) (by kernel_rfl) (fun _ _ _ h => h) (Or.inl ⟨by kernel_rfl, ?_⟩) hH0 ?_
      rotate_left 1
      · intro w hSw
        have f0 := (hSw.cell (p := ⟨q.p, 3, none⟩) lp np).trans x3
        go_simp
        try with_reducible rfl
      try simp only [Act.put, List.getElem_toArray, List.getElem_cons_zero, List.getElem_cons_succ, List.setIfInBounds_toArray, List.set_cons_zero, List.set_cons_succ]
      refine wpAnyH_take (i := 4) (v := _) rfl (by kernel_rfl) (by kernel_rfl) (by kernel_rfl) (fun _ _ _ h => h) (yieldsIf_load_mid (by kernel_rfl) _ _ rfl _ _ rfl dl _ (fun W hW => range_onlyH r5 hW ⟨l5, nnb⟩) dund rfl dix) hH0 ?_
      try simp only [Act.put, List.getElem_toArray, List.getElem_cons_zero, List.getElem_cons_succ, List.setIfInBounds_toArray, List.set_cons_zero, List.set_cons_succ]
      refine wpAnyH_ready (rs := [5]) (by kernel_rfl) (by simp) ?_
      refine AllReadyH.cons rfl (fun K_ hK => ?_) ?_
      · rw [if_pos (by rfl)]
        obtain ⟨W1, hrun1, hput1, hOp1⟩ := pin_put hA0.out Hxl.out
        rw [Hdk.out] at hrun1
        refine wp_mapUpdateR 118 _ _ _ rfl hrun1 ?_
        have HPut := Lib.hid hput1
        have HOp := Lib.hid hOp1
        clear hrun1 hput1 hOp1 hA0
        refine hK.out _ _ ((hH0).trans HOp.out) (fun hH1 => ?_)
        clear hK K_
        try simp only [Act.put, List.getElem_toArray, List.getElem_cons_zero, List.getElem_cons_succ, List.setIfInBounds_toArray, List.set_cons_zero, List.set_cons_succ]
        refine wpAnyH_done (by kernel_rfl) ?_ _
        have HF := Lib.hid ((Ho.out.trans (Only.of_below HB_w5.out)).trans hH1)
        clear hH1
        go_wp2_with fail
        go_roundw
        case rel => exact ⟨k + 1, by omega, by go_num, by have h := HPut.out; rw [Hxd.out] at h; exact h, HF.out⟩
        case measure => simp [intOf]; omega
      exact AllReadyH.nil
    · obtain rfl : k = n := by omega
      have j1 : ¬ (k : Int) < (k : Int) := by omega
      clear hat ho
      go_wp2_with fail
      go_end0
      exact ⟨rfl, Hat.out, Ho.out⟩

/-! ### Sync -/
set_option maxHeartbeats 2000000 in
theorem hsync_any (q : HvP) (d : HvD) (w : World) (h : HvAt w q d) (hr : d.ready) (hf : d.s.pw.fits 2) :
    Calls Tryd.prog 32 #[.pointer (some ⟨q.p, 0, none⟩)] w fun r w' => r = .returned (.int .i64 (St.syncErr d.s)) ∧ HvAt w' q { d with s := St.sync d.s, dead := d.dead || (St.syncErr d.s == 10) } ∧ Only [q.p, q.b, q.g] w w' := by
  have hrd := Lib.hid (ready_ok q d w h hr)
  have H := Lib.hid h
  have Hf := Lib.hid hf
  obtain ⟨e2, he2⟩ : ∃ e, e = St.syncErr d.s := ⟨_, rfl⟩
  rw [← he2]
  have He2 := Lib.hid he2
  clear h hf he2 hr
  go_enter Tryd.func32, Tryd.ntmps32
  go_wp2_with fail
  refine hrd.out.mono ?_
  rintro e w2 ⟨rfl, hB2⟩
  have H2 := Lib.hid (H.out.below hB2)
  have HB2 := Lib.hid hB2
  have c0 := (hv_cells H2.out).1
  clear hB2 hrd
  go_wp2_with fail
  refine (sync_any q.b q.g d.s w2 H2.out.sh Hf.out).mono ?_
  rintro e w3 ⟨rfl, hsh3, hO3⟩
  have H3 := Lib.hid (hv_shelf H2.out hO3 hsh3)
  have HO3 := Lib.hid hO3
  rw [← He2.out]
  clear hsh3 hO3 c0
  go_wp2_with fail
  refine (did_any q _ e2 w3 H3.out).mono ?_
  rintro e w4 ⟨rfl, h4, hO4⟩
  have H4 := Lib.hid h4
  have HO4 := Lib.hid hO4
  clear h4 hO4
  go_wp2_with fail
  go_ret
  exact ⟨rfl, H4.out, ((Only.of_below HB2.out).trans (HO3.out.mono (by intro k hk; simp at hk ⊢; omega))).trans (HO4.out.mono (by intro k hk; simp at hk ⊢; omega))⟩
end Go.Proofs.YteihfoacdocgkaaDoor
