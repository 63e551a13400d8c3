/-
  Layer 17's reference: the walks of New, get, fill.
-/
import Derived.Test.YtfbjbhddapoopaaDoorHeA
set_option linter.unusedVariables false
set_option linter.unusedSimpArgs false
namespace Go.Proofs.YtfbjbhddapoopaaDoor
open Go.RowKit
attribute [local go_sem] Lb.ba_get Lb.ba_cut Lb.ba_add Lb.ba_size Lb.take_rest

set_option maxHeartbeats 4000000 in
set_option maxRecDepth 100000 in
theorem rget_any (p : Nat) (d : RfD) (i : Int) (w : World) (hf : d.Fit) (h : RfMem w p d) :
    Calls Tryd.prog 65 #[.pointer (some ⟨p, 0, none⟩), .int .i64 i] w fun e w' => e = .returned (.agg (sentRow d.peer (askFr d.out i))) ∧ Below w.heap.size w w' := by
  have ra := rf_all hf h
  have ho := hf.out
  have hp : p < w.heap.size := heap_lt h
  have c35 := ra.peer
  have r3 := ra.out
  have hb1 : Tryd.prog.built 44 [(0, .int .i64 6), (7, .agg (byV d.out).toArray), (8, .int .i64 i)] = some (askFr d.out i).row := built_ask d.out i ho
  have hb2 := built_sent d.peer _ (askFr_fit d.out i ho)
  have dix : (Tryd.prog.info? 23).map (·.size) = some (byV d.out).length := by rw [dig_info, byV_length, ho]
  have dund := Tryd.underlying23
  have hsr : (Tryd.prog.info? 50).map (·.size) = some (sentRow d.peer (askFr d.out i)).size := by rw [sent_info, sentRow_size _ (askFr_fit d.out i ho)]
  obtain ⟨F, hF⟩ : ∃ F, F = (askFr d.out i).row := ⟨_, rfl⟩
  obtain ⟨R, hR⟩ : ∃ R, R = sentRow d.peer (askFr d.out i) := ⟨_, rfl⟩
  obtain ⟨pe, hpe⟩ : ∃ pe, pe = d.peer := ⟨_, rfl⟩
  obtain ⟨o, ho'⟩ : ∃ o, o = d.out := ⟨_, rfl⟩
  rw [← hF] at hb1 hb2
  rw [← hR] at hb2 hsr ⊢
  rw [← hpe] at hb2 c35
  rw [← ho'] at hb1 r3 dix
  have hR2 : R.size = 238 := by rw [hR]; exact sentRow_size _ (askFr_fit d.out i ho)
  have hR1 : R.all (·.oneCell') = true := by rw [hR]; exact sent_one _ (askFr_fit d.out i ho)
  have hz : (w.alloc (.cells Tryd.zeroCells50 50)).heap[w.heap.size]? = some (.cells Tryd.zeroCells50 50 (0, 0)) := heap_alloc_new w _
  have hbz : Below w.heap.size w (w.alloc (.cells Tryd.zeroCells50 50)) := (Below.refl _ w).alloc (Nat.le_refl _) _
  have hzs : Tryd.zeroCells50.size = 238 := by rw [zero_sent, sentRow_size _ zeroFr_fit]
  clear hF hR hpe ho' h ho ra hf
  have zs : Tryd.prog.underlying 50 = _ := Tryd.underlying50
  go_enter Tryd.func65, Tryd.ntmps65
  go_upto_region 1 with fail
  obtain ⟨w1, hw1⟩ : ∃ x, x = w.alloc (.cells Tryd.zeroCells50 50) := ⟨_, rfl⟩
  obtain ⟨g, hg⟩ : ∃ g, g = w.heap.size := ⟨_, rfl⟩
  rw [← hw1] at hz hbz ⊢
  rw [← hg] at hz hp ⊢
  have c35 : w1.cell? ⟨p, 32, none⟩ = some (.int .i64 pe) := (hbz.cell (p := ⟨p, 32, none⟩) (by rw [← hg]; exact hp)).trans c35
  have r3 : w1.rangeAt p 0 (byV o) := range_below r3 hbz (by rw [← hg]; exact hp)
  have Hbz := Lib.hid hbz
  have Hg := Lib.hid hg
  have lg : g < w1.heap.size := heap_lt hz
  have lp : p < g := hp
  have Hz := Lib.hid hz
  obtain ⟨Z, hZ⟩ : ∃ Z, Z = Tryd.zeroCells50 := ⟨_, rfl⟩
  rw [← hZ] at hzs Hz
  clear hw1 hbz hg hz hZ hp
  refine wp_region_held_drew (S := HeldG g w1 g 238 50) (by kernel_rfl) (HeldG.start hzs Hz.out) (fun hH0 => ?_)
  obtain ⟨W0, hW0⟩ : ∃ W, W = w1.drew := ⟨_, rfl⟩
  rw [← hW0] at hH0 ⊢
  clear hW0
  refine wpAnyH_take (i := 0) (v := ?_) rfl (by kernel_rfl) (by kernel_rfl) (by kernel_rfl) (fun _ _ _ h => h) (Or.inl ⟨by kernel_rfl, ?_⟩) hH0 ?_
  rotate_left 1
  · intro w hSw
    go_simp
    try with_reducible rfl
  try simp only [Act.put, List.getElem_toArray, List.getElem_cons_zero, List.getElem_cons_succ, List.setIfInBounds_toArray, List.set_cons_zero, List.set_cons_succ]
  refine wpAnyH_take (i := 1) (v := ?_) rfl (by kernel_rfl) (by kernel_rfl) (by kernel_rfl) (fun _ _ _ h => h) (Or.inl ⟨by kernel_rfl, ?_⟩) hH0 ?_
  rotate_left 1
  · intro w hSw
    go_simp
    try with_reducible rfl
  try simp only [Act.put, List.getElem_toArray, List.getElem_cons_zero, List.getElem_cons_succ, List.setIfInBounds_toArray, List.set_cons_zero, List.set_cons_succ]
  refine wpAnyH_take (i := 2) (v := ?_) rfl (by kernel_rfl) (by kernel_rfl) (by kernel_rfl) (fun _ _ _ h => h) (Or.inl ⟨by kernel_rfl, ?_⟩) hH0 ?_
  rotate_left 1
  · intro w hSw
    go_simp
    try with_reducible rfl
  try simp only [Act.put, List.getElem_toArray, List.getElem_cons_zero, List.getElem_cons_succ, List.setIfInBounds_toArray, List.set_cons_zero, List.set_cons_succ]
  refine wpAnyH_take (i := 3) (v := ?_) rfl (by kernel_rfl) (by kernel_rfl) (by kernel_rfl) (fun _ _ _ h => h) (Or.inl ⟨by kernel_rfl, ?_⟩) hH0 ?_
  rotate_left 1
  · intro w hSw
    have f0 := (hSw.1.cell (p := ⟨p, 32, none⟩) lp).trans c35
    go_simp
    try with_reducible rfl
  try simp only [Act.put, List.getElem_toArray, List.getElem_cons_zero, List.getElem_cons_succ, List.setIfInBounds_toArray, List.set_cons_zero, List.set_cons_succ]
  refine wpAnyH_take (i := 4) (v := ?_) rfl (by kernel_rfl) (by kernel_rfl) (by kernel_rfl) (fun _ _ _ h => h) (Or.inl ⟨by kernel_rfl, ?_⟩) hH0 ?_
  rotate_left 1
  · intro w hSw
    go_simp
    try with_reducible rfl
  try simp only [Act.put, List.getElem_toArray, List.getElem_cons_zero, List.getElem_cons_succ, List.setIfInBounds_toArray, List.set_cons_zero, List.set_cons_succ]
  refine wpAnyH_take (i := 5) (v := ?_) rfl (by kernel_rfl) (by kernel_rfl) (by kernel_rfl) (fun _ _ _ h => h) (Or.inl ⟨by kernel_rfl, ?_⟩) hH0 ?_
  rotate_left 1
  · intro w hSw
    go_simp
    try with_reducible rfl
  try simp only [Act.put, List.getElem_toArray, List.getElem_cons_zero, List.getElem_cons_succ, List.setIfInBounds_toArray, List.set_cons_zero, List.set_cons_succ]
  refine wpAnyH_take (i := 6) (v := ?_) rfl (by kernel_rfl) (by kernel_rfl) (by kernel_rfl) (fun _ _ _ h => h) (Or.inl ⟨by kernel_rfl, ?_⟩) hH0 ?_
  rotate_left 1
  · intro w hSw
    go_simp
    try with_reducible rfl
  try simp only [Act.put, List.getElem_toArray, List.getElem_cons_zero, List.getElem_cons_succ, List.setIfInBounds_toArray, List.set_cons_zero, List.set_cons_succ]
  refine wpAnyH_take (i := 7) (v := _) rfl (by kernel_rfl) (by kernel_rfl) (by kernel_rfl) (fun _ _ _ h => h) (yieldsIf_load_mid (by kernel_rfl) _ _ rfl _ _ rfl (byV o) _ (fun W hW => range_below r3 hW.1 lp) dund rfl dix) hH0 ?_
  try simp only [Act.put, List.getElem_toArray, List.getElem_cons_zero, List.getElem_cons_succ, List.setIfInBounds_toArray, List.set_cons_zero, List.set_cons_succ]
  refine wpAnyH_take (i := 8) (v := ?_) rfl (by kernel_rfl) (by kernel_rfl) (by kernel_rfl) (fun _ _ _ h => h) (Or.inl ⟨by kernel_rfl, ?_⟩) hH0 ?_
  rotate_left 1
  · intro w hSw
    go_simp
    try with_reducible rfl
  try simp only [Act.put, List.getElem_toArray, List.getElem_cons_zero, List.getElem_cons_succ, List.setIfInBounds_toArray, List.set_cons_zero, List.set_cons_succ]
  refine wpAnyH_take (i := 9) (v := _) rfl (by kernel_rfl) (by kernel_rfl) (by kernel_rfl) (fun _ _ _ h => h) (yieldsIf_build (by kernel_rfl) 44 _ rfl F (by simpa [Act.eval] using hb1)) hH0 ?_
  try simp only [Act.put, List.getElem_toArray, List.getElem_cons_zero, List.getElem_cons_succ, List.setIfInBounds_toArray, List.set_cons_zero, List.set_cons_succ]
  refine wpAnyH_take (i := 10) (v := _) rfl (by kernel_rfl) (by kernel_rfl) (by kernel_rfl) (fun _ _ _ h => h) (yieldsIf_build (by kernel_rfl) 50 _ rfl R (by simpa [Act.eval] using hb2)) hH0 ?_
  try simp only [Act.put, List.getElem_toArray, List.getElem_cons_zero, List.getElem_cons_succ, List.setIfInBounds_toArray, List.set_cons_zero, List.set_cons_succ]
  refine wpAnyH_ready (rs := [11]) (by kernel_rfl) (by simp) ?_
  refine AllReadyH.cons rfl (fun K_ hK => ?_) ?_
  · rw [if_pos (by rfl)]
    obtain ⟨C, hC, hg2⟩ := hH0.2
    refine wp_store_row 50 _ _ rfl g R rfl rfl 50 C hg2 hsr (by rw [hR2, hC]) hR1 ?_
    refine hK.out _ _ (hH0.put (Nat.le_refl _) R hR2) (fun hH1 => ?_)
    clear hK K_
    try simp only [Act.put, List.getElem_toArray, List.getElem_cons_zero, List.getElem_cons_succ, List.setIfInBounds_toArray, List.set_cons_zero, List.set_cons_succ]
    refine wpAnyH_done (by kernel_rfl) ?_ _
    have HH := Lib.hid hH1
    have HG := Lib.hid (setRow_heap _ g _ R _ _ hg2)
    clear hH1 hg2
    go_wp2_with fail
    (try simp only [Exit.inBlock, Exit.then])
    refine bodyPost_ret (results_cell_row rfl _ _ g 50 R (0, 0) _ rfl HG.out Tryd.underlying50 rfl hsr) rfl ?_
    exact ⟨rfl, Hbz.out.trans (HH.out.1.mono (by rw [← Hg.out]; exact Nat.le_refl _))⟩
  exact AllReadyH.nil

/-! ### New -/
def rnewD (out : List UInt8) (peer : Int) : RfD := ⟨out, peer, 0, zeroMani, false, .slice none 0 0, .slice none 0 0, .slice none 0 0, [], false, false⟩
def RNewPost (w : World) (out : List UInt8) (peer : Int) (e : Ending) (w' : World) : Prop := ∃ p, e = .returned (.pointer (some ⟨p, 0, none⟩)) ∧ w.heap.size ≤ p ∧ RfAt w' [p] p (Hl.new out peer) ∧ Below w.heap.size w w'
def rfPlaces : List (Nat × Nat) := [(0, 32), (32, 1), (33, 1), (34, 34), (68, 1), (69, 1), (70, 1), (71, 1), (72, 1), (73, 1), (74, 1)]
set_option maxRecDepth 100000 in
theorem rf_zero : (Tryd.prog.info? 57).map (·.zero) = some (some (.agg (rnewD (List.replicate 32 0) 0).cells.toArray)) := by kernel_rfl
set_option maxRecDepth 100000 in
theorem built_rf (out : List UInt8) (peer : Int) (h : out.length = 32) : Tryd.prog.built 57 [(0, .agg (byV out).toArray), (1, .int .i64 peer)] = some (rnewD out peer).cells.toArray := by
  obtain ⟨it, hit, hz⟩ := Option.map_eq_some_iff.1 rf_zero
  have hp : ∀ fs, Tryd.prog.underlying 57 = some (.struct fs) → fs.toList.mapM (fun f => (Tryd.prog.info? f.type).map fun i => (f.offset, i.size)) = some rfPlaces := by
    intro fs h
    obtain rfl := (TypeDesc.struct.inj (Option.some.inj (Tryd.underlying57.symm.trans h)))
    kernel_rfl
  unfold Program.built
  rw [hit]
  simp only [Tryd.underlying57]
  rw [hz, hp _ Tryd.underlying57]
  have h1 := fill_seg (place := (rfPlaces.toArray[·]?)) (i := 0) (v := .agg (byV out).toArray) (rest := [(1, .int .i64 peer)]) (pre := []) (old := byV (List.replicate 32 0)) (vs := byV out) (off := 0) (size := 32)
    (post := [Value.int .i64 0, Value.int .i64 0] ++ (zeroMani.cells ++ [Value.bool false, .slice none 0 0, .slice none 0 0, .slice none 0 0, Value.string ⟨#[]⟩, Value.bool false, Value.bool false])) rfl (cells_agg _) (by rw [byV_length, h]) rfl rfl
  have h2 := fill_seg (place := (rfPlaces.toArray[·]?)) (i := 1) (v := .int .i64 peer) (rest := []) (pre := byV out) (old := [Value.int .i64 0]) (vs := [Value.int .i64 peer]) (off := 32) (size := 1)
    (post := [Value.int .i64 0] ++ (zeroMani.cells ++ [Value.bool false, .slice none 0 0, .slice none 0 0, .slice none 0 0, Value.string ⟨#[]⟩, Value.bool false, Value.bool false])) rfl (cells_int _ _) rfl (by simp [byV_length, h]) rfl
  exact (h1.trans h2).trans (fill_nil _ _)
set_option maxHeartbeats 2000000 in
set_option maxRecDepth 100000 in
theorem rnew_any (out : List UInt8) (peer : Int) (w : World) (h : out.length = 32) (h1 : 1 ≤ peer) (h6 : peer ≤ 6) :
    Calls Tryd.prog 16 #[.agg (digV out), .int .i64 peer] w (RNewPost w out peer) := by
  have hb := built_rf out peer h
  have hok := new_ok out peer h h1 h6
  have hd : (digV out) = (byV out).toArray := rfl
  have i1 : ¬ peer < 1 := by omega
  have i2 : ¬ 6 < peer := by omega
  go_enter Tryd.func16, Tryd.ntmps16
  go_upto_region 3 with fail
  rw [hd]
  have dix : (Tryd.prog.info? 23).map (·.size) = some (byV out).toArray.size := by rw [dig_info]; simp [byV_length, h]
  go_wp2_with (first
    | (refine wpList_load_row rfl 23 _ rfl w.heap.size rfl 23 (byV out).toArray (0, 0) _ (heap_alloc_new w _) Tryd.underlying23 rfl dix ?_)
    | (refine wpList_build2 rfl 57 _ _ _ _ rfl _ _ rfl rfl _ hb ?_))
  go_ret
  have b2 : Below w.heap.size w ((w.alloc (.cells (byV out).toArray 23)).alloc (.cells (rnewD out peer).cells.toArray 57)) := ((Below.refl _ _).alloc (Nat.le_refl _) _).alloc (by simp) _
  have h2 := heap_alloc_new (w.alloc (.cells (byV out).toArray 23)) (.cells (rnewD out peer).cells.toArray 57)
  simp only [World.size_alloc] at h2
  exact ⟨w.heap.size + 1, rfl, by omega, ⟨hok, fun _ => rfl, by intro k hk; simp at hk; subst hk; exact heap_lt h2, by simp, _, h2, ⟨h, rfl⟩, ⟨rfl, rfl, rfl, rfl, rfl, rfl⟩, .inl ⟨rfl, rfl, rfl, rfl, rfl⟩⟩, b2⟩
set_option maxHeartbeats 2000000 in
theorem rnew_nil (out : List UInt8) (peer : Int) (w : World) (h : out.length = 32) (h1 : ¬ (1 ≤ peer ∧ peer ≤ 6)) :
    Calls Tryd.prog 16 #[.agg (digV out), .int .i64 peer] w fun e w' => e = .returned (.pointer none) ∧ Below w.heap.size w w' := by
  by_cases h6 : peer < 1
  · go_enter Tryd.func16, Tryd.ntmps16
    go_wp2_with fail
    go_ret
    exact ⟨rfl, (Below.refl _ _).alloc (Nat.le_refl _) _⟩
  · have h7 : 6 < peer := by omega
    clear h1
    go_enter Tryd.func16, Tryd.ntmps16
    go_wp2_with fail
    go_ret
    exact ⟨rfl, (Below.refl _ _).alloc (Nat.le_refl _) _⟩

/-! ### fill -/
theorem ask_cell {w : World} {c : Nat} {cks : List Ck} (h : w.heap[c]? = some (.cells (askV cks).toArray 3 (0, 0))) {k : Nat} {x : Ck} (hk : cks[k]? = some x) : w.cell? ⟨c, k, none⟩ = some (.int .i64 (if x.asked = true then x.at_ + 1 else 0)) := by
  rw [Lib.cell_of_heap h]; simp [askV, hk]
theorem come_cell {w : World} {c : Nat} {cks : List Ck} (h : w.heap[c]? = some (.cells (comeV cks).toArray 4 (0, 0))) {k : Nat} {x : Ck} (hk : cks[k]? = some x) : w.cell? ⟨c, k, none⟩ = some (.bool x.come) := by
  rw [Lib.cell_of_heap h]; simp [comeV, hk]
def RFillPost (w : World) (c : Nat) (peer : Int) (out : List UInt8) (ats : List Int) (cks : List Ck) (e : Ending) (w' : World) : Prop :=
  ∃ v, e = .returned v ∧ Asks w' w.heap.size v peer out ats ∧ w'.heap[c]? = some (.cells (askV cks).toArray 3 (0, 0)) ∧ Only [c] w w'

set_option maxHeartbeats 4000000 in
set_option maxRecDepth 100000 in
theorem rfill_raw (S : List Nat) (p c1 c2 c3 : Nat) (d : HlD) (r : RfD) (w : World) (ok : Hl.Ok d) (hm : RfMem w p r) (hf : r.Fit) (hi : RfIs r d) (hx : RfHas w S p d c1 c2 c3 r) :
    Calls Tryd.prog 66 #[.pointer (some ⟨p, 0, none⟩)] w (RFillPost w c3 d.peer d.out (Hl.fill d.ticks d.cks).2 (Hl.fill d.ticks d.cks).1) := by
  have hpl : p < w.heap.size := heap_lt hm
  have h1l : c1 < w.heap.size := heap_lt hx.h1
  have h3l : c3 < w.heap.size := heap_lt hx.h3
  have h8 := ok.len
  have tlo := ok.tlo
  have thi := ok.thi
  have hat := ok.asked
  obtain ⟨w1, hw1⟩ : ∃ y, y = w.alloc (.cells #[] 50) := ⟨_, rfl⟩
  have b1 : Below w.heap.size w w1 := by rw [hw1]; exact (Below.refl _ w).alloc (Nat.le_refl _) _
  have hA0 : Asks w1 w.heap.size (.slice (some ⟨w.heap.size, 0, none⟩) 0 0) d.peer d.out [] := by
    have hg := heap_alloc_new w (.cells #[] 50)
    rw [← hw1] at hg
    exact .inr ⟨w.heap.size, 0, rfl, Nat.le_refl _, ⟨Nat.le_refl _, Nat.zero_le _, heap_lt hg, rfl, fun j u hu => by simp [asksCells] at hu, fun j hj => by omega⟩⟩
  have hm1 : RfMem w1 p r := below_keep b1 hm
  have hc1 := below_keep b1 hx.h1
  have hc3 := below_keep b1 hx.h3
  have ra := rf_all hf hm1
  have c69 := ra.vc
  have c71 := ra.va
  have c33 := ra.ticks
  rw [hx.vc] at c69
  rw [hx.va] at c71
  rw [hi.ticks] at c33
  have HM := Lib.hid hm1
  have HF := Lib.hid hf
  have HI := Lib.hid hi
  have hne1 := hx.n13
  have hne3 := hx.p3
  have HA0 := Lib.hid hA0
  have HX := Lib.hid hx
  have Hb1 := Lib.hid b1
  obtain ⟨n, hn⟩ : ∃ n, n = d.cks.length := ⟨_, rfl⟩
  obtain ⟨t, ht⟩ : ∃ t, t = d.ticks := ⟨_, rfl⟩
  obtain ⟨cks, hcks⟩ : ∃ x, x = d.cks := ⟨_, rfl⟩
  rw [← hn] at c69 c71 h8
  have Hnd := Lib.hid hn
  rw [← ht] at c33 tlo thi ⊢
  rw [← hcks] at hat hn hc1 hc3 ⊢
  have Hn := Lib.hid hn
  have Ht := Lib.hid ht
  have Hat := Lib.hid hat
  have HC1 := Lib.hid hc1
  have HC3 := Lib.hid hc3
  have Hne1 := Lib.hid hne1
  have Hne3 := Lib.hid hne3
  have Hw1 := Lib.hid hw1
  have hw : IntKind.i64.wrap (t + 1) = t + 1 := IntWalk.i64_in _ (by omega)
  have hpl1 : p < w1.heap.size := Nat.lt_of_lt_of_le hpl b1.size
  clear hm hm1 hf hi hx ra hn ht hcks hat hc1 hc3 hw1 hA0 b1 hne1 hne3
  go_enter Tryd.func66, Tryd.ntmps66
  go_wp2_with fail
  rw [← Hw1.out]
  go_loopw [4, 5] (fun m i wr => ∃ k : Nat, k ≤ n ∧ i = .int .i64 k ∧ m = .int .i64 (Hl.askN cks k) ∧ w1 = wr) (fun _ i _ => n - (intOf i).toNat)
  case atStart => exact ⟨0, by omega, rfl, rfl, rfl⟩
  case round =>
    obtain ⟨k, hk, rfl, rfl, rfl⟩ := hrel
    by_cases hkn : k < n
    · have hkl : k < cks.length := by rw [← Hn.out]; exact hkn
      obtain ⟨x, hx⟩ : ∃ x, cks[k]? = some x := ⟨_, List.getElem?_eq_getElem hkl⟩
      have r3 := ask_cell HC3.out hx
      have hab : Hl.askN cks (k + 1) = Hl.askN cks k + (if x.asked = true then 1 else 0) := by rw [Hl.askN, hx]
      obtain ⟨alo, ahi⟩ := Hat.out x (List.mem_of_getElem? hx)
      obtain ⟨v, hv⟩ : ∃ v, v = (if x.asked = true then x.at_ + 1 else 0) := ⟨_, rfl⟩
      rw [← hv] at r3
      have hv0 : (v != 0) = x.asked := by
        rw [hv]
        cases x.asked
        · rfl
        · simp; omega
      obtain ⟨b, hb'⟩ : ∃ b, b = x.asked := ⟨_, rfl⟩
      rw [← hb'] at hv0 hab
      have Hab := Lib.hid hab
      have kn : (k : Int) < (n : Int) := by omega
      have kb := Hl.askN_le cks k
      clear hx hab hb' hv alo ahi
      cases b
      all_goals
        go_wp2_with fail
        go_roundw
        case rel => exact ⟨k + 1, by omega, by go_num, by rw [Hab.out]; go_num, by first | trivial | rfl⟩
        case measure => simp [intOf]; omega
    · obtain rfl : n = k := by omega
      obtain ⟨m, hm⟩ : ∃ m, m = Hl.askN cks n := ⟨_, rfl⟩
      have hm8 : m ≤ 8 := by have := Hl.askN_le cks n; omega
      rw [← hm]
      have Hm := Lib.hid hm
      clear hm hk hkn
      go_wp2_with fail
      go_loopw [3, 4, 6] (fun v mm i wx => ∃ j : Nat, j ≤ n ∧ i = .int .i64 j ∧ mm = .int .i64 (Hl.fillAt t cks m j).2.1 ∧ Asks wx w.heap.size v d.peer d.out (Hl.fillAt t cks m j).2.2 ∧ wx.heap[c3]? = some (.cells (askV (Hl.fillAt t cks m j).1).toArray 3 (0, 0)) ∧ Only [c3] w wx) (fun _ _ i _ => n - (intOf i).toNat)
      case atStart => exact ⟨0, by omega, rfl, rfl, HA0.out, HC3.out, Only.of_below Hb1.out⟩
      case round =>
        obtain ⟨j, hj, rfl, rfl, hA, hC, hO⟩ := hrel
        have hstep : Hl.fillAt t cks m (j + 1) = Hl.fillStep t (Hl.fillAt t cks m j) j := rfl
        have hlen := Hl.fillAt_len t cks m j
        have hbd := Hl.fillAt_bound t cks m j
        have hcd := (Hl.fillAt_cd t cks m j).1
        have hget := Hl.fillAt_get t cks m j j (Nat.le_refl _)
        have hfull := Hl.fillAt_full t cks m j
        have hO1 : ∀ q, q < w.heap.size → q ≠ c3 → wr.heap[q]? = w1.heap[q]? := fun q hq hne => (hO.block q hq (by simpa using hne)).trans (Hb1.out.block q hq).symm
        have hmemx : RfMem wr p r := (hO1 p hpl (fun e => Hne3.out e.symm)).trans HM.out
        have hcomx : wr.heap[c1]? = some (.cells (comeV cks).toArray 4 (0, 0)) := (hO1 c1 h1l Hne1.out).trans HC1.out
        have rx := rf_all HF.out hmemx
        have x69 := rx.vc
        have x71 := rx.va
        have x33 := rx.ticks
        rw [HX.out.vc, ← Hnd.out] at x69
        rw [HX.out.va, ← Hnd.out] at x71
        rw [HI.out.ticks, ← Ht.out] at x33
        obtain ⟨cs, hcs⟩ : ∃ cs, cs = (Hl.fillAt t cks m j).1 := ⟨_, rfl⟩
        obtain ⟨mm, hmm⟩ : ∃ mm, mm = (Hl.fillAt t cks m j).2.1 := ⟨_, rfl⟩
        obtain ⟨ats, hats⟩ : ∃ ats, ats = (Hl.fillAt t cks m j).2.2 := ⟨_, rfl⟩
        have hst3 : Hl.fillAt t cks m j = (cs, mm, ats) := by rw [hcs, hmm, hats]
        rw [hst3] at hstep hfull
        rw [← hcs] at hC hlen hcd hget
        rw [← hmm] at hbd ⊢
        rw [← hats] at hA hbd
        obtain ⟨hb1, hb2, -⟩ := hbd
        rw [← hcd] at hcomx
        have HA := Lib.hid hA
        have Hstep := Lib.hid hstep
        have HO' := Lib.hid hO
        have Hmemx := Lib.hid hmemx
        have Hlen := Lib.hid hlen
        have Hst := Lib.hid hst3
        have Hfull := Lib.hid hfull
        have HC := Lib.hid hC
        have Hcom := Lib.hid hcomx
        have Hget := Lib.hid hget
        clear hcs hmm hats hst3 hA hstep hO hmemx hlen hfull hC hcomx hget hO1 rx hcd c33 c69 c71
        by_cases hjn : j < n
        · have hjl : j < cs.length := by rw [Hlen.out, ← Hn.out]; exact hjn
          obtain ⟨x, hx⟩ : ∃ x, cs[j]? = some x := ⟨_, List.getElem?_eq_getElem hjl⟩
          have r1 := come_cell Hcom.out hx
          have r3 := ask_cell HC.out hx
          have z3 : wr.frozen? ⟨c3, j, none⟩ = false := Lib.frozen_of_heap HC.out _
          obtain ⟨alo, ahi⟩ := Hat.out x (List.mem_of_getElem? (Hget.out.symm.trans hx))
          have Hx := Lib.hid hx
          have jn : (j : Int) < (n : Int) := by omega
          obtain ⟨b1, hb1'⟩ : ∃ b, b = x.come := ⟨_, rfl⟩
          obtain ⟨v, hv⟩ : ∃ v, v = (if x.asked = true then x.at_ + 1 else 0) := ⟨_, rfl⟩
          rw [← hv] at r3
          have hv0 : (v == 0) = !x.asked := by
            rw [hv]
            cases x.asked
            · rfl
            · simp; omega
          obtain ⟨b2, hb2'⟩ : ∃ b, b = x.asked := ⟨_, rfl⟩
          rw [← hb1'] at r1
          rw [← hb2'] at hv0
          have hS := Hstep.out
          unfold Hl.fillStep at hS
          rw [hx] at hS
          simp only [← hb1', ← hb2'] at hS
          have Hbc := Lib.hid hb1'
          clear hb1' hb2' hx Hstep hv alo ahi
          by_cases hm2 : mm < 2
          · have m2 : (mm : Int) < 2 := by omega
            by_cases hyes : b1 = false ∧ b2 = false
            · rw [if_pos ⟨hm2, hyes⟩] at hS
              obtain ⟨rfl, rfl⟩ := hyes
              have HS := Lib.hid hS
              clear hS
              go_upto_region 12 with fail
              go_region
              go_upto_region 14 with fail
              have hC3 := heap_setCell_same _ c3 j _ _ (.int .i64 (t + 1)) HC.out
              rw [askV_set cs j x t] at hC3
              have hO3 : Only [c3] wr ((wr.setCell ⟨c3, j, none⟩ (.int .i64 (t + 1))).drew) := ((Only.refl _ _).setCell (by simp) _).drew
              have hC3 : ((wr.setCell ⟨c3, j, none⟩ (.int .i64 (t + 1))).drew).heap[c3]? = _ := hC3
              obtain ⟨w2, hw2⟩ : ∃ y, y = ((wr.setCell ⟨c3, j, none⟩ (.int .i64 (t + 1))).drew) := ⟨_, rfl⟩
              rw [← hw2] at hC3 hO3 ⊢
              have hm2' : RfMem w2 p r := hO3.keep Hmemx.out (by simp; exact fun e => Hne3.out e.symm)
              have hA2 : Asks w2 w.heap.size u3 d.peer d.out ats := Bag0.only HA.out hO3 (by simp; exact h3l)
              have Hask := Lib.hid (fun W h => rget_any p r (j : Int) W HF.out h)
              rw [HI.out.peer, HI.out.out] at Hask
              have HC3' := Lib.hid hC3
              have HO3 := Lib.hid hO3
              have HM2 := Lib.hid hm2'
              have HA2 := Lib.hid hA2
              clear hw2 hC3 hO3 hm2' hA2 r1 r3 z3 x33 x69 x71 HA HC hv0 hw
              go_wp2_with fail
              refine (Hask.out w2 HM2.out).mono ?_
              rintro e w3 ⟨rfl, hB3⟩
              have hout : d.out.length = 32 := ok.out
              have hfit := askFr_fit d.out (j : Int) hout
              have hR := sentRow_size d.peer hfit
              have hsrc : Src Tryd.prog 238 31 (.slice (some ⟨w3.heap.size, 0, none⟩) 1 1) 1 (sentCells d.peer (askFr d.out j)) (w3.alloc (.cells (sentRow d.peer (askFr d.out j)) 50)) := sent_src hfit (heap_alloc_new w3 _)
              have hA4 : Asks (w3.alloc (.cells (sentRow d.peer (askFr d.out j)) 50)) w.heap.size u3 d.peer d.out ats := (HA2.out.below hB3).alloc _
              have hC4 : (w3.alloc (.cells (sentRow d.peer (askFr d.out j)) 50)).heap[c3]? = _ := below_keep ((Below.refl _ w3).alloc (Nat.le_refl _) _) (below_keep hB3 HC3'.out)
              have hO4 : Only [c3] w (w3.alloc (.cells (sentRow d.peer (askFr d.out j)) 50)) := (((HO'.out.trans HO3.out).belowB (hB3.mono (HO'.out.trans HO3.out).size))).alloc _
              obtain ⟨i0, hi0, hz0, hz1, hz2⟩ := sent_parts
              have HC4 := Lib.hid hC4
              have HO4 := Lib.hid hO4
              have hws := hO4.size
              obtain ⟨A, cap, rfl, -, -⟩ := Bag0.shape hA4
              have HHA := Lib.hid hA4
              have Hfit := Lib.hid hfit
              clear hC4 hO4 hfit HC3' HO3 HM2 HA2 Hask hA4 hB3
              go_wp2_with (first
                | (refine wpList_sent1 rfl _ rfl _ rfl hR ?_)
                | (at_builtin; refine wpList_append_bag0 _ rfl _ _ 31 31 rfl i0 _ 408 Tryd.underlying31 hi0 hz0 hz1 hz2 (sentRow_size 0 zeroFr_fit) hws rfl HHA.out _ 1 _ rfl hsrc (by omega) (by unfold maxLen; omega) (by omega) ?_))
              intro v' w' hB' hb'
              have hA5 : Asks w' w.heap.size v' d.peer d.out (ats ++ [(j : Int)]) := by
                unfold Asks
                rw [asks_succ, List.length_append]
                exact hB'
              have hC5 : w'.heap[c3]? = _ := (hb'.block c3 h3l).trans HC4.out
              have hO5 : Only [c3] w w' := HO4.out.belowB hb'
              rw [← Hbc.out] at hC5
              have HA5 := Lib.hid hA5
              have HC5 := Lib.hid hC5
              have HO5 := Lib.hid hO5
              clear hA5 hC5 hO5 hB' hb' hsrc hws hi0 hz0 hz1 hz2 hR
              go_wp2_with fail
              go_roundw
              case rel => exact ⟨j + 1, by omega, by go_num, by rw [HS.out]; go_num, by rw [HS.out]; exact HA5.out, by rw [HS.out]; exact HC5.out, HO5.out⟩
              case measure => simp [intOf]; omega
            · rw [if_neg (by intro h; exact hyes h.2)] at hS
              have HS := Lib.hid hS
              clear hS
              have hb : b1 = true ∨ b1 = false ∧ b2 = true := by cases b1 <;> cases b2 <;> simp_all
              clear hyes
              rcases hb with rfl | ⟨rfl, rfl⟩
              all_goals
                go_wp2_with fail
                go_roundw
                case rel => exact ⟨j + 1, by omega, by go_num, by rw [HS.out], by rw [HS.out]; exact HA.out, by rw [HS.out]; exact HC.out, HO'.out⟩
                case measure => simp [intOf]; omega
          · have m2 : ¬ (mm : Int) < 2 := by omega
            have hfill : Hl.fill t cks = (cs, ats) := by
              have := Hfull.out (by show 2 ≤ mm; omega) (n - j)
              rw [show j + (n - j) = n by omega] at this
              unfold Hl.fill
              rw [← Hn.out, ← Hm.out, this]
            have Hfill := Lib.hid hfill
            clear hfill hS hv0 hw
            go_wp2_with fail
            go_ret
            rw [Hfill.out]
            exact ⟨_, rfl, HA.out, HC.out, HO'.out⟩
        · obtain rfl : n = j := by omega
          clear hw
          go_wp2_with fail
          go_ret
          have hfill : Hl.fill t cks = (cs, ats) := by unfold Hl.fill; rw [← Hn.out, ← Hm.out, Hst.out]
          rw [hfill]
          exact ⟨_, rfl, HA.out, HC.out, HO'.out⟩
end Go.Proofs.YtfbjbhddapoopaaDoor
