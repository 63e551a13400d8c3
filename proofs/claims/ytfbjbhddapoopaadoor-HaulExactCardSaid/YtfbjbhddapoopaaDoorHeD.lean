/-
  Layer 17's reference: the walk of end; fill, over the whole fetch.
-/
import Derived.Test.YtfbjbhddapoopaaDoorHeC
import Derived.Test.YtfbjbhddapoopaaDoorRcF
set_option linter.unusedVariables false
set_option linter.unusedSimpArgs false
namespace Go.Proofs.YtfbjbhddapoopaaDoor
open Go.RowKit
attribute [local go_sem] Lb.ba_get Lb.ba_cut Lb.ba_add Lb.ba_size Lb.take_rest

theorem strs_of_heap {w : World} {c : Nat} {ts : List (List UInt8)} (h : w.heap[c]? = some (.cells (rowT ts).toArray 9 (0, 0))) : Strs w w.heap.size (some ⟨c, 0, none⟩) ts := fun i hi => by
  refine ⟨_, rfl, heap_lt h, ?_⟩
  rw [Addr.add_lit, Nat.zero_add, Lib.cell_of_heap h]
  simp [rowT, hi]
namespace Hl
/-- all has come: the end is looked at -/
def fin (K : List Int) (d : HlD) (sp : Int × List (List UInt8)) : HlD :=
  { d with blob := (joinS K (mk d.out sp) (d.cks.map (·.data))).1, done := (joinS K (mk d.out sp) (d.cks.map (·.data))).2 == 0, failed := !((joinS K (mk d.out sp) (d.cks.map (·.data))).2 == 0) }
theorem settle_fin (K : List Int) (d : HlD) (sp : Int × List (List UInt8)) (h : allCome d.cks = true) : settle K d sp = (fin K d sp, []) := by unfold settle; rw [if_pos h]; rfl
theorem settle_fill (K : List Int) (d : HlD) (sp : Int × List (List UInt8)) (h : allCome d.cks = false) : settle K d sp = ({ d with cks := (fill d.ticks d.cks).1 }, (fill d.ticks d.cks).2) := by unfold settle; rw [if_neg (by simp [h])]
end Hl
theorem joinS_two (K : List Int) (m : ManiD) (ts : List (List UInt8)) : (joinS K m ts).2 = 0 ∨ (joinS K m ts).2 ≠ 0 ∧ (joinS K m ts).1 = [] := by
  unfold joinS
  split
  · split
    · split
      · exact .inl rfl
      · exact .inr ⟨by decide, rfl⟩
    · exact .inr ⟨by decide, rfl⟩
  · exact .inr ⟨by decide, rfl⟩

set_option maxHeartbeats 4000000 in
set_option maxRecDepth 100000 in
theorem rend_any (p : Nat) (S : List Nat) (d : HlD) (sp : Int × List (List UInt8)) (w : World) (h : RfAt w S p d) (hsp : d.mani = some sp) (hd : d.done = false) (hfl : d.failed = false) :
    Calls Tryd.prog 71 #[.pointer (some ⟨p, 0, none⟩)] w fun e w' => e = .returned (.tuple #[]) ∧ RfAt w' S p (Hl.fin KK d sp) ∧ Only [p] w w' := by
  obtain ⟨ok, und, lt, pS, r, hm, hf, hi, hx⟩ := h
  have hX := hx
  rcases hx with hx | ⟨c1, c2, c3, hx⟩
  · rw [hx.mani] at hsp; cases hsp
  have hmk : Hl.mk d.out sp = ⟨d.out, r.m.size, none, 0, r.m.parts⟩ := by
    have e := hx.mani
    rw [hsp] at e
    obtain rfl := Option.some.inj e
    rfl
  have mok := hx.mok ok lt
  obtain ⟨ts, hts⟩ : ∃ ts, ts = d.cks.map (·.data) := ⟨_, rfl⟩
  have htl : ts.length = d.cks.length := by rw [hts, List.length_map]
  have h8 := ok.len
  have ht64 : ∀ t ∈ ts, t.length ≤ 64 := by
    intro t ht
    rw [hts] at ht
    obtain ⟨x, hx, rfl⟩ := List.mem_map.1 ht
    exact ok.data x hx
  have hjs : joinS KK (Hl.mk d.out sp) ts = joinS KK r.m ts := by
    rw [hmk, ← hx.whole]; rfl
  have hfin : Hl.fin KK d sp = { d with blob := (joinS KK r.m ts).1, done := (joinS KK r.m ts).2 == 0, failed := !((joinS KK r.m ts).2 == 0) } := by
    unfold Hl.fin
    rw [← hts, hjs]
  have h2 := hx.h2
  unfold dataV at h2
  rw [← hts] at h2
  have hJ := Lib.hid (fun W (hW : Below w.heap.size w W) => rjoin_any r.m (some ⟨c2, 0, none⟩) d.cks.length ts W ((mok.below hW (Nat.le_refl _)).more hW.size) (strs_of_heap (below_keep hW h2)) (by omega) (by unfold maxLen; omega) (by omega) (fun t ht => by have := ht64 t ht; omega))
  have hokS : Hl.Ok (Hl.fin KK d sp) := { ok with open14 := fun _ => ok.open14 hfl }
  have ra := rf_all hf hm
  have rm := ra.mani
  have c70 := ra.vd
  rw [hx.vd] at c70
  have mdix : (Tryd.prog.info? 39).map (·.size) = some r.m.cells.length := by rw [mani_info, mani_cells_len r.m hf.whole]
  have mund := Tryd.underlying39
  have lp : p < w.heap.size := heap_lt hm
  have htwo := joinS_two KK r.m ts
  have hrow : r.m.row = r.m.cells.toArray := rfl
  rw [hrow] at hJ
  obtain ⟨bl, hbl⟩ : ∃ y, y = (joinS KK r.m ts).1 := ⟨_, rfl⟩
  obtain ⟨er, her⟩ : ∃ y, y = (joinS KK r.m ts).2 := ⟨_, rfl⟩
  rw [← hbl, ← her] at hfin htwo
  simp only [← hbl, ← her, htl] at hJ
  rw [hfin] at hokS ⊢
  obtain ⟨mc, hmc⟩ : ∃ y, y = r.m.cells := ⟨_, rfl⟩
  rw [← hmc] at rm mdix hJ
  have HM := Lib.hid hm
  have HF := Lib.hid hf
  have HI := Lib.hid hi
  have HX := Lib.hid hX
  have LT := Lib.hid lt
  have PS := Lib.hid pS
  have HOK := Lib.hid hokS
  have HU := Lib.hid und
  have HD := Lib.hid hd
  have HFL := Lib.hid hfl
  obtain ⟨n, hn⟩ : ∃ n, n = d.cks.length := ⟨_, rfl⟩
  rw [← hn] at hJ c70
  clear hm hf hi hX lt pS hokS und hd hfl hx mok hts htl h8 ht64 hjs hfin h2 ra hmk hrow hbl her hmc hn ok hsp
  go_enter Tryd.func71, Tryd.ntmps71
  go_upto_region 0 with fail
  refine wp_region_held_drew (S := fun w' => Below w.heap.size w w') (by kernel_rfl) ((Below.refl _ _).drew) (fun hH0 => ?_)
  obtain ⟨W0, hW0⟩ : ∃ W, W = w.drew := ⟨_, rfl⟩
  rw [← hW0] at hH0 ⊢
  clear hW0
  refine wpAnyH_take (i := 0) (v := ?_) rfl (by kernel_rfl) (by kernel_rfl) (by kernel_rfl) (fun _ _ _ h => h) (Or.inl ⟨by kernel_rfl, ?_⟩) hH0 ?_
  rotate_left 1
  · intro w hSw
    go_simp
    try with_reducible rfl
  try simp only [Act.put, List.getElem_toArray, List.getElem_cons_zero, List.getElem_cons_succ, List.setIfInBounds_toArray, List.set_cons_zero, List.set_cons_succ]
  refine wpAnyH_take (i := 1) (v := ?_) rfl (by kernel_rfl) (by kernel_rfl) (by kernel_rfl) (fun _ _ _ h => h) (Or.inl ⟨by kernel_rfl, ?_⟩) hH0 ?_
  rotate_left 1
  · intro w hSw
    go_simp
    try with_reducible rfl
  try simp only [Act.put, List.getElem_toArray, List.getElem_cons_zero, List.getElem_cons_succ, List.setIfInBounds_toArray, List.set_cons_zero, List.set_cons_succ]
  refine wpAnyH_take (i := 2) (v := ?_) rfl (by kernel_rfl) (by kernel_rfl) (by kernel_rfl) (fun _ _ _ h => h) (Or.inl ⟨by kernel_rfl, ?_⟩) hH0 ?_
  rotate_left 1
  · intro w hSw
    go_simp
    try with_reducible rfl
  try simp only [Act.put, List.getElem_toArray, List.getElem_cons_zero, List.getElem_cons_succ, List.setIfInBounds_toArray, List.set_cons_zero, List.set_cons_succ]
  refine wpAnyH_take (i := 3) (v := _) rfl (by kernel_rfl) (by kernel_rfl) (by kernel_rfl) (fun _ _ _ h => h) (yieldsIf_load_mid (by kernel_rfl) _ _ rfl _ _ rfl mc _ (fun W hW => range_below rm hW lp) mund rfl mdix) hH0 ?_
  try simp only [Act.put, List.getElem_toArray, List.getElem_cons_zero, List.getElem_cons_succ, List.setIfInBounds_toArray, List.set_cons_zero, List.set_cons_succ]
  refine wpAnyH_take (i := 4) (v := ?_) rfl (by kernel_rfl) (by kernel_rfl) (by kernel_rfl) (fun _ _ _ h => h) (Or.inl ⟨by kernel_rfl, ?_⟩) hH0 ?_
  rotate_left 1
  · intro w hSw
    go_simp
    try with_reducible rfl
  try simp only [Act.put, List.getElem_toArray, List.getElem_cons_zero, List.getElem_cons_succ, List.setIfInBounds_toArray, List.set_cons_zero, List.set_cons_succ]
  refine wpAnyH_take (i := 5) (v := ?_) rfl (by kernel_rfl) (by kernel_rfl) (by kernel_rfl) (fun _ _ _ h => h) (Or.inl ⟨by kernel_rfl, ?_⟩) hH0 ?_
  rotate_left 1
  · intro w hSw
    go_simp
    try with_reducible rfl
  try simp only [Act.put, List.getElem_toArray, List.getElem_cons_zero, List.getElem_cons_succ, List.setIfInBounds_toArray, List.set_cons_zero, List.set_cons_succ]
  refine wpAnyH_take (i := 6) (v := ?_) rfl (by kernel_rfl) (by kernel_rfl) (by kernel_rfl) (fun _ _ _ h => h) (Or.inl ⟨by kernel_rfl, ?_⟩) hH0 ?_
  rotate_left 1
  · intro w hSw
    go_simp
    try with_reducible rfl
  try simp only [Act.put, List.getElem_toArray, List.getElem_cons_zero, List.getElem_cons_succ, List.setIfInBounds_toArray, List.set_cons_zero, List.set_cons_succ]
  refine wpAnyH_take (i := 7) (v := ?_) rfl (by kernel_rfl) (by kernel_rfl) (by kernel_rfl) (fun _ _ _ h => h) (Or.inl ⟨by kernel_rfl, ?_⟩) hH0 ?_
  rotate_left 1
  · intro w hSw
    have f0 := (hSw.cell (p := ⟨p, 70, none⟩) lp).trans c70
    go_simp
    try with_reducible rfl
  try simp only [Act.put, List.getElem_toArray, List.getElem_cons_zero, List.getElem_cons_succ, List.setIfInBounds_toArray, List.set_cons_zero, List.set_cons_succ]
  refine wpAnyH_ready (rs := [8]) (by kernel_rfl) (by simp) ?_
  refine AllReadyH.cons rfl (fun K_ hK => ?_) ?_
  · go_simp
    refine (hJ.out W0 hH0).mono ?_
    rintro e W1 ⟨rfl, hb1⟩
    refine hK.out _ _ ((hH0).trans (hb1.mono (hH0).size)) (fun hH1 => ?_)
    clear hK K_
    try simp only [Act.put, List.getElem_toArray, List.getElem_cons_zero, List.getElem_cons_succ, List.setIfInBounds_toArray, List.set_cons_zero, List.set_cons_succ]
    refine wpAnyH_take (i := 9) (v := ?_) rfl (by kernel_rfl) (by kernel_rfl) (by kernel_rfl) (fun _ _ _ h => h) (Or.inl ⟨by kernel_rfl, ?_⟩) hH1 ?_
    rotate_left 1
    · intro w hSw
      go_simp
      try with_reducible rfl
    try simp only [Act.put, List.getElem_toArray, List.getElem_cons_zero, List.getElem_cons_succ, List.setIfInBounds_toArray, List.set_cons_zero, List.set_cons_succ]
    refine wpAnyH_take (i := 10) (v := ?_) rfl (by kernel_rfl) (by kernel_rfl) (by kernel_rfl) (fun _ _ _ h => h) (Or.inl ⟨by kernel_rfl, ?_⟩) hH1 ?_
    rotate_left 1
    · intro w hSw
      go_simp
      try with_reducible rfl
    try simp only [Act.put, List.getElem_toArray, List.getElem_cons_zero, List.getElem_cons_succ, List.setIfInBounds_toArray, List.set_cons_zero, List.set_cons_succ]
    refine wpAnyH_take (i := 11) (v := ?_) rfl (by kernel_rfl) (by kernel_rfl) (by kernel_rfl) (fun _ _ _ h => h) (Or.inl ⟨by kernel_rfl, ?_⟩) hH1 ?_
    rotate_left 1
    · intro w hSw
      go_simp
      try with_reducible rfl
    try simp only [Act.put, List.getElem_toArray, List.getElem_cons_zero, List.getElem_cons_succ, List.setIfInBounds_toArray, List.set_cons_zero, List.set_cons_succ]
    refine wpAnyH_take (i := 12) (v := ?_) rfl (by kernel_rfl) (by kernel_rfl) (by kernel_rfl) (fun _ _ _ h => h) (Or.inl ⟨by kernel_rfl, ?_⟩) hH1 ?_
    rotate_left 1
    · intro w hSw
      go_simp
      try with_reducible rfl
    try simp only [Act.put, List.getElem_toArray, List.getElem_cons_zero, List.getElem_cons_succ, List.setIfInBounds_toArray, List.set_cons_zero, List.set_cons_succ]
    refine wpAnyH_take (i := 13) (v := ?_) rfl (by kernel_rfl) (by kernel_rfl) (by kernel_rfl) (fun _ _ _ h => h) (Or.inl ⟨by kernel_rfl, ?_⟩) hH1 ?_
    rotate_left 1
    · intro w hSw
      go_simp
      try with_reducible rfl
    try simp only [Act.put, List.getElem_toArray, List.getElem_cons_zero, List.getElem_cons_succ, List.setIfInBounds_toArray, List.set_cons_zero, List.set_cons_succ]
    refine wpAnyH_done (by kernel_rfl) ?_ _
    have HH := Lib.hid hH1
    clear hH1
    obtain ⟨w3, hw3⟩ : ∃ y, y = W1 := ⟨_, rfl⟩
    rw [← hw3] at HH ⊢
    clear hw3
    have hm3 := below_keep HH.out HM.out
    have ra3 := rf_all HF.out hm3
    have z72 := ra3.frz 72
    have z73 := ra3.frz 73
    have z74 := ra3.frz 74
    have x72 := ra3.text
    have x73 := ra3.done
    have x74 := ra3.fail
    have Hm3 := Lib.hid hm3
    clear hm3 ra3 rm c70 mdix mund hJ
    rcases htwo with rfl | ⟨hne, rfl⟩
    · go_wp2_with fail
      (try simp only [Exit.inBlock, Exit.then])
      first | go_end0 | skip
      have hm4 := heap_setCell_same _ p 73 _ _ (.bool true) (heap_setCell_same _ p 72 _ _ (.string ⟨bl.toArray⟩) Hm3.out)
      have hf4 : ({ r with text := bl } : RfD).Fit := ⟨HF.out.out, HF.out.whole⟩
      rw [rf_set72 HF.out, rf_set73 hf4] at hm4
      have hO4 : Only [p] w ((w3.setCell ⟨p, 72, none⟩ (.string ⟨bl.toArray⟩)).setCell ⟨p, 73, none⟩ (.bool true)) := ((Only.of_below HH.out).setCell (by simp) _).setCell (by simp) _
      exact ⟨rfl, rf_own LT.out PS.out HX.out hO4 hm4 ⟨HF.out.out, HF.out.whole⟩ ⟨HI.out.out, HI.out.peer, HI.out.ticks, rfl, rfl, HI.out.fail.trans HFL.out⟩ HOK.out (fun e => by cases e) rfl rfl rfl rfl rfl rfl rfl rfl, hO4⟩
    · have hb1 : (er != 0) = true := by simp [hne]
      have hb2 : (er == 0) = false := by simp [hne]
      go_wp2_with fail
      (try simp only [Exit.inBlock, Exit.then])
      refine bodyPost_ret (results_none rfl _ _ _) rfl ?_
      have hm4 := heap_setCell_same _ p 74 _ _ (.bool true) Hm3.out
      rw [rf_set74 HF.out] at hm4
      have hO4 : Only [p] w (w3.setCell ⟨p, 74, none⟩ (.bool true)) := (Only.of_below HH.out).setCell (by simp) _
      exact ⟨rfl, rf_own LT.out PS.out HX.out hO4 hm4 ⟨HF.out.out, HF.out.whole⟩ ⟨HI.out.out, HI.out.peer, HI.out.ticks, HI.out.text.trans (HU.out HD.out), by rw [hb2]; exact HI.out.done.trans HD.out, by rw [hb2]; rfl⟩ HOK.out (fun _ => rfl) rfl rfl rfl rfl rfl rfl rfl rfl, hO4⟩
  exact AllReadyH.nil

theorem rfill_at (p : Nat) (S : List Nat) (d : HlD) (w : World) (h : RfAt w S p d) (hmn : d.mani ≠ none) :
    Calls Tryd.prog 66 #[.pointer (some ⟨p, 0, none⟩)] w (RefPost w S p d.peer d.out (Hl.fill d.ticks d.cks).2 { d with cks := (Hl.fill d.ticks d.cks).1 }) := by
  obtain ⟨ok, und, lt, pS, r, hm, hf, hi, hx⟩ := h
  rcases hx with hx | ⟨c1, c2, c3, hx⟩
  · exact absurd hx.mani hmn
  refine (rfill_raw S p c1 c2 c3 d r w ok hm hf hi hx).mono ?_
  rintro e w' ⟨v, rfl, hA, hC, hO⟩
  have hcd := Hl.fillAt_cd d.ticks d.cks (Hl.askN d.cks d.cks.length) d.cks.length
  have hO2 : Only [p, c3] w w' := hO.mono (by simp)
  have hm' : RfMem w' p r := hO.keep hm (by simp; exact fun e => hx.p3 e.symm)
  refine ⟨v, S, rfl, hA, ⟨ok.fill, und, fun k hk => Nat.lt_of_lt_of_le (lt k hk) hO.size, pS, r, hm', hf, ⟨hi.out, hi.peer, hi.ticks, hi.text, hi.done, hi.fail⟩, .inr ⟨c1, c2, c3, hx.turn lt hO2 hC hcd.1 hcd.2 (Hl.fill_len _ _) rfl rfl rfl rfl rfl rfl rfl⟩⟩, hO.mono (by intro k hk; simp at hk; subst hk; exact hx.s3), fun k hk => .inl hk, apart_of_bag hA lt⟩
end Go.Proofs.YtfbjbhddapoopaaDoor
