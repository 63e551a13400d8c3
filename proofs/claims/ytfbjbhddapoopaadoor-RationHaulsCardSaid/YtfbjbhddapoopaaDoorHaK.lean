/-
  Layer 17 (haul): the walk of Hear: a part comes.
-/
import Derived.Test.YtfbjbhddapoopaaDoorHaJ
set_option linter.unusedVariables false
set_option linter.unusedSimpArgs false
namespace Go.Proofs.YtfbjbhddapoopaaDoor
open Go.RowKit
attribute [local go_sem] Lb.ba_get Lb.ba_cut Lb.ba_add Lb.ba_size Lb.take_rest

theorem fitsS_in {K : List Int} {m : ManiD} {i : Int} {x : List UInt8} (h : fitsS K m i x = true) : 0 ≤ i ∧ i < m.parts.length ∧ x.length ≤ 64 := by
  unfold fitsS at h
  simp only [Bool.and_eq_true, decide_eq_true_eq] at h
  exact ⟨h.1.1.1.2, h.1.1.2, by have := h.1.2; omega⟩
theorem range0_of_heap {w : World} {q : Nat} {m : ManiD} {T : TypeId} {z : Nat × Nat} (h : w.heap[q]? = some (.cells m.row T z)) : w.rangeAt q 0 m.cells := fun k v hv => by
  rw [Lib.cell_of_heap h, Nat.zero_add]; simpa [ManiD.row] using hv


set_option maxHeartbeats 4000000 in
set_option maxRecDepth 100000 in
theorem hear_part_none (K : List Int) (p : Nat) (S : List Nat) (d : HlD) (f : FrD) (w : World) (h : HlAt w S p d) (hf : f.Ok w) (hd : d.done = false) (hfl : d.failed = false) (hp : f.from_ = d.peer) (h8 : f.kind = 8) (hmn : d.mani = none) (hL : Laid K w) :
    Calls Tryd.prog 19 #[.pointer (some ⟨p, 0, none⟩), .agg f.row] w (HearPost K w S p d f) := by
  have hk7 : ¬ f.kind = 7 := by rw [h8]; decide
  have hh : hearOf K d f = (d, []) := by
    unfold hearOf Hl.hear; rw [if_neg (by simp [hd, hfl, hp]), if_neg hk7, if_pos h8, hmn]
  have fin := Lib.hid (fun w' (hb : Below w.heap.size w w') => hear_same (K := K) h hh hb)
  clear hh hk7
  have H := Lib.hid h
  obtain ⟨ok, lt, pS, mv, cv, hm, hx⟩ := h
  have ho := ok.out
  have hB := (Below.refl w.heap.size w).alloc (Nat.le_refl _) (.cells f.row 44)
  have hm1 := below_keep hB hm
  have hfr := heap_alloc_new w (.cells f.row 44)
  obtain ⟨-, -, -, c35, -, -, -, -⟩ := hl_cells ho hm1
  have f1 := (fr_mem hf.fit hfr).from_
  have hop := Lib.hid (fun n => (open_any p d mv cv ((w.alloc (.cells f.row 44)).drewN n) ho hm1).mono fun _ _ h => And.intro h.1 h.2.symm)
  rw [hd, hfl] at hop
  rw [hp] at f1
  have HB := Lib.hid hB
  have HFR := Lib.hid hfr
  have HM1 := Lib.hid hm1
  have OK := Lib.hid ok
  have LT := Lib.hid lt
  have PS := Lib.hid pS
  have HO := Lib.hid ho
  have HX := Lib.hid hx
  have HF := Lib.hid hf
  have HD := Lib.hid hd
  have HFL := Lib.hid hfl
  have HP := Lib.hid hp
  obtain ⟨w1, hw1⟩ : ∃ y, y = w.alloc (.cells f.row 44) := ⟨_, rfl⟩
  obtain ⟨b, hb⟩ : ∃ y, y = w.heap.size := ⟨_, rfl⟩
  obtain ⟨pe, hpe⟩ : ∃ y, y = d.peer := ⟨_, rfl⟩
  go_enter Tryd.func19, Tryd.ntmps19
  go_upto_region 1 with fail
  rw [← hw1] at c35 f1 hop HB HFR HM1 ⊢
  rw [← hb] at f1 HFR ⊢
  rw [← hpe] at c35 f1
  have Hb := Lib.hid hb
  have hb1 : (pe != pe) = false := by simp
  have hb2 : (pe == pe) = true := by simp
  clear hw1 hb hpe hm1 hB hm hf lt pS ok ho hx hfr hd hfl hp
  go_quiet ((go_at_call 60; exact Calls.quiet_of_same (hop.out _)))
  go_upto_region 3 with fail
  have HB2 := Lib.hid (below_drewN'' HB.out nq)
  have HFR2 : Hid ((w1.drewN nq).heap[b]? = some (.cells f.row 44 (0, 0))) := Lib.hid HFR.out
  have HM2 : Hid ((w1.drewN nq).heap[p]? = some (.cells (hlCells d mv cv).toArray 119 (0, 0))) := Lib.hid HM1.out
  obtain ⟨w2, hw2⟩ : ∃ y, y = w1.drewN nq := ⟨_, rfl⟩
  rw [← hw2] at HB2 HFR2 HM2 ⊢
  clear hw2 c35 f1 hop hb1 hb2
  have fa := fr_mem HF.out.fit HFR2.out
  have fk := fa.kind
  rw [h8] at fk
  have hx : NoMani d mv cv := by
    rcases HX.out with hx | ⟨q, c, m, hx⟩
    · exact hx
    · have e := hx.mani; rw [hmn] at e; cases e
  obtain ⟨-, rfl, rfl⟩ := hx
  obtain ⟨-, -, -, -, -, c37, -, -⟩ := hl_cells HO.out HM2.out
  clear HX h8 fa hmn
  go_upto_region 12 with fail
  go_quiet (fail)
  go_wp2_with fail
  (try simp only [Exit.inBlock, Exit.then])
  refine bodyPost_ret (results_tmp rfl _ _ _) rfl ?_
  exact fin.out _ (below_drewN'' HB2.out _)

set_option maxHeartbeats 4000000 in
set_option maxRecDepth 100000 in
theorem hear_part_alien (K : List Int) (p : Nat) (S : List Nat) (d : HlD) (f : FrD) (w : World) (h : HlAt w S p d) (hf : f.Ok w) (hd : d.done = false) (hfl : d.failed = false) (hp : f.from_ = d.peer) (h8 : f.kind = 8) (sp : Int × List (List UInt8)) (hmn : d.mani = some sp) (hne : f.out ≠ d.out) (hL : Laid K w) :
    Calls Tryd.prog 19 #[.pointer (some ⟨p, 0, none⟩), .agg f.row] w (HearPost K w S p d f) := by
  have hk7 : ¬ f.kind = 7 := by rw [h8]; decide
  have hb0 : (f.out == d.out) = false := by simpa using hne
  have hh : hearOf K d f = (d, []) := by
    unfold hearOf Hl.hear; rw [if_neg (by simp [hd, hfl, hp]), if_neg hk7, if_pos h8, hmn]
    simp only
    rw [if_neg]
    unfold Hl.takes
    rw [hb0]; simp
  have fin := Lib.hid (fun w' (hb : Below w.heap.size w w') => hear_same (K := K) h hh hb)
  have HL := Lib.hid hL
  clear hh hk7 hL
  have H := Lib.hid h
  obtain ⟨ok, lt, pS, mv, cv, hm, hx⟩ := h
  have ho := ok.out
  have hB := (Below.refl w.heap.size w).alloc (Nat.le_refl _) (.cells f.row 44)
  have hm1 := below_keep hB hm
  have hfr := heap_alloc_new w (.cells f.row 44)
  obtain ⟨-, -, -, c35, -, -, -, -⟩ := hl_cells ho hm1
  have f1 := (fr_mem hf.fit hfr).from_
  have hop := Lib.hid (fun n => (open_any p d mv cv ((w.alloc (.cells f.row 44)).drewN n) ho hm1).mono fun _ _ h => And.intro h.1 h.2.symm)
  rw [hd, hfl] at hop
  rw [hp] at f1
  have HB := Lib.hid hB
  have HFR := Lib.hid hfr
  have HM1 := Lib.hid hm1
  have OK := Lib.hid ok
  have LT := Lib.hid lt
  have PS := Lib.hid pS
  have HO := Lib.hid ho
  have HX := Lib.hid hx
  have HF := Lib.hid hf
  have HD := Lib.hid hd
  have HFL := Lib.hid hfl
  have HP := Lib.hid hp
  obtain ⟨w1, hw1⟩ : ∃ y, y = w.alloc (.cells f.row 44) := ⟨_, rfl⟩
  obtain ⟨b, hb⟩ : ∃ y, y = w.heap.size := ⟨_, rfl⟩
  obtain ⟨pe, hpe⟩ : ∃ y, y = d.peer := ⟨_, rfl⟩
  go_enter Tryd.func19, Tryd.ntmps19
  go_upto_region 1 with fail
  rw [← hw1] at c35 f1 hop HB HFR HM1 ⊢
  rw [← hb] at f1 HFR ⊢
  rw [← hpe] at c35 f1
  have Hb := Lib.hid hb
  have hb1 : (pe != pe) = false := by simp
  have hb2 : (pe == pe) = true := by simp
  clear hw1 hb hpe hm1 hB hm hf lt pS ok ho hx hfr hd hfl hp
  go_quiet ((go_at_call 60; exact Calls.quiet_of_same (hop.out _)))
  go_upto_region 3 with fail
  have HB2 := Lib.hid (below_drewN'' HB.out nq)
  have HFR2 : Hid ((w1.drewN nq).heap[b]? = some (.cells f.row 44 (0, 0))) := Lib.hid HFR.out
  have HM2 : Hid ((w1.drewN nq).heap[p]? = some (.cells (hlCells d mv cv).toArray 119 (0, 0))) := Lib.hid HM1.out
  obtain ⟨w2, hw2⟩ : ∃ y, y = w1.drewN nq := ⟨_, rfl⟩
  rw [← hw2] at HB2 HFR2 HM2 ⊢
  clear hw2 c35 f1 hop hb1 hb2
  have fa := fr_mem HF.out.fit HFR2.out
  have fk := fa.kind
  rw [h8] at fk
  have fat := fa.at_
  have fda := fa.data
  have rfo := fa.out
  obtain ⟨q, c, m, hx⟩ : ∃ q c m, HasMani w S p d q c m mv cv := by
    rcases HX.out with hx | hx
    · rw [hx.1] at hmn; cases hmn
    · exact hx
  have hmv := hx.mv
  have hcv := hx.cv
  subst hmv
  subst hcv
  have emn := hx.mani
  rw [hmn] at emn
  obtain rfl := Option.some.inj emn
  have mok := ((hx.mok OK.out LT.out).below HB2.out (Nat.le_refl _)).more HB2.out.size
  obtain ⟨-, -, -, -, -, c37, c38, ro⟩ := hl_cells HO.out HM2.out
  have rq := range0_of_heap (below_keep HB2.out hx.hq)
  have hc2 := below_keep HB2.out hx.hc
  have lp : p < w2.heap.size := heap_lt HM2.out
  have lb : b < w2.heap.size := heap_lt HFR2.out
  have lq : q < w2.heap.size := heap_lt (below_keep HB2.out hx.hq)
  have lc : c < w2.heap.size := heap_lt hc2
  have mdix : (Tryd.prog.info? 39).map (·.size) = some m.cells.length := by rw [mani_info, mani_cells_len m mok.whole]
  have mund := Tryd.underlying39
  have dund := Tryd.underlying23
  have dix : (Tryd.prog.info? 23).map (·.size) = some (byV f.out).length := by rw [dig_info, byV_length, HF.out.fit.lo]
  have diy : (Tryd.prog.info? 23).map (·.size) = some (byV d.out).length := by rw [dig_info, byV_length, HO.out]
  have heq : ∀ W : World, (Op.equalIn 10000 23 (.agg (byV f.out).toArray) (.agg (byV d.out).toArray)).run Tryd.prog W = .ok (f.out == d.out) W := fun W => eqIn_dig W f.out d.out HF.out.fit.lo HO.out
  have HFT := Lib.hid (fun W (hW : Below w2.heap.size w2 W) => fits_any K m f.at_ f.data W ((HL.out.below HB2.out).below hW) ((mok.below hW (Nat.le_refl _)).more hW.size) HF.out.alo HF.out.ahi HF.out.data)
  have hfs : fitsS K (Hl.mk d.out (m.size, m.parts)) f.at_ f.data = fitsS K m f.at_ f.data := rfl
  have HX2 := Lib.hid hx
  have HC2 := Lib.hid hc2
  have Hmok := Lib.hid mok
  clear HX hx fa hc2 mok h8 emn
  rw [hb0] at heq
  clear hb0 hne HFT hfs
  go_upto_region 12 with fail
  obtain ⟨wh, hwh⟩ : ∃ y, y = byV f.out := ⟨_, rfl⟩
  obtain ⟨ou, hou⟩ : ∃ y, y = byV d.out := ⟨_, rfl⟩
  rw [← hwh] at rfo dix heq
  rw [← hou] at ro diy heq
  clear hwh hou
  refine wp_region_held_drew (S := fun w' => Below w2.heap.size w2 w') (by kernel_rfl) ((Below.refl _ _).drew) (fun hH0 => ?_)
  obtain ⟨W0, hW0⟩ : ∃ W, W = w2.drew := ⟨_, rfl⟩
  rw [← hW0] at hH0 ⊢
  clear hW0
  refine wpAnyH_take (i := 0) (v := ?_) rfl (by kernel_rfl) (by kernel_rfl) (by kernel_rfl) (fun _ _ _ h => h) (Or.inl ⟨by kernel_rfl, ?_⟩) hH0 ?_
  rotate_left 1
  · intro w hSw
    go_simp
    try with_reducible rfl
  try simp only [Act.put, List.getElem_toArray, List.getElem_cons_zero, List.getElem_cons_succ, List.setIfInBounds_toArray, List.set_cons_zero, List.set_cons_succ]
  refine wpAnyH_take (i := 1) (v := ?_) rfl (by kernel_rfl) (by kernel_rfl) (by kernel_rfl) (fun _ _ _ h => h) (Or.inl ⟨by kernel_rfl, ?_⟩) hH0 ?_
  rotate_left 1
  · intro w hSw
    go_simp
    try with_reducible rfl
  try simp only [Act.put, List.getElem_toArray, List.getElem_cons_zero, List.getElem_cons_succ, List.setIfInBounds_toArray, List.set_cons_zero, List.set_cons_succ]
  refine wpAnyH_take (i := 2) (v := ?_) rfl (by kernel_rfl) (by kernel_rfl) (by kernel_rfl) (fun _ _ _ h => h) (Or.inl ⟨by kernel_rfl, ?_⟩) hH0 ?_
  rotate_left 1
  · intro w hSw
    go_simp
    try with_reducible rfl
  try simp only [Act.put, List.getElem_toArray, List.getElem_cons_zero, List.getElem_cons_succ, List.setIfInBounds_toArray, List.set_cons_zero, List.set_cons_succ]
  refine wpAnyH_take (i := 3) (v := ?_) rfl (by kernel_rfl) (by kernel_rfl) (by kernel_rfl) (fun _ _ _ h => h) (Or.inl ⟨by kernel_rfl, ?_⟩) hH0 ?_
  rotate_left 1
  · intro w hSw
    have f0 := (hSw.cell (p := ⟨p, 37, none⟩) lp).trans c37
    have f1 := (hSw.cell (p := ⟨p, 38, none⟩) lp).trans c38
    have f2 := (hSw.cell (p := ⟨b, 134, none⟩) lb).trans fat
    have f3 := (hSw.cell (p := ⟨b, 135, none⟩) lb).trans fda
    go_simp
    try with_reducible rfl
  try simp only [Act.put, List.getElem_toArray, List.getElem_cons_zero, List.getElem_cons_succ, List.setIfInBounds_toArray, List.set_cons_zero, List.set_cons_succ]
  refine wpAnyH_take (i := 4) (v := ?_) rfl (by kernel_rfl) (by kernel_rfl) (by kernel_rfl) (fun _ _ _ h => h) (Or.inl ⟨by kernel_rfl, ?_⟩) hH0 ?_
  rotate_left 1
  · intro w hSw
    go_simp
    try with_reducible rfl
  try simp only [Act.put, List.getElem_toArray, List.getElem_cons_zero, List.getElem_cons_succ, List.setIfInBounds_toArray, List.set_cons_zero, List.set_cons_succ]
  refine wpAnyH_take (i := 5) (v := ?_) rfl (by kernel_rfl) (by kernel_rfl) (by kernel_rfl) (fun _ _ _ h => h) (Or.inl ⟨by kernel_rfl, ?_⟩) hH0 ?_
  rotate_left 1
  · intro w hSw
    go_simp
    try with_reducible rfl
  try simp only [Act.put, List.getElem_toArray, List.getElem_cons_zero, List.getElem_cons_succ, List.setIfInBounds_toArray, List.set_cons_zero, List.set_cons_succ]
  refine wpAnyH_take (i := 6) (v := ?_) rfl (by kernel_rfl) (by kernel_rfl) (by kernel_rfl) (fun _ _ _ h => h) (Or.inl ⟨by kernel_rfl, ?_⟩) hH0 ?_
  rotate_left 1
  · intro w hSw
    go_simp
    try with_reducible rfl
  try simp only [Act.put, List.getElem_toArray, List.getElem_cons_zero, List.getElem_cons_succ, List.setIfInBounds_toArray, List.set_cons_zero, List.set_cons_succ]
  refine wpAnyH_take (i := 7) (v := _) rfl (by kernel_rfl) (by kernel_rfl) (by kernel_rfl) (fun _ _ _ h => h) (yieldsIf_load_mid (by kernel_rfl) _ _ rfl _ _ rfl wh _ (fun W hW => range_below rfo hW lb) dund rfl dix) hH0 ?_
  try simp only [Act.put, List.getElem_toArray, List.getElem_cons_zero, List.getElem_cons_succ, List.setIfInBounds_toArray, List.set_cons_zero, List.set_cons_succ]
  refine wpAnyH_take (i := 8) (v := ?_) rfl (by kernel_rfl) (by kernel_rfl) (by kernel_rfl) (fun _ _ _ h => h) (Or.inl ⟨by kernel_rfl, ?_⟩) hH0 ?_
  rotate_left 1
  · intro w hSw
    go_simp
    try with_reducible rfl
  try simp only [Act.put, List.getElem_toArray, List.getElem_cons_zero, List.getElem_cons_succ, List.setIfInBounds_toArray, List.set_cons_zero, List.set_cons_succ]
  refine wpAnyH_take (i := 9) (v := ?_) rfl (by kernel_rfl) (by kernel_rfl) (by kernel_rfl) (fun _ _ _ h => h) (Or.inl ⟨by kernel_rfl, ?_⟩) hH0 ?_
  rotate_left 1
  · intro w hSw
    go_simp
    try with_reducible rfl
  try simp only [Act.put, List.getElem_toArray, List.getElem_cons_zero, List.getElem_cons_succ, List.setIfInBounds_toArray, List.set_cons_zero, List.set_cons_succ]
  refine wpAnyH_take (i := 10) (v := ?_) rfl (by kernel_rfl) (by kernel_rfl) (by kernel_rfl) (fun _ _ _ h => h) (Or.inl ⟨by kernel_rfl, ?_⟩) hH0 ?_
  rotate_left 1
  · intro w hSw
    go_simp
    try with_reducible rfl
  try simp only [Act.put, List.getElem_toArray, List.getElem_cons_zero, List.getElem_cons_succ, List.setIfInBounds_toArray, List.set_cons_zero, List.set_cons_succ]
  refine wpAnyH_take (i := 11) (v := _) rfl (by kernel_rfl) (by kernel_rfl) (by kernel_rfl) (fun _ _ _ h => h) (yieldsIf_load_mid (by kernel_rfl) _ _ rfl _ _ rfl ou _ (fun W hW => range_below ro hW lp) dund rfl diy) hH0 ?_
  try simp only [Act.put, List.getElem_toArray, List.getElem_cons_zero, List.getElem_cons_succ, List.setIfInBounds_toArray, List.set_cons_zero, List.set_cons_succ]
  refine wpAnyH_take (i := 12) (v := ?_) rfl (by kernel_rfl) (by kernel_rfl) (by kernel_rfl) (fun _ _ _ h => h) (Or.inl ⟨by kernel_rfl, ?_⟩) hH0 ?_
  rotate_left 1
  · intro w hSw
    go_simp
    try with_reducible rfl
  try simp only [Act.put, List.getElem_toArray, List.getElem_cons_zero, List.getElem_cons_succ, List.setIfInBounds_toArray, List.set_cons_zero, List.set_cons_succ]
  refine wpAnyH_take (i := 13) (v := ?_) rfl (by kernel_rfl) (by kernel_rfl) (by kernel_rfl) (fun _ _ _ h => h) (Or.inl ⟨by kernel_rfl, ?_⟩) hH0 ?_
  rotate_left 1
  · intro w hSw
    go_simp
    try with_reducible rfl
  try simp only [Act.put, List.getElem_toArray, List.getElem_cons_zero, List.getElem_cons_succ, List.setIfInBounds_toArray, List.set_cons_zero, List.set_cons_succ]
  refine wpAnyH_take (i := 14) (v := ?_) rfl (by kernel_rfl) (by kernel_rfl) (by kernel_rfl) (fun _ _ _ h => h) (Or.inl ⟨by kernel_rfl, ?_⟩) hH0 ?_
  rotate_left 1
  · intro w hSw
    go_simp
    try with_reducible rfl
  try simp only [Act.put, List.getElem_toArray, List.getElem_cons_zero, List.getElem_cons_succ, List.setIfInBounds_toArray, List.set_cons_zero, List.set_cons_succ]
  refine wpAnyH_take (i := 15) (v := undef) rfl (by kernel_rfl) (by kernel_rfl) (by kernel_rfl) (fun _ _ _ h => h) (Or.inr ⟨by kernel_rfl, rfl⟩) hH0 ?_
  try simp only [Act.put, List.getElem_toArray, List.getElem_cons_zero, List.getElem_cons_succ, List.setIfInBounds_toArray, List.set_cons_zero, List.set_cons_succ]
  refine wpAnyH_take (i := 16) (v := undef) rfl (by kernel_rfl) (by kernel_rfl) (by kernel_rfl) (fun _ _ _ h => h) (Or.inr ⟨by kernel_rfl, rfl⟩) hH0 ?_
  try simp only [Act.put, List.getElem_toArray, List.getElem_cons_zero, List.getElem_cons_succ, List.setIfInBounds_toArray, List.set_cons_zero, List.set_cons_succ]
  refine wpAnyH_take (i := 17) (v := undef) rfl (by kernel_rfl) (by kernel_rfl) (by kernel_rfl) (fun _ _ _ h => h) (Or.inr ⟨by kernel_rfl, rfl⟩) hH0 ?_
  try simp only [Act.put, List.getElem_toArray, List.getElem_cons_zero, List.getElem_cons_succ, List.setIfInBounds_toArray, List.set_cons_zero, List.set_cons_succ]
  refine wpAnyH_take (i := 18) (v := undef) rfl (by kernel_rfl) (by kernel_rfl) (by kernel_rfl) (fun _ _ _ h => h) (Or.inr ⟨by kernel_rfl, rfl⟩) hH0 ?_
  try simp only [Act.put, List.getElem_toArray, List.getElem_cons_zero, List.getElem_cons_succ, List.setIfInBounds_toArray, List.set_cons_zero, List.set_cons_succ]
  refine wpAnyH_take (i := 19) (v := undef) rfl (by kernel_rfl) (by kernel_rfl) (by kernel_rfl) (fun _ _ _ h => h) (Or.inr ⟨by kernel_rfl, rfl⟩) hH0 ?_
  try simp only [Act.put, List.getElem_toArray, List.getElem_cons_zero, List.getElem_cons_succ, List.setIfInBounds_toArray, List.set_cons_zero, List.set_cons_succ]
  refine wpAnyH_take (i := 20) (v := undef) rfl (by kernel_rfl) (by kernel_rfl) (by kernel_rfl) (fun _ _ _ h => h) (Or.inr ⟨by kernel_rfl, rfl⟩) hH0 ?_
  try simp only [Act.put, List.getElem_toArray, List.getElem_cons_zero, List.getElem_cons_succ, List.setIfInBounds_toArray, List.set_cons_zero, List.set_cons_succ]
  refine wpAnyH_take (i := 21) (v := undef) rfl (by kernel_rfl) (by kernel_rfl) (by kernel_rfl) (fun _ _ _ h => h) (Or.inr ⟨by kernel_rfl, rfl⟩) hH0 ?_
  try simp only [Act.put, List.getElem_toArray, List.getElem_cons_zero, List.getElem_cons_succ, List.setIfInBounds_toArray, List.set_cons_zero, List.set_cons_succ]
  refine wpAnyH_take (i := 22) (v := undef) rfl (by kernel_rfl) (by kernel_rfl) (by kernel_rfl) (fun _ _ _ h => h) (Or.inr ⟨by kernel_rfl, rfl⟩) hH0 ?_
  try simp only [Act.put, List.getElem_toArray, List.getElem_cons_zero, List.getElem_cons_succ, List.setIfInBounds_toArray, List.set_cons_zero, List.set_cons_succ]
  refine wpAnyH_take (i := 23) (v := undef) rfl (by kernel_rfl) (by kernel_rfl) (by kernel_rfl) (fun _ _ _ h => h) (Or.inr ⟨by kernel_rfl, rfl⟩) hH0 ?_
  try simp only [Act.put, List.getElem_toArray, List.getElem_cons_zero, List.getElem_cons_succ, List.setIfInBounds_toArray, List.set_cons_zero, List.set_cons_succ]
  refine wpAnyH_take (i := 24) (v := undef) rfl (by kernel_rfl) (by kernel_rfl) (by kernel_rfl) (fun _ _ _ h => h) (Or.inr ⟨by kernel_rfl, rfl⟩) hH0 ?_
  try simp only [Act.put, List.getElem_toArray, List.getElem_cons_zero, List.getElem_cons_succ, List.setIfInBounds_toArray, List.set_cons_zero, List.set_cons_succ]
  refine wpAnyH_take (i := 25) (v := undef) rfl (by kernel_rfl) (by kernel_rfl) (by kernel_rfl) (fun _ _ _ h => h) (Or.inr ⟨by kernel_rfl, rfl⟩) hH0 ?_
  try simp only [Act.put, List.getElem_toArray, List.getElem_cons_zero, List.getElem_cons_succ, List.setIfInBounds_toArray, List.set_cons_zero, List.set_cons_succ]
  refine wpAnyH_take (i := 26) (v := undef) rfl (by kernel_rfl) (by kernel_rfl) (by kernel_rfl) (fun _ _ _ h => h) (Or.inr ⟨by kernel_rfl, rfl⟩) hH0 ?_
  try simp only [Act.put, List.getElem_toArray, List.getElem_cons_zero, List.getElem_cons_succ, List.setIfInBounds_toArray, List.set_cons_zero, List.set_cons_succ]
  refine wpAnyH_take (i := 27) (v := ?_) rfl (by kernel_rfl) (by kernel_rfl) (by kernel_rfl) (fun _ _ _ h => h) (Or.inl ⟨by kernel_rfl, ?_⟩) hH0 ?_
  rotate_left 1
  · intro w hSw
    go_simp
    try with_reducible rfl
  try simp only [Act.put, List.getElem_toArray, List.getElem_cons_zero, List.getElem_cons_succ, List.setIfInBounds_toArray, List.set_cons_zero, List.set_cons_succ]
  refine wpAnyH_take (i := 28) (v := ?_) rfl (by kernel_rfl) (by kernel_rfl) (by kernel_rfl) (fun _ _ _ h => h) (Or.inl ⟨by kernel_rfl, ?_⟩) hH0 ?_
  rotate_left 1
  · intro w hSw
    go_simp
    try with_reducible rfl
  try simp only [Act.put, List.getElem_toArray, List.getElem_cons_zero, List.getElem_cons_succ, List.setIfInBounds_toArray, List.set_cons_zero, List.set_cons_succ]
  refine wpAnyH_take (i := 29) (v := undef) rfl (by kernel_rfl) (by kernel_rfl) (by kernel_rfl) (fun _ _ _ h => h) (Or.inr ⟨by kernel_rfl, rfl⟩) hH0 ?_
  try simp only [Act.put, List.getElem_toArray, List.getElem_cons_zero, List.getElem_cons_succ, List.setIfInBounds_toArray, List.set_cons_zero, List.set_cons_succ]
  refine wpAnyH_take (i := 30) (v := undef) rfl (by kernel_rfl) (by kernel_rfl) (by kernel_rfl) (fun _ _ _ h => h) (Or.inr ⟨by kernel_rfl, rfl⟩) hH0 ?_
  try simp only [Act.put, List.getElem_toArray, List.getElem_cons_zero, List.getElem_cons_succ, List.setIfInBounds_toArray, List.set_cons_zero, List.set_cons_succ]
  refine wpAnyH_take (i := 31) (v := undef) rfl (by kernel_rfl) (by kernel_rfl) (by kernel_rfl) (fun _ _ _ h => h) (Or.inr ⟨by kernel_rfl, rfl⟩) hH0 ?_
  try simp only [Act.put, List.getElem_toArray, List.getElem_cons_zero, List.getElem_cons_succ, List.setIfInBounds_toArray, List.set_cons_zero, List.set_cons_succ]
  refine wpAnyH_take (i := 32) (v := undef) rfl (by kernel_rfl) (by kernel_rfl) (by kernel_rfl) (fun _ _ _ h => h) (Or.inr ⟨by kernel_rfl, rfl⟩) hH0 ?_
  try simp only [Act.put, List.getElem_toArray, List.getElem_cons_zero, List.getElem_cons_succ, List.setIfInBounds_toArray, List.set_cons_zero, List.set_cons_succ]
  refine wpAnyH_take (i := 33) (v := undef) rfl (by kernel_rfl) (by kernel_rfl) (by kernel_rfl) (fun _ _ _ h => h) (Or.inr ⟨by kernel_rfl, rfl⟩) hH0 ?_
  try simp only [Act.put, List.getElem_toArray, List.getElem_cons_zero, List.getElem_cons_succ, List.setIfInBounds_toArray, List.set_cons_zero, List.set_cons_succ]
  refine wpAnyH_take (i := 34) (v := undef) rfl (by kernel_rfl) (by kernel_rfl) (by kernel_rfl) (fun _ _ _ h => h) (Or.inr ⟨by kernel_rfl, rfl⟩) hH0 ?_
  try simp only [Act.put, List.getElem_toArray, List.getElem_cons_zero, List.getElem_cons_succ, List.setIfInBounds_toArray, List.set_cons_zero, List.set_cons_succ]
  refine wpAnyH_take (i := 35) (v := undef) rfl (by kernel_rfl) (by kernel_rfl) (by kernel_rfl) (fun _ _ _ h => h) (Or.inr ⟨by kernel_rfl, rfl⟩) hH0 ?_
  try simp only [Act.put, List.getElem_toArray, List.getElem_cons_zero, List.getElem_cons_succ, List.setIfInBounds_toArray, List.set_cons_zero, List.set_cons_succ]
  refine wpAnyH_take (i := 36) (v := undef) rfl (by kernel_rfl) (by kernel_rfl) (by kernel_rfl) (fun _ _ _ h => h) (Or.inr ⟨by kernel_rfl, rfl⟩) hH0 ?_
  try simp only [Act.put, List.getElem_toArray, List.getElem_cons_zero, List.getElem_cons_succ, List.setIfInBounds_toArray, List.set_cons_zero, List.set_cons_succ]
  refine wpAnyH_take (i := 37) (v := undef) rfl (by kernel_rfl) (by kernel_rfl) (by kernel_rfl) (fun _ _ _ h => h) (Or.inr ⟨by kernel_rfl, rfl⟩) hH0 ?_
  try simp only [Act.put, List.getElem_toArray, List.getElem_cons_zero, List.getElem_cons_succ, List.setIfInBounds_toArray, List.set_cons_zero, List.set_cons_succ]
  refine wpAnyH_take (i := 38) (v := ?_) rfl (by kernel_rfl) (by kernel_rfl) (by kernel_rfl) (fun _ _ _ h => h) (Or.inl ⟨by kernel_rfl, ?_⟩) hH0 ?_
  rotate_left 1
  · intro w hSw
    go_simp
    try with_reducible rfl
  try simp only [Act.put, List.getElem_toArray, List.getElem_cons_zero, List.getElem_cons_succ, List.setIfInBounds_toArray, List.set_cons_zero, List.set_cons_succ]
  refine wpAnyH_done (by kernel_rfl) ?_ _
  have HH := Lib.hid hH0
  clear hH0
  go_wp2_with fail
  (try simp only [Exit.inBlock, Exit.then])
  refine bodyPost_ret (results_tmp rfl _ _ _) rfl ?_
  exact fin.out _ (HB2.out.trans (HH.out.mono HB2.out.size))

set_option maxHeartbeats 4000000 in
set_option maxRecDepth 100000 in
theorem hear_part_unfit (K : List Int) (p : Nat) (S : List Nat) (d : HlD) (f : FrD) (w : World) (h : HlAt w S p d) (hf : f.Ok w) (hd : d.done = false) (hfl : d.failed = false) (hp : f.from_ = d.peer) (h8 : f.kind = 8) (sp : Int × List (List UInt8)) (hmn : d.mani = some sp) (hne : f.out = d.out) (hno : fitsS K (Hl.mk d.out sp) f.at_ f.data = false) (hL : Laid K w) :
    Calls Tryd.prog 19 #[.pointer (some ⟨p, 0, none⟩), .agg f.row] w (HearPost K w S p d f) := by
  have hk7 : ¬ f.kind = 7 := by rw [h8]; decide
  have hb0 : (f.out == d.out) = true := by simp [hne]
  have hh : hearOf K d f = (d, []) := by
    unfold hearOf Hl.hear; rw [if_neg (by simp [hd, hfl, hp]), if_neg hk7, if_pos h8, hmn]
    simp only
    rw [if_neg]
    unfold Hl.takes
    rw [hno]; simp
  have fin := Lib.hid (fun w' (hb : Below w.heap.size w w') => hear_same (K := K) h hh hb)
  have HL := Lib.hid hL
  clear hh hk7 hL
  have H := Lib.hid h
  obtain ⟨ok, lt, pS, mv, cv, hm, hx⟩ := h
  have ho := ok.out
  have hB := (Below.refl w.heap.size w).alloc (Nat.le_refl _) (.cells f.row 44)
  have hm1 := below_keep hB hm
  have hfr := heap_alloc_new w (.cells f.row 44)
  obtain ⟨-, -, -, c35, -, -, -, -⟩ := hl_cells ho hm1
  have f1 := (fr_mem hf.fit hfr).from_
  have hop := Lib.hid (fun n => (open_any p d mv cv ((w.alloc (.cells f.row 44)).drewN n) ho hm1).mono fun _ _ h => And.intro h.1 h.2.symm)
  rw [hd, hfl] at hop
  rw [hp] at f1
  have HB := Lib.hid hB
  have HFR := Lib.hid hfr
  have HM1 := Lib.hid hm1
  have OK := Lib.hid ok
  have LT := Lib.hid lt
  have PS := Lib.hid pS
  have HO := Lib.hid ho
  have HX := Lib.hid hx
  have HF := Lib.hid hf
  have HD := Lib.hid hd
  have HFL := Lib.hid hfl
  have HP := Lib.hid hp
  obtain ⟨w1, hw1⟩ : ∃ y, y = w.alloc (.cells f.row 44) := ⟨_, rfl⟩
  obtain ⟨b, hb⟩ : ∃ y, y = w.heap.size := ⟨_, rfl⟩
  obtain ⟨pe, hpe⟩ : ∃ y, y = d.peer := ⟨_, rfl⟩
  go_enter Tryd.func19, Tryd.ntmps19
  go_upto_region 1 with fail
  rw [← hw1] at c35 f1 hop HB HFR HM1 ⊢
  rw [← hb] at f1 HFR ⊢
  rw [← hpe] at c35 f1
  have Hb := Lib.hid hb
  have hb1 : (pe != pe) = false := by simp
  have hb2 : (pe == pe) = true := by simp
  clear hw1 hb hpe hm1 hB hm hf lt pS ok ho hx hfr hd hfl hp
  go_quiet ((go_at_call 60; exact Calls.quiet_of_same (hop.out _)))
  go_upto_region 3 with fail
  have HB2 := Lib.hid (below_drewN'' HB.out nq)
  have HFR2 : Hid ((w1.drewN nq).heap[b]? = some (.cells f.row 44 (0, 0))) := Lib.hid HFR.out
  have HM2 : Hid ((w1.drewN nq).heap[p]? = some (.cells (hlCells d mv cv).toArray 119 (0, 0))) := Lib.hid HM1.out
  obtain ⟨w2, hw2⟩ : ∃ y, y = w1.drewN nq := ⟨_, rfl⟩
  rw [← hw2] at HB2 HFR2 HM2 ⊢
  clear hw2 c35 f1 hop hb1 hb2
  have fa := fr_mem HF.out.fit HFR2.out
  have fk := fa.kind
  rw [h8] at fk
  have fat := fa.at_
  have fda := fa.data
  have rfo := fa.out
  obtain ⟨q, c, m, hx⟩ : ∃ q c m, HasMani w S p d q c m mv cv := by
    rcases HX.out with hx | hx
    · rw [hx.1] at hmn; cases hmn
    · exact hx
  have hmv := hx.mv
  have hcv := hx.cv
  subst hmv
  subst hcv
  have emn := hx.mani
  rw [hmn] at emn
  obtain rfl := Option.some.inj emn
  have mok := ((hx.mok OK.out LT.out).below HB2.out (Nat.le_refl _)).more HB2.out.size
  obtain ⟨-, -, -, -, -, c37, c38, ro⟩ := hl_cells HO.out HM2.out
  have rq := range0_of_heap (below_keep HB2.out hx.hq)
  have hc2 := below_keep HB2.out hx.hc
  have lp : p < w2.heap.size := heap_lt HM2.out
  have lb : b < w2.heap.size := heap_lt HFR2.out
  have lq : q < w2.heap.size := heap_lt (below_keep HB2.out hx.hq)
  have lc : c < w2.heap.size := heap_lt hc2
  have mdix : (Tryd.prog.info? 39).map (·.size) = some m.cells.length := by rw [mani_info, mani_cells_len m mok.whole]
  have mund := Tryd.underlying39
  have dund := Tryd.underlying23
  have dix : (Tryd.prog.info? 23).map (·.size) = some (byV f.out).length := by rw [dig_info, byV_length, HF.out.fit.lo]
  have diy : (Tryd.prog.info? 23).map (·.size) = some (byV d.out).length := by rw [dig_info, byV_length, HO.out]
  have heq : ∀ W : World, (Op.equalIn 10000 23 (.agg (byV f.out).toArray) (.agg (byV d.out).toArray)).run Tryd.prog W = .ok (f.out == d.out) W := fun W => eqIn_dig W f.out d.out HF.out.fit.lo HO.out
  have HFT := Lib.hid (fun W (hW : Below w2.heap.size w2 W) => fits_any K m f.at_ f.data W ((HL.out.below HB2.out).below hW) ((mok.below hW (Nat.le_refl _)).more hW.size) HF.out.alo HF.out.ahi HF.out.data)
  have hfs : fitsS K (Hl.mk d.out (m.size, m.parts)) f.at_ f.data = fitsS K m f.at_ f.data := rfl
  have HX2 := Lib.hid hx
  have HC2 := Lib.hid hc2
  have Hmok := Lib.hid mok
  clear HX hx fa hc2 mok h8 emn
  rw [hb0] at heq
  rw [hfs] at hno
  rw [hno] at HFT
  clear hb0 hne hfs hno
  go_upto_region 12 with fail
  obtain ⟨mc, hmc⟩ : ∃ y, y = m.cells := ⟨_, rfl⟩
  obtain ⟨wh, hwh⟩ : ∃ y, y = byV f.out := ⟨_, rfl⟩
  obtain ⟨ou, hou⟩ : ∃ y, y = byV d.out := ⟨_, rfl⟩
  rw [← hmc] at rq mdix
  rw [← hwh] at rfo dix heq
  rw [← hou] at ro diy heq
  replace HFT : Hid (∀ W : World, Below w2.heap.size w2 W → Calls Tryd.prog 36 #[.agg mc.toArray, .int .i64 f.at_, .string ⟨f.data.toArray⟩] W fun e w' => e = .returned (.bool false) ∧ Below W.heap.size W w') := by rw [hmc]; exact HFT
  have Hmc := Lib.hid hmc
  clear hmc hwh hou
  obtain ⟨n, hn⟩ : ∃ n, n = d.cks.length := ⟨_, rfl⟩
  rw [← hn] at c38
  have Hn := Lib.hid hn
  clear hn
  refine wp_region_held_drew (S := fun w' => Below w2.heap.size w2 w') (by kernel_rfl) ((Below.refl _ _).drew) (fun hH0 => ?_)
  obtain ⟨W0, hW0⟩ : ∃ W, W = w2.drew := ⟨_, rfl⟩
  rw [← hW0] at hH0 ⊢
  clear hW0
  refine wpAnyH_take (i := 0) (v := ?_) rfl (by kernel_rfl) (by kernel_rfl) (by kernel_rfl) (fun _ _ _ h => h) (Or.inl ⟨by kernel_rfl, ?_⟩) hH0 ?_
  rotate_left 1
  · intro w hSw
    go_simp
    try with_reducible rfl
  try simp only [Act.put, List.getElem_toArray, List.getElem_cons_zero, List.getElem_cons_succ, List.setIfInBounds_toArray, List.set_cons_zero, List.set_cons_succ]
  refine wpAnyH_take (i := 1) (v := ?_) rfl (by kernel_rfl) (by kernel_rfl) (by kernel_rfl) (fun _ _ _ h => h) (Or.inl ⟨by kernel_rfl, ?_⟩) hH0 ?_
  rotate_left 1
  · intro w hSw
    go_simp
    try with_reducible rfl
  try simp only [Act.put, List.getElem_toArray, List.getElem_cons_zero, List.getElem_cons_succ, List.setIfInBounds_toArray, List.set_cons_zero, List.set_cons_succ]
  refine wpAnyH_take (i := 2) (v := ?_) rfl (by kernel_rfl) (by kernel_rfl) (by kernel_rfl) (fun _ _ _ h => h) (Or.inl ⟨by kernel_rfl, ?_⟩) hH0 ?_
  rotate_left 1
  · intro w hSw
    go_simp
    try with_reducible rfl
  try simp only [Act.put, List.getElem_toArray, List.getElem_cons_zero, List.getElem_cons_succ, List.setIfInBounds_toArray, List.set_cons_zero, List.set_cons_succ]
  refine wpAnyH_take (i := 3) (v := ?_) rfl (by kernel_rfl) (by kernel_rfl) (by kernel_rfl) (fun _ _ _ h => h) (Or.inl ⟨by kernel_rfl, ?_⟩) hH0 ?_
  rotate_left 1
  · intro w hSw
    have f0 := (hSw.cell (p := ⟨p, 37, none⟩) lp).trans c37
    have f1 := (hSw.cell (p := ⟨p, 38, none⟩) lp).trans c38
    have f2 := (hSw.cell (p := ⟨b, 134, none⟩) lb).trans fat
    have f3 := (hSw.cell (p := ⟨b, 135, none⟩) lb).trans fda
    go_simp
    try with_reducible rfl
  try simp only [Act.put, List.getElem_toArray, List.getElem_cons_zero, List.getElem_cons_succ, List.setIfInBounds_toArray, List.set_cons_zero, List.set_cons_succ]
  refine wpAnyH_take (i := 4) (v := ?_) rfl (by kernel_rfl) (by kernel_rfl) (by kernel_rfl) (fun _ _ _ h => h) (Or.inl ⟨by kernel_rfl, ?_⟩) hH0 ?_
  rotate_left 1
  · intro w hSw
    go_simp
    try with_reducible rfl
  try simp only [Act.put, List.getElem_toArray, List.getElem_cons_zero, List.getElem_cons_succ, List.setIfInBounds_toArray, List.set_cons_zero, List.set_cons_succ]
  refine wpAnyH_take (i := 5) (v := ?_) rfl (by kernel_rfl) (by kernel_rfl) (by kernel_rfl) (fun _ _ _ h => h) (Or.inl ⟨by kernel_rfl, ?_⟩) hH0 ?_
  rotate_left 1
  · intro w hSw
    go_simp
    try with_reducible rfl
  try simp only [Act.put, List.getElem_toArray, List.getElem_cons_zero, List.getElem_cons_succ, List.setIfInBounds_toArray, List.set_cons_zero, List.set_cons_succ]
  refine wpAnyH_take (i := 6) (v := ?_) rfl (by kernel_rfl) (by kernel_rfl) (by kernel_rfl) (fun _ _ _ h => h) (Or.inl ⟨by kernel_rfl, ?_⟩) hH0 ?_
  rotate_left 1
  · intro w hSw
    go_simp
    try with_reducible rfl
  try simp only [Act.put, List.getElem_toArray, List.getElem_cons_zero, List.getElem_cons_succ, List.setIfInBounds_toArray, List.set_cons_zero, List.set_cons_succ]
  refine wpAnyH_take (i := 7) (v := _) rfl (by kernel_rfl) (by kernel_rfl) (by kernel_rfl) (fun _ _ _ h => h) (yieldsIf_load_mid (by kernel_rfl) _ _ rfl _ _ rfl wh _ (fun W hW => range_below rfo hW lb) dund rfl dix) hH0 ?_
  try simp only [Act.put, List.getElem_toArray, List.getElem_cons_zero, List.getElem_cons_succ, List.setIfInBounds_toArray, List.set_cons_zero, List.set_cons_succ]
  refine wpAnyH_take (i := 8) (v := ?_) rfl (by kernel_rfl) (by kernel_rfl) (by kernel_rfl) (fun _ _ _ h => h) (Or.inl ⟨by kernel_rfl, ?_⟩) hH0 ?_
  rotate_left 1
  · intro w hSw
    go_simp
    try with_reducible rfl
  try simp only [Act.put, List.getElem_toArray, List.getElem_cons_zero, List.getElem_cons_succ, List.setIfInBounds_toArray, List.set_cons_zero, List.set_cons_succ]
  refine wpAnyH_take (i := 9) (v := ?_) rfl (by kernel_rfl) (by kernel_rfl) (by kernel_rfl) (fun _ _ _ h => h) (Or.inl ⟨by kernel_rfl, ?_⟩) hH0 ?_
  rotate_left 1
  · intro w hSw
    go_simp
    try with_reducible rfl
  try simp only [Act.put, List.getElem_toArray, List.getElem_cons_zero, List.getElem_cons_succ, List.setIfInBounds_toArray, List.set_cons_zero, List.set_cons_succ]
  refine wpAnyH_take (i := 10) (v := ?_) rfl (by kernel_rfl) (by kernel_rfl) (by kernel_rfl) (fun _ _ _ h => h) (Or.inl ⟨by kernel_rfl, ?_⟩) hH0 ?_
  rotate_left 1
  · intro w hSw
    go_simp
    try with_reducible rfl
  try simp only [Act.put, List.getElem_toArray, List.getElem_cons_zero, List.getElem_cons_succ, List.setIfInBounds_toArray, List.set_cons_zero, List.set_cons_succ]
  refine wpAnyH_take (i := 11) (v := _) rfl (by kernel_rfl) (by kernel_rfl) (by kernel_rfl) (fun _ _ _ h => h) (yieldsIf_load_mid (by kernel_rfl) _ _ rfl _ _ rfl ou _ (fun W hW => range_below ro hW lp) dund rfl diy) hH0 ?_
  try simp only [Act.put, List.getElem_toArray, List.getElem_cons_zero, List.getElem_cons_succ, List.setIfInBounds_toArray, List.set_cons_zero, List.set_cons_succ]
  refine wpAnyH_take (i := 12) (v := ?_) rfl (by kernel_rfl) (by kernel_rfl) (by kernel_rfl) (fun _ _ _ h => h) (Or.inl ⟨by kernel_rfl, ?_⟩) hH0 ?_
  rotate_left 1
  · intro w hSw
    go_simp
    try with_reducible rfl
  try simp only [Act.put, List.getElem_toArray, List.getElem_cons_zero, List.getElem_cons_succ, List.setIfInBounds_toArray, List.set_cons_zero, List.set_cons_succ]
  refine wpAnyH_take (i := 13) (v := ?_) rfl (by kernel_rfl) (by kernel_rfl) (by kernel_rfl) (fun _ _ _ h => h) (Or.inl ⟨by kernel_rfl, ?_⟩) hH0 ?_
  rotate_left 1
  · intro w hSw
    go_simp
    try with_reducible rfl
  try simp only [Act.put, List.getElem_toArray, List.getElem_cons_zero, List.getElem_cons_succ, List.setIfInBounds_toArray, List.set_cons_zero, List.set_cons_succ]
  refine wpAnyH_take (i := 14) (v := ?_) rfl (by kernel_rfl) (by kernel_rfl) (by kernel_rfl) (fun _ _ _ h => h) (Or.inl ⟨by kernel_rfl, ?_⟩) hH0 ?_
  rotate_left 1
  · intro w hSw
    go_simp
    try with_reducible rfl
  try simp only [Act.put, List.getElem_toArray, List.getElem_cons_zero, List.getElem_cons_succ, List.setIfInBounds_toArray, List.set_cons_zero, List.set_cons_succ]
  refine wpAnyH_take (i := 15) (v := ?_) rfl (by kernel_rfl) (by kernel_rfl) (by kernel_rfl) (fun _ _ _ h => h) (Or.inl ⟨by kernel_rfl, ?_⟩) hH0 ?_
  rotate_left 1
  · intro w hSw
    go_simp
    try with_reducible rfl
  try simp only [Act.put, List.getElem_toArray, List.getElem_cons_zero, List.getElem_cons_succ, List.setIfInBounds_toArray, List.set_cons_zero, List.set_cons_succ]
  refine wpAnyH_take (i := 16) (v := ?_) rfl (by kernel_rfl) (by kernel_rfl) (by kernel_rfl) (fun _ _ _ h => h) (Or.inl ⟨by kernel_rfl, ?_⟩) hH0 ?_
  rotate_left 1
  · intro w hSw
    go_simp
    try with_reducible rfl
  try simp only [Act.put, List.getElem_toArray, List.getElem_cons_zero, List.getElem_cons_succ, List.setIfInBounds_toArray, List.set_cons_zero, List.set_cons_succ]
  refine wpAnyH_take (i := 17) (v := ?_) rfl (by kernel_rfl) (by kernel_rfl) (by kernel_rfl) (fun _ _ _ h => h) (Or.inl ⟨by kernel_rfl, ?_⟩) hH0 ?_
  rotate_left 1
  · intro w hSw
    go_simp
    try with_reducible rfl
  try simp only [Act.put, List.getElem_toArray, List.getElem_cons_zero, List.getElem_cons_succ, List.setIfInBounds_toArray, List.set_cons_zero, List.set_cons_succ]
  refine wpAnyH_take (i := 18) (v := ?_) rfl (by kernel_rfl) (by kernel_rfl) (by kernel_rfl) (fun _ _ _ h => h) (Or.inl ⟨by kernel_rfl, ?_⟩) hH0 ?_
  rotate_left 1
  · intro w hSw
    have f0 := (hSw.cell (p := ⟨p, 37, none⟩) lp).trans c37
    have f1 := (hSw.cell (p := ⟨p, 38, none⟩) lp).trans c38
    have f2 := (hSw.cell (p := ⟨b, 134, none⟩) lb).trans fat
    have f3 := (hSw.cell (p := ⟨b, 135, none⟩) lb).trans fda
    go_simp
    try with_reducible rfl
  try simp only [Act.put, List.getElem_toArray, List.getElem_cons_zero, List.getElem_cons_succ, List.setIfInBounds_toArray, List.set_cons_zero, List.set_cons_succ]
  refine wpAnyH_take (i := 19) (v := ?_) rfl (by kernel_rfl) (by kernel_rfl) (by kernel_rfl) (fun _ _ _ h => h) (Or.inl ⟨by kernel_rfl, ?_⟩) hH0 ?_
  rotate_left 1
  · intro w hSw
    go_simp
    try with_reducible rfl
  try simp only [Act.put, List.getElem_toArray, List.getElem_cons_zero, List.getElem_cons_succ, List.setIfInBounds_toArray, List.set_cons_zero, List.set_cons_succ]
  refine wpAnyH_take (i := 20) (v := _) rfl (by kernel_rfl) (by kernel_rfl) (by kernel_rfl) (fun _ _ _ h => h) (yieldsIf_load_mid (by kernel_rfl) _ _ rfl _ _ rfl mc _ (fun W hW => range_below rq hW lq) mund rfl mdix) hH0 ?_
  try simp only [Act.put, List.getElem_toArray, List.getElem_cons_zero, List.getElem_cons_succ, List.setIfInBounds_toArray, List.set_cons_zero, List.set_cons_succ]
  refine wpAnyH_take (i := 21) (v := ?_) rfl (by kernel_rfl) (by kernel_rfl) (by kernel_rfl) (fun _ _ _ h => h) (Or.inl ⟨by kernel_rfl, ?_⟩) hH0 ?_
  rotate_left 1
  · intro w hSw
    go_simp
    try with_reducible rfl
  try simp only [Act.put, List.getElem_toArray, List.getElem_cons_zero, List.getElem_cons_succ, List.setIfInBounds_toArray, List.set_cons_zero, List.set_cons_succ]
  refine wpAnyH_take (i := 22) (v := ?_) rfl (by kernel_rfl) (by kernel_rfl) (by kernel_rfl) (fun _ _ _ h => h) (Or.inl ⟨by kernel_rfl, ?_⟩) hH0 ?_
  rotate_left 1
  · intro w hSw
    have f0 := (hSw.cell (p := ⟨p, 37, none⟩) lp).trans c37
    have f1 := (hSw.cell (p := ⟨p, 38, none⟩) lp).trans c38
    have f2 := (hSw.cell (p := ⟨b, 134, none⟩) lb).trans fat
    have f3 := (hSw.cell (p := ⟨b, 135, none⟩) lb).trans fda
    go_simp
    try with_reducible rfl
  try simp only [Act.put, List.getElem_toArray, List.getElem_cons_zero, List.getElem_cons_succ, List.setIfInBounds_toArray, List.set_cons_zero, List.set_cons_succ]
  refine wpAnyH_take (i := 23) (v := ?_) rfl (by kernel_rfl) (by kernel_rfl) (by kernel_rfl) (fun _ _ _ h => h) (Or.inl ⟨by kernel_rfl, ?_⟩) hH0 ?_
  rotate_left 1
  · intro w hSw
    go_simp
    try with_reducible rfl
  try simp only [Act.put, List.getElem_toArray, List.getElem_cons_zero, List.getElem_cons_succ, List.setIfInBounds_toArray, List.set_cons_zero, List.set_cons_succ]
  refine wpAnyH_take (i := 24) (v := ?_) rfl (by kernel_rfl) (by kernel_rfl) (by kernel_rfl) (fun _ _ _ h => h) (Or.inl ⟨by kernel_rfl, ?_⟩) hH0 ?_
  rotate_left 1
  · intro w hSw
    have f0 := (hSw.cell (p := ⟨p, 37, none⟩) lp).trans c37
    have f1 := (hSw.cell (p := ⟨p, 38, none⟩) lp).trans c38
    have f2 := (hSw.cell (p := ⟨b, 134, none⟩) lb).trans fat
    have f3 := (hSw.cell (p := ⟨b, 135, none⟩) lb).trans fda
    go_simp
    try with_reducible rfl
  try simp only [Act.put, List.getElem_toArray, List.getElem_cons_zero, List.getElem_cons_succ, List.setIfInBounds_toArray, List.set_cons_zero, List.set_cons_succ]
  refine wpAnyH_ready (rs := [25]) (by kernel_rfl) (by simp) ?_
  refine AllReadyH.cons rfl (fun K_ hK => ?_) ?_
  · go_simp
    refine (HFT.out W0 hH0).mono ?_
    rintro e W1 ⟨rfl, hb1⟩
    refine hK.out _ _ ((hH0).trans (hb1.mono (hH0).size)) (fun hH1 => ?_)
    clear hK K_
    try simp only [Act.put, List.getElem_toArray, List.getElem_cons_zero, List.getElem_cons_succ, List.setIfInBounds_toArray, List.set_cons_zero, List.set_cons_succ]
    refine wpAnyH_take (i := 26) (v := ?_) rfl (by kernel_rfl) (by kernel_rfl) (by kernel_rfl) (fun _ _ _ h => h) (Or.inl ⟨by kernel_rfl, ?_⟩) hH1 ?_
    rotate_left 1
    · intro w hSw
      go_simp
      try with_reducible rfl
    try simp only [Act.put, List.getElem_toArray, List.getElem_cons_zero, List.getElem_cons_succ, List.setIfInBounds_toArray, List.set_cons_zero, List.set_cons_succ]
    refine wpAnyH_take (i := 27) (v := ?_) rfl (by kernel_rfl) (by kernel_rfl) (by kernel_rfl) (fun _ _ _ h => h) (Or.inl ⟨by kernel_rfl, ?_⟩) hH1 ?_
    rotate_left 1
    · intro w hSw
      go_simp
      try with_reducible rfl
    try simp only [Act.put, List.getElem_toArray, List.getElem_cons_zero, List.getElem_cons_succ, List.setIfInBounds_toArray, List.set_cons_zero, List.set_cons_succ]
    refine wpAnyH_take (i := 28) (v := ?_) rfl (by kernel_rfl) (by kernel_rfl) (by kernel_rfl) (fun _ _ _ h => h) (Or.inl ⟨by kernel_rfl, ?_⟩) hH1 ?_
    rotate_left 1
    · intro w hSw
      go_simp
      try with_reducible rfl
    try simp only [Act.put, List.getElem_toArray, List.getElem_cons_zero, List.getElem_cons_succ, List.setIfInBounds_toArray, List.set_cons_zero, List.set_cons_succ]
    refine wpAnyH_take (i := 29) (v := undef) rfl (by kernel_rfl) (by kernel_rfl) (by kernel_rfl) (fun _ _ _ h => h) (Or.inr ⟨by kernel_rfl, rfl⟩) hH1 ?_
    try simp only [Act.put, List.getElem_toArray, List.getElem_cons_zero, List.getElem_cons_succ, List.setIfInBounds_toArray, List.set_cons_zero, List.set_cons_succ]
    refine wpAnyH_take (i := 30) (v := undef) rfl (by kernel_rfl) (by kernel_rfl) (by kernel_rfl) (fun _ _ _ h => h) (Or.inr ⟨by kernel_rfl, rfl⟩) hH1 ?_
    try simp only [Act.put, List.getElem_toArray, List.getElem_cons_zero, List.getElem_cons_succ, List.setIfInBounds_toArray, List.set_cons_zero, List.set_cons_succ]
    refine wpAnyH_take (i := 31) (v := undef) rfl (by kernel_rfl) (by kernel_rfl) (by kernel_rfl) (fun _ _ _ h => h) (Or.inr ⟨by kernel_rfl, rfl⟩) hH1 ?_
    try simp only [Act.put, List.getElem_toArray, List.getElem_cons_zero, List.getElem_cons_succ, List.setIfInBounds_toArray, List.set_cons_zero, List.set_cons_succ]
    refine wpAnyH_take (i := 32) (v := undef) rfl (by kernel_rfl) (by kernel_rfl) (by kernel_rfl) (fun _ _ _ h => h) (Or.inr ⟨by kernel_rfl, rfl⟩) hH1 ?_
    try simp only [Act.put, List.getElem_toArray, List.getElem_cons_zero, List.getElem_cons_succ, List.setIfInBounds_toArray, List.set_cons_zero, List.set_cons_succ]
    refine wpAnyH_take (i := 33) (v := undef) rfl (by kernel_rfl) (by kernel_rfl) (by kernel_rfl) (fun _ _ _ h => h) (Or.inr ⟨by kernel_rfl, rfl⟩) hH1 ?_
    try simp only [Act.put, List.getElem_toArray, List.getElem_cons_zero, List.getElem_cons_succ, List.setIfInBounds_toArray, List.set_cons_zero, List.set_cons_succ]
    refine wpAnyH_take (i := 34) (v := undef) rfl (by kernel_rfl) (by kernel_rfl) (by kernel_rfl) (fun _ _ _ h => h) (Or.inr ⟨by kernel_rfl, rfl⟩) hH1 ?_
    try simp only [Act.put, List.getElem_toArray, List.getElem_cons_zero, List.getElem_cons_succ, List.setIfInBounds_toArray, List.set_cons_zero, List.set_cons_succ]
    refine wpAnyH_take (i := 35) (v := undef) rfl (by kernel_rfl) (by kernel_rfl) (by kernel_rfl) (fun _ _ _ h => h) (Or.inr ⟨by kernel_rfl, rfl⟩) hH1 ?_
    try simp only [Act.put, List.getElem_toArray, List.getElem_cons_zero, List.getElem_cons_succ, List.setIfInBounds_toArray, List.set_cons_zero, List.set_cons_succ]
    refine wpAnyH_take (i := 36) (v := undef) rfl (by kernel_rfl) (by kernel_rfl) (by kernel_rfl) (fun _ _ _ h => h) (Or.inr ⟨by kernel_rfl, rfl⟩) hH1 ?_
    try simp only [Act.put, List.getElem_toArray, List.getElem_cons_zero, List.getElem_cons_succ, List.setIfInBounds_toArray, List.set_cons_zero, List.set_cons_succ]
    refine wpAnyH_take (i := 37) (v := undef) rfl (by kernel_rfl) (by kernel_rfl) (by kernel_rfl) (fun _ _ _ h => h) (Or.inr ⟨by kernel_rfl, rfl⟩) hH1 ?_
    try simp only [Act.put, List.getElem_toArray, List.getElem_cons_zero, List.getElem_cons_succ, List.setIfInBounds_toArray, List.set_cons_zero, List.set_cons_succ]
    refine wpAnyH_take (i := 38) (v := ?_) rfl (by kernel_rfl) (by kernel_rfl) (by kernel_rfl) (fun _ _ _ h => h) (Or.inl ⟨by kernel_rfl, ?_⟩) hH1 ?_
    rotate_left 1
    · intro w hSw
      go_simp
      try with_reducible rfl
    try simp only [Act.put, List.getElem_toArray, List.getElem_cons_zero, List.getElem_cons_succ, List.setIfInBounds_toArray, List.set_cons_zero, List.set_cons_succ]
    refine wpAnyH_done (by kernel_rfl) ?_ _
    have HH := Lib.hid hH1
    clear hH1
    go_wp2_with fail
    (try simp only [Exit.inBlock, Exit.then])
    refine bodyPost_ret (results_tmp rfl _ _ _) rfl ?_
    exact fin.out _ (HB2.out.trans (HH.out.mono HB2.out.size))
  exact AllReadyH.nil

set_option maxHeartbeats 4000000 in
set_option maxRecDepth 100000 in
theorem hear_part_twice (K : List Int) (p : Nat) (S : List Nat) (d : HlD) (f : FrD) (w : World) (h : HlAt w S p d) (hf : f.Ok w) (hd : d.done = false) (hfl : d.failed = false) (hp : f.from_ = d.peer) (h8 : f.kind = 8) (sp : Int × List (List UInt8)) (hmn : d.mani = some sp) (hne : f.out = d.out) (hyes : fitsS K (Hl.mk d.out sp) f.at_ f.data = true) (x : Ck) (hx : d.cks[f.at_.toNat]? = some x) (hcm : x.come = true) (hL : Laid K w) :
    Calls Tryd.prog 19 #[.pointer (some ⟨p, 0, none⟩), .agg f.row] w (HearPost K w S p d f) := by
  have hk7 : ¬ f.kind = 7 := by rw [h8]; decide
  have hb0 : (f.out == d.out) = true := by simp [hne]
  have hh : hearOf K d f = (d, []) := by
    unfold hearOf Hl.hear; rw [if_neg (by simp [hd, hfl, hp]), if_neg hk7, if_pos h8, hmn]
    simp only
    rw [if_neg]
    unfold Hl.takes
    rw [hx]
    simp only [hcm]; simp
  have fin := Lib.hid (fun w' (hb : Below w.heap.size w w') => hear_same (K := K) h hh hb)
  have HL := Lib.hid hL
  have HXK := Lib.hid hx
  clear hh hk7 hL hx
  have H := Lib.hid h
  obtain ⟨ok, lt, pS, mv, cv, hm, hx⟩ := h
  have ho := ok.out
  have hB := (Below.refl w.heap.size w).alloc (Nat.le_refl _) (.cells f.row 44)
  have hm1 := below_keep hB hm
  have hfr := heap_alloc_new w (.cells f.row 44)
  obtain ⟨-, -, -, c35, -, -, -, -⟩ := hl_cells ho hm1
  have f1 := (fr_mem hf.fit hfr).from_
  have hop := Lib.hid (fun n => (open_any p d mv cv ((w.alloc (.cells f.row 44)).drewN n) ho hm1).mono fun _ _ h => And.intro h.1 h.2.symm)
  rw [hd, hfl] at hop
  rw [hp] at f1
  have HB := Lib.hid hB
  have HFR := Lib.hid hfr
  have HM1 := Lib.hid hm1
  have OK := Lib.hid ok
  have LT := Lib.hid lt
  have PS := Lib.hid pS
  have HO := Lib.hid ho
  have HX := Lib.hid hx
  have HF := Lib.hid hf
  have HD := Lib.hid hd
  have HFL := Lib.hid hfl
  have HP := Lib.hid hp
  obtain ⟨w1, hw1⟩ : ∃ y, y = w.alloc (.cells f.row 44) := ⟨_, rfl⟩
  obtain ⟨b, hb⟩ : ∃ y, y = w.heap.size := ⟨_, rfl⟩
  obtain ⟨pe, hpe⟩ : ∃ y, y = d.peer := ⟨_, rfl⟩
  go_enter Tryd.func19, Tryd.ntmps19
  go_upto_region 1 with fail
  rw [← hw1] at c35 f1 hop HB HFR HM1 ⊢
  rw [← hb] at f1 HFR ⊢
  rw [← hpe] at c35 f1
  have Hb := Lib.hid hb
  have hb1 : (pe != pe) = false := by simp
  have hb2 : (pe == pe) = true := by simp
  clear hw1 hb hpe hm1 hB hm hf lt pS ok ho hx hfr hd hfl hp
  go_quiet ((go_at_call 60; exact Calls.quiet_of_same (hop.out _)))
  go_upto_region 3 with fail
  have HB2 := Lib.hid (below_drewN'' HB.out nq)
  have HFR2 : Hid ((w1.drewN nq).heap[b]? = some (.cells f.row 44 (0, 0))) := Lib.hid HFR.out
  have HM2 : Hid ((w1.drewN nq).heap[p]? = some (.cells (hlCells d mv cv).toArray 119 (0, 0))) := Lib.hid HM1.out
  obtain ⟨w2, hw2⟩ : ∃ y, y = w1.drewN nq := ⟨_, rfl⟩
  rw [← hw2] at HB2 HFR2 HM2 ⊢
  clear hw2 c35 f1 hop hb1 hb2
  have fa := fr_mem HF.out.fit HFR2.out
  have fk := fa.kind
  rw [h8] at fk
  have fat := fa.at_
  have fda := fa.data
  have rfo := fa.out
  obtain ⟨q, c, m, hx⟩ : ∃ q c m, HasMani w S p d q c m mv cv := by
    rcases HX.out with hx | hx
    · rw [hx.1] at hmn; cases hmn
    · exact hx
  have hmv := hx.mv
  have hcv := hx.cv
  subst hmv
  subst hcv
  have emn := hx.mani
  rw [hmn] at emn
  obtain rfl := Option.some.inj emn
  have mok := ((hx.mok OK.out LT.out).below HB2.out (Nat.le_refl _)).more HB2.out.size
  obtain ⟨-, -, -, -, -, c37, c38, ro⟩ := hl_cells HO.out HM2.out
  have rq := range0_of_heap (below_keep HB2.out hx.hq)
  have hc2 := below_keep HB2.out hx.hc
  have lp : p < w2.heap.size := heap_lt HM2.out
  have lb : b < w2.heap.size := heap_lt HFR2.out
  have lq : q < w2.heap.size := heap_lt (below_keep HB2.out hx.hq)
  have lc : c < w2.heap.size := heap_lt hc2
  have mdix : (Tryd.prog.info? 39).map (·.size) = some m.cells.length := by rw [mani_info, mani_cells_len m mok.whole]
  have mund := Tryd.underlying39
  have dund := Tryd.underlying23
  have dix : (Tryd.prog.info? 23).map (·.size) = some (byV f.out).length := by rw [dig_info, byV_length, HF.out.fit.lo]
  have diy : (Tryd.prog.info? 23).map (·.size) = some (byV d.out).length := by rw [dig_info, byV_length, HO.out]
  have heq : ∀ W : World, (Op.equalIn 10000 23 (.agg (byV f.out).toArray) (.agg (byV d.out).toArray)).run Tryd.prog W = .ok (f.out == d.out) W := fun W => eqIn_dig W f.out d.out HF.out.fit.lo HO.out
  have HFT := Lib.hid (fun W (hW : Below w2.heap.size w2 W) => fits_any K m f.at_ f.data W ((HL.out.below HB2.out).below hW) ((mok.below hW (Nat.le_refl _)).more hW.size) HF.out.alo HF.out.ahi HF.out.data)
  have hfs : fitsS K (Hl.mk d.out (m.size, m.parts)) f.at_ f.data = fitsS K m f.at_ f.data := rfl
  have HX2 := Lib.hid hx
  have HC2 := Lib.hid hc2
  have Hmok := Lib.hid mok
  clear HX hx fa hc2 mok h8 emn
  rw [hb0] at heq
  rw [hfs] at hyes
  rw [hyes] at HFT
  obtain ⟨i0, i1, -⟩ := fitsS_in hyes
  obtain ⟨i, hi⟩ : ∃ i : Nat, f.at_ = (i : Int) := ⟨f.at_.toNat, by omega⟩
  have hx2 : d.cks[i]? = some x := by have := HXK.out; rw [hi] at this; simpa using this
  have hin : i < d.cks.length := (List.getElem?_eq_some_iff.1 hx2).1
  obtain ⟨r0, r1, r2, r3, -⟩ := ck_cell HC2.out hx2
  rw [hcm] at r1
  rw [hi] at fat HFT
  have Hi := Lib.hid hi
  have Hx2 := Lib.hid hx2
  clear hb0 hne hfs hyes hi hx2 i0 i1
  go_upto_region 12 with fail
  obtain ⟨mc, hmc⟩ : ∃ y, y = m.cells := ⟨_, rfl⟩
  obtain ⟨wh, hwh⟩ : ∃ y, y = byV f.out := ⟨_, rfl⟩
  obtain ⟨ou, hou⟩ : ∃ y, y = byV d.out := ⟨_, rfl⟩
  rw [← hmc] at rq mdix
  rw [← hwh] at rfo dix heq
  rw [← hou] at ro diy heq
  replace HFT : Hid (∀ W : World, Below w2.heap.size w2 W → Calls Tryd.prog 36 #[.agg mc.toArray, .int .i64 (i : Int), .string ⟨f.data.toArray⟩] W fun e w' => e = .returned (.bool true) ∧ Below W.heap.size W w') := by rw [hmc]; exact HFT
  have Hmc := Lib.hid hmc
  clear hmc hwh hou
  obtain ⟨n, hn⟩ : ∃ n, n = d.cks.length := ⟨_, rfl⟩
  rw [← hn] at c38
  have Hn := Lib.hid hn
  rw [← hn] at hin
  have hi0 : (0 : Int) ≤ (i : Int) := by omega
  have hin2 : (i : Int) < (n : Int) := by omega
  clear hn
  refine wp_region_held_drew (S := fun w' => Below w2.heap.size w2 w') (by kernel_rfl) ((Below.refl _ _).drew) (fun hH0 => ?_)
  obtain ⟨W0, hW0⟩ : ∃ W, W = w2.drew := ⟨_, rfl⟩
  rw [← hW0] at hH0 ⊢
  clear hW0
  refine wpAnyH_take (i := 0) (v := ?_) rfl (by kernel_rfl) (by kernel_rfl) (by kernel_rfl) (fun _ _ _ h => h) (Or.inl ⟨by kernel_rfl, ?_⟩) hH0 ?_
  rotate_left 1
  · intro w hSw
    go_simp
    try with_reducible rfl
  try simp only [Act.put, List.getElem_toArray, List.getElem_cons_zero, List.getElem_cons_succ, List.setIfInBounds_toArray, List.set_cons_zero, List.set_cons_succ]
  refine wpAnyH_take (i := 1) (v := ?_) rfl (by kernel_rfl) (by kernel_rfl) (by kernel_rfl) (fun _ _ _ h => h) (Or.inl ⟨by kernel_rfl, ?_⟩) hH0 ?_
  rotate_left 1
  · intro w hSw
    go_simp
    try with_reducible rfl
  try simp only [Act.put, List.getElem_toArray, List.getElem_cons_zero, List.getElem_cons_succ, List.setIfInBounds_toArray, List.set_cons_zero, List.set_cons_succ]
  refine wpAnyH_take (i := 2) (v := ?_) rfl (by kernel_rfl) (by kernel_rfl) (by kernel_rfl) (fun _ _ _ h => h) (Or.inl ⟨by kernel_rfl, ?_⟩) hH0 ?_
  rotate_left 1
  · intro w hSw
    go_simp
    try with_reducible rfl
  try simp only [Act.put, List.getElem_toArray, List.getElem_cons_zero, List.getElem_cons_succ, List.setIfInBounds_toArray, List.set_cons_zero, List.set_cons_succ]
  refine wpAnyH_take (i := 3) (v := ?_) rfl (by kernel_rfl) (by kernel_rfl) (by kernel_rfl) (fun _ _ _ h => h) (Or.inl ⟨by kernel_rfl, ?_⟩) hH0 ?_
  rotate_left 1
  · intro w hSw
    have f0 := (hSw.cell (p := ⟨p, 37, none⟩) lp).trans c37
    have f1 := (hSw.cell (p := ⟨p, 38, none⟩) lp).trans c38
    have f2 := (hSw.cell (p := ⟨b, 134, none⟩) lb).trans fat
    have f3 := (hSw.cell (p := ⟨b, 135, none⟩) lb).trans fda
    have f4 := (hSw.cell (p := ⟨c, i * 4 + 1, none⟩) lc).trans r1
    go_simp
    try with_reducible rfl
  try simp only [Act.put, List.getElem_toArray, List.getElem_cons_zero, List.getElem_cons_succ, List.setIfInBounds_toArray, List.set_cons_zero, List.set_cons_succ]
  refine wpAnyH_take (i := 4) (v := ?_) rfl (by kernel_rfl) (by kernel_rfl) (by kernel_rfl) (fun _ _ _ h => h) (Or.inl ⟨by kernel_rfl, ?_⟩) hH0 ?_
  rotate_left 1
  · intro w hSw
    go_simp
    try with_reducible rfl
  try simp only [Act.put, List.getElem_toArray, List.getElem_cons_zero, List.getElem_cons_succ, List.setIfInBounds_toArray, List.set_cons_zero, List.set_cons_succ]
  refine wpAnyH_take (i := 5) (v := ?_) rfl (by kernel_rfl) (by kernel_rfl) (by kernel_rfl) (fun _ _ _ h => h) (Or.inl ⟨by kernel_rfl, ?_⟩) hH0 ?_
  rotate_left 1
  · intro w hSw
    go_simp
    try with_reducible rfl
  try simp only [Act.put, List.getElem_toArray, List.getElem_cons_zero, List.getElem_cons_succ, List.setIfInBounds_toArray, List.set_cons_zero, List.set_cons_succ]
  refine wpAnyH_take (i := 6) (v := ?_) rfl (by kernel_rfl) (by kernel_rfl) (by kernel_rfl) (fun _ _ _ h => h) (Or.inl ⟨by kernel_rfl, ?_⟩) hH0 ?_
  rotate_left 1
  · intro w hSw
    go_simp
    try with_reducible rfl
  try simp only [Act.put, List.getElem_toArray, List.getElem_cons_zero, List.getElem_cons_succ, List.setIfInBounds_toArray, List.set_cons_zero, List.set_cons_succ]
  refine wpAnyH_take (i := 7) (v := _) rfl (by kernel_rfl) (by kernel_rfl) (by kernel_rfl) (fun _ _ _ h => h) (yieldsIf_load_mid (by kernel_rfl) _ _ rfl _ _ rfl wh _ (fun W hW => range_below rfo hW lb) dund rfl dix) hH0 ?_
  try simp only [Act.put, List.getElem_toArray, List.getElem_cons_zero, List.getElem_cons_succ, List.setIfInBounds_toArray, List.set_cons_zero, List.set_cons_succ]
  refine wpAnyH_take (i := 8) (v := ?_) rfl (by kernel_rfl) (by kernel_rfl) (by kernel_rfl) (fun _ _ _ h => h) (Or.inl ⟨by kernel_rfl, ?_⟩) hH0 ?_
  rotate_left 1
  · intro w hSw
    go_simp
    try with_reducible rfl
  try simp only [Act.put, List.getElem_toArray, List.getElem_cons_zero, List.getElem_cons_succ, List.setIfInBounds_toArray, List.set_cons_zero, List.set_cons_succ]
  refine wpAnyH_take (i := 9) (v := ?_) rfl (by kernel_rfl) (by kernel_rfl) (by kernel_rfl) (fun _ _ _ h => h) (Or.inl ⟨by kernel_rfl, ?_⟩) hH0 ?_
  rotate_left 1
  · intro w hSw
    go_simp
    try with_reducible rfl
  try simp only [Act.put, List.getElem_toArray, List.getElem_cons_zero, List.getElem_cons_succ, List.setIfInBounds_toArray, List.set_cons_zero, List.set_cons_succ]
  refine wpAnyH_take (i := 10) (v := ?_) rfl (by kernel_rfl) (by kernel_rfl) (by kernel_rfl) (fun _ _ _ h => h) (Or.inl ⟨by kernel_rfl, ?_⟩) hH0 ?_
  rotate_left 1
  · intro w hSw
    go_simp
    try with_reducible rfl
  try simp only [Act.put, List.getElem_toArray, List.getElem_cons_zero, List.getElem_cons_succ, List.setIfInBounds_toArray, List.set_cons_zero, List.set_cons_succ]
  refine wpAnyH_take (i := 11) (v := _) rfl (by kernel_rfl) (by kernel_rfl) (by kernel_rfl) (fun _ _ _ h => h) (yieldsIf_load_mid (by kernel_rfl) _ _ rfl _ _ rfl ou _ (fun W hW => range_below ro hW lp) dund rfl diy) hH0 ?_
  try simp only [Act.put, List.getElem_toArray, List.getElem_cons_zero, List.getElem_cons_succ, List.setIfInBounds_toArray, List.set_cons_zero, List.set_cons_succ]
  refine wpAnyH_take (i := 12) (v := ?_) rfl (by kernel_rfl) (by kernel_rfl) (by kernel_rfl) (fun _ _ _ h => h) (Or.inl ⟨by kernel_rfl, ?_⟩) hH0 ?_
  rotate_left 1
  · intro w hSw
    go_simp
    try with_reducible rfl
  try simp only [Act.put, List.getElem_toArray, List.getElem_cons_zero, List.getElem_cons_succ, List.setIfInBounds_toArray, List.set_cons_zero, List.set_cons_succ]
  refine wpAnyH_take (i := 13) (v := ?_) rfl (by kernel_rfl) (by kernel_rfl) (by kernel_rfl) (fun _ _ _ h => h) (Or.inl ⟨by kernel_rfl, ?_⟩) hH0 ?_
  rotate_left 1
  · intro w hSw
    go_simp
    try with_reducible rfl
  try simp only [Act.put, List.getElem_toArray, List.getElem_cons_zero, List.getElem_cons_succ, List.setIfInBounds_toArray, List.set_cons_zero, List.set_cons_succ]
  refine wpAnyH_take (i := 14) (v := ?_) rfl (by kernel_rfl) (by kernel_rfl) (by kernel_rfl) (fun _ _ _ h => h) (Or.inl ⟨by kernel_rfl, ?_⟩) hH0 ?_
  rotate_left 1
  · intro w hSw
    go_simp
    try with_reducible rfl
  try simp only [Act.put, List.getElem_toArray, List.getElem_cons_zero, List.getElem_cons_succ, List.setIfInBounds_toArray, List.set_cons_zero, List.set_cons_succ]
  refine wpAnyH_take (i := 15) (v := ?_) rfl (by kernel_rfl) (by kernel_rfl) (by kernel_rfl) (fun _ _ _ h => h) (Or.inl ⟨by kernel_rfl, ?_⟩) hH0 ?_
  rotate_left 1
  · intro w hSw
    go_simp
    try with_reducible rfl
  try simp only [Act.put, List.getElem_toArray, List.getElem_cons_zero, List.getElem_cons_succ, List.setIfInBounds_toArray, List.set_cons_zero, List.set_cons_succ]
  refine wpAnyH_take (i := 16) (v := ?_) rfl (by kernel_rfl) (by kernel_rfl) (by kernel_rfl) (fun _ _ _ h => h) (Or.inl ⟨by kernel_rfl, ?_⟩) hH0 ?_
  rotate_left 1
  · intro w hSw
    go_simp
    try with_reducible rfl
  try simp only [Act.put, List.getElem_toArray, List.getElem_cons_zero, List.getElem_cons_succ, List.setIfInBounds_toArray, List.set_cons_zero, List.set_cons_succ]
  refine wpAnyH_take (i := 17) (v := ?_) rfl (by kernel_rfl) (by kernel_rfl) (by kernel_rfl) (fun _ _ _ h => h) (Or.inl ⟨by kernel_rfl, ?_⟩) hH0 ?_
  rotate_left 1
  · intro w hSw
    go_simp
    try with_reducible rfl
  try simp only [Act.put, List.getElem_toArray, List.getElem_cons_zero, List.getElem_cons_succ, List.setIfInBounds_toArray, List.set_cons_zero, List.set_cons_succ]
  refine wpAnyH_take (i := 18) (v := ?_) rfl (by kernel_rfl) (by kernel_rfl) (by kernel_rfl) (fun _ _ _ h => h) (Or.inl ⟨by kernel_rfl, ?_⟩) hH0 ?_
  rotate_left 1
  · intro w hSw
    have f0 := (hSw.cell (p := ⟨p, 37, none⟩) lp).trans c37
    have f1 := (hSw.cell (p := ⟨p, 38, none⟩) lp).trans c38
    have f2 := (hSw.cell (p := ⟨b, 134, none⟩) lb).trans fat
    have f3 := (hSw.cell (p := ⟨b, 135, none⟩) lb).trans fda
    have f4 := (hSw.cell (p := ⟨c, i * 4 + 1, none⟩) lc).trans r1
    go_simp
    try with_reducible rfl
  try simp only [Act.put, List.getElem_toArray, List.getElem_cons_zero, List.getElem_cons_succ, List.setIfInBounds_toArray, List.set_cons_zero, List.set_cons_succ]
  refine wpAnyH_take (i := 19) (v := ?_) rfl (by kernel_rfl) (by kernel_rfl) (by kernel_rfl) (fun _ _ _ h => h) (Or.inl ⟨by kernel_rfl, ?_⟩) hH0 ?_
  rotate_left 1
  · intro w hSw
    go_simp
    try with_reducible rfl
  try simp only [Act.put, List.getElem_toArray, List.getElem_cons_zero, List.getElem_cons_succ, List.setIfInBounds_toArray, List.set_cons_zero, List.set_cons_succ]
  refine wpAnyH_take (i := 20) (v := _) rfl (by kernel_rfl) (by kernel_rfl) (by kernel_rfl) (fun _ _ _ h => h) (yieldsIf_load_mid (by kernel_rfl) _ _ rfl _ _ rfl mc _ (fun W hW => range_below rq hW lq) mund rfl mdix) hH0 ?_
  try simp only [Act.put, List.getElem_toArray, List.getElem_cons_zero, List.getElem_cons_succ, List.setIfInBounds_toArray, List.set_cons_zero, List.set_cons_succ]
  refine wpAnyH_take (i := 21) (v := ?_) rfl (by kernel_rfl) (by kernel_rfl) (by kernel_rfl) (fun _ _ _ h => h) (Or.inl ⟨by kernel_rfl, ?_⟩) hH0 ?_
  rotate_left 1
  · intro w hSw
    go_simp
    try with_reducible rfl
  try simp only [Act.put, List.getElem_toArray, List.getElem_cons_zero, List.getElem_cons_succ, List.setIfInBounds_toArray, List.set_cons_zero, List.set_cons_succ]
  refine wpAnyH_take (i := 22) (v := ?_) rfl (by kernel_rfl) (by kernel_rfl) (by kernel_rfl) (fun _ _ _ h => h) (Or.inl ⟨by kernel_rfl, ?_⟩) hH0 ?_
  rotate_left 1
  · intro w hSw
    have f0 := (hSw.cell (p := ⟨p, 37, none⟩) lp).trans c37
    have f1 := (hSw.cell (p := ⟨p, 38, none⟩) lp).trans c38
    have f2 := (hSw.cell (p := ⟨b, 134, none⟩) lb).trans fat
    have f3 := (hSw.cell (p := ⟨b, 135, none⟩) lb).trans fda
    have f4 := (hSw.cell (p := ⟨c, i * 4 + 1, none⟩) lc).trans r1
    go_simp
    try with_reducible rfl
  try simp only [Act.put, List.getElem_toArray, List.getElem_cons_zero, List.getElem_cons_succ, List.setIfInBounds_toArray, List.set_cons_zero, List.set_cons_succ]
  refine wpAnyH_take (i := 23) (v := ?_) rfl (by kernel_rfl) (by kernel_rfl) (by kernel_rfl) (fun _ _ _ h => h) (Or.inl ⟨by kernel_rfl, ?_⟩) hH0 ?_
  rotate_left 1
  · intro w hSw
    go_simp
    try with_reducible rfl
  try simp only [Act.put, List.getElem_toArray, List.getElem_cons_zero, List.getElem_cons_succ, List.setIfInBounds_toArray, List.set_cons_zero, List.set_cons_succ]
  refine wpAnyH_take (i := 24) (v := ?_) rfl (by kernel_rfl) (by kernel_rfl) (by kernel_rfl) (fun _ _ _ h => h) (Or.inl ⟨by kernel_rfl, ?_⟩) hH0 ?_
  rotate_left 1
  · intro w hSw
    have f0 := (hSw.cell (p := ⟨p, 37, none⟩) lp).trans c37
    have f1 := (hSw.cell (p := ⟨p, 38, none⟩) lp).trans c38
    have f2 := (hSw.cell (p := ⟨b, 134, none⟩) lb).trans fat
    have f3 := (hSw.cell (p := ⟨b, 135, none⟩) lb).trans fda
    have f4 := (hSw.cell (p := ⟨c, i * 4 + 1, none⟩) lc).trans r1
    go_simp
    try with_reducible rfl
  try simp only [Act.put, List.getElem_toArray, List.getElem_cons_zero, List.getElem_cons_succ, List.setIfInBounds_toArray, List.set_cons_zero, List.set_cons_succ]
  refine wpAnyH_ready (rs := [25]) (by kernel_rfl) (by simp) ?_
  refine AllReadyH.cons rfl (fun K_ hK => ?_) ?_
  · go_simp
    refine (HFT.out W0 hH0).mono ?_
    rintro e W1 ⟨rfl, hb1⟩
    refine hK.out _ _ ((hH0).trans (hb1.mono (hH0).size)) (fun hH1 => ?_)
    clear hK K_
    try simp only [Act.put, List.getElem_toArray, List.getElem_cons_zero, List.getElem_cons_succ, List.setIfInBounds_toArray, List.set_cons_zero, List.set_cons_succ]
    refine wpAnyH_take (i := 26) (v := ?_) rfl (by kernel_rfl) (by kernel_rfl) (by kernel_rfl) (fun _ _ _ h => h) (Or.inl ⟨by kernel_rfl, ?_⟩) hH1 ?_
    rotate_left 1
    · intro w hSw
      go_simp
      try with_reducible rfl
    try simp only [Act.put, List.getElem_toArray, List.getElem_cons_zero, List.getElem_cons_succ, List.setIfInBounds_toArray, List.set_cons_zero, List.set_cons_succ]
    refine wpAnyH_take (i := 27) (v := ?_) rfl (by kernel_rfl) (by kernel_rfl) (by kernel_rfl) (fun _ _ _ h => h) (Or.inl ⟨by kernel_rfl, ?_⟩) hH1 ?_
    rotate_left 1
    · intro w hSw
      go_simp
      try with_reducible rfl
    try simp only [Act.put, List.getElem_toArray, List.getElem_cons_zero, List.getElem_cons_succ, List.setIfInBounds_toArray, List.set_cons_zero, List.set_cons_succ]
    refine wpAnyH_take (i := 28) (v := ?_) rfl (by kernel_rfl) (by kernel_rfl) (by kernel_rfl) (fun _ _ _ h => h) (Or.inl ⟨by kernel_rfl, ?_⟩) hH1 ?_
    rotate_left 1
    · intro w hSw
      go_simp
      try with_reducible rfl
    try simp only [Act.put, List.getElem_toArray, List.getElem_cons_zero, List.getElem_cons_succ, List.setIfInBounds_toArray, List.set_cons_zero, List.set_cons_succ]
    refine wpAnyH_take (i := 29) (v := ?_) rfl (by kernel_rfl) (by kernel_rfl) (by kernel_rfl) (fun _ _ _ h => h) (Or.inl ⟨by kernel_rfl, ?_⟩) hH1 ?_
    rotate_left 1
    · intro w hSw
      go_simp
      try with_reducible rfl
    try simp only [Act.put, List.getElem_toArray, List.getElem_cons_zero, List.getElem_cons_succ, List.setIfInBounds_toArray, List.set_cons_zero, List.set_cons_succ]
    refine wpAnyH_take (i := 30) (v := ?_) rfl (by kernel_rfl) (by kernel_rfl) (by kernel_rfl) (fun _ _ _ h => h) (Or.inl ⟨by kernel_rfl, ?_⟩) hH1 ?_
    rotate_left 1
    · intro w hSw
      go_simp
      try with_reducible rfl
    try simp only [Act.put, List.getElem_toArray, List.getElem_cons_zero, List.getElem_cons_succ, List.setIfInBounds_toArray, List.set_cons_zero, List.set_cons_succ]
    refine wpAnyH_take (i := 31) (v := ?_) rfl (by kernel_rfl) (by kernel_rfl) (by kernel_rfl) (fun _ _ _ h => h) (Or.inl ⟨by kernel_rfl, ?_⟩) hH1 ?_
    rotate_left 1
    · intro w hSw
      go_simp
      try with_reducible rfl
    try simp only [Act.put, List.getElem_toArray, List.getElem_cons_zero, List.getElem_cons_succ, List.setIfInBounds_toArray, List.set_cons_zero, List.set_cons_succ]
    refine wpAnyH_take (i := 32) (v := ?_) rfl (by kernel_rfl) (by kernel_rfl) (by kernel_rfl) (fun _ _ _ h => h) (Or.inl ⟨by kernel_rfl, ?_⟩) hH1 ?_
    rotate_left 1
    · intro w hSw
      have f0 := (hSw.cell (p := ⟨p, 37, none⟩) lp).trans c37
      have f1 := (hSw.cell (p := ⟨p, 38, none⟩) lp).trans c38
      have f2 := (hSw.cell (p := ⟨b, 134, none⟩) lb).trans fat
      have f3 := (hSw.cell (p := ⟨b, 135, none⟩) lb).trans fda
      have f4 := (hSw.cell (p := ⟨c, i * 4 + 1, none⟩) lc).trans r1
      go_simp
      try with_reducible rfl
    try simp only [Act.put, List.getElem_toArray, List.getElem_cons_zero, List.getElem_cons_succ, List.setIfInBounds_toArray, List.set_cons_zero, List.set_cons_succ]
    refine wpAnyH_take (i := 33) (v := ?_) rfl (by kernel_rfl) (by kernel_rfl) (by kernel_rfl) (fun _ _ _ h => h) (Or.inl ⟨by kernel_rfl, ?_⟩) hH1 ?_
    rotate_left 1
    · intro w hSw
      go_simp
      try with_reducible rfl
    try simp only [Act.put, List.getElem_toArray, List.getElem_cons_zero, List.getElem_cons_succ, List.setIfInBounds_toArray, List.set_cons_zero, List.set_cons_succ]
    refine wpAnyH_take (i := 34) (v := ?_) rfl (by kernel_rfl) (by kernel_rfl) (by kernel_rfl) (fun _ _ _ h => h) (Or.inl ⟨by kernel_rfl, ?_⟩) hH1 ?_
    rotate_left 1
    · intro w hSw
      have f0 := (hSw.cell (p := ⟨p, 37, none⟩) lp).trans c37
      have f1 := (hSw.cell (p := ⟨p, 38, none⟩) lp).trans c38
      have f2 := (hSw.cell (p := ⟨b, 134, none⟩) lb).trans fat
      have f3 := (hSw.cell (p := ⟨b, 135, none⟩) lb).trans fda
      have f4 := (hSw.cell (p := ⟨c, i * 4 + 1, none⟩) lc).trans r1
      go_simp
      try with_reducible rfl
    try simp only [Act.put, List.getElem_toArray, List.getElem_cons_zero, List.getElem_cons_succ, List.setIfInBounds_toArray, List.set_cons_zero, List.set_cons_succ]
    refine wpAnyH_take (i := 35) (v := ?_) rfl (by kernel_rfl) (by kernel_rfl) (by kernel_rfl) (fun _ _ _ h => h) (Or.inl ⟨by kernel_rfl, ?_⟩) hH1 ?_
    rotate_left 1
    · intro w hSw
      go_simp
      try with_reducible rfl
    try simp only [Act.put, List.getElem_toArray, List.getElem_cons_zero, List.getElem_cons_succ, List.setIfInBounds_toArray, List.set_cons_zero, List.set_cons_succ]
    refine wpAnyH_take (i := 36) (v := ?_) rfl (by kernel_rfl) (by kernel_rfl) (by kernel_rfl) (fun _ _ _ h => h) (Or.inl ⟨by kernel_rfl, ?_⟩) hH1 ?_
    rotate_left 1
    · intro w hSw
      go_simp
      try with_reducible rfl
    try simp only [Act.put, List.getElem_toArray, List.getElem_cons_zero, List.getElem_cons_succ, List.setIfInBounds_toArray, List.set_cons_zero, List.set_cons_succ]
    refine wpAnyH_take (i := 37) (v := ?_) rfl (by kernel_rfl) (by kernel_rfl) (by kernel_rfl) (fun _ _ _ h => h) (Or.inl ⟨by kernel_rfl, ?_⟩) hH1 ?_
    rotate_left 1
    · intro w hSw
      have f0 := (hSw.cell (p := ⟨p, 37, none⟩) lp).trans c37
      have f1 := (hSw.cell (p := ⟨p, 38, none⟩) lp).trans c38
      have f2 := (hSw.cell (p := ⟨b, 134, none⟩) lb).trans fat
      have f3 := (hSw.cell (p := ⟨b, 135, none⟩) lb).trans fda
      have f4 := (hSw.cell (p := ⟨c, i * 4 + 1, none⟩) lc).trans r1
      go_simp
      try with_reducible rfl
    try simp only [Act.put, List.getElem_toArray, List.getElem_cons_zero, List.getElem_cons_succ, List.setIfInBounds_toArray, List.set_cons_zero, List.set_cons_succ]
    refine wpAnyH_take (i := 38) (v := ?_) rfl (by kernel_rfl) (by kernel_rfl) (by kernel_rfl) (fun _ _ _ h => h) (Or.inl ⟨by kernel_rfl, ?_⟩) hH1 ?_
    rotate_left 1
    · intro w hSw
      go_simp
      try with_reducible rfl
    try simp only [Act.put, List.getElem_toArray, List.getElem_cons_zero, List.getElem_cons_succ, List.setIfInBounds_toArray, List.set_cons_zero, List.set_cons_succ]
    refine wpAnyH_done (by kernel_rfl) ?_ _
    have HH := Lib.hid hH1
    clear hH1
    go_wp2_with fail
    (try simp only [Exit.inBlock, Exit.then])
    refine bodyPost_ret (results_tmp rfl _ _ _) rfl ?_
    exact fin.out _ (HB2.out.trans (HH.out.mono HB2.out.size))
  exact AllReadyH.nil
end Go.Proofs.YtfbjbhddapoopaaDoor
