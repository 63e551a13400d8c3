/-
  Layer 17 (haul): the walk of Hear: a part is taken; Hear of whatever frame.
-/
import Derived.Test.YtfbjbhddapoopaaDoorHaK
set_option linter.unusedVariables false
set_option linter.unusedSimpArgs false
namespace Go.Proofs.YtfbjbhddapoopaaDoor
open Go.RowKit
attribute [local go_sem] Lb.ba_get Lb.ba_cut Lb.ba_add Lb.ba_size Lb.take_rest

/-- a whole chunk is written -/
theorem ckCells_put (cks : List Ck) (k : Nat) (c : Ck) (hk : cks[k]? = some c) (x : List UInt8) (b a : Bool) (t : Int) :
    ((((ckCells cks).toArray.setIfInBounds (k * 4) (.string ⟨x.toArray⟩)).setIfInBounds (k * 4 + 1) (.bool b)).setIfInBounds (k * 4 + 2) (.bool a)).setIfInBounds (k * 4 + 3) (.int .i64 t) = (ckCells (cks.set k ⟨x, b, a, t⟩)).toArray := by
  have hkl : k < cks.length := (List.getElem?_eq_some_iff.1 hk).1
  have hl := ckCells_len cks
  simp only [List.setIfInBounds_toArray]
  congr 1
  refine ckCells_set cks k c hk _ _ (by simp [hl]) (fun j hj => ?_) (fun i hi => ?_)
  · match j, hj with
    | 0, _ =>
      rw [List.getElem?_set_ne (by omega), List.getElem?_set_ne (by omega), List.getElem?_set_ne (by omega)]
      exact List.getElem?_set_self (by omega)
    | 1, _ => rw [List.getElem?_set_ne (by omega), List.getElem?_set_ne (by omega), List.getElem?_set_self (by simp; omega)]; rfl
    | 2, _ => rw [List.getElem?_set_ne (by omega), List.getElem?_set_self (by simp; omega)]; rfl
    | 3, _ => rw [List.getElem?_set_self (by simp; omega)]; rfl
  · rw [List.getElem?_set_ne (by omega), List.getElem?_set_ne (by omega), List.getElem?_set_ne (by omega), List.getElem?_set_ne (by omega)]
namespace Hl
theorem Ok.put {d : HlD} (h : Ok d) (i : Nat) (x : List UInt8) (hx : x.length ≤ 64) : Ok { d with cks := d.cks.set i ⟨x, true, false, 0⟩ } := by
  refine h.cks (by simp) (fun c hc => ?_)
  rcases List.mem_or_eq_of_mem_set hc with hc | rfl
  · exact ⟨h.asked c hc, h.data c hc⟩
  · exact ⟨⟨Int.le_refl _, by show (0 : Int) ≤ 15; decide⟩, hx⟩
end Hl


set_option maxHeartbeats 4000000 in
set_option maxRecDepth 100000 in
theorem hear_part_yes (K : List Int) (p : Nat) (S : List Nat) (d : HlD) (f : FrD) (w : World) (h : HlAt w S p d) (hf : f.Ok w) (hd : d.done = false) (hfl : d.failed = false) (hp : f.from_ = d.peer) (h8 : f.kind = 8) (sp : Int × List (List UInt8)) (hmn : d.mani = some sp) (hne : f.out = d.out) (hyes : fitsS K (Hl.mk d.out sp) f.at_ f.data = true) (x : Ck) (hx : d.cks[f.at_.toNat]? = some x) (hcm : x.come = false) (h0S : 0 ∉ S) (hL : Laid K w) :
    Calls Tryd.prog 19 #[.pointer (some ⟨p, 0, none⟩), .agg f.row] w (HearPost K w S p d f) := by
  have hk7 : ¬ f.kind = 7 := by rw [h8]; decide
  have hb0 : (f.out == d.out) = true := by simp [hne]
  have hh : hearOf K d f = Hl.settle K { d with cks := d.cks.set f.at_.toNat ⟨f.data, true, false, 0⟩ } sp := by
    unfold hearOf Hl.hear; rw [if_neg (by simp [hd, hfl, hp]), if_neg hk7, if_pos h8, hmn]
    simp only
    rw [if_pos]
    unfold Hl.takes
    rw [hx, hb0, hyes]
    simp only [hcm]; simp
  have HH0 := Lib.hid hh
  have HL := Lib.hid hL
  have HXK := Lib.hid hx
  have H0S := Lib.hid h0S
  have Hdl := Lib.hid (fitsS_in hyes).2.2
  clear hh hk7 hL hx h0S
  have H := Lib.hid h
  obtain ⟨ok, lt, pS, mv, cv, hm, hx⟩ := h
  have ho := ok.out
  have hB := (Below.refl w.heap.size w).alloc (Nat.le_refl _) (.cells f.row 44)
  have hm1 := below_keep hB hm
  have hfr := heap_alloc_new w (.cells f.row 44)
  obtain ⟨-, -, -, c35, -, -, -, -⟩ := hl_cells ho hm1
  have f1 := (fr_mem hf.fit hfr).from_
  have hop := Lib.hid (fun n => (open_any p d mv cv ((w.alloc (.cells f.row 44)).drewN n) ho hm1).mono fun _ _ h => And.intro h.1 h.2.symm)
  rw [hd, hfl] at hop
  rw [hp] at f1
  have HB := Lib.hid hB
  have HFR := Lib.hid hfr
  have HM1 := Lib.hid hm1
  have OK := Lib.hid ok
  have LT := Lib.hid lt
  have PS := Lib.hid pS
  have HO := Lib.hid ho
  have HX := Lib.hid hx
  have HF := Lib.hid hf
  have HD := Lib.hid hd
  have HFL := Lib.hid hfl
  have HP := Lib.hid hp
  obtain ⟨w1, hw1⟩ : ∃ y, y = w.alloc (.cells f.row 44) := ⟨_, rfl⟩
  obtain ⟨b, hb⟩ : ∃ y, y = w.heap.size := ⟨_, rfl⟩
  obtain ⟨pe, hpe⟩ : ∃ y, y = d.peer := ⟨_, rfl⟩
  go_enter Tryd.func19, Tryd.ntmps19
  go_upto_region 1 with fail
  rw [← hw1] at c35 f1 hop HB HFR HM1 ⊢
  rw [← hb] at f1 HFR ⊢
  rw [← hpe] at c35 f1
  have Hb := Lib.hid hb
  have hb1 : (pe != pe) = false := by simp
  have hb2 : (pe == pe) = true := by simp
  clear hw1 hb hpe hm1 hB hm hf lt pS ok ho hx hfr hd hfl hp
  go_quiet ((go_at_call 60; exact Calls.quiet_of_same (hop.out _)))
  go_upto_region 3 with fail
  have HB2 := Lib.hid (below_drewN'' HB.out nq)
  have HFR2 : Hid ((w1.drewN nq).heap[b]? = some (.cells f.row 44 (0, 0))) := Lib.hid HFR.out
  have HM2 : Hid ((w1.drewN nq).heap[p]? = some (.cells (hlCells d mv cv).toArray 119 (0, 0))) := Lib.hid HM1.out
  obtain ⟨w2, hw2⟩ : ∃ y, y = w1.drewN nq := ⟨_, rfl⟩
  rw [← hw2] at HB2 HFR2 HM2 ⊢
  clear hw2 c35 f1 hop hb1 hb2
  have fa := fr_mem HF.out.fit HFR2.out
  have fk := fa.kind
  rw [h8] at fk
  have fat := fa.at_
  have fda := fa.data
  have rfo := fa.out
  obtain ⟨q, c, m, hx⟩ : ∃ q c m, HasMani w S p d q c m mv cv := by
    rcases HX.out with hx | hx
    · rw [hx.1] at hmn; cases hmn
    · exact hx
  have hmv := hx.mv
  have hcv := hx.cv
  subst hmv
  subst hcv
  have emn := hx.mani
  rw [hmn] at emn
  obtain rfl := Option.some.inj emn
  have mok := ((hx.mok OK.out LT.out).below HB2.out (Nat.le_refl _)).more HB2.out.size
  obtain ⟨-, -, -, -, -, c37, c38, ro⟩ := hl_cells HO.out HM2.out
  have rq := range0_of_heap (below_keep HB2.out hx.hq)
  have hc2 := below_keep HB2.out hx.hc
  have lp : p < w2.heap.size := heap_lt HM2.out
  have lb : b < w2.heap.size := heap_lt HFR2.out
  have lq : q < w2.heap.size := heap_lt (below_keep HB2.out hx.hq)
  have lc : c < w2.heap.size := heap_lt hc2
  have mdix : (Tryd.prog.info? 39).map (·.size) = some m.cells.length := by rw [mani_info, mani_cells_len m mok.whole]
  have mund := Tryd.underlying39
  have dund := Tryd.underlying23
  have dix : (Tryd.prog.info? 23).map (·.size) = some (byV f.out).length := by rw [dig_info, byV_length, HF.out.fit.lo]
  have diy : (Tryd.prog.info? 23).map (·.size) = some (byV d.out).length := by rw [dig_info, byV_length, HO.out]
  have heq : ∀ W : World, (Op.equalIn 10000 23 (.agg (byV f.out).toArray) (.agg (byV d.out).toArray)).run Tryd.prog W = .ok (f.out == d.out) W := fun W => eqIn_dig W f.out d.out HF.out.fit.lo HO.out
  have HFT := Lib.hid (fun W (hW : Below w2.heap.size w2 W) => fits_any K m f.at_ f.data W ((HL.out.below HB2.out).below hW) ((mok.below hW (Nat.le_refl _)).more hW.size) HF.out.alo HF.out.ahi HF.out.data)
  have hfs : fitsS K (Hl.mk d.out (m.size, m.parts)) f.at_ f.data = fitsS K m f.at_ f.data := rfl
  have HX2 := Lib.hid hx
  have HC2 := Lib.hid hc2
  have Hmok := Lib.hid mok
  have Hsp := Lib.hid hmn
  clear HX hx fa hc2 mok h8 emn
  rw [hb0] at heq
  rw [hfs] at hyes
  rw [hyes] at HFT
  obtain ⟨i0, i1, -⟩ := fitsS_in hyes
  obtain ⟨i, hi⟩ : ∃ i : Nat, f.at_ = (i : Int) := ⟨f.at_.toNat, by omega⟩
  have hx2 : d.cks[i]? = some x := by have := HXK.out; rw [hi] at this; simpa using this
  have hin : i < d.cks.length := (List.getElem?_eq_some_iff.1 hx2).1
  obtain ⟨r0, r1, r2, r3, -⟩ := ck_cell HC2.out hx2
  rw [hcm] at r1
  rw [hi] at fat HFT
  have Hi := Lib.hid hi
  have Hx2 := Lib.hid hx2
  clear hb0 hne hfs hyes hi hx2 i0 i1
  go_upto_region 12 with fail
  obtain ⟨mc, hmc⟩ : ∃ y, y = m.cells := ⟨_, rfl⟩
  obtain ⟨wh, hwh⟩ : ∃ y, y = byV f.out := ⟨_, rfl⟩
  obtain ⟨ou, hou⟩ : ∃ y, y = byV d.out := ⟨_, rfl⟩
  rw [← hmc] at rq mdix
  rw [← hwh] at rfo dix heq
  rw [← hou] at ro diy heq
  replace HFT : Hid (∀ W : World, Below w2.heap.size w2 W → Calls Tryd.prog 36 #[.agg mc.toArray, .int .i64 (i : Int), .string ⟨f.data.toArray⟩] W fun e w' => e = .returned (.bool true) ∧ Below W.heap.size W w') := by rw [hmc]; exact HFT
  have Hmc := Lib.hid hmc
  clear hmc hwh hou
  obtain ⟨n, hn⟩ : ∃ n, n = d.cks.length := ⟨_, rfl⟩
  rw [← hn] at c38
  have Hn := Lib.hid hn
  rw [← hn] at hin
  have hi0 : (0 : Int) ≤ (i : Int) := by omega
  have hin2 : (i : Int) < (n : Int) := by omega
  clear hn
  refine wp_region_held_drew (S := fun w' => Below w2.heap.size w2 w') (by kernel_rfl) ((Below.refl _ _).drew) (fun hH0 => ?_)
  obtain ⟨W0, hW0⟩ : ∃ W, W = w2.drew := ⟨_, rfl⟩
  rw [← hW0] at hH0 ⊢
  clear hW0
  refine wpAnyH_take (i := 0) (v := ?_) rfl (by kernel_rfl) (by kernel_rfl) (by kernel_rfl) (fun _ _ _ h => h) (Or.inl ⟨by kernel_rfl, ?_⟩) hH0 ?_
  rotate_left 1
  · intro w hSw
    go_simp
    try with_reducible rfl
  try simp only [Act.put, List.getElem_toArray, List.getElem_cons_zero, List.getElem_cons_succ, List.setIfInBounds_toArray, List.set_cons_zero, List.set_cons_succ]
  refine wpAnyH_take (i := 1) (v := ?_) rfl (by kernel_rfl) (by kernel_rfl) (by kernel_rfl) (fun _ _ _ h => h) (Or.inl ⟨by kernel_rfl, ?_⟩) hH0 ?_
  rotate_left 1
  · intro w hSw
    go_simp
    try with_reducible rfl
  try simp only [Act.put, List.getElem_toArray, List.getElem_cons_zero, List.getElem_cons_succ, List.setIfInBounds_toArray, List.set_cons_zero, List.set_cons_succ]
  refine wpAnyH_take (i := 2) (v := ?_) rfl (by kernel_rfl) (by kernel_rfl) (by kernel_rfl) (fun _ _ _ h => h) (Or.inl ⟨by kernel_rfl, ?_⟩) hH0 ?_
  rotate_left 1
  · intro w hSw
    go_simp
    try with_reducible rfl
  try simp only [Act.put, List.getElem_toArray, List.getElem_cons_zero, List.getElem_cons_succ, List.setIfInBounds_toArray, List.set_cons_zero, List.set_cons_succ]
  refine wpAnyH_take (i := 3) (v := ?_) rfl (by kernel_rfl) (by kernel_rfl) (by kernel_rfl) (fun _ _ _ h => h) (Or.inl ⟨by kernel_rfl, ?_⟩) hH0 ?_
  rotate_left 1
  · intro w hSw
    have f0 := (hSw.cell (p := ⟨p, 37, none⟩) lp).trans c37
    have f1 := (hSw.cell (p := ⟨p, 38, none⟩) lp).trans c38
    have f2 := (hSw.cell (p := ⟨b, 134, none⟩) lb).trans fat
    have f3 := (hSw.cell (p := ⟨b, 135, none⟩) lb).trans fda
    have f4 := (hSw.cell (p := ⟨c, i * 4 + 1, none⟩) lc).trans r1
    go_simp
    try with_reducible rfl
  try simp only [Act.put, List.getElem_toArray, List.getElem_cons_zero, List.getElem_cons_succ, List.setIfInBounds_toArray, List.set_cons_zero, List.set_cons_succ]
  refine wpAnyH_take (i := 4) (v := ?_) rfl (by kernel_rfl) (by kernel_rfl) (by kernel_rfl) (fun _ _ _ h => h) (Or.inl ⟨by kernel_rfl, ?_⟩) hH0 ?_
  rotate_left 1
  · intro w hSw
    go_simp
    try with_reducible rfl
  try simp only [Act.put, List.getElem_toArray, List.getElem_cons_zero, List.getElem_cons_succ, List.setIfInBounds_toArray, List.set_cons_zero, List.set_cons_succ]
  refine wpAnyH_take (i := 5) (v := ?_) rfl (by kernel_rfl) (by kernel_rfl) (by kernel_rfl) (fun _ _ _ h => h) (Or.inl ⟨by kernel_rfl, ?_⟩) hH0 ?_
  rotate_left 1
  · intro w hSw
    go_simp
    try with_reducible rfl
  try simp only [Act.put, List.getElem_toArray, List.getElem_cons_zero, List.getElem_cons_succ, List.setIfInBounds_toArray, List.set_cons_zero, List.set_cons_succ]
  refine wpAnyH_take (i := 6) (v := ?_) rfl (by kernel_rfl) (by kernel_rfl) (by kernel_rfl) (fun _ _ _ h => h) (Or.inl ⟨by kernel_rfl, ?_⟩) hH0 ?_
  rotate_left 1
  · intro w hSw
    go_simp
    try with_reducible rfl
  try simp only [Act.put, List.getElem_toArray, List.getElem_cons_zero, List.getElem_cons_succ, List.setIfInBounds_toArray, List.set_cons_zero, List.set_cons_succ]
  refine wpAnyH_take (i := 7) (v := _) rfl (by kernel_rfl) (by kernel_rfl) (by kernel_rfl) (fun _ _ _ h => h) (yieldsIf_load_mid (by kernel_rfl) _ _ rfl _ _ rfl wh _ (fun W hW => range_below rfo hW lb) dund rfl dix) hH0 ?_
  try simp only [Act.put, List.getElem_toArray, List.getElem_cons_zero, List.getElem_cons_succ, List.setIfInBounds_toArray, List.set_cons_zero, List.set_cons_succ]
  refine wpAnyH_take (i := 8) (v := ?_) rfl (by kernel_rfl) (by kernel_rfl) (by kernel_rfl) (fun _ _ _ h => h) (Or.inl ⟨by kernel_rfl, ?_⟩) hH0 ?_
  rotate_left 1
  · intro w hSw
    go_simp
    try with_reducible rfl
  try simp only [Act.put, List.getElem_toArray, List.getElem_cons_zero, List.getElem_cons_succ, List.setIfInBounds_toArray, List.set_cons_zero, List.set_cons_succ]
  refine wpAnyH_take (i := 9) (v := ?_) rfl (by kernel_rfl) (by kernel_rfl) (by kernel_rfl) (fun _ _ _ h => h) (Or.inl ⟨by kernel_rfl, ?_⟩) hH0 ?_
  rotate_left 1
  · intro w hSw
    go_simp
    try with_reducible rfl
  try simp only [Act.put, List.getElem_toArray, List.getElem_cons_zero, List.getElem_cons_succ, List.setIfInBounds_toArray, List.set_cons_zero, List.set_cons_succ]
  refine wpAnyH_take (i := 10) (v := ?_) rfl (by kernel_rfl) (by kernel_rfl) (by kernel_rfl) (fun _ _ _ h => h) (Or.inl ⟨by kernel_rfl, ?_⟩) hH0 ?_
  rotate_left 1
  · intro w hSw
    go_simp
    try with_reducible rfl
  try simp only [Act.put, List.getElem_toArray, List.getElem_cons_zero, List.getElem_cons_succ, List.setIfInBounds_toArray, List.set_cons_zero, List.set_cons_succ]
  refine wpAnyH_take (i := 11) (v := _) rfl (by kernel_rfl) (by kernel_rfl) (by kernel_rfl) (fun _ _ _ h => h) (yieldsIf_load_mid (by kernel_rfl) _ _ rfl _ _ rfl ou _ (fun W hW => range_below ro hW lp) dund rfl diy) hH0 ?_
  try simp only [Act.put, List.getElem_toArray, List.getElem_cons_zero, List.getElem_cons_succ, List.setIfInBounds_toArray, List.set_cons_zero, List.set_cons_succ]
  refine wpAnyH_take (i := 12) (v := ?_) rfl (by kernel_rfl) (by kernel_rfl) (by kernel_rfl) (fun _ _ _ h => h) (Or.inl ⟨by kernel_rfl, ?_⟩) hH0 ?_
  rotate_left 1
  · intro w hSw
    go_simp
    try with_reducible rfl
  try simp only [Act.put, List.getElem_toArray, List.getElem_cons_zero, List.getElem_cons_succ, List.setIfInBounds_toArray, List.set_cons_zero, List.set_cons_succ]
  refine wpAnyH_take (i := 13) (v := ?_) rfl (by kernel_rfl) (by kernel_rfl) (by kernel_rfl) (fun _ _ _ h => h) (Or.inl ⟨by kernel_rfl, ?_⟩) hH0 ?_
  rotate_left 1
  · intro w hSw
    go_simp
    try with_reducible rfl
  try simp only [Act.put, List.getElem_toArray, List.getElem_cons_zero, List.getElem_cons_succ, List.setIfInBounds_toArray, List.set_cons_zero, List.set_cons_succ]
  refine wpAnyH_take (i := 14) (v := ?_) rfl (by kernel_rfl) (by kernel_rfl) (by kernel_rfl) (fun _ _ _ h => h) (Or.inl ⟨by kernel_rfl, ?_⟩) hH0 ?_
  rotate_left 1
  · intro w hSw
    go_simp
    try with_reducible rfl
  try simp only [Act.put, List.getElem_toArray, List.getElem_cons_zero, List.getElem_cons_succ, List.setIfInBounds_toArray, List.set_cons_zero, List.set_cons_succ]
  refine wpAnyH_take (i := 15) (v := ?_) rfl (by kernel_rfl) (by kernel_rfl) (by kernel_rfl) (fun _ _ _ h => h) (Or.inl ⟨by kernel_rfl, ?_⟩) hH0 ?_
  rotate_left 1
  · intro w hSw
    go_simp
    try with_reducible rfl
  try simp only [Act.put, List.getElem_toArray, List.getElem_cons_zero, List.getElem_cons_succ, List.setIfInBounds_toArray, List.set_cons_zero, List.set_cons_succ]
  refine wpAnyH_take (i := 16) (v := ?_) rfl (by kernel_rfl) (by kernel_rfl) (by kernel_rfl) (fun _ _ _ h => h) (Or.inl ⟨by kernel_rfl, ?_⟩) hH0 ?_
  rotate_left 1
  · intro w hSw
    go_simp
    try with_reducible rfl
  try simp only [Act.put, List.getElem_toArray, List.getElem_cons_zero, List.getElem_cons_succ, List.setIfInBounds_toArray, List.set_cons_zero, List.set_cons_succ]
  refine wpAnyH_take (i := 17) (v := ?_) rfl (by kernel_rfl) (by kernel_rfl) (by kernel_rfl) (fun _ _ _ h => h) (Or.inl ⟨by kernel_rfl, ?_⟩) hH0 ?_
  rotate_left 1
  · intro w hSw
    go_simp
    try with_reducible rfl
  try simp only [Act.put, List.getElem_toArray, List.getElem_cons_zero, List.getElem_cons_succ, List.setIfInBounds_toArray, List.set_cons_zero, List.set_cons_succ]
  refine wpAnyH_take (i := 18) (v := ?_) rfl (by kernel_rfl) (by kernel_rfl) (by kernel_rfl) (fun _ _ _ h => h) (Or.inl ⟨by kernel_rfl, ?_⟩) hH0 ?_
  rotate_left 1
  · intro w hSw
    have f0 := (hSw.cell (p := ⟨p, 37, none⟩) lp).trans c37
    have f1 := (hSw.cell (p := ⟨p, 38, none⟩) lp).trans c38
    have f2 := (hSw.cell (p := ⟨b, 134, none⟩) lb).trans fat
    have f3 := (hSw.cell (p := ⟨b, 135, none⟩) lb).trans fda
    have f4 := (hSw.cell (p := ⟨c, i * 4 + 1, none⟩) lc).trans r1
    go_simp
    try with_reducible rfl
  try simp only [Act.put, List.getElem_toArray, List.getElem_cons_zero, List.getElem_cons_succ, List.setIfInBounds_toArray, List.set_cons_zero, List.set_cons_succ]
  refine wpAnyH_take (i := 19) (v := ?_) rfl (by kernel_rfl) (by kernel_rfl) (by kernel_rfl) (fun _ _ _ h => h) (Or.inl ⟨by kernel_rfl, ?_⟩) hH0 ?_
  rotate_left 1
  · intro w hSw
    go_simp
    try with_reducible rfl
  try simp only [Act.put, List.getElem_toArray, List.getElem_cons_zero, List.getElem_cons_succ, List.setIfInBounds_toArray, List.set_cons_zero, List.set_cons_succ]
  refine wpAnyH_take (i := 20) (v := _) rfl (by kernel_rfl) (by kernel_rfl) (by kernel_rfl) (fun _ _ _ h => h) (yieldsIf_load_mid (by kernel_rfl) _ _ rfl _ _ rfl mc _ (fun W hW => range_below rq hW lq) mund rfl mdix) hH0 ?_
  try simp only [Act.put, List.getElem_toArray, List.getElem_cons_zero, List.getElem_cons_succ, List.setIfInBounds_toArray, List.set_cons_zero, List.set_cons_succ]
  refine wpAnyH_take (i := 21) (v := ?_) rfl (by kernel_rfl) (by kernel_rfl) (by kernel_rfl) (fun _ _ _ h => h) (Or.inl ⟨by kernel_rfl, ?_⟩) hH0 ?_
  rotate_left 1
  · intro w hSw
    go_simp
    try with_reducible rfl
  try simp only [Act.put, List.getElem_toArray, List.getElem_cons_zero, List.getElem_cons_succ, List.setIfInBounds_toArray, List.set_cons_zero, List.set_cons_succ]
  refine wpAnyH_take (i := 22) (v := ?_) rfl (by kernel_rfl) (by kernel_rfl) (by kernel_rfl) (fun _ _ _ h => h) (Or.inl ⟨by kernel_rfl, ?_⟩) hH0 ?_
  rotate_left 1
  · intro w hSw
    have f0 := (hSw.cell (p := ⟨p, 37, none⟩) lp).trans c37
    have f1 := (hSw.cell (p := ⟨p, 38, none⟩) lp).trans c38
    have f2 := (hSw.cell (p := ⟨b, 134, none⟩) lb).trans fat
    have f3 := (hSw.cell (p := ⟨b, 135, none⟩) lb).trans fda
    have f4 := (hSw.cell (p := ⟨c, i * 4 + 1, none⟩) lc).trans r1
    go_simp
    try with_reducible rfl
  try simp only [Act.put, List.getElem_toArray, List.getElem_cons_zero, List.getElem_cons_succ, List.setIfInBounds_toArray, List.set_cons_zero, List.set_cons_succ]
  refine wpAnyH_take (i := 23) (v := ?_) rfl (by kernel_rfl) (by kernel_rfl) (by kernel_rfl) (fun _ _ _ h => h) (Or.inl ⟨by kernel_rfl, ?_⟩) hH0 ?_
  rotate_left 1
  · intro w hSw
    go_simp
    try with_reducible rfl
  try simp only [Act.put, List.getElem_toArray, List.getElem_cons_zero, List.getElem_cons_succ, List.setIfInBounds_toArray, List.set_cons_zero, List.set_cons_succ]
  refine wpAnyH_take (i := 24) (v := ?_) rfl (by kernel_rfl) (by kernel_rfl) (by kernel_rfl) (fun _ _ _ h => h) (Or.inl ⟨by kernel_rfl, ?_⟩) hH0 ?_
  rotate_left 1
  · intro w hSw
    have f0 := (hSw.cell (p := ⟨p, 37, none⟩) lp).trans c37
    have f1 := (hSw.cell (p := ⟨p, 38, none⟩) lp).trans c38
    have f2 := (hSw.cell (p := ⟨b, 134, none⟩) lb).trans fat
    have f3 := (hSw.cell (p := ⟨b, 135, none⟩) lb).trans fda
    have f4 := (hSw.cell (p := ⟨c, i * 4 + 1, none⟩) lc).trans r1
    go_simp
    try with_reducible rfl
  try simp only [Act.put, List.getElem_toArray, List.getElem_cons_zero, List.getElem_cons_succ, List.setIfInBounds_toArray, List.set_cons_zero, List.set_cons_succ]
  refine wpAnyH_ready (rs := [25]) (by kernel_rfl) (by simp) ?_
  refine AllReadyH.cons rfl (fun K_ hK => ?_) ?_
  · go_simp
    refine (HFT.out W0 hH0).mono ?_
    rintro e W1 ⟨rfl, hb1⟩
    refine hK.out _ _ ((hH0).trans (hb1.mono (hH0).size)) (fun hH1 => ?_)
    clear hK K_
    try simp only [Act.put, List.getElem_toArray, List.getElem_cons_zero, List.getElem_cons_succ, List.setIfInBounds_toArray, List.set_cons_zero, List.set_cons_succ]
    refine wpAnyH_take (i := 26) (v := ?_) rfl (by kernel_rfl) (by kernel_rfl) (by kernel_rfl) (fun _ _ _ h => h) (Or.inl ⟨by kernel_rfl, ?_⟩) hH1 ?_
    rotate_left 1
    · intro w hSw
      go_simp
      try with_reducible rfl
    try simp only [Act.put, List.getElem_toArray, List.getElem_cons_zero, List.getElem_cons_succ, List.setIfInBounds_toArray, List.set_cons_zero, List.set_cons_succ]
    refine wpAnyH_take (i := 27) (v := ?_) rfl (by kernel_rfl) (by kernel_rfl) (by kernel_rfl) (fun _ _ _ h => h) (Or.inl ⟨by kernel_rfl, ?_⟩) hH1 ?_
    rotate_left 1
    · intro w hSw
      go_simp
      try with_reducible rfl
    try simp only [Act.put, List.getElem_toArray, List.getElem_cons_zero, List.getElem_cons_succ, List.setIfInBounds_toArray, List.set_cons_zero, List.set_cons_succ]
    refine wpAnyH_take (i := 28) (v := ?_) rfl (by kernel_rfl) (by kernel_rfl) (by kernel_rfl) (fun _ _ _ h => h) (Or.inl ⟨by kernel_rfl, ?_⟩) hH1 ?_
    rotate_left 1
    · intro w hSw
      go_simp
      try with_reducible rfl
    try simp only [Act.put, List.getElem_toArray, List.getElem_cons_zero, List.getElem_cons_succ, List.setIfInBounds_toArray, List.set_cons_zero, List.set_cons_succ]
    refine wpAnyH_take (i := 29) (v := ?_) rfl (by kernel_rfl) (by kernel_rfl) (by kernel_rfl) (fun _ _ _ h => h) (Or.inl ⟨by kernel_rfl, ?_⟩) hH1 ?_
    rotate_left 1
    · intro w hSw
      go_simp
      try with_reducible rfl
    try simp only [Act.put, List.getElem_toArray, List.getElem_cons_zero, List.getElem_cons_succ, List.setIfInBounds_toArray, List.set_cons_zero, List.set_cons_succ]
    refine wpAnyH_take (i := 30) (v := ?_) rfl (by kernel_rfl) (by kernel_rfl) (by kernel_rfl) (fun _ _ _ h => h) (Or.inl ⟨by kernel_rfl, ?_⟩) hH1 ?_
    rotate_left 1
    · intro w hSw
      go_simp
      try with_reducible rfl
    try simp only [Act.put, List.getElem_toArray, List.getElem_cons_zero, List.getElem_cons_succ, List.setIfInBounds_toArray, List.set_cons_zero, List.set_cons_succ]
    refine wpAnyH_take (i := 31) (v := ?_) rfl (by kernel_rfl) (by kernel_rfl) (by kernel_rfl) (fun _ _ _ h => h) (Or.inl ⟨by kernel_rfl, ?_⟩) hH1 ?_
    rotate_left 1
    · intro w hSw
      go_simp
      try with_reducible rfl
    try simp only [Act.put, List.getElem_toArray, List.getElem_cons_zero, List.getElem_cons_succ, List.setIfInBounds_toArray, List.set_cons_zero, List.set_cons_succ]
    refine wpAnyH_take (i := 32) (v := ?_) rfl (by kernel_rfl) (by kernel_rfl) (by kernel_rfl) (fun _ _ _ h => h) (Or.inl ⟨by kernel_rfl, ?_⟩) hH1 ?_
    rotate_left 1
    · intro w hSw
      have f0 := (hSw.cell (p := ⟨p, 37, none⟩) lp).trans c37
      have f1 := (hSw.cell (p := ⟨p, 38, none⟩) lp).trans c38
      have f2 := (hSw.cell (p := ⟨b, 134, none⟩) lb).trans fat
      have f3 := (hSw.cell (p := ⟨b, 135, none⟩) lb).trans fda
      have f4 := (hSw.cell (p := ⟨c, i * 4 + 1, none⟩) lc).trans r1
      go_simp
      try with_reducible rfl
    try simp only [Act.put, List.getElem_toArray, List.getElem_cons_zero, List.getElem_cons_succ, List.setIfInBounds_toArray, List.set_cons_zero, List.set_cons_succ]
    refine wpAnyH_take (i := 33) (v := ?_) rfl (by kernel_rfl) (by kernel_rfl) (by kernel_rfl) (fun _ _ _ h => h) (Or.inl ⟨by kernel_rfl, ?_⟩) hH1 ?_
    rotate_left 1
    · intro w hSw
      go_simp
      try with_reducible rfl
    try simp only [Act.put, List.getElem_toArray, List.getElem_cons_zero, List.getElem_cons_succ, List.setIfInBounds_toArray, List.set_cons_zero, List.set_cons_succ]
    refine wpAnyH_take (i := 34) (v := ?_) rfl (by kernel_rfl) (by kernel_rfl) (by kernel_rfl) (fun _ _ _ h => h) (Or.inl ⟨by kernel_rfl, ?_⟩) hH1 ?_
    rotate_left 1
    · intro w hSw
      have f0 := (hSw.cell (p := ⟨p, 37, none⟩) lp).trans c37
      have f1 := (hSw.cell (p := ⟨p, 38, none⟩) lp).trans c38
      have f2 := (hSw.cell (p := ⟨b, 134, none⟩) lb).trans fat
      have f3 := (hSw.cell (p := ⟨b, 135, none⟩) lb).trans fda
      have f4 := (hSw.cell (p := ⟨c, i * 4 + 1, none⟩) lc).trans r1
      go_simp
      try with_reducible rfl
    try simp only [Act.put, List.getElem_toArray, List.getElem_cons_zero, List.getElem_cons_succ, List.setIfInBounds_toArray, List.set_cons_zero, List.set_cons_succ]
    refine wpAnyH_take (i := 35) (v := ?_) rfl (by kernel_rfl) (by kernel_rfl) (by kernel_rfl) (fun _ _ _ h => h) (Or.inl ⟨by kernel_rfl, ?_⟩) hH1 ?_
    rotate_left 1
    · intro w hSw
      go_simp
      try with_reducible rfl
    try simp only [Act.put, List.getElem_toArray, List.getElem_cons_zero, List.getElem_cons_succ, List.setIfInBounds_toArray, List.set_cons_zero, List.set_cons_succ]
    refine wpAnyH_take (i := 36) (v := ?_) rfl (by kernel_rfl) (by kernel_rfl) (by kernel_rfl) (fun _ _ _ h => h) (Or.inl ⟨by kernel_rfl, ?_⟩) hH1 ?_
    rotate_left 1
    · intro w hSw
      go_simp
      try with_reducible rfl
    try simp only [Act.put, List.getElem_toArray, List.getElem_cons_zero, List.getElem_cons_succ, List.setIfInBounds_toArray, List.set_cons_zero, List.set_cons_succ]
    refine wpAnyH_take (i := 37) (v := ?_) rfl (by kernel_rfl) (by kernel_rfl) (by kernel_rfl) (fun _ _ _ h => h) (Or.inl ⟨by kernel_rfl, ?_⟩) hH1 ?_
    rotate_left 1
    · intro w hSw
      have f0 := (hSw.cell (p := ⟨p, 37, none⟩) lp).trans c37
      have f1 := (hSw.cell (p := ⟨p, 38, none⟩) lp).trans c38
      have f2 := (hSw.cell (p := ⟨b, 134, none⟩) lb).trans fat
      have f3 := (hSw.cell (p := ⟨b, 135, none⟩) lb).trans fda
      have f4 := (hSw.cell (p := ⟨c, i * 4 + 1, none⟩) lc).trans r1
      go_simp
      try with_reducible rfl
    try simp only [Act.put, List.getElem_toArray, List.getElem_cons_zero, List.getElem_cons_succ, List.setIfInBounds_toArray, List.set_cons_zero, List.set_cons_succ]
    refine wpAnyH_take (i := 38) (v := ?_) rfl (by kernel_rfl) (by kernel_rfl) (by kernel_rfl) (fun _ _ _ h => h) (Or.inl ⟨by kernel_rfl, ?_⟩) hH1 ?_
    rotate_left 1
    · intro w hSw
      go_simp
      try with_reducible rfl
    try simp only [Act.put, List.getElem_toArray, List.getElem_cons_zero, List.getElem_cons_succ, List.setIfInBounds_toArray, List.set_cons_zero, List.set_cons_succ]
    refine wpAnyH_done (by kernel_rfl) ?_ _
    have HW : Hid (Below w2.heap.size w2 W1) := Lib.hid hH1
    obtain ⟨w3, hw3⟩ : ∃ y, y = W1 := ⟨_, rfl⟩
    rw [← hw3] at HW ⊢
    clear hH1 hw3
    have HB3 := Lib.hid (HB2.out.trans (HW.out.mono HB2.out.size))
    have HM3 := Lib.hid (below_keep HW.out HM2.out)
    have HC3 := Lib.hid (below_keep HW.out HC2.out)
    obtain ⟨-, -, -, -, -, -, s38, -⟩ := hl_cells HO.out HM3.out
    rw [← Hn.out] at s38
    have gat : w3.cell? ⟨b, 134, none⟩ = some (.int .i64 i) := (HW.out.cell (p := ⟨b, 134, none⟩) lb).trans fat
    have gda : w3.cell? ⟨b, 135, none⟩ = some (.string ⟨f.data.toArray⟩) := (HW.out.cell (p := ⟨b, 135, none⟩) lb).trans fda
    have lp3 : p < w3.heap.size := heap_lt HM3.out
    have lb3 : b < w3.heap.size := Nat.lt_of_lt_of_le lb HW.out.size
    have lc3 : c < w3.heap.size := heap_lt HC3.out
    have hbc : ¬ b = c := by rw [Hb.out]; have := LT.out c HX2.out.cS; omega
    clear rfo ro rq heq HFT c37 c38 fat fda r0 r1 r2 r3 HM2 HC2 HFR2 dix diy mdix
    go_upto_region 14 with fail
    refine wp_region_held_drew (S := fun w' => Only [c] w3 w') (by kernel_rfl) ((Only.refl _ _).drew) (fun hH0 => ?_)
    obtain ⟨W0, hW0⟩ : ∃ W, W = w3.drew := ⟨_, rfl⟩
    have HC0 : Hid (W0.heap[c]? = some (.cells (ckCells d.cks).toArray 125 (0, 0))) := Lib.hid (by rw [hW0]; exact HC3.out)
    rw [← hW0] at hH0 ⊢
    clear hW0
    refine wpAnyH_take (i := 0) (v := ?_) rfl (by kernel_rfl) (by kernel_rfl) (by kernel_rfl) (fun _ _ _ h => h) (Or.inl ⟨by kernel_rfl, ?_⟩) hH0 ?_
    rotate_left 1
    · intro w hSw
      go_simp
      try with_reducible rfl
    try simp only [Act.put, List.getElem_toArray, List.getElem_cons_zero, List.getElem_cons_succ, List.setIfInBounds_toArray, List.set_cons_zero, List.set_cons_succ]
    refine wpAnyH_take (i := 1) (v := ?_) rfl (by kernel_rfl) (by kernel_rfl) (by kernel_rfl) (fun _ _ _ h => h) (Or.inl ⟨by kernel_rfl, ?_⟩) hH0 ?_
    rotate_left 1
    · intro w hSw
      go_simp
      try with_reducible rfl
    try simp only [Act.put, List.getElem_toArray, List.getElem_cons_zero, List.getElem_cons_succ, List.setIfInBounds_toArray, List.set_cons_zero, List.set_cons_succ]
    refine wpAnyH_take (i := 2) (v := ?_) rfl (by kernel_rfl) (by kernel_rfl) (by kernel_rfl) (fun _ _ _ h => h) (Or.inl ⟨by kernel_rfl, ?_⟩) hH0 ?_
    rotate_left 1
    · intro w hSw
      go_simp
      try with_reducible rfl
    try simp only [Act.put, List.getElem_toArray, List.getElem_cons_zero, List.getElem_cons_succ, List.setIfInBounds_toArray, List.set_cons_zero, List.set_cons_succ]
    refine wpAnyH_take (i := 3) (v := ?_) rfl (by kernel_rfl) (by kernel_rfl) (by kernel_rfl) (fun _ _ _ h => h) (Or.inl ⟨by kernel_rfl, ?_⟩) hH0 ?_
    rotate_left 1
    · intro w hSw
      have f0 := (hSw.cell (p := ⟨p, 38, none⟩) lp3 (by simp; exact fun e => HX2.out.pc e.symm)).trans s38
      have f1 := (hSw.cell (p := ⟨b, 134, none⟩) lb3 (by simp; exact hbc)).trans gat
      have f2 := (hSw.cell (p := ⟨b, 135, none⟩) lb3 (by simp; exact hbc)).trans gda
      go_simp
      try with_reducible rfl
    try simp only [Act.put, List.getElem_toArray, List.getElem_cons_zero, List.getElem_cons_succ, List.setIfInBounds_toArray, List.set_cons_zero, List.set_cons_succ]
    refine wpAnyH_take (i := 4) (v := ?_) rfl (by kernel_rfl) (by kernel_rfl) (by kernel_rfl) (fun _ _ _ h => h) (Or.inl ⟨by kernel_rfl, ?_⟩) hH0 ?_
    rotate_left 1
    · intro w hSw
      go_simp
      try with_reducible rfl
    try simp only [Act.put, List.getElem_toArray, List.getElem_cons_zero, List.getElem_cons_succ, List.setIfInBounds_toArray, List.set_cons_zero, List.set_cons_succ]
    refine wpAnyH_take (i := 5) (v := ?_) rfl (by kernel_rfl) (by kernel_rfl) (by kernel_rfl) (fun _ _ _ h => h) (Or.inl ⟨by kernel_rfl, ?_⟩) hH0 ?_
    rotate_left 1
    · intro w hSw
      have f0 := (hSw.cell (p := ⟨p, 38, none⟩) lp3 (by simp; exact fun e => HX2.out.pc e.symm)).trans s38
      have f1 := (hSw.cell (p := ⟨b, 134, none⟩) lb3 (by simp; exact hbc)).trans gat
      have f2 := (hSw.cell (p := ⟨b, 135, none⟩) lb3 (by simp; exact hbc)).trans gda
      go_simp
      try with_reducible rfl
    try simp only [Act.put, List.getElem_toArray, List.getElem_cons_zero, List.getElem_cons_succ, List.setIfInBounds_toArray, List.set_cons_zero, List.set_cons_succ]
    refine wpAnyH_take (i := 6) (v := ?_) rfl (by kernel_rfl) (by kernel_rfl) (by kernel_rfl) (fun _ _ _ h => h) (Or.inl ⟨by kernel_rfl, ?_⟩) hH0 ?_
    rotate_left 1
    · intro w hSw
      go_simp
      try with_reducible rfl
    try simp only [Act.put, List.getElem_toArray, List.getElem_cons_zero, List.getElem_cons_succ, List.setIfInBounds_toArray, List.set_cons_zero, List.set_cons_succ]
    refine wpAnyH_take (i := 7) (v := ?_) rfl (by kernel_rfl) (by kernel_rfl) (by kernel_rfl) (fun _ _ _ h => h) (Or.inl ⟨by kernel_rfl, ?_⟩) hH0 ?_
    rotate_left 1
    · intro w hSw
      have f0 := (hSw.cell (p := ⟨p, 38, none⟩) lp3 (by simp; exact fun e => HX2.out.pc e.symm)).trans s38
      have f1 := (hSw.cell (p := ⟨b, 134, none⟩) lb3 (by simp; exact hbc)).trans gat
      have f2 := (hSw.cell (p := ⟨b, 135, none⟩) lb3 (by simp; exact hbc)).trans gda
      go_simp
      try with_reducible rfl
    try simp only [Act.put, List.getElem_toArray, List.getElem_cons_zero, List.getElem_cons_succ, List.setIfInBounds_toArray, List.set_cons_zero, List.set_cons_succ]
    refine wpAnyH_take (i := 8) (v := ?_) rfl (by kernel_rfl) (by kernel_rfl) (by kernel_rfl) (fun _ _ _ h => h) (Or.inl ⟨by kernel_rfl, ?_⟩) hH0 ?_
    rotate_left 1
    · intro w hSw
      go_simp
      try with_reducible rfl
    try simp only [Act.put, List.getElem_toArray, List.getElem_cons_zero, List.getElem_cons_succ, List.setIfInBounds_toArray, List.set_cons_zero, List.set_cons_succ]
    refine wpAnyH_take (i := 9) (v := ?_) rfl (by kernel_rfl) (by kernel_rfl) (by kernel_rfl) (fun _ _ _ h => h) (Or.inl ⟨by kernel_rfl, ?_⟩) hH0 ?_
    rotate_left 1
    · intro w hSw
      go_simp
      try with_reducible rfl
    try simp only [Act.put, List.getElem_toArray, List.getElem_cons_zero, List.getElem_cons_succ, List.setIfInBounds_toArray, List.set_cons_zero, List.set_cons_succ]
    refine wpAnyH_ready (rs := [10]) (by kernel_rfl) (by simp) ?_
    refine AllReadyH.cons rfl (fun K_ hK => ?_) ?_
    · obtain ⟨e0, e1, e2, e3, -⟩ := ck_cell HC0.out Hx2.out
      have y0 : W0.frozen? ⟨c, i * 4, none⟩ = false := Lib.frozen_of_heap HC0.out _
      have y1 : W0.frozen? ⟨c, i * 4 + 1, none⟩ = false := Lib.frozen_of_heap HC0.out _
      have y2 : W0.frozen? ⟨c, i * 4 + 2, none⟩ = false := Lib.frozen_of_heap HC0.out _
      have y3 : W0.frozen? ⟨c, i * 4 + 3, none⟩ = false := Lib.frozen_of_heap HC0.out _
      go_simp
      have hC1 := heap_setCell_same _ c (i * 4 + 3) _ _ (.int .i64 0) (heap_setCell_same _ c (i * 4 + 2) _ _ (.bool false) (heap_setCell_same _ c (i * 4 + 1) _ _ (.bool true) (heap_setCell_same _ c (i * 4) _ _ (.string ⟨f.data.toArray⟩) HC0.out)))
      rw [ckCells_put d.cks i x Hx2.out f.data true false 0] at hC1
      have hO1 : Only [c] w3 ((((W0.setCell ⟨c, i * 4, none⟩ (.string ⟨f.data.toArray⟩)).setCell ⟨c, i * 4 + 1, none⟩ (.bool true)).setCell ⟨c, i * 4 + 2, none⟩ (.bool false)).setCell ⟨c, i * 4 + 3, none⟩ (.int .i64 0)) := ((((hH0).setCell (by simp) _).setCell (by simp) _).setCell (by simp) _).setCell (by simp) _
      obtain ⟨W1, hW1⟩ : ∃ y, y = ((((W0.setCell ⟨c, i * 4, none⟩ (.string ⟨f.data.toArray⟩)).setCell ⟨c, i * 4 + 1, none⟩ (.bool true)).setCell ⟨c, i * 4 + 2, none⟩ (.bool false)).setCell ⟨c, i * 4 + 3, none⟩ (.int .i64 0)) := ⟨_, rfl⟩
      rw [← hW1] at hC1 hO1 ⊢
      have HC := Lib.hid hC1
      clear hW1 hC1 e0 e1 e2 e3 y0 y1 y2 y3
      refine hK.out _ _ hO1 (fun hH1 => ?_)
      clear hK K_
      try simp only [Act.put, List.getElem_toArray, List.getElem_cons_zero, List.getElem_cons_succ, List.setIfInBounds_toArray, List.set_cons_zero, List.set_cons_succ]
      refine wpAnyH_done (by kernel_rfl) ?_ _
      have hOpc : Only [p, c] w W1 := (Only.of_below HB3.out).trans ((hH1).mono (by simp))
      have hMp := (hH1).keep HM3.out (by simp; exact fun e => HX2.out.pc e.symm)
      have hOS : Only S w W1 := hOpc.mono (by intro k hk; simp at hk; rcases hk with rfl | rfl; exact PS.out; exact HX2.out.cS)
      have hat : HlAt W1 S p { d with cks := d.cks.set i ⟨f.data, true, false, 0⟩ } := ⟨OK.out.put i f.data Hdl.out, fun k hk => Nat.lt_of_lt_of_le (LT.out k hk) hOS.size, PS.out, _, _, hMp, .inr ⟨q, c, m, HX2.out.chunks LT.out hOpc HC.out (by simp)⟩⟩
      have hLW := HL.out.only hOS H0S.out
      have Hset := Lib.hid (settle_any K p S _ (m.size, m.parts) W1 hat Hsp.out HFL.out hLW)
      have HOS := Lib.hid hOS
      clear hOpc hMp hOS hat hLW
      go_wp2_with fail
      refine Hset.out.mono ?_
      rintro e w9 hact
      have hact2 := ActPost.lift hact HOS.out (fun x hx => .inl hx)
      clear hact
      obtain ⟨v, S2, rfl, hA, hH, hO, hS2, hap⟩ := hact2
      have HAp := Lib.hid hap
      have HA := Lib.hid hA
      have HHH := Lib.hid hH
      have HO9 := Lib.hid hO
      have HS2 := Lib.hid hS2
      clear hA hH hO hS2 hap
      go_wp2_with fail
      go_ret
      unfold HearPost
      have ei : f.at_.toNat = i := by rw [Hi.out]; rfl
      rw [HH0.out, ei]
      exact ⟨_, S2, rfl, HA.out, HHH.out, HO9.out, HS2.out, HAp.out⟩
    exact AllReadyH.nil
  exact AllReadyH.nil

/-- Hear, of whatever frame -/
theorem hear_any (K : List Int) (p : Nat) (S : List Nat) (d : HlD) (f : FrD) (w : World) (h : HlAt w S p d) (hf : f.Ok w) (hL : Laid K w) (h0S : 0 ∉ S) :
    Calls Tryd.prog 19 #[.pointer (some ⟨p, 0, none⟩), .agg f.row] w (HearPost K w S p d f) := by
  by_cases hc : d.done = true ∨ d.failed = true ∨ f.from_ ≠ d.peer
  · exact hear_closed K p S d f w h hf hc
  · have hd : d.done = false := by cases hq : d.done <;> simp_all
    have hfl : d.failed = false := by cases hq : d.failed <;> simp_all
    have hp : f.from_ = d.peer := by
      by_cases hq : f.from_ = d.peer
      · exact hq
      · exact absurd (.inr (.inr hq)) hc
    by_cases h7 : f.kind = 7
    · by_cases hmn : d.mani = none
      · by_cases hgo : goodS f.mani.size f.mani.parts.length = true
        · by_cases hne : f.mani.whole = d.out
          · exact hear_mani_yes K p S d f w h hf hd hfl hp h7 hmn hgo hne hL h0S
          · exact hear_mani_alien K p S d f w h hf hd hfl hp h7 hmn hgo hne
        · exact hear_mani_bad K p S d f w h hf hd hfl hp h7 hmn (by simpa using hgo)
      · exact hear_mani_had K p S d f w h hf hd hfl hp h7 hmn
    · by_cases h8 : f.kind = 8
      · cases hmn : d.mani with
        | none => exact hear_part_none K p S d f w h hf hd hfl hp h8 hmn hL
        | some sp =>
          by_cases hne : f.out = d.out
          · by_cases hyes : fitsS K (Hl.mk d.out sp) f.at_ f.data = true
            · obtain ⟨i0, i1, -⟩ := fitsS_in hyes
              have hl := (h.ok.some sp hmn).2.1
              have hlt : f.at_.toNat < d.cks.length := by
                have : (Hl.mk d.out sp).parts.length = sp.2.length := rfl
                omega
              obtain ⟨x, hx⟩ : ∃ x, d.cks[f.at_.toNat]? = some x := ⟨_, List.getElem?_eq_getElem hlt⟩
              cases hcm : x.come with
              | true => exact hear_part_twice K p S d f w h hf hd hfl hp h8 sp hmn hne hyes x hx hcm hL
              | false => exact hear_part_yes K p S d f w h hf hd hfl hp h8 sp hmn hne hyes x hx hcm h0S hL
            · exact hear_part_unfit K p S d f w h hf hd hfl hp h8 sp hmn hne (by simpa using hyes) hL
          · exact hear_part_alien K p S d f w h hf hd hfl hp h8 sp hmn hne hL
      · exact hear_other K p S d f w h hf hd hfl hp h7 h8
end Go.Proofs.YtfbjbhddapoopaaDoor
