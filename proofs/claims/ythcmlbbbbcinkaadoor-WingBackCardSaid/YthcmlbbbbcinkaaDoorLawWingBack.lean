/-
  WingBack: a frame is read from its bytes as it was; unlike frames have unlike bytes. No condition: every input.
-/
import Derived.Test.YthcmlbbbbcinkaaDoorWkE
import Derived.Test.YthcmlbbbbcinkaaDoorWkF
import Derived.Test.YthcmlbbbbcinkaaDoorCards
import Derived.Test.YthcmlbbbbcinkaaDoorTie
set_option linter.unusedVariables false
set_option linter.unusedSimpArgs false
namespace Go.Proofs.YthcmlbbbbcinkaaDoor
open Go.RowKit Pl
attribute [local go_sem] Lb.ba_get Lb.ba_cut Lb.ba_add Lb.ba_size Lb.take_rest
open Wi in
set_option maxHeartbeats 8000000 in
set_option maxRecDepth 100000 in
open Classical in
theorem wingBack_core (f : Fm) (x : Adr) (g : Fm) (y : Adr) (w : World) (hL : Laid KK w) (hf : FmOk w w.heap.size f x) (hg : FmOk w w.heap.size g y) :
    Calls Tryd.prog 3 #[.agg (f.cells x).toArray, .agg (g.cells y).toArray] w fun e w' => e = .returned (.bool true) ∧ Below w.heap.size w w' := by
  have hfw := hf.wf
  have hgw := hg.wf
  have hif := fm_infoR hfw x
  have hig := fm_infoR hgw y
  have fund := Tryd.underlying36
  have hn1 := heap_alloc_new w (.cells (f.cells x).toArray 36)
  have hb1 := (Below.refl w.heap.size w).alloc (Nat.le_refl _) (.cells (f.cells x).toArray 36)
  obtain ⟨w1, hw1⟩ : ∃ y, y = w.alloc (.cells (f.cells x).toArray 36) := ⟨_, rfl⟩
  rw [← hw1] at hn1 hb1
  have hn2 := heap_alloc_new w1 (.cells (g.cells y).toArray 36)
  have hb2 := (Below.refl w1.heap.size w1).alloc (Nat.le_refl _) (.cells (g.cells y).toArray 36)
  obtain ⟨w2, hw2⟩ : ∃ z, z = w1.alloc (.cells (g.cells y).toArray 36) := ⟨_, rfl⟩
  rw [← hw2] at hn2 hb2
  have hs1 : w1.heap.size = w.heap.size + 1 := by rw [hw1]; simp
  have hB2 := hb1.trans (hb2.mono hb1.size)
  have HB := Lib.hid hB2
  have HL := Lib.hid (hL.below hB2)
  have HF := Lib.hid ((hf.below hB2 (Nat.le_refl _)).more hB2.size)
  have HG := Lib.hid ((hg.below hB2 (Nat.le_refl _)).more hB2.size)
  have HX := Lib.hid (below_keep hb2 hn1)
  have HY := Lib.hid hn2
  obtain ⟨RF, hRF⟩ : ∃ R, R = (f.cells x).toArray := ⟨_, rfl⟩
  obtain ⟨RG, hRG⟩ : ∃ R, R = (g.cells y).toArray := ⟨_, rfl⟩
  rw [← hRF] at hif HX hw1 ⊢
  rw [← hRG] at hig HY hw2 ⊢
  obtain ⟨q1, hq1⟩ : ∃ q, q = w.heap.size := ⟨_, rfl⟩
  obtain ⟨q2, hq2⟩ : ∃ q, q = w1.heap.size := ⟨_, rfl⟩
  rw [← hq1] at HX
  rw [← hq2] at HY
  have eq2 : q1 + 1 = q2 := by omega
  have Hw1 := Lib.hid hw1
  have Hw2 := Lib.hid hw2
  have Hq1 := Lib.hid hq1
  have HRF := Lib.hid hRF
  have HRG := Lib.hid hRG
  clear hn1 hb1 hn2 hb2 hs1 hB2 hw1 hw2 hq1 hq2 hL hf hg hRF hRG
  go_enter Tryd.func3, Tryd.ntmps3
  go_upto_region 1 with fail
  rw [← Hw1.out, ← Hw2.out, ← Hq1.out, eq2]
  go_wp2_with fail
  refine (wawake_any KK w2 HL.out).mono ?_
  rintro e w3 ⟨rfl, hB⟩
  replace HB := Lib.hid (HB.out.trans (hB.mono HB.out.size))
  replace HL := Lib.hid (HL.out.below hB)
  replace HF := Lib.hid ((HF.out.below hB (Nat.le_refl _)).more hB.size)
  replace HG := Lib.hid ((HG.out.below hB (Nat.le_refl _)).more hB.size)
  replace HX := Lib.hid (below_keep hB HX.out)
  replace HY := Lib.hid (below_keep hB HY.out)
  clear hB
  have HGr := Lib.hid (wgreat_any f x w3 HF.out)
  rw [← HRF.out] at HGr
  go_wp2_with (first
    | (refine wpList_load_rowX (by kernel_rfl) 36 _ rfl q1 rfl 36 RF (0, 0) _ HX.out fund rfl hif ?_)
    | (refine wpList_load_rowX (by kernel_rfl) 36 _ rfl q2 rfl 36 RG (0, 0) _ HY.out fund rfl hig ?_))
  refine (HGr.out).mono ?_
  rintro e w4 ⟨b1, rfl, hB⟩
  replace HB := Lib.hid (HB.out.trans (hB.mono HB.out.size))
  replace HL := Lib.hid (HL.out.below hB)
  replace HF := Lib.hid ((HF.out.below hB (Nat.le_refl _)).more hB.size)
  replace HG := Lib.hid ((HG.out.below hB (Nat.le_refl _)).more hB.size)
  replace HX := Lib.hid (below_keep hB HX.out)
  replace HY := Lib.hid (below_keep hB HY.out)
  clear hB
  clear HGr
  cases b1 with
  | true =>
    go_wp2_with fail
    go_ret
    exact ⟨rfl, HB.out⟩
  | false =>
  have HGr := Lib.hid (wgreat_any g y w4 HG.out)
  rw [← HRG.out] at HGr
  go_wp2_with (first
    | (refine wpList_load_rowX (by kernel_rfl) 36 _ rfl q1 rfl 36 RF (0, 0) _ HX.out fund rfl hif ?_)
    | (refine wpList_load_rowX (by kernel_rfl) 36 _ rfl q2 rfl 36 RG (0, 0) _ HY.out fund rfl hig ?_))
  refine (HGr.out).mono ?_
  rintro e w5 ⟨b2, rfl, hB⟩
  replace HB := Lib.hid (HB.out.trans (hB.mono HB.out.size))
  replace HL := Lib.hid (HL.out.below hB)
  replace HF := Lib.hid ((HF.out.below hB (Nat.le_refl _)).more hB.size)
  replace HG := Lib.hid ((HG.out.below hB (Nat.le_refl _)).more hB.size)
  replace HX := Lib.hid (below_keep hB HX.out)
  replace HY := Lib.hid (below_keep hB HY.out)
  clear hB
  clear HGr
  cases b2 with
  | true =>
    go_wp2_with fail
    go_ret
    exact ⟨rfl, HB.out⟩
  | false =>
  have HE := Lib.hid (wencode_any KK f x w5 HL.out HF.out)
  rw [← HRF.out] at HE
  obtain ⟨E1, hE1⟩ : ∃ E, E = (encAns KK f).1 := ⟨_, rfl⟩
  obtain ⟨c1, hc1⟩ : ∃ E, E = (encAns KK f).2 := ⟨_, rfl⟩
  rw [← hE1, ← hc1] at HE
  have HE1 := Lib.hid hE1
  have Hc1 := Lib.hid hc1
  clear hE1 hc1
  go_wp2_with (first
    | (refine wpList_load_rowX (by kernel_rfl) 36 _ rfl q1 rfl 36 RF (0, 0) _ HX.out fund rfl hif ?_)
    | (refine wpList_load_rowX (by kernel_rfl) 36 _ rfl q2 rfl 36 RG (0, 0) _ HY.out fund rfl hig ?_))
  refine (HE.out).mono ?_
  rintro e w6 ⟨rfl, hB⟩
  replace HB := Lib.hid (HB.out.trans (hB.mono HB.out.size))
  replace HL := Lib.hid (HL.out.below hB)
  replace HF := Lib.hid ((HF.out.below hB (Nat.le_refl _)).more hB.size)
  replace HG := Lib.hid ((HG.out.below hB (Nat.le_refl _)).more hB.size)
  replace HX := Lib.hid (below_keep hB HX.out)
  replace HY := Lib.hid (below_keep hB HY.out)
  clear hB
  clear HE
  have HE := Lib.hid (wencode_any KK g y w6 HL.out HG.out)
  rw [← HRG.out] at HE
  obtain ⟨E2, hE2⟩ : ∃ E, E = (encAns KK g).1 := ⟨_, rfl⟩
  obtain ⟨c2, hc2⟩ : ∃ E, E = (encAns KK g).2 := ⟨_, rfl⟩
  rw [← hE2, ← hc2] at HE
  have HE2 := Lib.hid hE2
  have Hc2 := Lib.hid hc2
  clear hE2 hc2
  go_wp2_with (first
    | (refine wpList_load_rowX (by kernel_rfl) 36 _ rfl q1 rfl 36 RF (0, 0) _ HX.out fund rfl hif ?_)
    | (refine wpList_load_rowX (by kernel_rfl) 36 _ rfl q2 rfl 36 RG (0, 0) _ HY.out fund rfl hig ?_))
  refine (HE.out).mono ?_
  rintro e w7 ⟨rfl, hB⟩
  replace HB := Lib.hid (HB.out.trans (hB.mono HB.out.size))
  replace HL := Lib.hid (HL.out.below hB)
  replace HF := Lib.hid ((HF.out.below hB (Nat.le_refl _)).more hB.size)
  replace HG := Lib.hid ((HG.out.below hB (Nat.le_refl _)).more hB.size)
  replace HX := Lib.hid (below_keep hB HX.out)
  replace HY := Lib.hid (below_keep hB HY.out)
  clear hB
  clear HE
  have HGd := Lib.hid (wgood_any f x w7 HF.out)
  rw [← HRF.out] at HGd
  obtain ⟨gf, hgf⟩ : ∃ b, b = good f := ⟨_, rfl⟩
  obtain ⟨gg, hgg⟩ : ∃ b, b = good g := ⟨_, rfl⟩
  rw [← hgf] at HGd
  have Hgf := Lib.hid hgf
  have Hgg := Lib.hid hgg
  clear hgf hgg
  cases gf with
  | false =>
    have e1 : E1 = [] := by rw [HE1.out]; unfold encAns; rw [if_neg (by rw [← Hgf.out]; simp)]
    have e2 : c1 = 1 := by rw [Hc1.out]; unfold encAns; rw [if_neg (by rw [← Hgf.out]; simp)]
    subst e1
    subst e2
    clear HE1 Hc1 HE2 Hc2 HF HG
    go_wp2_with (first
      | (refine wpList_load_rowX (by kernel_rfl) 36 _ rfl q1 rfl 36 RF (0, 0) _ HX.out fund rfl hif ?_)
      | (refine wpList_load_rowX (by kernel_rfl) 36 _ rfl q2 rfl 36 RG (0, 0) _ HY.out fund rfl hig ?_))
    refine HGd.out.mono ?_
    rintro e w8 ⟨rfl, hB⟩
    have HB8 := Lib.hid (HB.out.trans (hB.mono HB.out.size))
    clear hB HB HGd HX HY HL
    go_wp2_with fail
    go_ret
    exact ⟨rfl, HB8.out⟩
  | true =>
  have e2 : c1 = 0 := by rw [Hc1.out]; unfold encAns; rw [if_pos Hgf.out.symm]
  have e1 : E1 = enc KK f := by rw [HE1.out]; unfold encAns; rw [if_pos Hgf.out.symm]
  have hlen := (enc_len KK HF.out.wf Hgf.out.symm).1
  rw [← e1] at hlen
  have He1 := Lib.hid e1
  subst e2
  have hdl : decide ((4096 : Int) < (E1.length : Int)) = false := by simp; omega
  have hdl2 : ¬ ((4096 : Int) < (E1.length : Int)) := by omega
  clear HE1 Hc1 e1
  go_wp2_with (first
    | (refine wpList_load_rowX (by kernel_rfl) 36 _ rfl q1 rfl 36 RF (0, 0) _ HX.out fund rfl hif ?_)
    | (refine wpList_load_rowX (by kernel_rfl) 36 _ rfl q2 rfl 36 RG (0, 0) _ HY.out fund rfl hig ?_))
  refine HGd.out.mono ?_
  rintro e w8 ⟨rfl, hB⟩
  replace HB := Lib.hid (HB.out.trans (hB.mono HB.out.size))
  replace HL := Lib.hid (HL.out.below hB)
  replace HF := Lib.hid ((HF.out.below hB (Nat.le_refl _)).more hB.size)
  replace HG := Lib.hid ((HG.out.below hB (Nat.le_refl _)).more hB.size)
  replace HX := Lib.hid (below_keep hB HX.out)
  replace HY := Lib.hid (below_keep hB HY.out)
  clear hB
  clear HGd
  cases gg with
  | false =>
    have e2 : c2 = 1 := by rw [Hc2.out]; unfold encAns; rw [if_neg (by rw [← Hgg.out]; simp)]
    subst e2
    clear HE2 Hc2
    have HDec := Lib.hid (wdecode_any KK E1 w8 HL.out (by omega))
    go_wp2_with fail
    refine HDec.out.mono ?_
    rintro e w20 ⟨f5, x5, y5, rfl, ha5, hok5, hB⟩
    rw [He1.out] at ha5
    obtain ⟨rfl, rfl⟩ := ans_enc HF.out.wf Hgf.out.symm ha5
    have HB20 := Lib.hid (HB.out.trans (hB.mono HB.out.size))
    have HF20 := Lib.hid ((HF.out.below hB (Nat.le_refl _)).more hB.size)
    have HX20 := Lib.hid (below_keep hB HX.out)
    have hi5 := fm_infoR HF.out.wf x5
    have ho5 : (f5.cells x5).toArray.all (·.oneCell') = true := by rw [List.all_toArray]; exact Fm.one _ _
    have hz5 : Tryd.zeroCells36.size = (f5.cells x5).toArray.size := by rw [zero_fm, List.size_toArray, List.size_toArray, Fm.len zFm_wf, Fm.len HF.out.wf]
    have hn5 := heap_alloc_new w20 (.cells Tryd.zeroCells36 36)
    have Hok5 := Lib.hid hok5
    obtain ⟨R5, hR5⟩ : ∃ R, R = (f5.cells x5).toArray := ⟨_, rfl⟩
    rw [← hR5] at hi5 ho5 hz5
    rw [← hR5]
    have HR5 := Lib.hid hR5
    clear ha5 hok5 hB hR5 HB HL HF HG HX HY HDec
    go_upto_region 12 with (refine wpList_store_row rfl 36 _ _ rfl w20.heap.size R5 rfl rfl 36 _ hn5 hi5 hz5 ho5 ?_)
    try simp only [Act.put]
    show Code.wp _ _ _ _ ((w20.alloc (.cells Tryd.zeroCells36 36)).setRow w20.heap.size R5)
    obtain ⟨w21, hw21⟩ : ∃ y, y = (w20.alloc (.cells Tryd.zeroCells36 36)).setRow w20.heap.size R5 := ⟨_, rfl⟩
    obtain ⟨q5, hq5⟩ : ∃ g, g = w20.heap.size := ⟨_, rfl⟩
    have l6 := setRow_heap _ _ _ R5 _ _ hn5
    have o6 := ((Only.refl [q5] w20).alloc (.cells Tryd.zeroCells36 36)).setRow (g := q5) (by simp) R5
    rw [← hq5] at hw21 l6 ⊢
    rw [← hw21] at l6 o6 ⊢
    have b6 : Below w20.heap.size w20 w21 := o6.below (Nat.le_refl _) (by simp; omega)
    have HB21 := Lib.hid (HB20.out.trans (b6.mono HB20.out.size))
    have HX21 := Lib.hid (below_keep b6 HX20.out)
    have HS := Lib.hid ((same_any f5 f5 x5 x w21 ((Hok5.out.below b6 (Nat.le_refl _)).more b6.size) ((HF20.out.below b6 (Nat.le_refl _)).more b6.size)).mono (fun e w' h => (⟨h.1.trans (by simp), h.2⟩ : e = .returned (.bool true) ∧ Below w21.heap.size w21 w')))
    rw [← HRF.out, ← HR5.out] at HS
    have LR6 := Lib.hid l6
    clear hw21 hq5 l6 o6 b6 hn5 hz5 ho5 HB20 HX20 HF20 Hok5
    go_wp2_with (first
      | (refine wpList_load_rowX (by kernel_rfl) 36 _ rfl q1 rfl 36 RF (0, 0) _ HX21.out fund rfl hif ?_)
      | (refine wpList_load_rowX (by kernel_rfl) 36 _ rfl q5 rfl 36 R5 (0, 0) _ LR6.out fund rfl hi5 ?_))
    refine HS.out.mono ?_
    rintro e w22 ⟨rfl, hB⟩
    have HB22 := Lib.hid (HB21.out.trans (hB.mono HB21.out.size))
    clear hB HB21 HX21 HS LR6
    go_wp2_with fail
    go_ret
    exact ⟨rfl, HB22.out⟩
  | true =>
  have e2 : c2 = 0 := by rw [Hc2.out]; unfold encAns; rw [if_pos Hgg.out.symm]
  have e3 : E2 = enc KK g := by rw [HE2.out]; unfold encAns; rw [if_pos Hgg.out.symm]
  subst e2
  obtain ⟨sb, hsb⟩ : ∃ b, b = decide (f = g) := ⟨_, rfl⟩
  have HSm := Lib.hid (same_any f g x y w8 HF.out HG.out)
  rw [← HRF.out, ← HRG.out, ← hsb] at HSm
  have hEE : (E1 == E2) = sb := by
    rw [hsb, He1.out, e3, Bool.eq_iff_iff]
    simp only [beq_iff_eq, decide_eq_true_eq]
    exact enc_iff KK HF.out.wf Hgf.out.symm HG.out.wf Hgg.out.symm
  clear HE2 Hc2 hsb e3
  go_wp2_with (first
    | (refine wpList_load_rowX (by kernel_rfl) 36 _ rfl q1 rfl 36 RF (0, 0) _ HX.out fund rfl hif ?_)
    | (refine wpList_load_rowX (by kernel_rfl) 36 _ rfl q2 rfl 36 RG (0, 0) _ HY.out fund rfl hig ?_))
  refine HSm.out.mono ?_
  rintro e w9 ⟨rfl, hB⟩
  replace HB := Lib.hid (HB.out.trans (hB.mono HB.out.size))
  replace HL := Lib.hid (HL.out.below hB)
  replace HF := Lib.hid ((HF.out.below hB (Nat.le_refl _)).more hB.size)
  replace HG := Lib.hid ((HG.out.below hB (Nat.le_refl _)).more hB.size)
  replace HX := Lib.hid (below_keep hB HX.out)
  replace HY := Lib.hid (below_keep hB HY.out)
  clear hB
  clear HSm
  have hbb : (sb != sb) = false := by cases sb <;> rfl
  clear hEE
  have HDec := Lib.hid (wdecode_any KK E1 w9 HL.out (by omega))
  go_wp2_with fail
  refine HDec.out.mono ?_
  rintro e w20 ⟨f5, x5, y5, rfl, ha5, hok5, hB⟩
  rw [He1.out] at ha5
  obtain ⟨rfl, rfl⟩ := ans_enc HF.out.wf Hgf.out.symm ha5
  have HB20 := Lib.hid (HB.out.trans (hB.mono HB.out.size))
  have HF20 := Lib.hid ((HF.out.below hB (Nat.le_refl _)).more hB.size)
  have HX20 := Lib.hid (below_keep hB HX.out)
  have hi5 := fm_infoR HF.out.wf x5
  have ho5 : (f5.cells x5).toArray.all (·.oneCell') = true := by rw [List.all_toArray]; exact Fm.one _ _
  have hz5 : Tryd.zeroCells36.size = (f5.cells x5).toArray.size := by rw [zero_fm, List.size_toArray, List.size_toArray, Fm.len zFm_wf, Fm.len HF.out.wf]
  have hn5 := heap_alloc_new w20 (.cells Tryd.zeroCells36 36)
  have Hok5 := Lib.hid hok5
  obtain ⟨R5, hR5⟩ : ∃ R, R = (f5.cells x5).toArray := ⟨_, rfl⟩
  rw [← hR5] at hi5 ho5 hz5
  rw [← hR5]
  have HR5 := Lib.hid hR5
  clear ha5 hok5 hB hR5 HB HL HF HG HX HY HDec
  go_upto_region 12 with (refine wpList_store_row rfl 36 _ _ rfl w20.heap.size R5 rfl rfl 36 _ hn5 hi5 hz5 ho5 ?_)
  try simp only [Act.put]
  show Code.wp _ _ _ _ ((w20.alloc (.cells Tryd.zeroCells36 36)).setRow w20.heap.size R5)
  obtain ⟨w21, hw21⟩ : ∃ y, y = (w20.alloc (.cells Tryd.zeroCells36 36)).setRow w20.heap.size R5 := ⟨_, rfl⟩
  obtain ⟨q5, hq5⟩ : ∃ g, g = w20.heap.size := ⟨_, rfl⟩
  have l6 := setRow_heap _ _ _ R5 _ _ hn5
  have o6 := ((Only.refl [q5] w20).alloc (.cells Tryd.zeroCells36 36)).setRow (g := q5) (by simp) R5
  rw [← hq5] at hw21 l6 ⊢
  rw [← hw21] at l6 o6 ⊢
  have b6 : Below w20.heap.size w20 w21 := o6.below (Nat.le_refl _) (by simp; omega)
  have HB21 := Lib.hid (HB20.out.trans (b6.mono HB20.out.size))
  have HX21 := Lib.hid (below_keep b6 HX20.out)
  have HS := Lib.hid ((same_any f5 f5 x5 x w21 ((Hok5.out.below b6 (Nat.le_refl _)).more b6.size) ((HF20.out.below b6 (Nat.le_refl _)).more b6.size)).mono (fun e w' h => (⟨h.1.trans (by simp), h.2⟩ : e = .returned (.bool true) ∧ Below w21.heap.size w21 w')))
  rw [← HRF.out, ← HR5.out] at HS
  have LR6 := Lib.hid l6
  clear hw21 hq5 l6 o6 b6 hn5 hz5 ho5 HB20 HX20 HF20 Hok5
  go_wp2_with (first
    | (refine wpList_load_rowX (by kernel_rfl) 36 _ rfl q1 rfl 36 RF (0, 0) _ HX21.out fund rfl hif ?_)
    | (refine wpList_load_rowX (by kernel_rfl) 36 _ rfl q5 rfl 36 R5 (0, 0) _ LR6.out fund rfl hi5 ?_))
  refine HS.out.mono ?_
  rintro e w22 ⟨rfl, hB⟩
  have HB22 := Lib.hid (HB21.out.trans (hB.mono HB21.out.size))
  clear hB HB21 HX21 HS LR6
  go_wp2_with fail
  go_ret
  exact ⟨rfl, HB22.out⟩

namespace WingBackLaw
open Go.ChangeShapes Go.WideShapes Go.ChangeAt
open Go.ChangeMaps (open_string shut_string)
set_option maxRecDepth 100000 in
theorem contract (H : Type) (enc : TypeId × Value → H) (W : World) (base : Nat) (args : Array Value) (ds gs : List (DataW H)) (before : List MemPlace)
    (hval : ∀ (j : Nat) t v, Tryd.f3.params[j]? = some t → args[j]? = some v → Value.okWide Tryd.prog W .any base t v)
    (hW : DataW.Whole enc Tryd.prog Tryd.f3.params.toList Rows.wingBackSpec.vars false W args.toList ds gs before) (hsz0 : (DataW.weightsEach Tryd.prog (Tryd.f3.params.toList ++ Rows.wingBackSpec.plain.varTypes Tryd.prog) (ds ++ gs)).all (· ≤ reachBytes) = true) (hLd : laidMetH Tryd.prog laid1 W) :
    Calls Tryd.prog 3 args W fun e W' => ∃ v, e = .returned v ∧ Rows.wingBackSpec.post enc Tryd.prog Tryd.f3 false true false false W args v W' := by
  have hW' := hW
  obtain ⟨p, q, hA0, hV, rfl, hfz, hnd⟩ := hW
  have hA : DataW.TrodAll enc Tryd.prog W 0 (fun _ => true) true Tryd.f3.params.toList args.toList ds p := hA0
  rw [Tryd.params3] at hA hval
  obtain ⟨v0, vs0, d0, ds0, p0, q0, hargs, rfl, rfl, h0, r0⟩ := trodAll_cons hA
  obtain ⟨v1, vs1, d1, ds1, p1, q1, rfl, rfl, rfl, h1, r1⟩ := trodAll_cons r0
  obtain ⟨rfl, rfl, rfl⟩ := trodAll_nil r1
  obtain rfl : args = #[v0, v1] := by cases args; simp_all
  obtain ⟨rfl, rfl⟩ := trodVars_none hV
  obtain ⟨f0, y0, rfl, hm0⟩ := Wi.open_fm (hval 0 36 v0 rfl rfl) h0
  obtain ⟨f1, y1, rfl, hm1⟩ := Wi.open_fm (hval 1 36 v1 rfl rfl) h1
  refine (wingBack_core f0 y0 f1 y1 W (of_laid hLd) hm0 hm1).mono fun e W' ⟨he, hg⟩ => ?_
  subst he
  exact ⟨_, rfl, law_post (tb := 4) laidOut_ (of_decide_eq_true (by kernel_rfl)) Tryd.underlying4 (by kernel_rfl) rfl rfl hW' hg⟩

theorem door_met (os : Os) (args : Array Value) : laidMetH Tryd.prog laid1 ((World.doorLaid Tryd.prog 400 os).forCall (fun _ _ => 0) ⟨#[], args, []⟩).memory :=
  laidMetH_of_parts3 (fuel := 8) (laidMet_of_run' 8 (by kernel_rfl) (by kernel_rfl)) (by kernel_rfl) (by kernel_rfl)

set_option maxRecDepth 100000 in
theorem lifted (os : Os) (started : os.Started) (H : Type) (enc : TypeId × Value → H) :
    ReturnsInHanded {} Tryd.checked os 3 .any (fun w args => (Rows.wingBackSpec.pre enc Tryd.prog Tryd.f3 [] false w args ∧ laidMetH Tryd.prog laid1 w) ∧ sizedMet enc Tryd.prog Tryd.f3 (OpenSpec.ofChange Rows.wingBackSpec) false w args)
      (Rows.wingBackSpec.post enc Tryd.prog Tryd.f3 false true false false) := by
  refine returnsInHanded_of_change_and (C := Tryd.checked) (X := fun w _ => laidMetH Tryd.prog laid1 w) (fun _ _ _ hh h => h.of_heap hh) ownKnob_ started (by kernel_rfl) Tryd.func3
    (ChangeSpec.witness_shaped (enc := enc) (C := Tryd.checked) (os := os) (X := fun w _ => laidMetH Tryd.prog laid1 w) false (World.doorLaid Tryd.prog 400 os) #[.agg (Wi.zFm.cells Wi.Adr.zero).toArray, .agg (Wi.zFm.cells Wi.Adr.zero).toArray] 8 rfl (World.shaped_of_RefB (by kernel_rfl) (by kernel_rfl)) (by kernel_rfl) (by kernel_rfl) (by kernel_rfl) (door_met os _)) ?_
  intro W base args ds gs before hval hW _ hsz hLd _
  exact contract H enc W base args ds gs before hval hW hsz hLd

theorem said : Rows.WingBackSaid :=
  OpenClaim.holds_of_wide 3 Tryd.f3 rfl rfl rfl rfl rfl rfl rfl ⟨rfl, rfl, rfl, rfl, rfl⟩ rfl rfl rfl rfl rfl (by kernel_rfl) Tryd.func3 (by kernel_rfl)
    (of_decide_eq_true (by kernel_rfl)) (by unfold Func.isWrapper; first | (rw [if_pos (by decide +kernel)]; kernel_rfl) | (rw [if_neg (by decide +kernel)]; exact ⟨rfl, rfl⟩))
    (fun os started H enc _ => lifted os started H enc)

theorem proved : Rows.WingBackCardSaid :=
  Claim7.holds_tied_plain_at .later [] [.data] true Rows.wingBackCard.stood.harness false
    said (fun _ h => by cases h) (by kernel_rfl) (fun _ h => by cases h) wingBack_row_tie rfl ⟨rfl, rfl⟩ (by kernel_rfl) rfl
    (fun f fn hf hfn => by
      obtain rfl : f = 3 := Option.some.inj ((show Tryd.prog.funcNamed "apiary/apiarylaw19.WingBack" = some 3 by kernel_rfl).symm.trans hf) |>.symm
      obtain rfl : fn = Tryd.f3 := (Option.some.inj (Tryd.func3.symm.trans hfn)).symm
      exact ⟨by kernel_rfl, fun j t ht => by
        rw [Tryd.params3] at ht
        have hm : t ∈ [36, 36] := by simpa using Array.mem_of_getElem? ht
        have hall : ([36, 36].all fun u => !Tryd.prog.wantsStandIn u) = true := by kernel_rfl
        exact (show Tryd.prog.wantsStandIn t = false by simpa using List.all_eq_true.1 hall t hm)⟩)
    (by kernel_rfl)
end WingBackLaw

end Go.Proofs.YthcmlbbbbcinkaaDoor
