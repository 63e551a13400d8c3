/-
  Layer 19 (wing): the walk of bare. Layer 19 (wing): whether a frame can be.
-/
import Derived.Test.YthcmlbbbbcinkaaDoorWiM
set_option linter.unusedVariables false
set_option linter.unusedSimpArgs false
namespace Go.Proofs.YthcmlbbbbcinkaaDoor
open Go.RowKit Pl
attribute [local go_sem] Lb.ba_get Lb.ba_cut Lb.ba_add Lb.ba_size Lb.take_rest
namespace Wi

theorem zero_fm : Tryd.zeroCells36 = (zFm.cells Adr.zero).toArray := by kernel_rfl
theorem range_onlyX {w w' : World} {bs : List Nat} {b o : Nat} {cs : List Value} (h : w.rangeAt b o cs) (ho : Only bs w w') (hl : b < w.heap.size) (hn : b ∉ bs) : w'.rangeAt b o cs := fun k v hv => (ho.cell (p := ⟨b, o + k, none⟩) hl hn).trans (h k v hv)
theorem FmMem.only {w w' : World} {b : Nat} {f : Fm} {x : Adr} {bs : List Nat} (h : FmMem w b f x) (ho : Only bs w w') (hl : b < w.heap.size) (hn : b ∉ bs) : FmMem w' b f x :=
  ⟨(ho.cell (p := ⟨b, 0, none⟩) hl hn).trans h.kind, (ho.cell (p := ⟨b, 1, none⟩) hl hn).trans h.from_, (ho.cell (p := ⟨b, 2, none⟩) hl hn).trans h.seq, (ho.cell (p := ⟨b, 3, none⟩) hl hn).trans h.node, range_onlyX h.key ho hl hn, (ho.cell (p := ⟨b, 36, none⟩) hl hn).trans h.found, range_onlyX h.rcd ho hl hn, range_onlyX h.out ho hl hn, (ho.cell (p := ⟨b, 134, none⟩) hl hn).trans h.at_, (ho.cell (p := ⟨b, 135, none⟩) hl hn).trans h.data, range_onlyX h.haze ho hl hn, range_onlyX h.mani ho hl hn, (ho.cell (p := ⟨b, 234, none⟩) hl hn).trans h.rngs, (ho.cell (p := ⟨b, 235, none⟩) hl hn).trans h.items, (ho.cell (p := ⟨b, 236, none⟩) hl hn).trans h.mems⟩
theorem fm_infoR {f : Fm} (h : f.Wf) (x : Adr) : (Tryd.prog.info? 36).map (·.size) = some (f.cells x).toArray.size := by rw [fm_info, List.size_toArray, Fm.len h]
set_option maxHeartbeats 8000000 in
set_option maxRecDepth 100000 in
theorem bare_any (f : Fm) (x : Adr) (w : World) (hok : FmOk w w.heap.size f x) : Calls Tryd.prog 23 #[.agg (f.cells x).toArray] w fun e w' => e = .returned (.agg ((bare f).cells (bareA f x)).toArray) ∧ Below w.heap.size w w' := by
  have hwf := hok.wf
  have h3w := head3_wf hwf
  have hbw := bare_wf hwf
  have hn1 := heap_alloc_new w (.cells (f.cells x).toArray 36)
  have hb1 := (Below.refl w.heap.size w).alloc (Nat.le_refl _) (.cells (f.cells x).toArray 36)
  obtain ⟨w1, hw1⟩ : ∃ y, y = w.alloc (.cells (f.cells x).toArray 36) := ⟨_, rfl⟩
  rw [← hw1] at hn1 hb1
  have hm1 := fm_mem (x := x) hwf hn1
  have hl1 := heap_lt hn1
  have hb2 := (Below.refl w1.heap.size w1).alloc (Nat.le_refl _) (.cells Tryd.zeroCells36 36)
  have hn2 := heap_alloc_new w1 (.cells Tryd.zeroCells36 36)
  obtain ⟨w2, hw2⟩ : ∃ y, y = w1.alloc (.cells Tryd.zeroCells36 36) := ⟨_, rfl⟩
  rw [← hw2] at hb2 hn2
  have hm2 := hm1.below hb2 hl1
  have hs1 : w1.heap.size = w.heap.size + 1 := by rw [hw1]; simp
  have hs2 : w2.heap.size = w.heap.size + 2 := by rw [hw2]; simp [hs1]
  have hn3 := heap_alloc_new w2 (.cells Tryd.zeroCells36 36)
  have hzs : Tryd.zeroCells36.size = 237 := by rw [zero_fm, List.size_toArray, Fm.len zFm_wf]
  have hbd : Tryd.prog.built 36 [(0, .int .i64 f.kind), (1, .int .i64 f.from_), (14, .slice x.MA f.mems.length x.mc)] = some ((head3 f).cells (headA x)).toArray := built_head f.kind f.from_ f.mems x.MA x.mc
  have hi3 := fm_infoR h3w (headA x)
  have ho3 : ((head3 f).cells (headA x)).toArray.all (·.oneCell') = true := by rw [List.all_toArray]; exact Fm.one _ _
  have hz3 : Tryd.zeroCells36.size = ((head3 f).cells (headA x)).toArray.size := by rw [hzs, List.size_toArray, Fm.len h3w]
  rw [hs1] at hn2
  have c0 := hm2.kind
  have c1 := hm2.from_
  have c236 := hm2.mems
  obtain ⟨kd, hkd⟩ : ∃ k, k = f.kind := ⟨_, rfl⟩
  obtain ⟨n1, hn1'⟩ : ∃ k, k = f.from_ := ⟨_, rfl⟩
  obtain ⟨nm, hnm⟩ : ∃ k, k = f.mems.length := ⟨_, rfl⟩
  rw [← hkd] at c0 hbd
  rw [← hn1'] at c1 hbd
  rw [← hnm] at c236 hbd
  obtain ⟨C, hC⟩ : ∃ C, C = ((head3 f).cells (headA x)).toArray := ⟨_, rfl⟩
  rw [← hC] at hbd hi3 ho3 hz3
  obtain ⟨q, hq⟩ : ∃ q, q = w.heap.size := ⟨_, rfl⟩
  have Hb := Lib.hid (hb1.trans (hb2.mono hb1.size))
  rw [← hq] at hn1 hm1 hm2 hs2 c0 c1 c236 hn2
  have Hm2 := Lib.hid hm2
  have Hn2 := Lib.hid hn2
  have Hn3 := Lib.hid hn3
  have Hwf := Lib.hid hwf
  have H3w := Lib.hid h3w
  have Hbw := Lib.hid hbw
  have HC := Lib.hid hC
  have Hw1 := Lib.hid hw1
  have Hw2 := Lib.hid hw2
  have Hq := Lib.hid hq
  have Hkd := Lib.hid hkd
  have Hs2 := Lib.hid hs2
  clear hm1 hb1 hb2 hn1 hl1 hm2 hn2 hn3 hok hbw hwf h3w hs1 hs2 hC hw1 hw2 hq hkd hn1' hnm
  go_enter Tryd.func23, Tryd.ntmps23
  go_upto_region 1 with fail
  rw [← Hw1.out, ← Hw2.out, ← Hq.out]
  go_upto_region 2 with (first
    | (refine wpList_build3f rfl 36 _ _ _ _ _ _ rfl _ _ _ rfl rfl rfl _ hbd ?_)
    | (refine wpList_store_row rfl 36 _ _ rfl w2.heap.size C rfl rfl 36 _ Hn3.out hi3 hz3 ho3 ?_))
  show Code.wp _ _ _ _ ((w2.alloc (.cells Tryd.zeroCells36 36)).setRow w2.heap.size C)
  obtain ⟨w4, hw4⟩ : ∃ y, y = (w2.alloc (.cells Tryd.zeroCells36 36)).setRow w2.heap.size C := ⟨_, rfl⟩
  obtain ⟨q3, hq3⟩ : ∃ g, g = w2.heap.size := ⟨_, rfl⟩
  have l4 := setRow_heap _ _ _ C _ _ Hn3.out
  have o4 := ((Only.refl [q3] w2).alloc (.cells Tryd.zeroCells36 36)).setRow (g := q3) (by simp) C
  rw [← hq3] at hw4 l4 ⊢
  rw [← hw4] at l4 o4 ⊢
  have b4 : Below w2.heap.size w2 w4 := o4.below (Nat.le_refl _) (by simp; omega)
  have hs := Hs2.out
  have HF : Hid (FrAt w4 q3 (head3 f) (headA x)) := Lib.hid (by unfold FrAt; rw [l4, HC.out])
  have hm4 := Hm2.out.below b4 (by omega)
  have N4 := Lib.hid (o4.keep Hn2.out (by simp; omega))
  have B4 := Lib.hid (Hb.out.trans (b4.mono Hb.out.size))
  have q31 : q3 ≠ q := by omega
  have q32 : q3 ≠ q + 1 := by omega
  have lq : q < w4.heap.size := by have := b4.size; omega
  have nq : q ∉ [q3] := by simpa using q31.symm
  have LQ : w.heap.size ≤ q3 := by rw [hq3]; exact Hb.out.size
  have LQ1 : w.heap.size ≤ q + 1 := by rw [Hq.out]; omega
  have c0 := hm4.kind
  rw [← Hkd.out] at c0
  have HM := Lib.hid hm4
  clear hw4 hq3 l4 o4 b4 hs hm4 Hm2 Hn2 Hn3 Hb HC Hs2 c1 c236 hbd hi3 ho3 hz3
  try simp only [Act.put]
  go_upto_block 0 with fail
  go_cut [13] from 13 to 94 (fun v wz => FrAt wz q3 (bare f) (bareA f x) ∧ Only [q3] w4 wz)
  case first =>
    go_upto_region 3 with fail
    by_cases k1 : kd = 1
    · subst k1
      have r2 := HM.out.seq
      go_wp2_with (first
        | (refine wpList_fr_seq rfl H3w.out HF.out _ _ rfl rfl f.seq rfl (fun v1 hf1 o1 => ?_)))
      have HO1 := Lib.hid ((Only.refl [q3] w4).trans o1)
      have HF1 : Hid (FrAt v1 q3 ({ (head3 f) with seq := f.seq } : Fm) (headA x)) := Lib.hid hf1
      have HM1 := Lib.hid (HM.out.only HO1.out lq nq)
      clear o1 hf1
      clear r2
      have hb : bare f = ({ (head3 f) with seq := f.seq } : Fm) := by unfold bare head3; rw [← Hkd.out]; simp only [ if_true, if_false]
      have hx : bareA f x = (headA x) := by unfold bareA headA; rw [← Hkd.out]; simp [Adr.zero]
      have HB := Lib.hid hb
      have HX := Lib.hid hx
      clear hb hx
      go_wp2_with fail
      go_meet
      case rel => exact ⟨by rw [HB.out, HX.out]; exact HF1.out, HO1.out⟩
    have e1 : (kd == 1) = false := by simp [k1]
    by_cases k2 : kd = 2
    · subst k2
      go_upto_region 6 with fail
      have r2 := HM.out.seq
      have r3 := HM.out.node
      have r136 := HM.out.haze
      have i136 : (Tryd.prog.info? 28).map (·.size) = some (byV f.haze).length := by rw [haze_info, byV_length, Hwf.out.haze]
      have zund136 := Tryd.underlying28
      have lqw : q < w4.heap.size := Nat.lt_of_lt_of_le lq (Only.refl [q3] w4).size
      refine wp_region_held_drew (S := Only [q3] w4) (by kernel_rfl) ((Only.refl [q3] w4).drew) (fun hH0 => ?_)
      obtain ⟨W0, hW0⟩ : ∃ W, W = w4.drew := ⟨_, rfl⟩
      have HFd : Hid (FrAt W0 q3 ((head3 f)) ((headA x))) := Lib.hid (by rw [hW0]; exact HF.out)
      rw [← hW0] at hH0 ⊢
      clear hW0
      refine wpAnyH_take (i := 0) (v := ?_) rfl (by kernel_rfl) (by kernel_rfl) (by kernel_rfl) (fun _ _ _ h => h) (Or.inl ⟨by kernel_rfl, ?_⟩) hH0 ?_
      rotate_left 1
      · intro w hSw
        go_simp
        try with_reducible rfl
      try simp only [Act.put, List.getElem_toArray, List.getElem_cons_zero, List.getElem_cons_succ, List.setIfInBounds_toArray, List.set_cons_zero, List.set_cons_succ]
      refine wpAnyH_take (i := 1) (v := ?_) rfl (by kernel_rfl) (by kernel_rfl) (by kernel_rfl) (fun _ _ _ h => h) (Or.inl ⟨by kernel_rfl, ?_⟩) hH0 ?_
      rotate_left 1
      · intro w hSw
        have f0 := (hSw.cell (p := ⟨q, 2, none⟩) lqw nq).trans r2
        have f1 := (hSw.cell (p := ⟨q, 3, none⟩) lqw nq).trans r3
        go_simp
        try with_reducible rfl
      try simp only [Act.put, List.getElem_toArray, List.getElem_cons_zero, List.getElem_cons_succ, List.setIfInBounds_toArray, List.set_cons_zero, List.set_cons_succ]
      refine wpAnyH_take (i := 2) (v := ?_) rfl (by kernel_rfl) (by kernel_rfl) (by kernel_rfl) (fun _ _ _ h => h) (Or.inl ⟨by kernel_rfl, ?_⟩) hH0 ?_
      rotate_left 1
      · intro w hSw
        go_simp
        try with_reducible rfl
      try simp only [Act.put, List.getElem_toArray, List.getElem_cons_zero, List.getElem_cons_succ, List.setIfInBounds_toArray, List.set_cons_zero, List.set_cons_succ]
      refine wpAnyH_take (i := 3) (v := ?_) rfl (by kernel_rfl) (by kernel_rfl) (by kernel_rfl) (fun _ _ _ h => h) (Or.inl ⟨by kernel_rfl, ?_⟩) hH0 ?_
      rotate_left 1
      · intro w hSw
        have f0 := (hSw.cell (p := ⟨q, 2, none⟩) lqw nq).trans r2
        have f1 := (hSw.cell (p := ⟨q, 3, none⟩) lqw nq).trans r3
        go_simp
        try with_reducible rfl
      try simp only [Act.put, List.getElem_toArray, List.getElem_cons_zero, List.getElem_cons_succ, List.setIfInBounds_toArray, List.set_cons_zero, List.set_cons_succ]
      refine wpAnyH_take (i := 4) (v := ?_) rfl (by kernel_rfl) (by kernel_rfl) (by kernel_rfl) (fun _ _ _ h => h) (Or.inl ⟨by kernel_rfl, ?_⟩) hH0 ?_
      rotate_left 1
      · intro w hSw
        go_simp
        try with_reducible rfl
      try simp only [Act.put, List.getElem_toArray, List.getElem_cons_zero, List.getElem_cons_succ, List.setIfInBounds_toArray, List.set_cons_zero, List.set_cons_succ]
      refine wpAnyH_take (i := 5) (v := _) rfl (by kernel_rfl) (by kernel_rfl) (by kernel_rfl) (fun _ _ _ h => h) (yieldsIf_load_mid (by kernel_rfl) _ _ rfl _ _ rfl (byV f.haze) _ (fun W hW => range_onlyX r136 hW lqw nq) zund136 rfl i136) hH0 ?_
      try simp only [Act.put, List.getElem_toArray, List.getElem_cons_zero, List.getElem_cons_succ, List.setIfInBounds_toArray, List.set_cons_zero, List.set_cons_succ]
      refine wpAnyH_take (i := 6) (v := ?_) rfl (by kernel_rfl) (by kernel_rfl) (by kernel_rfl) (fun _ _ _ h => h) (Or.inl ⟨by kernel_rfl, ?_⟩) hH0 ?_
      rotate_left 1
      · intro w hSw
        go_simp
        try with_reducible rfl
      try simp only [Act.put, List.getElem_toArray, List.getElem_cons_zero, List.getElem_cons_succ, List.setIfInBounds_toArray, List.set_cons_zero, List.set_cons_succ]
      refine wpAnyH_ready (rs := [7]) (by kernel_rfl) (by simp) ?_
      refine AllReadyH.cons rfl (fun K_ hK => ?_) ?_
      · rw [if_pos (by rfl)]
        refine wp_fr_seq H3w.out HFd.out _ _ rfl rfl f.seq rfl (fun W1 hf7 o7 => ?_)
        have HFs7 : Hid (FrAt W1 q3 ({ (head3 f) with seq := f.seq } : Fm) (headA x)) := Lib.hid hf7
        clear hf7 HFd
        refine hK.out _ _ (hH0.trans o7) (fun hH1 => ?_)
        clear hK K_
        try simp only [Act.put, List.getElem_toArray, List.getElem_cons_zero, List.getElem_cons_succ, List.setIfInBounds_toArray, List.set_cons_zero, List.set_cons_succ]
        refine wpAnyH_take (i := 8) (v := ?_) rfl (by kernel_rfl) (by kernel_rfl) (by kernel_rfl) (fun _ _ _ h => h) (Or.inl ⟨by kernel_rfl, ?_⟩) hH1 ?_
        rotate_left 1
        · intro w hSw
          go_simp
          try with_reducible rfl
        try simp only [Act.put, List.getElem_toArray, List.getElem_cons_zero, List.getElem_cons_succ, List.setIfInBounds_toArray, List.set_cons_zero, List.set_cons_succ]
        refine wpAnyH_ready (rs := [9]) (by kernel_rfl) (by simp) ?_
        refine AllReadyH.cons rfl (fun K_ hK => ?_) ?_
        · rw [if_pos (by rfl)]
          refine wp_fr_node (H3w.out.put_seq Hwf.out.seq) HFs7.out _ _ rfl rfl f.node rfl (fun W2 hf9 o9 => ?_)
          have HFs9 : Hid (FrAt W2 q3 ({ ({ (head3 f) with seq := f.seq } : Fm) with node := f.node } : Fm) (headA x)) := Lib.hid hf9
          clear hf9 HFs7
          refine hK.out _ _ (hH1.trans o9) (fun hH2 => ?_)
          clear hK K_
          try simp only [Act.put, List.getElem_toArray, List.getElem_cons_zero, List.getElem_cons_succ, List.setIfInBounds_toArray, List.set_cons_zero, List.set_cons_succ]
          refine wpAnyH_take (i := 10) (v := ?_) rfl (by kernel_rfl) (by kernel_rfl) (by kernel_rfl) (fun _ _ _ h => h) (Or.inl ⟨by kernel_rfl, ?_⟩) hH2 ?_
          rotate_left 1
          · intro w hSw
            go_simp
            try with_reducible rfl
          try simp only [Act.put, List.getElem_toArray, List.getElem_cons_zero, List.getElem_cons_succ, List.setIfInBounds_toArray, List.set_cons_zero, List.set_cons_succ]
          refine wpAnyH_ready (rs := [11]) (by kernel_rfl) (by simp) ?_
          refine AllReadyH.cons rfl (fun K_ hK => ?_) ?_
          · rw [if_pos (by rfl)]
            refine wp_fr_haze ((H3w.out.put_seq Hwf.out.seq).put_node Hwf.out.node) HFs9.out _ _ rfl rfl f.haze Hwf.out.haze rfl (fun W3 hf11 o11 => ?_)
            have HFs11 : Hid (FrAt W3 q3 ({ ({ ({ (head3 f) with seq := f.seq } : Fm) with node := f.node } : Fm) with haze := f.haze } : Fm) (headA x)) := Lib.hid hf11
            clear hf11 HFs9
            refine hK.out _ _ (hH2.trans o11) (fun hH3 => ?_)
            clear hK K_
            try simp only [Act.put, List.getElem_toArray, List.getElem_cons_zero, List.getElem_cons_succ, List.setIfInBounds_toArray, List.set_cons_zero, List.set_cons_succ]
            refine wpAnyH_done (by kernel_rfl) ?_ _
            have HOz := Lib.hid ((Only.refl [q3] w4).trans hH3)
            clear hH3
            have hb : bare f = ({ ({ ({ (head3 f) with seq := f.seq } : Fm) with node := f.node } : Fm) with haze := f.haze } : Fm) := by unfold bare head3; rw [← Hkd.out]; simp only [show ¬ ((2 : Int) = 1) by omega,  if_true, if_false]
            have hx : bareA f x = (headA x) := by unfold bareA headA; rw [← Hkd.out]; simp [Adr.zero]
            have HB := Lib.hid hb
            have HX := Lib.hid hx
            clear hb hx
            go_wp2_with fail
            go_meet
            case rel => exact ⟨by rw [HB.out, HX.out]; exact HFs11.out, HOz.out⟩
          exact AllReadyH.nil
        exact AllReadyH.nil
      exact AllReadyH.nil
    have e2 : (kd == 2) = false := by simp [k2]
    by_cases k3 : kd = 3
    · subst k3
      go_upto_region 8 with fail
      have r2 := HM.out.seq
      have r3 := HM.out.node
      have lqw : q < w4.heap.size := Nat.lt_of_lt_of_le lq (Only.refl [q3] w4).size
      refine wp_region_held_drew (S := Only [q3] w4) (by kernel_rfl) ((Only.refl [q3] w4).drew) (fun hH0 => ?_)
      obtain ⟨W0, hW0⟩ : ∃ W, W = w4.drew := ⟨_, rfl⟩
      have HFd : Hid (FrAt W0 q3 ((head3 f)) ((headA x))) := Lib.hid (by rw [hW0]; exact HF.out)
      rw [← hW0] at hH0 ⊢
      clear hW0
      refine wpAnyH_take (i := 0) (v := ?_) rfl (by kernel_rfl) (by kernel_rfl) (by kernel_rfl) (fun _ _ _ h => h) (Or.inl ⟨by kernel_rfl, ?_⟩) hH0 ?_
      rotate_left 1
      · intro w hSw
        go_simp
        try with_reducible rfl
      try simp only [Act.put, List.getElem_toArray, List.getElem_cons_zero, List.getElem_cons_succ, List.setIfInBounds_toArray, List.set_cons_zero, List.set_cons_succ]
      refine wpAnyH_take (i := 1) (v := ?_) rfl (by kernel_rfl) (by kernel_rfl) (by kernel_rfl) (fun _ _ _ h => h) (Or.inl ⟨by kernel_rfl, ?_⟩) hH0 ?_
      rotate_left 1
      · intro w hSw
        have f0 := (hSw.cell (p := ⟨q, 2, none⟩) lqw nq).trans r2
        have f1 := (hSw.cell (p := ⟨q, 3, none⟩) lqw nq).trans r3
        go_simp
        try with_reducible rfl
      try simp only [Act.put, List.getElem_toArray, List.getElem_cons_zero, List.getElem_cons_succ, List.setIfInBounds_toArray, List.set_cons_zero, List.set_cons_succ]
      refine wpAnyH_take (i := 2) (v := ?_) rfl (by kernel_rfl) (by kernel_rfl) (by kernel_rfl) (fun _ _ _ h => h) (Or.inl ⟨by kernel_rfl, ?_⟩) hH0 ?_
      rotate_left 1
      · intro w hSw
        go_simp
        try with_reducible rfl
      try simp only [Act.put, List.getElem_toArray, List.getElem_cons_zero, List.getElem_cons_succ, List.setIfInBounds_toArray, List.set_cons_zero, List.set_cons_succ]
      refine wpAnyH_take (i := 3) (v := ?_) rfl (by kernel_rfl) (by kernel_rfl) (by kernel_rfl) (fun _ _ _ h => h) (Or.inl ⟨by kernel_rfl, ?_⟩) hH0 ?_
      rotate_left 1
      · intro w hSw
        have f0 := (hSw.cell (p := ⟨q, 2, none⟩) lqw nq).trans r2
        have f1 := (hSw.cell (p := ⟨q, 3, none⟩) lqw nq).trans r3
        go_simp
        try with_reducible rfl
      try simp only [Act.put, List.getElem_toArray, List.getElem_cons_zero, List.getElem_cons_succ, List.setIfInBounds_toArray, List.set_cons_zero, List.set_cons_succ]
      refine wpAnyH_take (i := 4) (v := ?_) rfl (by kernel_rfl) (by kernel_rfl) (by kernel_rfl) (fun _ _ _ h => h) (Or.inl ⟨by kernel_rfl, ?_⟩) hH0 ?_
      rotate_left 1
      · intro w hSw
        go_simp
        try with_reducible rfl
      try simp only [Act.put, List.getElem_toArray, List.getElem_cons_zero, List.getElem_cons_succ, List.setIfInBounds_toArray, List.set_cons_zero, List.set_cons_succ]
      refine wpAnyH_ready (rs := [5]) (by kernel_rfl) (by simp) ?_
      refine AllReadyH.cons rfl (fun K_ hK => ?_) ?_
      · rw [if_pos (by rfl)]
        refine wp_fr_seq H3w.out HFd.out _ _ rfl rfl f.seq rfl (fun W1 hf5 o5 => ?_)
        have HFs5 : Hid (FrAt W1 q3 ({ (head3 f) with seq := f.seq } : Fm) (headA x)) := Lib.hid hf5
        clear hf5 HFd
        refine hK.out _ _ (hH0.trans o5) (fun hH1 => ?_)
        clear hK K_
        try simp only [Act.put, List.getElem_toArray, List.getElem_cons_zero, List.getElem_cons_succ, List.setIfInBounds_toArray, List.set_cons_zero, List.set_cons_succ]
        refine wpAnyH_take (i := 6) (v := ?_) rfl (by kernel_rfl) (by kernel_rfl) (by kernel_rfl) (fun _ _ _ h => h) (Or.inl ⟨by kernel_rfl, ?_⟩) hH1 ?_
        rotate_left 1
        · intro w hSw
          go_simp
          try with_reducible rfl
        try simp only [Act.put, List.getElem_toArray, List.getElem_cons_zero, List.getElem_cons_succ, List.setIfInBounds_toArray, List.set_cons_zero, List.set_cons_succ]
        refine wpAnyH_ready (rs := [7]) (by kernel_rfl) (by simp) ?_
        refine AllReadyH.cons rfl (fun K_ hK => ?_) ?_
        · rw [if_pos (by rfl)]
          refine wp_fr_node (H3w.out.put_seq Hwf.out.seq) HFs5.out _ _ rfl rfl f.node rfl (fun W2 hf7 o7 => ?_)
          have HFs7 : Hid (FrAt W2 q3 ({ ({ (head3 f) with seq := f.seq } : Fm) with node := f.node } : Fm) (headA x)) := Lib.hid hf7
          clear hf7 HFs5
          refine hK.out _ _ (hH1.trans o7) (fun hH2 => ?_)
          clear hK K_
          try simp only [Act.put, List.getElem_toArray, List.getElem_cons_zero, List.getElem_cons_succ, List.setIfInBounds_toArray, List.set_cons_zero, List.set_cons_succ]
          refine wpAnyH_done (by kernel_rfl) ?_ _
          have HOz := Lib.hid ((Only.refl [q3] w4).trans hH2)
          clear hH2
          have hb : bare f = ({ ({ (head3 f) with seq := f.seq } : Fm) with node := f.node } : Fm) := by unfold bare head3; rw [← Hkd.out]; simp only [show ¬ ((3 : Int) = 1) by omega, show ¬ ((3 : Int) = 2) by omega,  if_true, if_false]
          have hx : bareA f x = (headA x) := by unfold bareA headA; rw [← Hkd.out]; simp [Adr.zero]
          have HB := Lib.hid hb
          have HX := Lib.hid hx
          clear hb hx
          go_wp2_with fail
          go_meet
          case rel => exact ⟨by rw [HB.out, HX.out]; exact HFs7.out, HOz.out⟩
        exact AllReadyH.nil
      exact AllReadyH.nil
    have e3 : (kd == 3) = false := by simp [k3]
    by_cases k4 : kd = 4
    · subst k4
      have r4 := HM.out.key
      have i4 : (Tryd.prog.info? 23).map (·.size) = some (byV f.key).length := by rw [dig_info, byV_length, Hwf.out.key]
      have dund4 := Tryd.underlying23
      go_wp2_with (first
        | (refine wpList_load_mid rfl 23 _ rfl q 4 rfl (byV f.key) _ r4 dund4 rfl i4 ?_)
        | (refine wpList_fr_key rfl H3w.out HF.out _ _ rfl rfl f.key Hwf.out.key rfl (fun v1 hf1 o1 => ?_)))
      have HO1 := Lib.hid ((Only.refl [q3] w4).trans o1)
      have HF1 : Hid (FrAt v1 q3 ({ (head3 f) with key := f.key } : Fm) (headA x)) := Lib.hid hf1
      have HM1 := Lib.hid (HM.out.only HO1.out lq nq)
      clear o1 hf1
      clear r4
      have hb : bare f = ({ (head3 f) with key := f.key } : Fm) := by unfold bare head3; rw [← Hkd.out]; simp only [show ¬ ((4 : Int) = 1) by omega, show ¬ ((4 : Int) = 2) by omega, show ¬ ((4 : Int) = 3) by omega,  if_true, if_false]
      have hx : bareA f x = (headA x) := by unfold bareA headA; rw [← Hkd.out]; simp [Adr.zero]
      have HB := Lib.hid hb
      have HX := Lib.hid hx
      clear hb hx
      go_wp2_with fail
      go_meet
      case rel => exact ⟨by rw [HB.out, HX.out]; exact HF1.out, HO1.out⟩
    have e4 : (kd == 4) = false := by simp [k4]
    by_cases k6 : kd = 6
    · subst k6
      go_upto_region 16 with fail
      have r102 := HM.out.out
      have i102 : (Tryd.prog.info? 23).map (·.size) = some (byV f.out).length := by rw [dig_info, byV_length, Hwf.out.out]
      have dund102 := Tryd.underlying23
      have r134 := HM.out.at_
      have lqw : q < w4.heap.size := Nat.lt_of_lt_of_le lq (Only.refl [q3] w4).size
      refine wp_region_held_drew (S := Only [q3] w4) (by kernel_rfl) ((Only.refl [q3] w4).drew) (fun hH0 => ?_)
      obtain ⟨W0, hW0⟩ : ∃ W, W = w4.drew := ⟨_, rfl⟩
      have HFd : Hid (FrAt W0 q3 ((head3 f)) ((headA x))) := Lib.hid (by rw [hW0]; exact HF.out)
      rw [← hW0] at hH0 ⊢
      clear hW0
      refine wpAnyH_take (i := 0) (v := ?_) rfl (by kernel_rfl) (by kernel_rfl) (by kernel_rfl) (fun _ _ _ h => h) (Or.inl ⟨by kernel_rfl, ?_⟩) hH0 ?_
      rotate_left 1
      · intro w hSw
        go_simp
        try with_reducible rfl
      try simp only [Act.put, List.getElem_toArray, List.getElem_cons_zero, List.getElem_cons_succ, List.setIfInBounds_toArray, List.set_cons_zero, List.set_cons_succ]
      refine wpAnyH_take (i := 1) (v := _) rfl (by kernel_rfl) (by kernel_rfl) (by kernel_rfl) (fun _ _ _ h => h) (yieldsIf_load_mid (by kernel_rfl) _ _ rfl _ _ rfl (byV f.out) _ (fun W hW => range_onlyX r102 hW lqw nq) dund102 rfl i102) hH0 ?_
      try simp only [Act.put, List.getElem_toArray, List.getElem_cons_zero, List.getElem_cons_succ, List.setIfInBounds_toArray, List.set_cons_zero, List.set_cons_succ]
      refine wpAnyH_take (i := 2) (v := ?_) rfl (by kernel_rfl) (by kernel_rfl) (by kernel_rfl) (fun _ _ _ h => h) (Or.inl ⟨by kernel_rfl, ?_⟩) hH0 ?_
      rotate_left 1
      · intro w hSw
        go_simp
        try with_reducible rfl
      try simp only [Act.put, List.getElem_toArray, List.getElem_cons_zero, List.getElem_cons_succ, List.setIfInBounds_toArray, List.set_cons_zero, List.set_cons_succ]
      refine wpAnyH_take (i := 3) (v := ?_) rfl (by kernel_rfl) (by kernel_rfl) (by kernel_rfl) (fun _ _ _ h => h) (Or.inl ⟨by kernel_rfl, ?_⟩) hH0 ?_
      rotate_left 1
      · intro w hSw
        have f0 := (hSw.cell (p := ⟨q, 134, none⟩) lqw nq).trans r134
        go_simp
        try with_reducible rfl
      try simp only [Act.put, List.getElem_toArray, List.getElem_cons_zero, List.getElem_cons_succ, List.setIfInBounds_toArray, List.set_cons_zero, List.set_cons_succ]
      refine wpAnyH_take (i := 4) (v := ?_) rfl (by kernel_rfl) (by kernel_rfl) (by kernel_rfl) (fun _ _ _ h => h) (Or.inl ⟨by kernel_rfl, ?_⟩) hH0 ?_
      rotate_left 1
      · intro w hSw
        go_simp
        try with_reducible rfl
      try simp only [Act.put, List.getElem_toArray, List.getElem_cons_zero, List.getElem_cons_succ, List.setIfInBounds_toArray, List.set_cons_zero, List.set_cons_succ]
      refine wpAnyH_ready (rs := [5]) (by kernel_rfl) (by simp) ?_
      refine AllReadyH.cons rfl (fun K_ hK => ?_) ?_
      · rw [if_pos (by rfl)]
        refine wp_fr_out H3w.out HFd.out _ _ rfl rfl f.out Hwf.out.out rfl (fun W1 hf5 o5 => ?_)
        have HFs5 : Hid (FrAt W1 q3 ({ (head3 f) with out := f.out } : Fm) (headA x)) := Lib.hid hf5
        clear hf5 HFd
        refine hK.out _ _ (hH0.trans o5) (fun hH1 => ?_)
        clear hK K_
        try simp only [Act.put, List.getElem_toArray, List.getElem_cons_zero, List.getElem_cons_succ, List.setIfInBounds_toArray, List.set_cons_zero, List.set_cons_succ]
        refine wpAnyH_take (i := 6) (v := ?_) rfl (by kernel_rfl) (by kernel_rfl) (by kernel_rfl) (fun _ _ _ h => h) (Or.inl ⟨by kernel_rfl, ?_⟩) hH1 ?_
        rotate_left 1
        · intro w hSw
          go_simp
          try with_reducible rfl
        try simp only [Act.put, List.getElem_toArray, List.getElem_cons_zero, List.getElem_cons_succ, List.setIfInBounds_toArray, List.set_cons_zero, List.set_cons_succ]
        refine wpAnyH_ready (rs := [7]) (by kernel_rfl) (by simp) ?_
        refine AllReadyH.cons rfl (fun K_ hK => ?_) ?_
        · rw [if_pos (by rfl)]
          refine wp_fr_at (H3w.out.put_out Hwf.out.out) HFs5.out _ _ rfl rfl f.at_ rfl (fun W2 hf7 o7 => ?_)
          have HFs7 : Hid (FrAt W2 q3 ({ ({ (head3 f) with out := f.out } : Fm) with at_ := f.at_ } : Fm) (headA x)) := Lib.hid hf7
          clear hf7 HFs5
          refine hK.out _ _ (hH1.trans o7) (fun hH2 => ?_)
          clear hK K_
          try simp only [Act.put, List.getElem_toArray, List.getElem_cons_zero, List.getElem_cons_succ, List.setIfInBounds_toArray, List.set_cons_zero, List.set_cons_succ]
          refine wpAnyH_done (by kernel_rfl) ?_ _
          have HOz := Lib.hid ((Only.refl [q3] w4).trans hH2)
          clear hH2
          have hb : bare f = ({ ({ (head3 f) with out := f.out } : Fm) with at_ := f.at_ } : Fm) := by unfold bare head3; rw [← Hkd.out]; simp only [show ¬ ((6 : Int) = 1) by omega, show ¬ ((6 : Int) = 2) by omega, show ¬ ((6 : Int) = 3) by omega, show ¬ ((6 : Int) = 4) by omega, show ¬ ((6 : Int) = 5) by omega,  if_true, if_false]
          have hx : bareA f x = (headA x) := by unfold bareA headA; rw [← Hkd.out]; simp [Adr.zero]
          have HB := Lib.hid hb
          have HX := Lib.hid hx
          clear hb hx
          go_wp2_with fail
          go_meet
          case rel => exact ⟨by rw [HB.out, HX.out]; exact HFs7.out, HOz.out⟩
        exact AllReadyH.nil
      exact AllReadyH.nil
    have e6 : (kd == 6) = false := by simp [k6]
    by_cases k7 : kd = 7
    · subst k7
      have r200 := HM.out.mani
      have i200 : (Tryd.prog.info? 31).map (·.size) = some ((f.mani x).cells).length := by rw [mani_info, mani_len f x Hwf.out.whole]
      have mund200 := Tryd.underlying31
      go_wp2_with (first
        | (refine wpList_load_mid rfl 31 _ rfl q 200 rfl ((f.mani x).cells) _ r200 mund200 rfl i200 ?_)
        | (refine wpList_fr_mani rfl H3w.out HF.out _ _ rfl rfl (f.mani x) Hwf.out.whole rfl (fun v1 hf1 o1 => ?_)))
      have HO1 := Lib.hid ((Only.refl [q3] w4).trans o1)
      have HF1 : Hid (FrAt v1 q3 ({ (head3 f) with whole := f.whole, size := f.size, parts := f.parts } : Fm) ({ (headA x) with PA := x.PA, pc := x.pc } : Adr)) := Lib.hid hf1
      have HM1 := Lib.hid (HM.out.only HO1.out lq nq)
      clear o1 hf1
      clear r200
      have hb : bare f = ({ (head3 f) with whole := f.whole, size := f.size, parts := f.parts } : Fm) := by unfold bare head3; rw [← Hkd.out]; simp only [show ¬ ((7 : Int) = 1) by omega, show ¬ ((7 : Int) = 2) by omega, show ¬ ((7 : Int) = 3) by omega, show ¬ ((7 : Int) = 4) by omega, show ¬ ((7 : Int) = 5) by omega, show ¬ ((7 : Int) = 6) by omega,  if_true, if_false]
      have hx : bareA f x = ({ (headA x) with PA := x.PA, pc := x.pc } : Adr) := by unfold bareA headA; rw [← Hkd.out]; simp [Adr.zero]
      have HB := Lib.hid hb
      have HX := Lib.hid hx
      clear hb hx
      go_wp2_with fail
      go_meet
      case rel => exact ⟨by rw [HB.out, HX.out]; exact HF1.out, HO1.out⟩
    have e7 : (kd == 7) = false := by simp [k7]
    by_cases k8 : kd = 8
    · subst k8
      go_upto_region 20 with fail
      have r102 := HM.out.out
      have i102 : (Tryd.prog.info? 23).map (·.size) = some (byV f.out).length := by rw [dig_info, byV_length, Hwf.out.out]
      have dund102 := Tryd.underlying23
      have r134 := HM.out.at_
      have r135 := HM.out.data
      have lqw : q < w4.heap.size := Nat.lt_of_lt_of_le lq (Only.refl [q3] w4).size
      refine wp_region_held_drew (S := Only [q3] w4) (by kernel_rfl) ((Only.refl [q3] w4).drew) (fun hH0 => ?_)
      obtain ⟨W0, hW0⟩ : ∃ W, W = w4.drew := ⟨_, rfl⟩
      have HFd : Hid (FrAt W0 q3 ((head3 f)) ((headA x))) := Lib.hid (by rw [hW0]; exact HF.out)
      rw [← hW0] at hH0 ⊢
      clear hW0
      refine wpAnyH_take (i := 0) (v := ?_) rfl (by kernel_rfl) (by kernel_rfl) (by kernel_rfl) (fun _ _ _ h => h) (Or.inl ⟨by kernel_rfl, ?_⟩) hH0 ?_
      rotate_left 1
      · intro w hSw
        go_simp
        try with_reducible rfl
      try simp only [Act.put, List.getElem_toArray, List.getElem_cons_zero, List.getElem_cons_succ, List.setIfInBounds_toArray, List.set_cons_zero, List.set_cons_succ]
      refine wpAnyH_take (i := 1) (v := _) rfl (by kernel_rfl) (by kernel_rfl) (by kernel_rfl) (fun _ _ _ h => h) (yieldsIf_load_mid (by kernel_rfl) _ _ rfl _ _ rfl (byV f.out) _ (fun W hW => range_onlyX r102 hW lqw nq) dund102 rfl i102) hH0 ?_
      try simp only [Act.put, List.getElem_toArray, List.getElem_cons_zero, List.getElem_cons_succ, List.setIfInBounds_toArray, List.set_cons_zero, List.set_cons_succ]
      refine wpAnyH_take (i := 2) (v := ?_) rfl (by kernel_rfl) (by kernel_rfl) (by kernel_rfl) (fun _ _ _ h => h) (Or.inl ⟨by kernel_rfl, ?_⟩) hH0 ?_
      rotate_left 1
      · intro w hSw
        go_simp
        try with_reducible rfl
      try simp only [Act.put, List.getElem_toArray, List.getElem_cons_zero, List.getElem_cons_succ, List.setIfInBounds_toArray, List.set_cons_zero, List.set_cons_succ]
      refine wpAnyH_take (i := 3) (v := ?_) rfl (by kernel_rfl) (by kernel_rfl) (by kernel_rfl) (fun _ _ _ h => h) (Or.inl ⟨by kernel_rfl, ?_⟩) hH0 ?_
      rotate_left 1
      · intro w hSw
        have f0 := (hSw.cell (p := ⟨q, 134, none⟩) lqw nq).trans r134
        have f1 := (hSw.cell (p := ⟨q, 135, none⟩) lqw nq).trans r135
        go_simp
        try with_reducible rfl
      try simp only [Act.put, List.getElem_toArray, List.getElem_cons_zero, List.getElem_cons_succ, List.setIfInBounds_toArray, List.set_cons_zero, List.set_cons_succ]
      refine wpAnyH_take (i := 4) (v := ?_) rfl (by kernel_rfl) (by kernel_rfl) (by kernel_rfl) (fun _ _ _ h => h) (Or.inl ⟨by kernel_rfl, ?_⟩) hH0 ?_
      rotate_left 1
      · intro w hSw
        go_simp
        try with_reducible rfl
      try simp only [Act.put, List.getElem_toArray, List.getElem_cons_zero, List.getElem_cons_succ, List.setIfInBounds_toArray, List.set_cons_zero, List.set_cons_succ]
      refine wpAnyH_take (i := 5) (v := ?_) rfl (by kernel_rfl) (by kernel_rfl) (by kernel_rfl) (fun _ _ _ h => h) (Or.inl ⟨by kernel_rfl, ?_⟩) hH0 ?_
      rotate_left 1
      · intro w hSw
        have f0 := (hSw.cell (p := ⟨q, 134, none⟩) lqw nq).trans r134
        have f1 := (hSw.cell (p := ⟨q, 135, none⟩) lqw nq).trans r135
        go_simp
        try with_reducible rfl
      try simp only [Act.put, List.getElem_toArray, List.getElem_cons_zero, List.getElem_cons_succ, List.setIfInBounds_toArray, List.set_cons_zero, List.set_cons_succ]
      refine wpAnyH_take (i := 6) (v := ?_) rfl (by kernel_rfl) (by kernel_rfl) (by kernel_rfl) (fun _ _ _ h => h) (Or.inl ⟨by kernel_rfl, ?_⟩) hH0 ?_
      rotate_left 1
      · intro w hSw
        go_simp
        try with_reducible rfl
      try simp only [Act.put, List.getElem_toArray, List.getElem_cons_zero, List.getElem_cons_succ, List.setIfInBounds_toArray, List.set_cons_zero, List.set_cons_succ]
      refine wpAnyH_ready (rs := [7]) (by kernel_rfl) (by simp) ?_
      refine AllReadyH.cons rfl (fun K_ hK => ?_) ?_
      · rw [if_pos (by rfl)]
        refine wp_fr_out H3w.out HFd.out _ _ rfl rfl f.out Hwf.out.out rfl (fun W1 hf7 o7 => ?_)
        have HFs7 : Hid (FrAt W1 q3 ({ (head3 f) with out := f.out } : Fm) (headA x)) := Lib.hid hf7
        clear hf7 HFd
        refine hK.out _ _ (hH0.trans o7) (fun hH1 => ?_)
        clear hK K_
        try simp only [Act.put, List.getElem_toArray, List.getElem_cons_zero, List.getElem_cons_succ, List.setIfInBounds_toArray, List.set_cons_zero, List.set_cons_succ]
        refine wpAnyH_take (i := 8) (v := ?_) rfl (by kernel_rfl) (by kernel_rfl) (by kernel_rfl) (fun _ _ _ h => h) (Or.inl ⟨by kernel_rfl, ?_⟩) hH1 ?_
        rotate_left 1
        · intro w hSw
          go_simp
          try with_reducible rfl
        try simp only [Act.put, List.getElem_toArray, List.getElem_cons_zero, List.getElem_cons_succ, List.setIfInBounds_toArray, List.set_cons_zero, List.set_cons_succ]
        refine wpAnyH_ready (rs := [9]) (by kernel_rfl) (by simp) ?_
        refine AllReadyH.cons rfl (fun K_ hK => ?_) ?_
        · rw [if_pos (by rfl)]
          refine wp_fr_at (H3w.out.put_out Hwf.out.out) HFs7.out _ _ rfl rfl f.at_ rfl (fun W2 hf9 o9 => ?_)
          have HFs9 : Hid (FrAt W2 q3 ({ ({ (head3 f) with out := f.out } : Fm) with at_ := f.at_ } : Fm) (headA x)) := Lib.hid hf9
          clear hf9 HFs7
          refine hK.out _ _ (hH1.trans o9) (fun hH2 => ?_)
          clear hK K_
          try simp only [Act.put, List.getElem_toArray, List.getElem_cons_zero, List.getElem_cons_succ, List.setIfInBounds_toArray, List.set_cons_zero, List.set_cons_succ]
          refine wpAnyH_take (i := 10) (v := ?_) rfl (by kernel_rfl) (by kernel_rfl) (by kernel_rfl) (fun _ _ _ h => h) (Or.inl ⟨by kernel_rfl, ?_⟩) hH2 ?_
          rotate_left 1
          · intro w hSw
            go_simp
            try with_reducible rfl
          try simp only [Act.put, List.getElem_toArray, List.getElem_cons_zero, List.getElem_cons_succ, List.setIfInBounds_toArray, List.set_cons_zero, List.set_cons_succ]
          refine wpAnyH_ready (rs := [11]) (by kernel_rfl) (by simp) ?_
          refine AllReadyH.cons rfl (fun K_ hK => ?_) ?_
          · rw [if_pos (by rfl)]
            refine wp_fr_data ((H3w.out.put_out Hwf.out.out).put_at Hwf.out.at_) HFs9.out _ _ rfl rfl f.data rfl (fun W3 hf11 o11 => ?_)
            have HFs11 : Hid (FrAt W3 q3 ({ ({ ({ (head3 f) with out := f.out } : Fm) with at_ := f.at_ } : Fm) with data := f.data } : Fm) (headA x)) := Lib.hid hf11
            clear hf11 HFs9
            refine hK.out _ _ (hH2.trans o11) (fun hH3 => ?_)
            clear hK K_
            try simp only [Act.put, List.getElem_toArray, List.getElem_cons_zero, List.getElem_cons_succ, List.setIfInBounds_toArray, List.set_cons_zero, List.set_cons_succ]
            refine wpAnyH_done (by kernel_rfl) ?_ _
            have HOz := Lib.hid ((Only.refl [q3] w4).trans hH3)
            clear hH3
            have hb : bare f = ({ ({ ({ (head3 f) with out := f.out } : Fm) with at_ := f.at_ } : Fm) with data := f.data } : Fm) := by unfold bare head3; rw [← Hkd.out]; simp only [show ¬ ((8 : Int) = 1) by omega, show ¬ ((8 : Int) = 2) by omega, show ¬ ((8 : Int) = 3) by omega, show ¬ ((8 : Int) = 4) by omega, show ¬ ((8 : Int) = 5) by omega, show ¬ ((8 : Int) = 6) by omega, show ¬ ((8 : Int) = 7) by omega,  if_true, if_false]
            have hx : bareA f x = (headA x) := by unfold bareA headA; rw [← Hkd.out]; simp [Adr.zero]
            have HB := Lib.hid hb
            have HX := Lib.hid hx
            clear hb hx
            go_wp2_with fail
            go_meet
            case rel => exact ⟨by rw [HB.out, HX.out]; exact HFs11.out, HOz.out⟩
          exact AllReadyH.nil
        exact AllReadyH.nil
      exact AllReadyH.nil
    have e8 : (kd == 8) = false := by simp [k8]
    by_cases k9 : kd = 9
    · subst k9
      have r234 := HM.out.rngs
      go_wp2_with (first
        | (refine wpList_fr_rngs rfl H3w.out HF.out _ _ rfl rfl f.rngs x.RA x.rc rfl (fun v1 hf1 o1 => ?_)))
      have HO1 := Lib.hid ((Only.refl [q3] w4).trans o1)
      have HF1 : Hid (FrAt v1 q3 ({ (head3 f) with rngs := f.rngs } : Fm) ({ (headA x) with RA := x.RA, rc := x.rc } : Adr)) := Lib.hid hf1
      have HM1 := Lib.hid (HM.out.only HO1.out lq nq)
      clear o1 hf1
      clear r234
      have hb : bare f = ({ (head3 f) with rngs := f.rngs } : Fm) := by unfold bare head3; rw [← Hkd.out]; simp only [show ¬ ((9 : Int) = 1) by omega, show ¬ ((9 : Int) = 2) by omega, show ¬ ((9 : Int) = 3) by omega, show ¬ ((9 : Int) = 4) by omega, show ¬ ((9 : Int) = 5) by omega, show ¬ ((9 : Int) = 6) by omega, show ¬ ((9 : Int) = 7) by omega, show ¬ ((9 : Int) = 8) by omega,  if_true, if_false]
      have hx : bareA f x = ({ (headA x) with RA := x.RA, rc := x.rc } : Adr) := by unfold bareA headA; rw [← Hkd.out]; simp [Adr.zero]
      have HB := Lib.hid hb
      have HX := Lib.hid hx
      clear hb hx
      go_wp2_with fail
      go_meet
      case rel => exact ⟨by rw [HB.out, HX.out]; exact HF1.out, HO1.out⟩
    have e9 : (kd == 9) = false := by simp [k9]
    by_cases k10 : kd = 10
    · subst k10
      go_upto_region 24 with fail
      have r235 := HM.out.items
      have r234 := HM.out.rngs
      have lqw : q < w4.heap.size := Nat.lt_of_lt_of_le lq (Only.refl [q3] w4).size
      refine wp_region_held_drew (S := Only [q3] w4) (by kernel_rfl) ((Only.refl [q3] w4).drew) (fun hH0 => ?_)
      obtain ⟨W0, hW0⟩ : ∃ W, W = w4.drew := ⟨_, rfl⟩
      have HFd : Hid (FrAt W0 q3 ((head3 f)) ((headA x))) := Lib.hid (by rw [hW0]; exact HF.out)
      rw [← hW0] at hH0 ⊢
      clear hW0
      refine wpAnyH_take (i := 0) (v := ?_) rfl (by kernel_rfl) (by kernel_rfl) (by kernel_rfl) (fun _ _ _ h => h) (Or.inl ⟨by kernel_rfl, ?_⟩) hH0 ?_
      rotate_left 1
      · intro w hSw
        go_simp
        try with_reducible rfl
      try simp only [Act.put, List.getElem_toArray, List.getElem_cons_zero, List.getElem_cons_succ, List.setIfInBounds_toArray, List.set_cons_zero, List.set_cons_succ]
      refine wpAnyH_take (i := 1) (v := ?_) rfl (by kernel_rfl) (by kernel_rfl) (by kernel_rfl) (fun _ _ _ h => h) (Or.inl ⟨by kernel_rfl, ?_⟩) hH0 ?_
      rotate_left 1
      · intro w hSw
        have f0 := (hSw.cell (p := ⟨q, 235, none⟩) lqw nq).trans r235
        have f1 := (hSw.cell (p := ⟨q, 234, none⟩) lqw nq).trans r234
        go_simp
        try with_reducible rfl
      try simp only [Act.put, List.getElem_toArray, List.getElem_cons_zero, List.getElem_cons_succ, List.setIfInBounds_toArray, List.set_cons_zero, List.set_cons_succ]
      refine wpAnyH_take (i := 2) (v := ?_) rfl (by kernel_rfl) (by kernel_rfl) (by kernel_rfl) (fun _ _ _ h => h) (Or.inl ⟨by kernel_rfl, ?_⟩) hH0 ?_
      rotate_left 1
      · intro w hSw
        go_simp
        try with_reducible rfl
      try simp only [Act.put, List.getElem_toArray, List.getElem_cons_zero, List.getElem_cons_succ, List.setIfInBounds_toArray, List.set_cons_zero, List.set_cons_succ]
      refine wpAnyH_take (i := 3) (v := ?_) rfl (by kernel_rfl) (by kernel_rfl) (by kernel_rfl) (fun _ _ _ h => h) (Or.inl ⟨by kernel_rfl, ?_⟩) hH0 ?_
      rotate_left 1
      · intro w hSw
        have f0 := (hSw.cell (p := ⟨q, 235, none⟩) lqw nq).trans r235
        have f1 := (hSw.cell (p := ⟨q, 234, none⟩) lqw nq).trans r234
        go_simp
        try with_reducible rfl
      try simp only [Act.put, List.getElem_toArray, List.getElem_cons_zero, List.getElem_cons_succ, List.setIfInBounds_toArray, List.set_cons_zero, List.set_cons_succ]
      refine wpAnyH_take (i := 4) (v := ?_) rfl (by kernel_rfl) (by kernel_rfl) (by kernel_rfl) (fun _ _ _ h => h) (Or.inl ⟨by kernel_rfl, ?_⟩) hH0 ?_
      rotate_left 1
      · intro w hSw
        go_simp
        try with_reducible rfl
      try simp only [Act.put, List.getElem_toArray, List.getElem_cons_zero, List.getElem_cons_succ, List.setIfInBounds_toArray, List.set_cons_zero, List.set_cons_succ]
      refine wpAnyH_ready (rs := [5]) (by kernel_rfl) (by simp) ?_
      refine AllReadyH.cons rfl (fun K_ hK => ?_) ?_
      · rw [if_pos (by rfl)]
        refine wp_fr_items H3w.out HFd.out _ _ rfl rfl f.items x.IA x.ic rfl (fun W1 hf5 o5 => ?_)
        have HFs5 : Hid (FrAt W1 q3 ({ (head3 f) with items := f.items } : Fm) ({ (headA x) with IA := x.IA, ic := x.ic } : Adr)) := Lib.hid hf5
        clear hf5 HFd
        refine hK.out _ _ (hH0.trans o5) (fun hH1 => ?_)
        clear hK K_
        try simp only [Act.put, List.getElem_toArray, List.getElem_cons_zero, List.getElem_cons_succ, List.setIfInBounds_toArray, List.set_cons_zero, List.set_cons_succ]
        refine wpAnyH_take (i := 6) (v := ?_) rfl (by kernel_rfl) (by kernel_rfl) (by kernel_rfl) (fun _ _ _ h => h) (Or.inl ⟨by kernel_rfl, ?_⟩) hH1 ?_
        rotate_left 1
        · intro w hSw
          go_simp
          try with_reducible rfl
        try simp only [Act.put, List.getElem_toArray, List.getElem_cons_zero, List.getElem_cons_succ, List.setIfInBounds_toArray, List.set_cons_zero, List.set_cons_succ]
        refine wpAnyH_ready (rs := [7]) (by kernel_rfl) (by simp) ?_
        refine AllReadyH.cons rfl (fun K_ hK => ?_) ?_
        · rw [if_pos (by rfl)]
          refine wp_fr_rngs (H3w.out.put_items Hwf.out.items Hwf.out.ni) HFs5.out _ _ rfl rfl f.rngs x.RA x.rc rfl (fun W2 hf7 o7 => ?_)
          have HFs7 : Hid (FrAt W2 q3 ({ ({ (head3 f) with items := f.items } : Fm) with rngs := f.rngs } : Fm) ({ ({ (headA x) with IA := x.IA, ic := x.ic } : Adr) with RA := x.RA, rc := x.rc } : Adr)) := Lib.hid hf7
          clear hf7 HFs5
          refine hK.out _ _ (hH1.trans o7) (fun hH2 => ?_)
          clear hK K_
          try simp only [Act.put, List.getElem_toArray, List.getElem_cons_zero, List.getElem_cons_succ, List.setIfInBounds_toArray, List.set_cons_zero, List.set_cons_succ]
          refine wpAnyH_done (by kernel_rfl) ?_ _
          have HOz := Lib.hid ((Only.refl [q3] w4).trans hH2)
          clear hH2
          have hb : bare f = ({ ({ (head3 f) with items := f.items } : Fm) with rngs := f.rngs } : Fm) := by unfold bare head3; rw [← Hkd.out]; simp only [show ¬ ((10 : Int) = 1) by omega, show ¬ ((10 : Int) = 2) by omega, show ¬ ((10 : Int) = 3) by omega, show ¬ ((10 : Int) = 4) by omega, show ¬ ((10 : Int) = 5) by omega, show ¬ ((10 : Int) = 6) by omega, show ¬ ((10 : Int) = 7) by omega, show ¬ ((10 : Int) = 8) by omega, show ¬ ((10 : Int) = 9) by omega,  if_true, if_false]
          have hx : bareA f x = ({ ({ (headA x) with IA := x.IA, ic := x.ic } : Adr) with RA := x.RA, rc := x.rc } : Adr) := by unfold bareA headA; rw [← Hkd.out]; simp [Adr.zero]
          have HB := Lib.hid hb
          have HX := Lib.hid hx
          clear hb hx
          go_wp2_with fail
          go_meet
          case rel => exact ⟨by rw [HB.out, HX.out]; exact HFs7.out, HOz.out⟩
        exact AllReadyH.nil
      exact AllReadyH.nil
    have e10 : (kd == 10) = false := by simp [k10]
    by_cases k5 : kd = 5
    · subst k5
      go_upto_region 12 with fail
      have r4 := HM.out.key
      have i4 : (Tryd.prog.info? 23).map (·.size) = some (byV f.key).length := by rw [dig_info, byV_length, Hwf.out.key]
      have dund4 := Tryd.underlying23
      have r36 := HM.out.found
      have lqw : q < w4.heap.size := lq
      refine wp_region_held_drew (S := Only [q3] w4) (by kernel_rfl) ((Only.refl [q3] w4).drew) (fun hH0 => ?_)
      obtain ⟨W0, hW0⟩ : ∃ W, W = w4.drew := ⟨_, rfl⟩
      have HFd : Hid (FrAt W0 q3 (head3 f) (headA x)) := Lib.hid (by rw [hW0]; exact HF.out)
      rw [← hW0] at hH0 ⊢
      clear hW0
      refine wpAnyH_take (i := 0) (v := ?_) rfl (by kernel_rfl) (by kernel_rfl) (by kernel_rfl) (fun _ _ _ h => h) (Or.inl ⟨by kernel_rfl, ?_⟩) hH0 ?_
      rotate_left 1
      · intro w hSw
        go_simp
        try with_reducible rfl
      try simp only [Act.put, List.getElem_toArray, List.getElem_cons_zero, List.getElem_cons_succ, List.setIfInBounds_toArray, List.set_cons_zero, List.set_cons_succ]
      refine wpAnyH_take (i := 1) (v := _) rfl (by kernel_rfl) (by kernel_rfl) (by kernel_rfl) (fun _ _ _ h => h) (yieldsIf_load_mid (by kernel_rfl) _ _ rfl _ _ rfl (byV f.key) _ (fun W hW => range_onlyX r4 hW lqw nq) dund4 rfl i4) hH0 ?_
      try simp only [Act.put, List.getElem_toArray, List.getElem_cons_zero, List.getElem_cons_succ, List.setIfInBounds_toArray, List.set_cons_zero, List.set_cons_succ]
      refine wpAnyH_take (i := 2) (v := ?_) rfl (by kernel_rfl) (by kernel_rfl) (by kernel_rfl) (fun _ _ _ h => h) (Or.inl ⟨by kernel_rfl, ?_⟩) hH0 ?_
      rotate_left 1
      · intro w hSw
        go_simp
        try with_reducible rfl
      try simp only [Act.put, List.getElem_toArray, List.getElem_cons_zero, List.getElem_cons_succ, List.setIfInBounds_toArray, List.set_cons_zero, List.set_cons_succ]
      refine wpAnyH_take (i := 3) (v := ?_) rfl (by kernel_rfl) (by kernel_rfl) (by kernel_rfl) (fun _ _ _ h => h) (Or.inl ⟨by kernel_rfl, ?_⟩) hH0 ?_
      rotate_left 1
      · intro w hSw
        have f0 := (hSw.cell (p := ⟨q, 36, none⟩) lqw nq).trans r36
        go_simp
        try with_reducible rfl
      try simp only [Act.put, List.getElem_toArray, List.getElem_cons_zero, List.getElem_cons_succ, List.setIfInBounds_toArray, List.set_cons_zero, List.set_cons_succ]
      refine wpAnyH_take (i := 4) (v := ?_) rfl (by kernel_rfl) (by kernel_rfl) (by kernel_rfl) (fun _ _ _ h => h) (Or.inl ⟨by kernel_rfl, ?_⟩) hH0 ?_
      rotate_left 1
      · intro w hSw
        go_simp
        try with_reducible rfl
      try simp only [Act.put, List.getElem_toArray, List.getElem_cons_zero, List.getElem_cons_succ, List.setIfInBounds_toArray, List.set_cons_zero, List.set_cons_succ]
      refine wpAnyH_ready (rs := [5]) (by kernel_rfl) (by simp) ?_
      refine AllReadyH.cons rfl (fun K_ hK => ?_) ?_
      · rw [if_pos (by rfl)]
        refine wp_fr_key H3w.out HFd.out _ _ rfl rfl f.key Hwf.out.key rfl (fun W1 hf5 o5 => ?_)
        have HFs5 : Hid (FrAt W1 q3 ({ (head3 f) with key := f.key } : Fm) (headA x)) := Lib.hid hf5
        clear hf5 HFd
        refine hK.out _ _ (hH0.trans o5) (fun hH1 => ?_)
        clear hK K_
        try simp only [Act.put, List.getElem_toArray, List.getElem_cons_zero, List.getElem_cons_succ, List.setIfInBounds_toArray, List.set_cons_zero, List.set_cons_succ]
        refine wpAnyH_take (i := 6) (v := ?_) rfl (by kernel_rfl) (by kernel_rfl) (by kernel_rfl) (fun _ _ _ h => h) (Or.inl ⟨by kernel_rfl, ?_⟩) hH1 ?_
        rotate_left 1
        · intro w hSw
          go_simp
          try with_reducible rfl
        try simp only [Act.put, List.getElem_toArray, List.getElem_cons_zero, List.getElem_cons_succ, List.setIfInBounds_toArray, List.set_cons_zero, List.set_cons_succ]
        refine wpAnyH_ready (rs := [7]) (by kernel_rfl) (by simp) ?_
        refine AllReadyH.cons rfl (fun K_ hK => ?_) ?_
        · rw [if_pos (by rfl)]
          refine wp_fr_found (H3w.out.put_key Hwf.out.key) HFs5.out _ _ rfl rfl f.found rfl (fun W2 hf7 o7 => ?_)
          obtain ⟨v2, hv2⟩ : ∃ v, v = W2 := ⟨_, rfl⟩
          have HF2 : Hid (FrAt v2 q3 ({ ({ (head3 f) with key := f.key } : Fm) with found := f.found } : Fm) (headA x)) := Lib.hid (by rw [hv2]; exact hf7)
          have Hv2 := Lib.hid hv2
          clear hf7 HFs5 hv2
          refine hK.out _ _ (hH1.trans o7) (fun hH2 => ?_)
          clear hK K_
          try simp only [Act.put, List.getElem_toArray, List.getElem_cons_zero, List.getElem_cons_succ, List.setIfInBounds_toArray, List.set_cons_zero, List.set_cons_succ]
          refine wpAnyH_done (by kernel_rfl) ?_ _
          have HO2 : Hid (Only [q3] w4 v2) := Lib.hid (by rw [Hv2.out]; exact hH2)
          rw [← Hv2.out]
          clear hH2 r4 r36
          have HM2 := Lib.hid (HM.out.only HO2.out lq nq)
          have c36 := HM2.out.found
          obtain ⟨fd, hfd⟩ : ∃ b, b = f.found := ⟨_, rfl⟩
          rw [← hfd] at c36
          have Hfd := Lib.hid hfd
          clear hfd
          cases fd with
          | false =>
            have hb : bare f = ({ ({ (head3 f) with key := f.key } : Fm) with found := f.found } : Fm) := by unfold bare head3; rw [← Hkd.out]; simp only [show ¬ ((5 : Int) = 1) by omega, show ¬ ((5 : Int) = 2) by omega, show ¬ ((5 : Int) = 3) by omega, show ¬ ((5 : Int) = 4) by omega, if_true, if_false]; rw [if_neg (by rw [← Hfd.out]; simp)]
            have hx : bareA f x = headA x := by unfold bareA headA; rw [← Hkd.out]; simp [Adr.zero]
            have HB := Lib.hid hb
            have HX := Lib.hid hx
            clear hb hx
            go_wp2_with fail
            go_meet
            case rel => exact ⟨by rw [HB.out, HX.out]; exact HF2.out, HO2.out⟩
          | true =>
            go_upto_region 14 with fail
            have r3 := HM2.out.node
            have r37 := HM2.out.rcd
            have i37 : (Tryd.prog.info? 26).map (·.size) = some (f.rcd.cells).length := by rw [rc_info, Rc.len Hwf.out.rcd]
            have rund37 := Tryd.underlying26
            have lqv : q < v2.heap.size := Nat.lt_of_lt_of_le lq HO2.out.size
            refine wp_region_held_drew (S := Only [q3] v2) (by kernel_rfl) ((Only.refl [q3] v2).drew) (fun hH0 => ?_)
            obtain ⟨W0, hW0⟩ : ∃ W, W = v2.drew := ⟨_, rfl⟩
            have HFd : Hid (FrAt W0 q3 ({ ({ (head3 f) with key := f.key } : Fm) with found := f.found } : Fm) (headA x)) := Lib.hid (by rw [hW0]; exact HF2.out)
            rw [← hW0] at hH0 ⊢
            clear hW0
            refine wpAnyH_take (i := 0) (v := ?_) rfl (by kernel_rfl) (by kernel_rfl) (by kernel_rfl) (fun _ _ _ h => h) (Or.inl ⟨by kernel_rfl, ?_⟩) hH0 ?_
            rotate_left 1
            · intro w hSw
              go_simp
              try with_reducible rfl
            try simp only [Act.put, List.getElem_toArray, List.getElem_cons_zero, List.getElem_cons_succ, List.setIfInBounds_toArray, List.set_cons_zero, List.set_cons_succ]
            refine wpAnyH_take (i := 1) (v := ?_) rfl (by kernel_rfl) (by kernel_rfl) (by kernel_rfl) (fun _ _ _ h => h) (Or.inl ⟨by kernel_rfl, ?_⟩) hH0 ?_
            rotate_left 1
            · intro w hSw
              have f0 := (hSw.cell (p := ⟨q, 3, none⟩) lqv nq).trans r3
              go_simp
              try with_reducible rfl
            try simp only [Act.put, List.getElem_toArray, List.getElem_cons_zero, List.getElem_cons_succ, List.setIfInBounds_toArray, List.set_cons_zero, List.set_cons_succ]
            refine wpAnyH_take (i := 2) (v := ?_) rfl (by kernel_rfl) (by kernel_rfl) (by kernel_rfl) (fun _ _ _ h => h) (Or.inl ⟨by kernel_rfl, ?_⟩) hH0 ?_
            rotate_left 1
            · intro w hSw
              go_simp
              try with_reducible rfl
            try simp only [Act.put, List.getElem_toArray, List.getElem_cons_zero, List.getElem_cons_succ, List.setIfInBounds_toArray, List.set_cons_zero, List.set_cons_succ]
            refine wpAnyH_take (i := 3) (v := _) rfl (by kernel_rfl) (by kernel_rfl) (by kernel_rfl) (fun _ _ _ h => h) (yieldsIf_load_mid (by kernel_rfl) _ _ rfl _ _ rfl (f.rcd.cells) _ (fun W hW => range_onlyX r37 hW lqv nq) rund37 rfl i37) hH0 ?_
            try simp only [Act.put, List.getElem_toArray, List.getElem_cons_zero, List.getElem_cons_succ, List.setIfInBounds_toArray, List.set_cons_zero, List.set_cons_succ]
            refine wpAnyH_take (i := 4) (v := ?_) rfl (by kernel_rfl) (by kernel_rfl) (by kernel_rfl) (fun _ _ _ h => h) (Or.inl ⟨by kernel_rfl, ?_⟩) hH0 ?_
            rotate_left 1
            · intro w hSw
              go_simp
              try with_reducible rfl
            try simp only [Act.put, List.getElem_toArray, List.getElem_cons_zero, List.getElem_cons_succ, List.setIfInBounds_toArray, List.set_cons_zero, List.set_cons_succ]
            refine wpAnyH_ready (rs := [5]) (by kernel_rfl) (by simp) ?_
            refine AllReadyH.cons rfl (fun K_ hK => ?_) ?_
            · rw [if_pos (by rfl)]
              refine wp_fr_node ((H3w.out.put_key Hwf.out.key).put_found (b := f.found)) HFd.out _ _ rfl rfl f.node rfl (fun W1 hf5 o5 => ?_)
              have HFs5 : Hid (FrAt W1 q3 ({ ({ ({ (head3 f) with key := f.key } : Fm) with found := f.found } : Fm) with node := f.node } : Fm) (headA x)) := Lib.hid hf5
              clear hf5 HFd
              refine hK.out _ _ (hH0.trans o5) (fun hH1 => ?_)
              clear hK K_
              try simp only [Act.put, List.getElem_toArray, List.getElem_cons_zero, List.getElem_cons_succ, List.setIfInBounds_toArray, List.set_cons_zero, List.set_cons_succ]
              refine wpAnyH_take (i := 6) (v := ?_) rfl (by kernel_rfl) (by kernel_rfl) (by kernel_rfl) (fun _ _ _ h => h) (Or.inl ⟨by kernel_rfl, ?_⟩) hH1 ?_
              rotate_left 1
              · intro w hSw
                go_simp
                try with_reducible rfl
              try simp only [Act.put, List.getElem_toArray, List.getElem_cons_zero, List.getElem_cons_succ, List.setIfInBounds_toArray, List.set_cons_zero, List.set_cons_succ]
              refine wpAnyH_ready (rs := [7]) (by kernel_rfl) (by simp) ?_
              refine AllReadyH.cons rfl (fun K_ hK => ?_) ?_
              · rw [if_pos (by rfl)]
                refine wp_fr_rcd (((H3w.out.put_key Hwf.out.key).put_found (b := f.found)).put_node Hwf.out.node) HFs5.out _ _ rfl rfl f.rcd Hwf.out.rcd rfl (fun W2 hf7 o7 => ?_)
                have HFs7 : Hid (FrAt W2 q3 ({ ({ ({ ({ (head3 f) with key := f.key } : Fm) with found := f.found } : Fm) with node := f.node } : Fm) with rcd := f.rcd } : Fm) (headA x)) := Lib.hid hf7
                clear hf7 HFs5
                refine hK.out _ _ (hH1.trans o7) (fun hH2 => ?_)
                clear hK K_
                try simp only [Act.put, List.getElem_toArray, List.getElem_cons_zero, List.getElem_cons_succ, List.setIfInBounds_toArray, List.set_cons_zero, List.set_cons_succ]
                refine wpAnyH_done (by kernel_rfl) ?_ _
                have HOz := Lib.hid (HO2.out.trans hH2)
                clear hH2
                have hb : bare f = ({ ({ ({ ({ (head3 f) with key := f.key } : Fm) with found := f.found } : Fm) with node := f.node } : Fm) with rcd := f.rcd } : Fm) := by unfold bare head3; rw [← Hkd.out]; simp only [show ¬ ((5 : Int) = 1) by omega, show ¬ ((5 : Int) = 2) by omega, show ¬ ((5 : Int) = 3) by omega, show ¬ ((5 : Int) = 4) by omega, if_true, if_false]; rw [if_pos Hfd.out.symm]
                have hx : bareA f x = headA x := by unfold bareA headA; rw [← Hkd.out]; simp [Adr.zero]
                have HB := Lib.hid hb
                have HX := Lib.hid hx
                clear hb hx
                go_wp2_with fail
                go_meet
                case rel => exact ⟨by rw [HB.out, HX.out]; exact HFs7.out, HOz.out⟩
              exact AllReadyH.nil
            exact AllReadyH.nil
        exact AllReadyH.nil
      exact AllReadyH.nil
    have e5 : (kd == 5) = false := by simp [k5]
    have hb : bare f = head3 f := by unfold bare head3; rw [← Hkd.out, if_neg k1, if_neg k2, if_neg k3, if_neg k4, if_neg k5, if_neg k6, if_neg k7, if_neg k8, if_neg k9, if_neg k10]
    have hx : bareA f x = headA x := by unfold bareA headA; rw [← Hkd.out]; simp [Adr.zero, k7, k9, k10]
    have HB := Lib.hid hb
    have HX := Lib.hid hx
    clear hb hx k1 k2 k3 k4 k5 k6 k7 k8 k9 k10
    go_wp2_with fail
    go_meet
    case rel => exact ⟨by rw [HB.out, HX.out]; exact HF.out, Only.refl _ _⟩
  obtain ⟨hF, hO⟩ := hcut
  have hbw := Hbw.out
  have NQ := Lib.hid (hO.keep N4.out (by simpa using q32.symm))
  have hif := fm_infoR hbw (bareA f x)
  have hzf : Tryd.zeroCells36.size = ((bare f).cells (bareA f x)).toArray.size := by rw [hzs, List.size_toArray, Fm.len hbw]
  have hof : ((bare f).cells (bareA f x)).toArray.all (·.oneCell') = true := by rw [List.all_toArray]; exact Fm.one _ _
  unfold FrAt at hF
  obtain ⟨D, hD⟩ : ∃ D, D = ((bare f).cells (bareA f x)).toArray := ⟨_, rfl⟩
  rw [← hD] at hF hif hzf hof
  have HFz := Lib.hid hF
  have HOz := Lib.hid hO
  have HD := Lib.hid hD
  have fund := Tryd.underlying36
  clear hF hO hD c0 HM HF
  go_wp2_with (first
    | (refine wpList_load_row rfl 36 _ rfl q3 rfl 36 D (0, 0) _ HFz.out fund rfl hif ?_)
    | (refine wpList_store_row rfl 36 _ _ rfl (q + 1) D rfl rfl 36 _ NQ.out hif hzf hof ?_))
  have HG := Lib.hid (setRow_heap _ (q + 1) _ D _ _ NQ.out)
  (try simp only [Exit.inBlock, Exit.then])
  refine bodyPost_ret (results_cell_row rfl _ _ (q + 1) 36 D (0, 0) _ rfl HG.out fund rfl hif) rfl ?_
  have hB5 := B4.out.trans (HOz.out.below B4.out.size (by simpa using LQ))
  exact ⟨by rw [HD.out], hB5.trans (((Only.refl [q + 1] wc).setRow (g := q + 1) (by simp) D).below hB5.size (by simpa using LQ1))⟩
end Wi
end Go.Proofs.YthcmlbbbbcinkaaDoor

set_option linter.unusedVariables false
set_option linter.unusedSimpArgs false
namespace Go.Proofs.YthcmlbbbbcinkaaDoor
open Go.RowKit Pl
attribute [local go_sem] Lb.ba_get Lb.ba_cut Lb.ba_add Lb.ba_size Lb.take_rest
namespace Wi

theorem range_heap {w : World} {b : Nat} {L : List Value} {T : TypeId} {z : Nat × Nat} (h : w.heap[b]? = some (.cells L.toArray T z)) : w.rangeAt b 0 L := seg_at (pre := []) (post := []) (by simpa using h) rfl
set_option maxHeartbeats 8000000 in
set_option maxRecDepth 100000 in
open Classical in
theorem wgood_any (f : Fm) (x : Adr) (w : World) (hok : FmOk w w.heap.size f x) : Calls Tryd.prog 9 #[.agg (f.cells x).toArray] w fun e w' => e = .returned (.bool (good f)) ∧ Below w.heap.size w w' := by
  have hn1 := heap_alloc_new w (.cells (f.cells x).toArray 36)
  have hb1 := (Below.refl w.heap.size w).alloc (Nat.le_refl _) (.cells (f.cells x).toArray 36)
  have hm1 := fm_mem (x := x) hok.wf hn1
  have c1 := hm1.from_
  have c236 := hm1.mems
  have rL := range_heap hn1
  have lq := heap_lt hn1
  have hok1 := (hok.below hb1 (Nat.le_refl _)).more hb1.size
  have hi : (Tryd.prog.info? 36).map (·.size) = some (f.cells x).length := by rw [fm_info, Fm.len hok.wf]
  obtain ⟨L, hL⟩ : ∃ L, L = f.cells x := ⟨_, rfl⟩
  obtain ⟨w1, hw1⟩ : ∃ y, y = w.alloc (.cells L.toArray 36) := ⟨_, rfl⟩
  obtain ⟨q, hq⟩ : ∃ q, q = w.heap.size := ⟨_, rfl⟩
  obtain ⟨b1, hb1'⟩ : ∃ b, b = isNode f.from_ := ⟨_, rfl⟩
  obtain ⟨b2, hb2'⟩ : ∃ b, b = all f.mems 6 goodMb := ⟨_, rfl⟩
  obtain ⟨b3, hb3'⟩ : ∃ b, b = fits f := ⟨_, rfl⟩
  obtain ⟨b4, hb4'⟩ : ∃ b, b = decide (f = bare f) := ⟨_, rfl⟩
  obtain ⟨res, hres⟩ : ∃ r, r = good f := ⟨_, rfl⟩
  obtain ⟨M, hM⟩ : ∃ L, L = (bare f).cells (bareA f x) := ⟨_, rfl⟩
  obtain ⟨n1, hn1'⟩ : ∃ n, n = f.from_ := ⟨_, rfl⟩
  obtain ⟨nm, hnm⟩ : ∃ n, n = f.mems.length := ⟨_, rfl⟩
  rw [← hL] at hn1 hb1 hm1 c1 c236 rL lq hok1 hi ⊢
  rw [← hw1] at hn1 hb1 hm1 c1 c236 rL lq hok1
  have H1 : ∀ W, Calls Tryd.prog 19 #[.int .i64 n1] W fun e w' => e = .returned (.bool b1) ∧ Below W.heap.size W w' := fun W => by rw [hb1', hn1']; exact (isNode_any f.from_ W).mono (fun e w' (h : _ ∧ _) => ⟨h.1, h.2 ▸ Below.refl _ _⟩)
  have H2 : ∀ W, Below w1.heap.size w1 W → Calls Tryd.prog 20 #[.slice x.MA nm x.mc, .int .i64 6, .func (.func 21) #[] #[]] W fun e w' => e = .returned (.bool b2) ∧ Below W.heap.size W w' := fun W hW => by rw [hb2', hnm]; exact allMb_any x.MA x.mc f.mems 6 W ((hok1.mems.below hW (Nat.le_refl _)).more hW.size) hok1.wf.nm hok1.wf.mems (by omega)
  have H3 : ∀ W, Below w1.heap.size w1 W → Calls Tryd.prog 22 #[.agg L.toArray] W fun e w' => e = .returned (.bool b3) ∧ Below W.heap.size W w' := fun W hW => by rw [hb3', hL]; exact fits_any f x W ((hok1.below hW (Nat.le_refl _)).more hW.size)
  have H4 : ∀ W, Below w1.heap.size w1 W → Calls Tryd.prog 23 #[.agg L.toArray] W fun e w' => e = .returned (.agg M.toArray) ∧ Below W.heap.size W w' := fun W hW => by rw [hM, hL]; exact bare_any f x W ((hok1.below hW (Nat.le_refl _)).more hW.size)
  have H5 : ∀ W, Below w1.heap.size w1 W → Calls Tryd.prog 10 #[.agg L.toArray, .agg M.toArray] W fun e w' => e = .returned (.bool b4) ∧ Below W.heap.size W w' := fun W hW => by rw [hM, hL, hb4']; exact same_any f (bare f) x (bareA f x) W ((hok1.below hW (Nat.le_refl _)).more hW.size) (bare_ok ((hok1.below hW (Nat.le_refl _)).more hW.size))
  have hr : res = (b1 && (b2 && (b3 && b4))) := by rw [hres, hb1', hb2', hb3', hb4']; unfold good; rfl
  rw [← hnm] at c236
  rw [← hn1'] at c1
  rw [← hres]
  rw [← hq] at c1 c236 rL lq
  have Hr := Lib.hid hr
  have HB1 := Lib.hid hb1
  have HH1 := Lib.hid H1
  have HH2 := Lib.hid H2
  have HH3 := Lib.hid H3
  have HH4 := Lib.hid H4
  have HH5 := Lib.hid H5
  have Hw1 := Lib.hid hw1
  have Hq := Lib.hid hq
  have fund := Tryd.underlying36
  clear hn1 hm1 hok1 hok hL hM hb1' hb2' hb3' hb4' hres hr hb1 H1 H2 H3 H4 H5 hn1' hnm hw1 hq
  go_enter Tryd.func9, Tryd.ntmps9
  go_upto_region 1 with fail
  rw [← Hw1.out, ← Hq.out]
  cases b1 with
  | false =>
    have hp : res = false := by rw [Hr.out]; rfl
    subst hp
    refine wp_region_held_drew (S := fun w' => Below w1.heap.size w1 w') (by kernel_rfl) ((Below.refl _ _).drew) (fun hH0 => ?_)
    obtain ⟨W0, hW0⟩ : ∃ W, W = w1.drew := ⟨_, rfl⟩
    rw [← hW0] at hH0 ⊢
    clear hW0
    refine wpAnyH_take (i := 0) (v := ?_) rfl (by kernel_rfl) (by kernel_rfl) (by kernel_rfl) (fun _ _ _ h => h) (Or.inl ⟨by kernel_rfl, ?_⟩) hH0 ?_
    rotate_left 1
    · intro w hSw
      go_simp
      try with_reducible rfl
    try simp only [Act.put, List.getElem_toArray, List.getElem_cons_zero, List.getElem_cons_succ, List.setIfInBounds_toArray, List.set_cons_zero, List.set_cons_succ]
    refine wpAnyH_take (i := 1) (v := ?_) rfl (by kernel_rfl) (by kernel_rfl) (by kernel_rfl) (fun _ _ _ h => h) (Or.inl ⟨by kernel_rfl, ?_⟩) hH0 ?_
    rotate_left 1
    · intro w hSw
      have f0 := (hSw.cell (p := ⟨q, 1, none⟩) lq).trans c1
      have f1 := (hSw.cell (p := ⟨q, 236, none⟩) lq).trans c236
      go_simp
      try with_reducible rfl
    try simp only [Act.put, List.getElem_toArray, List.getElem_cons_zero, List.getElem_cons_succ, List.setIfInBounds_toArray, List.set_cons_zero, List.set_cons_succ]
    refine wpAnyH_ready (rs := [2]) (by kernel_rfl) (by simp) ?_
    refine AllReadyH.cons rfl (fun K_ hK => ?_) ?_
    · go_simp
      refine (HH1.out _).mono ?_
      rintro e W1 ⟨rfl, hb1⟩
      refine hK.out _ _ ((hH0).trans (hb1.mono (hH0).size)) (fun hH1 => ?_)
      clear hK K_
      try simp only [Act.put, List.getElem_toArray, List.getElem_cons_zero, List.getElem_cons_succ, List.setIfInBounds_toArray, List.set_cons_zero, List.set_cons_succ]
      refine wpAnyH_take (i := 3) (v := ?_) rfl (by kernel_rfl) (by kernel_rfl) (by kernel_rfl) (fun _ _ _ h => h) (Or.inl ⟨by kernel_rfl, ?_⟩) hH1 ?_
      rotate_left 1
      · intro w hSw
        go_simp
        try with_reducible rfl
      try simp only [Act.put, List.getElem_toArray, List.getElem_cons_zero, List.getElem_cons_succ, List.setIfInBounds_toArray, List.set_cons_zero, List.set_cons_succ]
      refine wpAnyH_take (i := 4) (v := undef) rfl (by kernel_rfl) (by kernel_rfl) (by kernel_rfl) (fun _ _ _ h => h) (Or.inr ⟨by kernel_rfl, rfl⟩) hH1 ?_
      try simp only [Act.put, List.getElem_toArray, List.getElem_cons_zero, List.getElem_cons_succ, List.setIfInBounds_toArray, List.set_cons_zero, List.set_cons_succ]
      refine wpAnyH_take (i := 5) (v := undef) rfl (by kernel_rfl) (by kernel_rfl) (by kernel_rfl) (fun _ _ _ h => h) (Or.inr ⟨by kernel_rfl, rfl⟩) hH1 ?_
      try simp only [Act.put, List.getElem_toArray, List.getElem_cons_zero, List.getElem_cons_succ, List.setIfInBounds_toArray, List.set_cons_zero, List.set_cons_succ]
      refine wpAnyH_take (i := 6) (v := undef) rfl (by kernel_rfl) (by kernel_rfl) (by kernel_rfl) (fun _ _ _ h => h) (Or.inr ⟨by kernel_rfl, rfl⟩) hH1 ?_
      try simp only [Act.put, List.getElem_toArray, List.getElem_cons_zero, List.getElem_cons_succ, List.setIfInBounds_toArray, List.set_cons_zero, List.set_cons_succ]
      refine wpAnyH_take (i := 7) (v := ?_) rfl (by kernel_rfl) (by kernel_rfl) (by kernel_rfl) (fun _ _ _ h => h) (Or.inl ⟨by kernel_rfl, ?_⟩) hH1 ?_
      rotate_left 1
      · intro w hSw
        go_simp
        try with_reducible rfl
      try simp only [Act.put, List.getElem_toArray, List.getElem_cons_zero, List.getElem_cons_succ, List.setIfInBounds_toArray, List.set_cons_zero, List.set_cons_succ]
      refine wpAnyH_take (i := 8) (v := ?_) rfl (by kernel_rfl) (by kernel_rfl) (by kernel_rfl) (fun _ _ _ h => h) (Or.inl ⟨by kernel_rfl, ?_⟩) hH1 ?_
      rotate_left 1
      · intro w hSw
        go_simp
        try with_reducible rfl
      try simp only [Act.put, List.getElem_toArray, List.getElem_cons_zero, List.getElem_cons_succ, List.setIfInBounds_toArray, List.set_cons_zero, List.set_cons_succ]
      refine wpAnyH_take (i := 9) (v := undef) rfl (by kernel_rfl) (by kernel_rfl) (by kernel_rfl) (fun _ _ _ h => h) (Or.inr ⟨by kernel_rfl, rfl⟩) hH1 ?_
      try simp only [Act.put, List.getElem_toArray, List.getElem_cons_zero, List.getElem_cons_succ, List.setIfInBounds_toArray, List.set_cons_zero, List.set_cons_succ]
      refine wpAnyH_take (i := 10) (v := undef) rfl (by kernel_rfl) (by kernel_rfl) (by kernel_rfl) (fun _ _ _ h => h) (Or.inr ⟨by kernel_rfl, rfl⟩) hH1 ?_
      try simp only [Act.put, List.getElem_toArray, List.getElem_cons_zero, List.getElem_cons_succ, List.setIfInBounds_toArray, List.set_cons_zero, List.set_cons_succ]
      refine wpAnyH_take (i := 11) (v := ?_) rfl (by kernel_rfl) (by kernel_rfl) (by kernel_rfl) (fun _ _ _ h => h) (Or.inl ⟨by kernel_rfl, ?_⟩) hH1 ?_
      rotate_left 1
      · intro w hSw
        go_simp
        try with_reducible rfl
      try simp only [Act.put, List.getElem_toArray, List.getElem_cons_zero, List.getElem_cons_succ, List.setIfInBounds_toArray, List.set_cons_zero, List.set_cons_succ]
      refine wpAnyH_take (i := 12) (v := ?_) rfl (by kernel_rfl) (by kernel_rfl) (by kernel_rfl) (fun _ _ _ h => h) (Or.inl ⟨by kernel_rfl, ?_⟩) hH1 ?_
      rotate_left 1
      · intro w hSw
        go_simp
        try with_reducible rfl
      try simp only [Act.put, List.getElem_toArray, List.getElem_cons_zero, List.getElem_cons_succ, List.setIfInBounds_toArray, List.set_cons_zero, List.set_cons_succ]
      refine wpAnyH_take (i := 13) (v := undef) rfl (by kernel_rfl) (by kernel_rfl) (by kernel_rfl) (fun _ _ _ h => h) (Or.inr ⟨by kernel_rfl, rfl⟩) hH1 ?_
      try simp only [Act.put, List.getElem_toArray, List.getElem_cons_zero, List.getElem_cons_succ, List.setIfInBounds_toArray, List.set_cons_zero, List.set_cons_succ]
      refine wpAnyH_take (i := 14) (v := undef) rfl (by kernel_rfl) (by kernel_rfl) (by kernel_rfl) (fun _ _ _ h => h) (Or.inr ⟨by kernel_rfl, rfl⟩) hH1 ?_
      try simp only [Act.put, List.getElem_toArray, List.getElem_cons_zero, List.getElem_cons_succ, List.setIfInBounds_toArray, List.set_cons_zero, List.set_cons_succ]
      refine wpAnyH_take (i := 15) (v := undef) rfl (by kernel_rfl) (by kernel_rfl) (by kernel_rfl) (fun _ _ _ h => h) (Or.inr ⟨by kernel_rfl, rfl⟩) hH1 ?_
      try simp only [Act.put, List.getElem_toArray, List.getElem_cons_zero, List.getElem_cons_succ, List.setIfInBounds_toArray, List.set_cons_zero, List.set_cons_succ]
      refine wpAnyH_take (i := 16) (v := undef) rfl (by kernel_rfl) (by kernel_rfl) (by kernel_rfl) (fun _ _ _ h => h) (Or.inr ⟨by kernel_rfl, rfl⟩) hH1 ?_
      try simp only [Act.put, List.getElem_toArray, List.getElem_cons_zero, List.getElem_cons_succ, List.setIfInBounds_toArray, List.set_cons_zero, List.set_cons_succ]
      refine wpAnyH_take (i := 17) (v := ?_) rfl (by kernel_rfl) (by kernel_rfl) (by kernel_rfl) (fun _ _ _ h => h) (Or.inl ⟨by kernel_rfl, ?_⟩) hH1 ?_
      rotate_left 1
      · intro w hSw
        go_simp
        try with_reducible rfl
      try simp only [Act.put, List.getElem_toArray, List.getElem_cons_zero, List.getElem_cons_succ, List.setIfInBounds_toArray, List.set_cons_zero, List.set_cons_succ]
      refine wpAnyH_take (i := 18) (v := ?_) rfl (by kernel_rfl) (by kernel_rfl) (by kernel_rfl) (fun _ _ _ h => h) (Or.inl ⟨by kernel_rfl, ?_⟩) hH1 ?_
      rotate_left 1
      · intro w hSw
        go_simp
        try with_reducible rfl
      try simp only [Act.put, List.getElem_toArray, List.getElem_cons_zero, List.getElem_cons_succ, List.setIfInBounds_toArray, List.set_cons_zero, List.set_cons_succ]
      refine wpAnyH_done (by kernel_rfl) ?_ _
      have HH := Lib.hid hH1
      clear hH1
      go_wp2_with fail
      go_ret
      exact ⟨rfl, HB1.out.trans (HH.out.mono HB1.out.size)⟩
    exact AllReadyH.nil
  | true =>
  cases b2 with
  | false =>
    have hp : res = false := by rw [Hr.out]; rfl
    subst hp
    refine wp_region_held_drew (S := fun w' => Below w1.heap.size w1 w') (by kernel_rfl) ((Below.refl _ _).drew) (fun hH0 => ?_)
    obtain ⟨W0, hW0⟩ : ∃ W, W = w1.drew := ⟨_, rfl⟩
    rw [← hW0] at hH0 ⊢
    clear hW0
    refine wpAnyH_take (i := 0) (v := ?_) rfl (by kernel_rfl) (by kernel_rfl) (by kernel_rfl) (fun _ _ _ h => h) (Or.inl ⟨by kernel_rfl, ?_⟩) hH0 ?_
    rotate_left 1
    · intro w hSw
      go_simp
      try with_reducible rfl
    try simp only [Act.put, List.getElem_toArray, List.getElem_cons_zero, List.getElem_cons_succ, List.setIfInBounds_toArray, List.set_cons_zero, List.set_cons_succ]
    refine wpAnyH_take (i := 1) (v := ?_) rfl (by kernel_rfl) (by kernel_rfl) (by kernel_rfl) (fun _ _ _ h => h) (Or.inl ⟨by kernel_rfl, ?_⟩) hH0 ?_
    rotate_left 1
    · intro w hSw
      have f0 := (hSw.cell (p := ⟨q, 1, none⟩) lq).trans c1
      have f1 := (hSw.cell (p := ⟨q, 236, none⟩) lq).trans c236
      go_simp
      try with_reducible rfl
    try simp only [Act.put, List.getElem_toArray, List.getElem_cons_zero, List.getElem_cons_succ, List.setIfInBounds_toArray, List.set_cons_zero, List.set_cons_succ]
    refine wpAnyH_ready (rs := [2]) (by kernel_rfl) (by simp) ?_
    refine AllReadyH.cons rfl (fun K_ hK => ?_) ?_
    · go_simp
      refine (HH1.out _).mono ?_
      rintro e W1 ⟨rfl, hb1⟩
      refine hK.out _ _ ((hH0).trans (hb1.mono (hH0).size)) (fun hH1 => ?_)
      clear hK K_
      try simp only [Act.put, List.getElem_toArray, List.getElem_cons_zero, List.getElem_cons_succ, List.setIfInBounds_toArray, List.set_cons_zero, List.set_cons_succ]
      refine wpAnyH_take (i := 3) (v := ?_) rfl (by kernel_rfl) (by kernel_rfl) (by kernel_rfl) (fun _ _ _ h => h) (Or.inl ⟨by kernel_rfl, ?_⟩) hH1 ?_
      rotate_left 1
      · intro w hSw
        go_simp
        try with_reducible rfl
      try simp only [Act.put, List.getElem_toArray, List.getElem_cons_zero, List.getElem_cons_succ, List.setIfInBounds_toArray, List.set_cons_zero, List.set_cons_succ]
      refine wpAnyH_take (i := 4) (v := ?_) rfl (by kernel_rfl) (by kernel_rfl) (by kernel_rfl) (fun _ _ _ h => h) (Or.inl ⟨by kernel_rfl, ?_⟩) hH1 ?_
      rotate_left 1
      · intro w hSw
        go_simp
        try with_reducible rfl
      try simp only [Act.put, List.getElem_toArray, List.getElem_cons_zero, List.getElem_cons_succ, List.setIfInBounds_toArray, List.set_cons_zero, List.set_cons_succ]
      refine wpAnyH_take (i := 5) (v := ?_) rfl (by kernel_rfl) (by kernel_rfl) (by kernel_rfl) (fun _ _ _ h => h) (Or.inl ⟨by kernel_rfl, ?_⟩) hH1 ?_
      rotate_left 1
      · intro w hSw
        have f0 := (hSw.cell (p := ⟨q, 1, none⟩) lq).trans c1
        have f1 := (hSw.cell (p := ⟨q, 236, none⟩) lq).trans c236
        go_simp
        try with_reducible rfl
      try simp only [Act.put, List.getElem_toArray, List.getElem_cons_zero, List.getElem_cons_succ, List.setIfInBounds_toArray, List.set_cons_zero, List.set_cons_succ]
      refine wpAnyH_ready (rs := [6]) (by kernel_rfl) (by simp) ?_
      refine AllReadyH.cons rfl (fun K_ hK => ?_) ?_
      · go_simp
        refine (HH2.out _ hH1).mono ?_
        rintro e W2 ⟨rfl, hb2⟩
        refine hK.out _ _ ((hH1).trans (hb2.mono (hH1).size)) (fun hH2 => ?_)
        clear hK K_
        try simp only [Act.put, List.getElem_toArray, List.getElem_cons_zero, List.getElem_cons_succ, List.setIfInBounds_toArray, List.set_cons_zero, List.set_cons_succ]
        refine wpAnyH_take (i := 7) (v := ?_) rfl (by kernel_rfl) (by kernel_rfl) (by kernel_rfl) (fun _ _ _ h => h) (Or.inl ⟨by kernel_rfl, ?_⟩) hH2 ?_
        rotate_left 1
        · intro w hSw
          go_simp
          try with_reducible rfl
        try simp only [Act.put, List.getElem_toArray, List.getElem_cons_zero, List.getElem_cons_succ, List.setIfInBounds_toArray, List.set_cons_zero, List.set_cons_succ]
        refine wpAnyH_take (i := 8) (v := ?_) rfl (by kernel_rfl) (by kernel_rfl) (by kernel_rfl) (fun _ _ _ h => h) (Or.inl ⟨by kernel_rfl, ?_⟩) hH2 ?_
        rotate_left 1
        · intro w hSw
          go_simp
          try with_reducible rfl
        try simp only [Act.put, List.getElem_toArray, List.getElem_cons_zero, List.getElem_cons_succ, List.setIfInBounds_toArray, List.set_cons_zero, List.set_cons_succ]
        refine wpAnyH_take (i := 9) (v := undef) rfl (by kernel_rfl) (by kernel_rfl) (by kernel_rfl) (fun _ _ _ h => h) (Or.inr ⟨by kernel_rfl, rfl⟩) hH2 ?_
        try simp only [Act.put, List.getElem_toArray, List.getElem_cons_zero, List.getElem_cons_succ, List.setIfInBounds_toArray, List.set_cons_zero, List.set_cons_succ]
        refine wpAnyH_take (i := 10) (v := undef) rfl (by kernel_rfl) (by kernel_rfl) (by kernel_rfl) (fun _ _ _ h => h) (Or.inr ⟨by kernel_rfl, rfl⟩) hH2 ?_
        try simp only [Act.put, List.getElem_toArray, List.getElem_cons_zero, List.getElem_cons_succ, List.setIfInBounds_toArray, List.set_cons_zero, List.set_cons_succ]
        refine wpAnyH_take (i := 11) (v := ?_) rfl (by kernel_rfl) (by kernel_rfl) (by kernel_rfl) (fun _ _ _ h => h) (Or.inl ⟨by kernel_rfl, ?_⟩) hH2 ?_
        rotate_left 1
        · intro w hSw
          go_simp
          try with_reducible rfl
        try simp only [Act.put, List.getElem_toArray, List.getElem_cons_zero, List.getElem_cons_succ, List.setIfInBounds_toArray, List.set_cons_zero, List.set_cons_succ]
        refine wpAnyH_take (i := 12) (v := ?_) rfl (by kernel_rfl) (by kernel_rfl) (by kernel_rfl) (fun _ _ _ h => h) (Or.inl ⟨by kernel_rfl, ?_⟩) hH2 ?_
        rotate_left 1
        · intro w hSw
          go_simp
          try with_reducible rfl
        try simp only [Act.put, List.getElem_toArray, List.getElem_cons_zero, List.getElem_cons_succ, List.setIfInBounds_toArray, List.set_cons_zero, List.set_cons_succ]
        refine wpAnyH_take (i := 13) (v := undef) rfl (by kernel_rfl) (by kernel_rfl) (by kernel_rfl) (fun _ _ _ h => h) (Or.inr ⟨by kernel_rfl, rfl⟩) hH2 ?_
        try simp only [Act.put, List.getElem_toArray, List.getElem_cons_zero, List.getElem_cons_succ, List.setIfInBounds_toArray, List.set_cons_zero, List.set_cons_succ]
        refine wpAnyH_take (i := 14) (v := undef) rfl (by kernel_rfl) (by kernel_rfl) (by kernel_rfl) (fun _ _ _ h => h) (Or.inr ⟨by kernel_rfl, rfl⟩) hH2 ?_
        try simp only [Act.put, List.getElem_toArray, List.getElem_cons_zero, List.getElem_cons_succ, List.setIfInBounds_toArray, List.set_cons_zero, List.set_cons_succ]
        refine wpAnyH_take (i := 15) (v := undef) rfl (by kernel_rfl) (by kernel_rfl) (by kernel_rfl) (fun _ _ _ h => h) (Or.inr ⟨by kernel_rfl, rfl⟩) hH2 ?_
        try simp only [Act.put, List.getElem_toArray, List.getElem_cons_zero, List.getElem_cons_succ, List.setIfInBounds_toArray, List.set_cons_zero, List.set_cons_succ]
        refine wpAnyH_take (i := 16) (v := undef) rfl (by kernel_rfl) (by kernel_rfl) (by kernel_rfl) (fun _ _ _ h => h) (Or.inr ⟨by kernel_rfl, rfl⟩) hH2 ?_
        try simp only [Act.put, List.getElem_toArray, List.getElem_cons_zero, List.getElem_cons_succ, List.setIfInBounds_toArray, List.set_cons_zero, List.set_cons_succ]
        refine wpAnyH_take (i := 17) (v := ?_) rfl (by kernel_rfl) (by kernel_rfl) (by kernel_rfl) (fun _ _ _ h => h) (Or.inl ⟨by kernel_rfl, ?_⟩) hH2 ?_
        rotate_left 1
        · intro w hSw
          go_simp
          try with_reducible rfl
        try simp only [Act.put, List.getElem_toArray, List.getElem_cons_zero, List.getElem_cons_succ, List.setIfInBounds_toArray, List.set_cons_zero, List.set_cons_succ]
        refine wpAnyH_take (i := 18) (v := ?_) rfl (by kernel_rfl) (by kernel_rfl) (by kernel_rfl) (fun _ _ _ h => h) (Or.inl ⟨by kernel_rfl, ?_⟩) hH2 ?_
        rotate_left 1
        · intro w hSw
          go_simp
          try with_reducible rfl
        try simp only [Act.put, List.getElem_toArray, List.getElem_cons_zero, List.getElem_cons_succ, List.setIfInBounds_toArray, List.set_cons_zero, List.set_cons_succ]
        refine wpAnyH_done (by kernel_rfl) ?_ _
        have HH := Lib.hid hH2
        clear hH2
        go_wp2_with fail
        go_ret
        exact ⟨rfl, HB1.out.trans (HH.out.mono HB1.out.size)⟩
      exact AllReadyH.nil
    exact AllReadyH.nil
  | true =>
  cases b3 with
  | false =>
    have hp : res = false := by rw [Hr.out]; rfl
    subst hp
    refine wp_region_held_drew (S := fun w' => Below w1.heap.size w1 w') (by kernel_rfl) ((Below.refl _ _).drew) (fun hH0 => ?_)
    obtain ⟨W0, hW0⟩ : ∃ W, W = w1.drew := ⟨_, rfl⟩
    rw [← hW0] at hH0 ⊢
    clear hW0
    refine wpAnyH_take (i := 0) (v := ?_) rfl (by kernel_rfl) (by kernel_rfl) (by kernel_rfl) (fun _ _ _ h => h) (Or.inl ⟨by kernel_rfl, ?_⟩) hH0 ?_
    rotate_left 1
    · intro w hSw
      go_simp
      try with_reducible rfl
    try simp only [Act.put, List.getElem_toArray, List.getElem_cons_zero, List.getElem_cons_succ, List.setIfInBounds_toArray, List.set_cons_zero, List.set_cons_succ]
    refine wpAnyH_take (i := 1) (v := ?_) rfl (by kernel_rfl) (by kernel_rfl) (by kernel_rfl) (fun _ _ _ h => h) (Or.inl ⟨by kernel_rfl, ?_⟩) hH0 ?_
    rotate_left 1
    · intro w hSw
      have f0 := (hSw.cell (p := ⟨q, 1, none⟩) lq).trans c1
      have f1 := (hSw.cell (p := ⟨q, 236, none⟩) lq).trans c236
      go_simp
      try with_reducible rfl
    try simp only [Act.put, List.getElem_toArray, List.getElem_cons_zero, List.getElem_cons_succ, List.setIfInBounds_toArray, List.set_cons_zero, List.set_cons_succ]
    refine wpAnyH_ready (rs := [2]) (by kernel_rfl) (by simp) ?_
    refine AllReadyH.cons rfl (fun K_ hK => ?_) ?_
    · go_simp
      refine (HH1.out _).mono ?_
      rintro e W1 ⟨rfl, hb1⟩
      refine hK.out _ _ ((hH0).trans (hb1.mono (hH0).size)) (fun hH1 => ?_)
      clear hK K_
      try simp only [Act.put, List.getElem_toArray, List.getElem_cons_zero, List.getElem_cons_succ, List.setIfInBounds_toArray, List.set_cons_zero, List.set_cons_succ]
      refine wpAnyH_take (i := 3) (v := ?_) rfl (by kernel_rfl) (by kernel_rfl) (by kernel_rfl) (fun _ _ _ h => h) (Or.inl ⟨by kernel_rfl, ?_⟩) hH1 ?_
      rotate_left 1
      · intro w hSw
        go_simp
        try with_reducible rfl
      try simp only [Act.put, List.getElem_toArray, List.getElem_cons_zero, List.getElem_cons_succ, List.setIfInBounds_toArray, List.set_cons_zero, List.set_cons_succ]
      refine wpAnyH_take (i := 4) (v := ?_) rfl (by kernel_rfl) (by kernel_rfl) (by kernel_rfl) (fun _ _ _ h => h) (Or.inl ⟨by kernel_rfl, ?_⟩) hH1 ?_
      rotate_left 1
      · intro w hSw
        go_simp
        try with_reducible rfl
      try simp only [Act.put, List.getElem_toArray, List.getElem_cons_zero, List.getElem_cons_succ, List.setIfInBounds_toArray, List.set_cons_zero, List.set_cons_succ]
      refine wpAnyH_take (i := 5) (v := ?_) rfl (by kernel_rfl) (by kernel_rfl) (by kernel_rfl) (fun _ _ _ h => h) (Or.inl ⟨by kernel_rfl, ?_⟩) hH1 ?_
      rotate_left 1
      · intro w hSw
        have f0 := (hSw.cell (p := ⟨q, 1, none⟩) lq).trans c1
        have f1 := (hSw.cell (p := ⟨q, 236, none⟩) lq).trans c236
        go_simp
        try with_reducible rfl
      try simp only [Act.put, List.getElem_toArray, List.getElem_cons_zero, List.getElem_cons_succ, List.setIfInBounds_toArray, List.set_cons_zero, List.set_cons_succ]
      refine wpAnyH_ready (rs := [6]) (by kernel_rfl) (by simp) ?_
      refine AllReadyH.cons rfl (fun K_ hK => ?_) ?_
      · go_simp
        refine (HH2.out _ hH1).mono ?_
        rintro e W2 ⟨rfl, hb2⟩
        refine hK.out _ _ ((hH1).trans (hb2.mono (hH1).size)) (fun hH2 => ?_)
        clear hK K_
        try simp only [Act.put, List.getElem_toArray, List.getElem_cons_zero, List.getElem_cons_succ, List.setIfInBounds_toArray, List.set_cons_zero, List.set_cons_succ]
        refine wpAnyH_take (i := 7) (v := ?_) rfl (by kernel_rfl) (by kernel_rfl) (by kernel_rfl) (fun _ _ _ h => h) (Or.inl ⟨by kernel_rfl, ?_⟩) hH2 ?_
        rotate_left 1
        · intro w hSw
          go_simp
          try with_reducible rfl
        try simp only [Act.put, List.getElem_toArray, List.getElem_cons_zero, List.getElem_cons_succ, List.setIfInBounds_toArray, List.set_cons_zero, List.set_cons_succ]
        refine wpAnyH_take (i := 8) (v := ?_) rfl (by kernel_rfl) (by kernel_rfl) (by kernel_rfl) (fun _ _ _ h => h) (Or.inl ⟨by kernel_rfl, ?_⟩) hH2 ?_
        rotate_left 1
        · intro w hSw
          go_simp
          try with_reducible rfl
        try simp only [Act.put, List.getElem_toArray, List.getElem_cons_zero, List.getElem_cons_succ, List.setIfInBounds_toArray, List.set_cons_zero, List.set_cons_succ]
        refine wpAnyH_take (i := 9) (v := _) rfl (by kernel_rfl) (by kernel_rfl) (by kernel_rfl) (fun _ _ _ h => h) (yieldsIf_load_mid (by kernel_rfl) _ _ rfl _ _ rfl L _ (fun W hW => range_below rL hW lq) fund rfl hi) hH2 ?_
        try simp only [Act.put, List.getElem_toArray, List.getElem_cons_zero, List.getElem_cons_succ, List.setIfInBounds_toArray, List.set_cons_zero, List.set_cons_succ]
        refine wpAnyH_ready (rs := [10]) (by kernel_rfl) (by simp) ?_
        refine AllReadyH.cons rfl (fun K_ hK => ?_) ?_
        · go_simp
          refine (HH3.out _ hH2).mono ?_
          rintro e W3 ⟨rfl, hb3⟩
          refine hK.out _ _ ((hH2).trans (hb3.mono (hH2).size)) (fun hH3 => ?_)
          clear hK K_
          try simp only [Act.put, List.getElem_toArray, List.getElem_cons_zero, List.getElem_cons_succ, List.setIfInBounds_toArray, List.set_cons_zero, List.set_cons_succ]
          refine wpAnyH_take (i := 11) (v := ?_) rfl (by kernel_rfl) (by kernel_rfl) (by kernel_rfl) (fun _ _ _ h => h) (Or.inl ⟨by kernel_rfl, ?_⟩) hH3 ?_
          rotate_left 1
          · intro w hSw
            go_simp
            try with_reducible rfl
          try simp only [Act.put, List.getElem_toArray, List.getElem_cons_zero, List.getElem_cons_succ, List.setIfInBounds_toArray, List.set_cons_zero, List.set_cons_succ]
          refine wpAnyH_take (i := 12) (v := ?_) rfl (by kernel_rfl) (by kernel_rfl) (by kernel_rfl) (fun _ _ _ h => h) (Or.inl ⟨by kernel_rfl, ?_⟩) hH3 ?_
          rotate_left 1
          · intro w hSw
            go_simp
            try with_reducible rfl
          try simp only [Act.put, List.getElem_toArray, List.getElem_cons_zero, List.getElem_cons_succ, List.setIfInBounds_toArray, List.set_cons_zero, List.set_cons_succ]
          refine wpAnyH_take (i := 13) (v := undef) rfl (by kernel_rfl) (by kernel_rfl) (by kernel_rfl) (fun _ _ _ h => h) (Or.inr ⟨by kernel_rfl, rfl⟩) hH3 ?_
          try simp only [Act.put, List.getElem_toArray, List.getElem_cons_zero, List.getElem_cons_succ, List.setIfInBounds_toArray, List.set_cons_zero, List.set_cons_succ]
          refine wpAnyH_take (i := 14) (v := undef) rfl (by kernel_rfl) (by kernel_rfl) (by kernel_rfl) (fun _ _ _ h => h) (Or.inr ⟨by kernel_rfl, rfl⟩) hH3 ?_
          try simp only [Act.put, List.getElem_toArray, List.getElem_cons_zero, List.getElem_cons_succ, List.setIfInBounds_toArray, List.set_cons_zero, List.set_cons_succ]
          refine wpAnyH_take (i := 15) (v := undef) rfl (by kernel_rfl) (by kernel_rfl) (by kernel_rfl) (fun _ _ _ h => h) (Or.inr ⟨by kernel_rfl, rfl⟩) hH3 ?_
          try simp only [Act.put, List.getElem_toArray, List.getElem_cons_zero, List.getElem_cons_succ, List.setIfInBounds_toArray, List.set_cons_zero, List.set_cons_succ]
          refine wpAnyH_take (i := 16) (v := undef) rfl (by kernel_rfl) (by kernel_rfl) (by kernel_rfl) (fun _ _ _ h => h) (Or.inr ⟨by kernel_rfl, rfl⟩) hH3 ?_
          try simp only [Act.put, List.getElem_toArray, List.getElem_cons_zero, List.getElem_cons_succ, List.setIfInBounds_toArray, List.set_cons_zero, List.set_cons_succ]
          refine wpAnyH_take (i := 17) (v := ?_) rfl (by kernel_rfl) (by kernel_rfl) (by kernel_rfl) (fun _ _ _ h => h) (Or.inl ⟨by kernel_rfl, ?_⟩) hH3 ?_
          rotate_left 1
          · intro w hSw
            go_simp
            try with_reducible rfl
          try simp only [Act.put, List.getElem_toArray, List.getElem_cons_zero, List.getElem_cons_succ, List.setIfInBounds_toArray, List.set_cons_zero, List.set_cons_succ]
          refine wpAnyH_take (i := 18) (v := ?_) rfl (by kernel_rfl) (by kernel_rfl) (by kernel_rfl) (fun _ _ _ h => h) (Or.inl ⟨by kernel_rfl, ?_⟩) hH3 ?_
          rotate_left 1
          · intro w hSw
            go_simp
            try with_reducible rfl
          try simp only [Act.put, List.getElem_toArray, List.getElem_cons_zero, List.getElem_cons_succ, List.setIfInBounds_toArray, List.set_cons_zero, List.set_cons_succ]
          refine wpAnyH_done (by kernel_rfl) ?_ _
          have HH := Lib.hid hH3
          clear hH3
          go_wp2_with fail
          go_ret
          exact ⟨rfl, HB1.out.trans (HH.out.mono HB1.out.size)⟩
        exact AllReadyH.nil
      exact AllReadyH.nil
    exact AllReadyH.nil
  | true =>
  have hp : res = b4 := by rw [Hr.out]; rfl
  subst hp
  refine wp_region_held_drew (S := fun w' => Below w1.heap.size w1 w') (by kernel_rfl) ((Below.refl _ _).drew) (fun hH0 => ?_)
  obtain ⟨W0, hW0⟩ : ∃ W, W = w1.drew := ⟨_, rfl⟩
  rw [← hW0] at hH0 ⊢
  clear hW0
  refine wpAnyH_take (i := 0) (v := ?_) rfl (by kernel_rfl) (by kernel_rfl) (by kernel_rfl) (fun _ _ _ h => h) (Or.inl ⟨by kernel_rfl, ?_⟩) hH0 ?_
  rotate_left 1
  · intro w hSw
    go_simp
    try with_reducible rfl
  try simp only [Act.put, List.getElem_toArray, List.getElem_cons_zero, List.getElem_cons_succ, List.setIfInBounds_toArray, List.set_cons_zero, List.set_cons_succ]
  refine wpAnyH_take (i := 1) (v := ?_) rfl (by kernel_rfl) (by kernel_rfl) (by kernel_rfl) (fun _ _ _ h => h) (Or.inl ⟨by kernel_rfl, ?_⟩) hH0 ?_
  rotate_left 1
  · intro w hSw
    have f0 := (hSw.cell (p := ⟨q, 1, none⟩) lq).trans c1
    have f1 := (hSw.cell (p := ⟨q, 236, none⟩) lq).trans c236
    go_simp
    try with_reducible rfl
  try simp only [Act.put, List.getElem_toArray, List.getElem_cons_zero, List.getElem_cons_succ, List.setIfInBounds_toArray, List.set_cons_zero, List.set_cons_succ]
  refine wpAnyH_ready (rs := [2]) (by kernel_rfl) (by simp) ?_
  refine AllReadyH.cons rfl (fun K_ hK => ?_) ?_
  · go_simp
    refine (HH1.out _).mono ?_
    rintro e W1 ⟨rfl, hb1⟩
    refine hK.out _ _ ((hH0).trans (hb1.mono (hH0).size)) (fun hH1 => ?_)
    clear hK K_
    try simp only [Act.put, List.getElem_toArray, List.getElem_cons_zero, List.getElem_cons_succ, List.setIfInBounds_toArray, List.set_cons_zero, List.set_cons_succ]
    refine wpAnyH_take (i := 3) (v := ?_) rfl (by kernel_rfl) (by kernel_rfl) (by kernel_rfl) (fun _ _ _ h => h) (Or.inl ⟨by kernel_rfl, ?_⟩) hH1 ?_
    rotate_left 1
    · intro w hSw
      go_simp
      try with_reducible rfl
    try simp only [Act.put, List.getElem_toArray, List.getElem_cons_zero, List.getElem_cons_succ, List.setIfInBounds_toArray, List.set_cons_zero, List.set_cons_succ]
    refine wpAnyH_take (i := 4) (v := ?_) rfl (by kernel_rfl) (by kernel_rfl) (by kernel_rfl) (fun _ _ _ h => h) (Or.inl ⟨by kernel_rfl, ?_⟩) hH1 ?_
    rotate_left 1
    · intro w hSw
      go_simp
      try with_reducible rfl
    try simp only [Act.put, List.getElem_toArray, List.getElem_cons_zero, List.getElem_cons_succ, List.setIfInBounds_toArray, List.set_cons_zero, List.set_cons_succ]
    refine wpAnyH_take (i := 5) (v := ?_) rfl (by kernel_rfl) (by kernel_rfl) (by kernel_rfl) (fun _ _ _ h => h) (Or.inl ⟨by kernel_rfl, ?_⟩) hH1 ?_
    rotate_left 1
    · intro w hSw
      have f0 := (hSw.cell (p := ⟨q, 1, none⟩) lq).trans c1
      have f1 := (hSw.cell (p := ⟨q, 236, none⟩) lq).trans c236
      go_simp
      try with_reducible rfl
    try simp only [Act.put, List.getElem_toArray, List.getElem_cons_zero, List.getElem_cons_succ, List.setIfInBounds_toArray, List.set_cons_zero, List.set_cons_succ]
    refine wpAnyH_ready (rs := [6]) (by kernel_rfl) (by simp) ?_
    refine AllReadyH.cons rfl (fun K_ hK => ?_) ?_
    · go_simp
      refine (HH2.out _ hH1).mono ?_
      rintro e W2 ⟨rfl, hb2⟩
      refine hK.out _ _ ((hH1).trans (hb2.mono (hH1).size)) (fun hH2 => ?_)
      clear hK K_
      try simp only [Act.put, List.getElem_toArray, List.getElem_cons_zero, List.getElem_cons_succ, List.setIfInBounds_toArray, List.set_cons_zero, List.set_cons_succ]
      refine wpAnyH_take (i := 7) (v := ?_) rfl (by kernel_rfl) (by kernel_rfl) (by kernel_rfl) (fun _ _ _ h => h) (Or.inl ⟨by kernel_rfl, ?_⟩) hH2 ?_
      rotate_left 1
      · intro w hSw
        go_simp
        try with_reducible rfl
      try simp only [Act.put, List.getElem_toArray, List.getElem_cons_zero, List.getElem_cons_succ, List.setIfInBounds_toArray, List.set_cons_zero, List.set_cons_succ]
      refine wpAnyH_take (i := 8) (v := ?_) rfl (by kernel_rfl) (by kernel_rfl) (by kernel_rfl) (fun _ _ _ h => h) (Or.inl ⟨by kernel_rfl, ?_⟩) hH2 ?_
      rotate_left 1
      · intro w hSw
        go_simp
        try with_reducible rfl
      try simp only [Act.put, List.getElem_toArray, List.getElem_cons_zero, List.getElem_cons_succ, List.setIfInBounds_toArray, List.set_cons_zero, List.set_cons_succ]
      refine wpAnyH_take (i := 9) (v := _) rfl (by kernel_rfl) (by kernel_rfl) (by kernel_rfl) (fun _ _ _ h => h) (yieldsIf_load_mid (by kernel_rfl) _ _ rfl _ _ rfl L _ (fun W hW => range_below rL hW lq) fund rfl hi) hH2 ?_
      try simp only [Act.put, List.getElem_toArray, List.getElem_cons_zero, List.getElem_cons_succ, List.setIfInBounds_toArray, List.set_cons_zero, List.set_cons_succ]
      refine wpAnyH_ready (rs := [10]) (by kernel_rfl) (by simp) ?_
      refine AllReadyH.cons rfl (fun K_ hK => ?_) ?_
      · go_simp
        refine (HH3.out _ hH2).mono ?_
        rintro e W3 ⟨rfl, hb3⟩
        refine hK.out _ _ ((hH2).trans (hb3.mono (hH2).size)) (fun hH3 => ?_)
        clear hK K_
        try simp only [Act.put, List.getElem_toArray, List.getElem_cons_zero, List.getElem_cons_succ, List.setIfInBounds_toArray, List.set_cons_zero, List.set_cons_succ]
        refine wpAnyH_take (i := 11) (v := ?_) rfl (by kernel_rfl) (by kernel_rfl) (by kernel_rfl) (fun _ _ _ h => h) (Or.inl ⟨by kernel_rfl, ?_⟩) hH3 ?_
        rotate_left 1
        · intro w hSw
          go_simp
          try with_reducible rfl
        try simp only [Act.put, List.getElem_toArray, List.getElem_cons_zero, List.getElem_cons_succ, List.setIfInBounds_toArray, List.set_cons_zero, List.set_cons_succ]
        refine wpAnyH_take (i := 12) (v := ?_) rfl (by kernel_rfl) (by kernel_rfl) (by kernel_rfl) (fun _ _ _ h => h) (Or.inl ⟨by kernel_rfl, ?_⟩) hH3 ?_
        rotate_left 1
        · intro w hSw
          go_simp
          try with_reducible rfl
        try simp only [Act.put, List.getElem_toArray, List.getElem_cons_zero, List.getElem_cons_succ, List.setIfInBounds_toArray, List.set_cons_zero, List.set_cons_succ]
        refine wpAnyH_take (i := 13) (v := _) rfl (by kernel_rfl) (by kernel_rfl) (by kernel_rfl) (fun _ _ _ h => h) (yieldsIf_load_mid (by kernel_rfl) _ _ rfl _ _ rfl L _ (fun W hW => range_below rL hW lq) fund rfl hi) hH3 ?_
        try simp only [Act.put, List.getElem_toArray, List.getElem_cons_zero, List.getElem_cons_succ, List.setIfInBounds_toArray, List.set_cons_zero, List.set_cons_succ]
        refine wpAnyH_take (i := 14) (v := _) rfl (by kernel_rfl) (by kernel_rfl) (by kernel_rfl) (fun _ _ _ h => h) (yieldsIf_load_mid (by kernel_rfl) _ _ rfl _ _ rfl L _ (fun W hW => range_below rL hW lq) fund rfl hi) hH3 ?_
        try simp only [Act.put, List.getElem_toArray, List.getElem_cons_zero, List.getElem_cons_succ, List.setIfInBounds_toArray, List.set_cons_zero, List.set_cons_succ]
        refine wpAnyH_ready (rs := [15]) (by kernel_rfl) (by simp) ?_
        refine AllReadyH.cons rfl (fun K_ hK => ?_) ?_
        · go_simp
          refine (HH4.out _ hH3).mono ?_
          rintro e W4 ⟨rfl, hb4⟩
          refine hK.out _ _ ((hH3).trans (hb4.mono (hH3).size)) (fun hH4 => ?_)
          clear hK K_
          try simp only [Act.put, List.getElem_toArray, List.getElem_cons_zero, List.getElem_cons_succ, List.setIfInBounds_toArray, List.set_cons_zero, List.set_cons_succ]
          refine wpAnyH_ready (rs := [16]) (by kernel_rfl) (by simp) ?_
          refine AllReadyH.cons rfl (fun K_ hK => ?_) ?_
          · go_simp
            refine (HH5.out _ hH4).mono ?_
            rintro e W5 ⟨rfl, hb5⟩
            refine hK.out _ _ ((hH4).trans (hb5.mono (hH4).size)) (fun hH5 => ?_)
            clear hK K_
            try simp only [Act.put, List.getElem_toArray, List.getElem_cons_zero, List.getElem_cons_succ, List.setIfInBounds_toArray, List.set_cons_zero, List.set_cons_succ]
            refine wpAnyH_take (i := 17) (v := ?_) rfl (by kernel_rfl) (by kernel_rfl) (by kernel_rfl) (fun _ _ _ h => h) (Or.inl ⟨by kernel_rfl, ?_⟩) hH5 ?_
            rotate_left 1
            · intro w hSw
              go_simp
              try with_reducible rfl
            try simp only [Act.put, List.getElem_toArray, List.getElem_cons_zero, List.getElem_cons_succ, List.setIfInBounds_toArray, List.set_cons_zero, List.set_cons_succ]
            refine wpAnyH_take (i := 18) (v := ?_) rfl (by kernel_rfl) (by kernel_rfl) (by kernel_rfl) (fun _ _ _ h => h) (Or.inl ⟨by kernel_rfl, ?_⟩) hH5 ?_
            rotate_left 1
            · intro w hSw
              go_simp
              try with_reducible rfl
            try simp only [Act.put, List.getElem_toArray, List.getElem_cons_zero, List.getElem_cons_succ, List.setIfInBounds_toArray, List.set_cons_zero, List.set_cons_succ]
            refine wpAnyH_done (by kernel_rfl) ?_ _
            have HH := Lib.hid hH5
            clear hH5
            go_wp2_with fail
            go_ret
            exact ⟨rfl, HB1.out.trans (HH.out.mono HB1.out.size)⟩
          exact AllReadyH.nil
        exact AllReadyH.nil
      exact AllReadyH.nil
    exact AllReadyH.nil
  exact AllReadyH.nil
end Wi
end Go.Proofs.YthcmlbbbbcinkaaDoor
