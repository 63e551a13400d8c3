/-
  Layer 3's reference: the walk of Mani.
-/
import Derived.Test.YtfbjbhddapoopaaDoorRcA
import Derived.Test.YtfbjbhddapoopaaDoorCoD
set_option linter.unusedVariables false
set_option linter.unusedSimpArgs false
namespace Go.Proofs.YtfbjbhddapoopaaDoor
open Go.RowKit
attribute [local go_sem] Lb.ba_get Lb.ba_cut Lb.ba_add Lb.ba_size Lb.take_rest

set_option maxHeartbeats 4000000 in
set_option maxRecDepth 100000 in
theorem rmani_big (l : List UInt8) (w : World) (h : 512 < l.length) (hl : l.length ≤ 140737488355328) :
    Calls Tryd.prog 78 #[.string ⟨l.toArray⟩] w fun e w' => e = .returned (.tuple #[.agg zeroMani.row, .int .i64 33]) ∧ Below w.heap.size w w' := by
  go_enter Tryd.func78, Tryd.ntmps78
  go_upto_region 1 with fail
  show Code.wp _ _ _ _ (w.alloc (.cells zeroMani.row 39))
  obtain ⟨q, hq⟩ : ∃ q, q = w.heap.size := ⟨_, rfl⟩
  have h0 : (w.alloc (.cells zeroMani.row 39)).heap[q]? = some (.cells zeroMani.row 39 (0, 0)) := by rw [hq]; exact heap_alloc_new w _
  have b0 : Below w.heap.size w (w.alloc (.cells zeroMani.row 39)) := (Below.refl _ w).alloc (Nat.le_refl _) _
  obtain ⟨w1, hw1⟩ : ∃ w1, w1 = w.alloc (.cells zeroMani.row 39) := ⟨_, rfl⟩
  rw [← hw1] at h0 b0 ⊢
  rw [← hq]
  have Hq := Lib.hid hq
  have H0 := Lib.hid h0
  have Hb0 := Lib.hid b0
  have hi : (512 : Int) < (l.length : Int) := by omega
  clear hw1 h0 b0 hq
  go_upto_region 2 with fail
  go_wp2_with (refine wpList_store_row rfl 39 _ _ rfl q zeroMani.row rfl rfl 39 zeroMani.row H0.out mani_info rfl (ManiD.row_one zeroMani) ?_)
  (try simp only [Exit.inBlock, Exit.then])
  refine bodyPost_ret (results_cell_row2 rfl _ _ q 39 zeroMani.row (0, 0) _ rfl (setRow_heap _ _ _ _ _ _ H0.out) Tryd.underlying39 rfl mani_info) rfl ?_
  refine ⟨rfl, ?_⟩
  exact Hb0.out.trans (((Only.refl [q] w1).setRow (by simp) _).below Hb0.out.size (by intro x hx; simp at hx; rw [hx, Hq.out]; exact Nat.le_refl _))

set_option maxHeartbeats 400000 in
set_option maxRecDepth 100000 in
theorem rmani_any (l : List UInt8) (w : World) (hl : l.length ≤ 512) :
    Calls Tryd.prog 78 #[.string ⟨l.toArray⟩] w fun e w' => ∃ m : ManiD, e = .returned (.tuple #[.agg m.row, .int .i64 0]) ∧ m.Ok w' w'.heap.size ∧ m.whole = hashB KK l ∧ m.size = l.length ∧ m.parts = (chunks l).map (hashB KK) ∧ Below w.heap.size w w' := by
  go_enter Tryd.func78, Tryd.ntmps78
  go_upto_region 1 with fail
  show Code.wp _ _ _ _ (w.alloc (.cells zeroMani.row 39))
  obtain ⟨q, hq⟩ : ∃ q, q = w.heap.size := ⟨_, rfl⟩
  have h0 : (w.alloc (.cells zeroMani.row 39)).heap[q]? = some (.cells zeroMani.row 39 (0, 0)) := by rw [hq]; exact heap_alloc_new w _
  have b0 : Below w.heap.size w (w.alloc (.cells zeroMani.row 39)) := (Below.refl _ w).alloc (Nat.le_refl _) _
  obtain ⟨w1, hw1⟩ : ∃ w1, w1 = w.alloc (.cells zeroMani.row 39) := ⟨_, rfl⟩
  rw [← hw1] at h0 b0 ⊢
  rw [← hq]
  have hi : ¬ (512 : Int) < (l.length : Int) := by omega
  have Hq := Lib.hid hq
  have H0 := Lib.hid h0
  have Hb0 := Lib.hid b0
  clear hw1 h0 b0 hq
  go_upto_region 3 with fail
  go_wp2_with fail
  refine (rof_any l _ (by omega)).mono ?_
  rintro e w2 ⟨rfl, hB2⟩
  have HB2 := Lib.hid hB2
  obtain ⟨h, hh⟩ : ∃ h, h = hashB KK l := ⟨_, rfl⟩
  have hd : h.length = 32 := by rw [hh]; exact hashB_length KK l
  rw [← hh]
  have Hh := Lib.hid hh
  have hbd := built_mani h (l.length : Int) hd
  obtain ⟨R, hR⟩ : ∃ R, R = maniRow h (l.length : Int) (.slice none 0 0) := ⟨_, rfl⟩
  rw [← hR] at hbd
  have HR := Lib.hid hR
  have hsz : R.size = 34 := by rw [hR]; simp [maniRow, byV, hd]
  have h1c : R.all (·.oneCell') = true := by rw [hR]; exact ManiD.row_one ⟨h, l.length, none, 0, []⟩
  have hinf : (Tryd.prog.info? 39).map (·.size) = some R.size := by rw [hsz]; exact mani_info
  clear hB2 hh hR
  go_wp2_with (first
    | (refine wpList_build2 rfl 39 _ _ _ _ rfl _ _ rfl rfl _ hbd ?_)
    | (refine wpList_store_row rfl 39 _ _ rfl w2.heap.size R rfl rfl 39 _ (heap_alloc_new w2 _) hinf (by rw [hsz]; rfl) h1c ?_))
  obtain ⟨p, hp⟩ : ∃ p, p = w2.heap.size := ⟨_, rfl⟩
  have h3 := setRow_heap _ _ _ R _ _ (heap_alloc_new w2 (.cells zeroMani.row 39))
  have b3 := (((Below.refl w2.heap.size w2).alloc (Nat.le_refl _) (.cells zeroMani.row 39)))
  have o3 : Only [p] w2 ((w2.alloc (.cells zeroMani.row 39)).setRow w2.heap.size R) := ((Only.refl [p] w2).alloc _).setRow (by simp [hp]) R
  obtain ⟨w3, hw3⟩ : ∃ w3, w3 = (w2.alloc (.cells zeroMani.row 39)).setRow w2.heap.size R := ⟨_, rfl⟩
  rw [← hw3] at h3 o3
  show Calls _ _ _ ((w2.alloc (.cells zeroMani.row 39)).setRow w2.heap.size R) _
  rw [← hw3, ← hp]
  rw [← hp] at h3
  have b3' : Below w2.heap.size w2 w3 := o3.below (Nat.le_refl _) (by simp [hp])
  have H3 := Lib.hid h3
  have Hp := Lib.hid hp
  have HB3 := Lib.hid (HB2.out.trans (b3'.mono HB2.out.size))
  clear hw3 h3 o3 b3 hp b3' hinf h1c hsz hbd
  refine (rsplit_any l w3 (by omega)).mono ?_
  rintro e w4 ⟨v, rfl, hT, hB4⟩
  obtain ⟨A, cap, rfl, hcap, hncap⟩ := Bag0.shape hT
  have hlen : (chunks l).length = (l.length + 63) / 64 := chunks_length l
  obtain ⟨n, hn⟩ : ∃ n, n = (chunks l).length := ⟨_, rfl⟩
  rw [← hn] at hncap hlen ⊢
  have hn8 : n ≤ 8 := by omega
  have HT := Lib.hid hT
  have H4 : Hid (w4.heap[p]? = some (.cells (maniRow h l.length (.slice none 0 0)) 39 (0, 0))) := Lib.hid (by rw [← HR.out]; exact below_keep hB4 H3.out)
  have HB4 := Lib.hid (HB3.out.trans (hB4.mono HB3.out.size))
  have Hn := Lib.hid hn
  have hp4 := heap_lt H4.out
  have H4lt : p < w3.heap.size := heap_lt H3.out
  clear hT hB4 hn hlen H3 HB3
  go_wp2_with fail
  go_loopw [6] (fun c wr => ∃ (j : Nat) (v : Value), j ≤ n ∧ c = .int .i64 j ∧ wr.heap[p]? = some (.cells (maniRow h l.length v) 39 (0, 0)) ∧ Bag0 wr w4.heap.size 32 v j ((((chunks l).take j).map (fun x => byV (hashB KK x))).flatten) ∧ Only [p] w4 wr) (fun c _ => n - (intOf c).toNat)
  case atStart => exact ⟨0, _, by omega, rfl, H4.out, Bag0.nil _ _ _, Only.refl _ _⟩
  case round =>
    clear H4
    obtain ⟨j, v, hj, rfl, hP, hB, hO⟩ := hrel
    by_cases hjn : j < n
    · have hjt : j < (chunks l).length := by rw [← Hn.out]; exact hjn
      obtain ⟨g, rfl, hg, hg4, hc⟩ := HT.out.cell j hjt
      obtain ⟨t, ht⟩ : ∃ t, t = (chunks l)[j] := ⟨_, rfl⟩
      rw [← ht] at hc
      have hgp : g ≠ p := by have := Hp.out; have := H4lt; intro e; subst e; omega
      have hc2 : wr.cell? ⟨g, j, none⟩ = some (.string ⟨t.toArray⟩) := (hO.cell (p := ⟨g, j, none⟩) hg4 (by simp; exact hgp)).trans hc
      have c33 : wr.cell? ⟨p, 33, none⟩ = some v := by
        rw [Lib.cell_of_heap hP]
        unfold maniRow
        rw [List.getElem?_toArray, List.getElem?_append_right (by simp [byV, hd])]
        simp [byV, hd]
      have ht64 : t.length ≤ 64 := by rw [ht, chunks_get]; simp [chunk]; omega
      have j0 : (0 : Int) ≤ (j : Int) := by omega
      have jn : (j : Int) < (n : Int) := by omega
      have HP := Lib.hid hP
      have HBg := Lib.hid hB
      have HO := Lib.hid hO
      have Ht := Lib.hid ht
      clear hP hB hO ht hc hg hg4 hgp HT
      go_upto_region 8 with fail
      have hpw : p < wr.heap.size := by have := HO.out.size; omega
      have zp : wr.frozen? ⟨p, 33, none⟩ = false := Lib.frozen_of_heap HP.out _
      obtain ⟨i1, hi1, hy0, hy1, hy2⟩ := info_parts dig_info3
      have hm33 : (maniRow h l.length v)[33]? = some v := by rw [Lib.cell_of_heap HP.out] at c33; exact c33
      refine wp_region_any (by kernel_rfl) ?_
      try change wpAny _ _ _ _ _ _ _ (World.drew _)
      try simp only [Act.put, List.getElem_toArray, List.getElem_cons_zero, List.getElem_cons_succ, List.setIfInBounds_toArray, List.set_cons_zero, List.set_cons_succ]
      refine wpAny_take (i := 0) (v := ?_) rfl (by kernel_rfl) (by kernel_rfl) (by kernel_rfl) (fun _ _ _ h => h) (Or.inl ⟨by rfl, ?_⟩) ?_
      rotate_left 1
      · intro w
        go_simp
        try with_reducible rfl
      try simp only [Act.put, List.getElem_toArray, List.getElem_cons_zero, List.getElem_cons_succ, List.setIfInBounds_toArray, List.set_cons_zero, List.set_cons_succ]
      refine wpAny_take (i := 2) (v := ?_) rfl (by kernel_rfl) (by kernel_rfl) (by kernel_rfl) (fun _ _ _ h => h) (Or.inl ⟨by rfl, ?_⟩) ?_
      rotate_left 1
      · intro w
        go_simp
        try with_reducible rfl
      try simp only [Act.put, List.getElem_toArray, List.getElem_cons_zero, List.getElem_cons_succ, List.setIfInBounds_toArray, List.set_cons_zero, List.set_cons_succ]
      refine wpAny_take (i := 3) (v := ?_) rfl (by kernel_rfl) (by kernel_rfl) (by kernel_rfl) (fun _ _ _ h => h) (Or.inl ⟨by rfl, ?_⟩) ?_
      rotate_left 1
      · intro w
        go_simp
        try with_reducible rfl
      try simp only [Act.put, List.getElem_toArray, List.getElem_cons_zero, List.getElem_cons_succ, List.setIfInBounds_toArray, List.set_cons_zero, List.set_cons_succ]
      refine wpAny_take (i := 4) (v := ?_) rfl (by kernel_rfl) (by kernel_rfl) (by kernel_rfl) (fun _ _ _ h => h) (Or.inl ⟨by rfl, ?_⟩) ?_
      rotate_left 1
      · intro w
        go_simp
        try with_reducible rfl
      try simp only [Act.put, List.getElem_toArray, List.getElem_cons_zero, List.getElem_cons_succ, List.setIfInBounds_toArray, List.set_cons_zero, List.set_cons_succ]
      refine wpAny_ready (rs := [1, 5]) (by kernel_rfl) (by simp) ?_
      refine AllReady.cons rfl (fun K hK => ?_) ?_
      · go_simp
        refine hK _ _ ?_
        clear hK K
        try simp only [Act.put, List.getElem_toArray, List.getElem_cons_zero, List.getElem_cons_succ, List.setIfInBounds_toArray, List.set_cons_zero, List.set_cons_succ]
        refine wpAny_ready (rs := [5]) (by kernel_rfl) (by simp) ?_
        refine AllReady.cons rfl (fun K hK => ?_) ?_
        · go_simp
          refine hK _ _ ?_
          clear hK K
          try simp only [Act.put, List.getElem_toArray, List.getElem_cons_zero, List.getElem_cons_succ, List.setIfInBounds_toArray, List.set_cons_zero, List.set_cons_succ]
          refine wpAny_ready (rs := [6]) (by kernel_rfl) (by simp) ?_
          refine AllReady.cons rfl (fun K hK => ?_) ?_
          · go_simp
            refine (rof_any t _ (by omega)).mono ?_
            rintro e w' ⟨rfl, hBw⟩
            obtain ⟨d, hd0⟩ : ∃ d, d = hashB KK t := ⟨_, rfl⟩
            rw [← hd0]
            have hdd : d.length = 32 := by rw [hd0]; exact hashB_length KK t
            have hds : (digV d).size = 32 := by rw [digV_size, hdd]
            have hF := fold_dig d hdd
            have Hd0 := Lib.hid hd0
            clear hd0
            have hz := ((Below.refl wr.heap.size wr).drew).trans (hBw.mono (Nat.le_refl _))
            have c33' : w'.cell? ⟨p, 33, none⟩ = some v := (hz.cell (p := ⟨p, 33, none⟩) hpw).trans c33
            have c33a : (w'.alloc (.cells (digV d) 23)).cell? ⟨p, 33, none⟩ = some v := (((Below.refl w'.heap.size w').alloc (Nat.le_refl _) (.cells (digV d) 23)).cell (p := ⟨p, 33, none⟩) (Nat.lt_of_lt_of_le hpw hz.size)).trans c33'
            go_wp2_with fail
            try simp only [Act.put, List.getElem_toArray, List.getElem_cons_zero, List.getElem_cons_succ, List.setIfInBounds_toArray, List.set_cons_zero, List.set_cons_succ]
            refine wpAny_ready (rs := [7]) (by kernel_rfl) (by simp) ?_
            refine AllReady.cons rfl (fun K hK => ?_) ?_
            · go_simp
              refine hK _ _ ?_
              clear hK K
              try simp only [Act.put, List.getElem_toArray, List.getElem_cons_zero, List.getElem_cons_succ, List.setIfInBounds_toArray, List.set_cons_zero, List.set_cons_succ]
              refine wpAny_ready (rs := [8]) (by kernel_rfl) (by simp) ?_
              refine AllReady.cons rfl (fun K hK => ?_) ?_
              · rw [if_pos (by rfl)]
                refine wp_append_bag0 (B := w4.heap.size) (w'.alloc (.cells (digV d) 23)) _ _ 37 37 rfl i1 _ 32 Tryd.underlying37 hi1 hy0 hy1 hy2 (by show (digV (List.replicate 32 0)).size = 32; rfl) (by have := HO.out.size; have := hz.size; simp; omega) rfl ((HBg.out.below hz).alloc _) (.slice (some ⟨w'.heap.size, 0, none⟩) 1 1) 1 (byV d) rfl (dig_src w'.heap.size 1 d 23 (0, 0) hdd (heap_alloc_new w' _)) (by omega) (by unfold maxLen; omega) (by omega) ?_
                intro v2 w5 hB5 hb5
                obtain ⟨A5, c5, rfl, -, -⟩ := hB5.shape
                have h5 : w5.heap[p]? = some (.cells (maniRow h l.length v) 39 (0, 0)) := (hb5.block p hp4).trans (((Below.refl w'.heap.size w').alloc (Nat.le_refl _) (.cells (digV d) 23)).block p (Nat.lt_of_lt_of_le hpw hz.size) |>.trans ((hz.block p hpw).trans HP.out))
                have c35 : w5.cell? ⟨p, 33, none⟩ = some v := by rw [Lib.cell_of_heap h5]; exact hm33
                have z35 : w5.frozen? ⟨p, 33, none⟩ = false := Lib.frozen_of_heap h5 _
                have H5 := Lib.hid h5
                clear h5
                refine hK _ _ ?_
                clear hK K
                try simp only [Act.put, List.getElem_toArray, List.getElem_cons_zero, List.getElem_cons_succ, List.setIfInBounds_toArray, List.set_cons_zero, List.set_cons_succ]
                refine wpAny_take (i := 9) (v := ?_) rfl (by kernel_rfl) (by kernel_rfl) (by kernel_rfl) (fun _ _ _ h => h) (Or.inl ⟨by rfl, ?_⟩) ?_
                rotate_left 1
                · intro w
                  go_simp
                  try with_reducible rfl
                try simp only [Act.put, List.getElem_toArray, List.getElem_cons_zero, List.getElem_cons_succ, List.setIfInBounds_toArray, List.set_cons_zero, List.set_cons_succ]
                refine wpAny_ready (rs := [10]) (by kernel_rfl) (by simp) ?_
                refine AllReady.cons rfl (fun K hK => ?_) ?_
                · go_simp
                  refine hK _ _ ?_
                  clear hK K
                  refine wpAny_done (by kernel_rfl) ?_ _
                  have H6 : Hid ((w5.setCell ⟨p, 33, none⟩ (.slice A5 (j + 1) c5)).heap[p]? = some (.cells (maniRow h l.length (.slice A5 (j + 1) c5)) 39 (0, 0))) := Lib.hid ((heap_setCell_same _ p 33 _ _ _ H5.out).trans (by rw [maniRow_set _ _ _ _ hd]))
                  have HB6 : Hid (Bag0 (w5.setCell ⟨p, 33, none⟩ (.slice A5 (j + 1) c5)) w4.heap.size 32 (.slice A5 (j + 1) c5) (j + 1) ((((chunks l).take (j + 1)).map (fun x => byV (hashB KK x))).flatten)) := Lib.hid (by rw [digs_succ _ _ hjt, ← Ht.out, ← Hd0.out]; exact hB5.only ((Only.refl [p] w5).setCell (by simp) _) (by simp; omega))
                  have HO6 : Hid (Only [p] w4 (w5.setCell ⟨p, 33, none⟩ (.slice A5 (j + 1) c5))) := Lib.hid ((((HO.out.trans (Only.of_below hz)).alloc _).belowB hb5).setCell (by simp) _)
                  clear hB5 hb5 hz
                  go_wp2_with fail
                  go_roundw
                  case rel => exact ⟨j + 1, .slice A5 (j + 1) c5, by omega, by go_num, H6.out, HB6.out, HO6.out⟩
                  case measure => simp [intOf]; omega
                exact AllReady.nil
              exact AllReady.nil
            exact AllReady.nil
          exact AllReady.nil
        exact AllReady.nil
      refine AllReady.cons rfl (fun K hK => ?_) ?_
      · go_simp
        refine hK _ _ ?_
        clear hK K
        try simp only [Act.put, List.getElem_toArray, List.getElem_cons_zero, List.getElem_cons_succ, List.setIfInBounds_toArray, List.set_cons_zero, List.set_cons_succ]
        refine wpAny_ready (rs := [1, 6]) (by kernel_rfl) (by simp) ?_
        refine AllReady.cons rfl (fun K hK => ?_) ?_
        · go_simp
          refine hK _ _ ?_
          clear hK K
          try simp only [Act.put, List.getElem_toArray, List.getElem_cons_zero, List.getElem_cons_succ, List.setIfInBounds_toArray, List.set_cons_zero, List.set_cons_succ]
          refine wpAny_ready (rs := [6]) (by kernel_rfl) (by simp) ?_
          refine AllReady.cons rfl (fun K hK => ?_) ?_
          · go_simp
            refine (rof_any t _ (by omega)).mono ?_
            rintro e w' ⟨rfl, hBw⟩
            obtain ⟨d, hd0⟩ : ∃ d, d = hashB KK t := ⟨_, rfl⟩
            rw [← hd0]
            have hdd : d.length = 32 := by rw [hd0]; exact hashB_length KK t
            have hds : (digV d).size = 32 := by rw [digV_size, hdd]
            have hF := fold_dig d hdd
            have Hd0 := Lib.hid hd0
            clear hd0
            have hz := ((Below.refl wr.heap.size wr).drew).trans (hBw.mono (Nat.le_refl _))
            have c33' : w'.cell? ⟨p, 33, none⟩ = some v := (hz.cell (p := ⟨p, 33, none⟩) hpw).trans c33
            have c33a : (w'.alloc (.cells (digV d) 23)).cell? ⟨p, 33, none⟩ = some v := (((Below.refl w'.heap.size w').alloc (Nat.le_refl _) (.cells (digV d) 23)).cell (p := ⟨p, 33, none⟩) (Nat.lt_of_lt_of_le hpw hz.size)).trans c33'
            go_wp2_with fail
            try simp only [Act.put, List.getElem_toArray, List.getElem_cons_zero, List.getElem_cons_succ, List.setIfInBounds_toArray, List.set_cons_zero, List.set_cons_succ]
            refine wpAny_ready (rs := [7]) (by kernel_rfl) (by simp) ?_
            refine AllReady.cons rfl (fun K hK => ?_) ?_
            · go_simp
              refine hK _ _ ?_
              clear hK K
              try simp only [Act.put, List.getElem_toArray, List.getElem_cons_zero, List.getElem_cons_succ, List.setIfInBounds_toArray, List.set_cons_zero, List.set_cons_succ]
              refine wpAny_ready (rs := [8]) (by kernel_rfl) (by simp) ?_
              refine AllReady.cons rfl (fun K hK => ?_) ?_
              · rw [if_pos (by rfl)]
                refine wp_append_bag0 (B := w4.heap.size) (w'.alloc (.cells (digV d) 23)) _ _ 37 37 rfl i1 _ 32 Tryd.underlying37 hi1 hy0 hy1 hy2 (by show (digV (List.replicate 32 0)).size = 32; rfl) (by have := HO.out.size; have := hz.size; simp; omega) rfl ((HBg.out.below hz).alloc _) (.slice (some ⟨w'.heap.size, 0, none⟩) 1 1) 1 (byV d) rfl (dig_src w'.heap.size 1 d 23 (0, 0) hdd (heap_alloc_new w' _)) (by omega) (by unfold maxLen; omega) (by omega) ?_
                intro v2 w5 hB5 hb5
                obtain ⟨A5, c5, rfl, -, -⟩ := hB5.shape
                have h5 : w5.heap[p]? = some (.cells (maniRow h l.length v) 39 (0, 0)) := (hb5.block p hp4).trans (((Below.refl w'.heap.size w').alloc (Nat.le_refl _) (.cells (digV d) 23)).block p (Nat.lt_of_lt_of_le hpw hz.size) |>.trans ((hz.block p hpw).trans HP.out))
                have c35 : w5.cell? ⟨p, 33, none⟩ = some v := by rw [Lib.cell_of_heap h5]; exact hm33
                have z35 : w5.frozen? ⟨p, 33, none⟩ = false := Lib.frozen_of_heap h5 _
                have H5 := Lib.hid h5
                clear h5
                refine hK _ _ ?_
                clear hK K
                try simp only [Act.put, List.getElem_toArray, List.getElem_cons_zero, List.getElem_cons_succ, List.setIfInBounds_toArray, List.set_cons_zero, List.set_cons_succ]
                refine wpAny_take (i := 9) (v := ?_) rfl (by kernel_rfl) (by kernel_rfl) (by kernel_rfl) (fun _ _ _ h => h) (Or.inl ⟨by rfl, ?_⟩) ?_
                rotate_left 1
                · intro w
                  go_simp
                  try with_reducible rfl
                try simp only [Act.put, List.getElem_toArray, List.getElem_cons_zero, List.getElem_cons_succ, List.setIfInBounds_toArray, List.set_cons_zero, List.set_cons_succ]
                refine wpAny_ready (rs := [10]) (by kernel_rfl) (by simp) ?_
                refine AllReady.cons rfl (fun K hK => ?_) ?_
                · go_simp
                  refine hK _ _ ?_
                  clear hK K
                  refine wpAny_done (by kernel_rfl) ?_ _
                  have H6 : Hid ((w5.setCell ⟨p, 33, none⟩ (.slice A5 (j + 1) c5)).heap[p]? = some (.cells (maniRow h l.length (.slice A5 (j + 1) c5)) 39 (0, 0))) := Lib.hid ((heap_setCell_same _ p 33 _ _ _ H5.out).trans (by rw [maniRow_set _ _ _ _ hd]))
                  have HB6 : Hid (Bag0 (w5.setCell ⟨p, 33, none⟩ (.slice A5 (j + 1) c5)) w4.heap.size 32 (.slice A5 (j + 1) c5) (j + 1) ((((chunks l).take (j + 1)).map (fun x => byV (hashB KK x))).flatten)) := Lib.hid (by rw [digs_succ _ _ hjt, ← Ht.out, ← Hd0.out]; exact hB5.only ((Only.refl [p] w5).setCell (by simp) _) (by simp; omega))
                  have HO6 : Hid (Only [p] w4 (w5.setCell ⟨p, 33, none⟩ (.slice A5 (j + 1) c5))) := Lib.hid ((((HO.out.trans (Only.of_below hz)).alloc _).belowB hb5).setCell (by simp) _)
                  clear hB5 hb5 hz
                  go_wp2_with fail
                  go_roundw
                  case rel => exact ⟨j + 1, .slice A5 (j + 1) c5, by omega, by go_num, H6.out, HB6.out, HO6.out⟩
                  case measure => simp [intOf]; omega
                exact AllReady.nil
              exact AllReady.nil
            exact AllReady.nil
          exact AllReady.nil
        refine AllReady.cons rfl (fun K hK => ?_) ?_
        · go_simp
          refine (rof_any t _ (by omega)).mono ?_
          rintro e w' ⟨rfl, hBw⟩
          obtain ⟨d, hd0⟩ : ∃ d, d = hashB KK t := ⟨_, rfl⟩
          rw [← hd0]
          have hdd : d.length = 32 := by rw [hd0]; exact hashB_length KK t
          have hds : (digV d).size = 32 := by rw [digV_size, hdd]
          have hF := fold_dig d hdd
          have Hd0 := Lib.hid hd0
          clear hd0
          have hz := ((Below.refl wr.heap.size wr).drew).trans (hBw.mono (Nat.le_refl _))
          have c33' : w'.cell? ⟨p, 33, none⟩ = some v := (hz.cell (p := ⟨p, 33, none⟩) hpw).trans c33
          have c33a : (w'.alloc (.cells (digV d) 23)).cell? ⟨p, 33, none⟩ = some v := (((Below.refl w'.heap.size w').alloc (Nat.le_refl _) (.cells (digV d) 23)).cell (p := ⟨p, 33, none⟩) (Nat.lt_of_lt_of_le hpw hz.size)).trans c33'
          go_wp2_with fail
          try simp only [Act.put, List.getElem_toArray, List.getElem_cons_zero, List.getElem_cons_succ, List.setIfInBounds_toArray, List.set_cons_zero, List.set_cons_succ]
          refine wpAny_ready (rs := [1, 7]) (by kernel_rfl) (by simp) ?_
          refine AllReady.cons rfl (fun K hK => ?_) ?_
          · go_simp
            refine hK _ _ ?_
            clear hK K
            try simp only [Act.put, List.getElem_toArray, List.getElem_cons_zero, List.getElem_cons_succ, List.setIfInBounds_toArray, List.set_cons_zero, List.set_cons_succ]
            refine wpAny_ready (rs := [7]) (by kernel_rfl) (by simp) ?_
            refine AllReady.cons rfl (fun K hK => ?_) ?_
            · go_simp
              refine hK _ _ ?_
              clear hK K
              try simp only [Act.put, List.getElem_toArray, List.getElem_cons_zero, List.getElem_cons_succ, List.setIfInBounds_toArray, List.set_cons_zero, List.set_cons_succ]
              refine wpAny_ready (rs := [8]) (by kernel_rfl) (by simp) ?_
              refine AllReady.cons rfl (fun K hK => ?_) ?_
              · rw [if_pos (by rfl)]
                refine wp_append_bag0 (B := w4.heap.size) (w'.alloc (.cells (digV d) 23)) _ _ 37 37 rfl i1 _ 32 Tryd.underlying37 hi1 hy0 hy1 hy2 (by show (digV (List.replicate 32 0)).size = 32; rfl) (by have := HO.out.size; have := hz.size; simp; omega) rfl ((HBg.out.below hz).alloc _) (.slice (some ⟨w'.heap.size, 0, none⟩) 1 1) 1 (byV d) rfl (dig_src w'.heap.size 1 d 23 (0, 0) hdd (heap_alloc_new w' _)) (by omega) (by unfold maxLen; omega) (by omega) ?_
                intro v2 w5 hB5 hb5
                obtain ⟨A5, c5, rfl, -, -⟩ := hB5.shape
                have h5 : w5.heap[p]? = some (.cells (maniRow h l.length v) 39 (0, 0)) := (hb5.block p hp4).trans (((Below.refl w'.heap.size w').alloc (Nat.le_refl _) (.cells (digV d) 23)).block p (Nat.lt_of_lt_of_le hpw hz.size) |>.trans ((hz.block p hpw).trans HP.out))
                have c35 : w5.cell? ⟨p, 33, none⟩ = some v := by rw [Lib.cell_of_heap h5]; exact hm33
                have z35 : w5.frozen? ⟨p, 33, none⟩ = false := Lib.frozen_of_heap h5 _
                have H5 := Lib.hid h5
                clear h5
                refine hK _ _ ?_
                clear hK K
                try simp only [Act.put, List.getElem_toArray, List.getElem_cons_zero, List.getElem_cons_succ, List.setIfInBounds_toArray, List.set_cons_zero, List.set_cons_succ]
                refine wpAny_take (i := 9) (v := ?_) rfl (by kernel_rfl) (by kernel_rfl) (by kernel_rfl) (fun _ _ _ h => h) (Or.inl ⟨by rfl, ?_⟩) ?_
                rotate_left 1
                · intro w
                  go_simp
                  try with_reducible rfl
                try simp only [Act.put, List.getElem_toArray, List.getElem_cons_zero, List.getElem_cons_succ, List.setIfInBounds_toArray, List.set_cons_zero, List.set_cons_succ]
                refine wpAny_ready (rs := [10]) (by kernel_rfl) (by simp) ?_
                refine AllReady.cons rfl (fun K hK => ?_) ?_
                · go_simp
                  refine hK _ _ ?_
                  clear hK K
                  refine wpAny_done (by kernel_rfl) ?_ _
                  have H6 : Hid ((w5.setCell ⟨p, 33, none⟩ (.slice A5 (j + 1) c5)).heap[p]? = some (.cells (maniRow h l.length (.slice A5 (j + 1) c5)) 39 (0, 0))) := Lib.hid ((heap_setCell_same _ p 33 _ _ _ H5.out).trans (by rw [maniRow_set _ _ _ _ hd]))
                  have HB6 : Hid (Bag0 (w5.setCell ⟨p, 33, none⟩ (.slice A5 (j + 1) c5)) w4.heap.size 32 (.slice A5 (j + 1) c5) (j + 1) ((((chunks l).take (j + 1)).map (fun x => byV (hashB KK x))).flatten)) := Lib.hid (by rw [digs_succ _ _ hjt, ← Ht.out, ← Hd0.out]; exact hB5.only ((Only.refl [p] w5).setCell (by simp) _) (by simp; omega))
                  have HO6 : Hid (Only [p] w4 (w5.setCell ⟨p, 33, none⟩ (.slice A5 (j + 1) c5))) := Lib.hid ((((HO.out.trans (Only.of_below hz)).alloc _).belowB hb5).setCell (by simp) _)
                  clear hB5 hb5 hz
                  go_wp2_with fail
                  go_roundw
                  case rel => exact ⟨j + 1, .slice A5 (j + 1) c5, by omega, by go_num, H6.out, HB6.out, HO6.out⟩
                  case measure => simp [intOf]; omega
                exact AllReady.nil
              exact AllReady.nil
            exact AllReady.nil
          refine AllReady.cons rfl (fun K hK => ?_) ?_
          · go_simp
            refine hK _ _ ?_
            clear hK K
            try simp only [Act.put, List.getElem_toArray, List.getElem_cons_zero, List.getElem_cons_succ, List.setIfInBounds_toArray, List.set_cons_zero, List.set_cons_succ]
            refine wpAny_ready (rs := [1]) (by kernel_rfl) (by simp) ?_
            refine AllReady.cons rfl (fun K hK => ?_) ?_
            · go_simp
              refine hK _ _ ?_
              clear hK K
              try simp only [Act.put, List.getElem_toArray, List.getElem_cons_zero, List.getElem_cons_succ, List.setIfInBounds_toArray, List.set_cons_zero, List.set_cons_succ]
              refine wpAny_ready (rs := [8]) (by kernel_rfl) (by simp) ?_
              refine AllReady.cons rfl (fun K hK => ?_) ?_
              · rw [if_pos (by rfl)]
                refine wp_append_bag0 (B := w4.heap.size) (w'.alloc (.cells (digV d) 23)) _ _ 37 37 rfl i1 _ 32 Tryd.underlying37 hi1 hy0 hy1 hy2 (by show (digV (List.replicate 32 0)).size = 32; rfl) (by have := HO.out.size; have := hz.size; simp; omega) rfl ((HBg.out.below hz).alloc _) (.slice (some ⟨w'.heap.size, 0, none⟩) 1 1) 1 (byV d) rfl (dig_src w'.heap.size 1 d 23 (0, 0) hdd (heap_alloc_new w' _)) (by omega) (by unfold maxLen; omega) (by omega) ?_
                intro v2 w5 hB5 hb5
                obtain ⟨A5, c5, rfl, -, -⟩ := hB5.shape
                have h5 : w5.heap[p]? = some (.cells (maniRow h l.length v) 39 (0, 0)) := (hb5.block p hp4).trans (((Below.refl w'.heap.size w').alloc (Nat.le_refl _) (.cells (digV d) 23)).block p (Nat.lt_of_lt_of_le hpw hz.size) |>.trans ((hz.block p hpw).trans HP.out))
                have c35 : w5.cell? ⟨p, 33, none⟩ = some v := by rw [Lib.cell_of_heap h5]; exact hm33
                have z35 : w5.frozen? ⟨p, 33, none⟩ = false := Lib.frozen_of_heap h5 _
                have H5 := Lib.hid h5
                clear h5
                refine hK _ _ ?_
                clear hK K
                try simp only [Act.put, List.getElem_toArray, List.getElem_cons_zero, List.getElem_cons_succ, List.setIfInBounds_toArray, List.set_cons_zero, List.set_cons_succ]
                refine wpAny_take (i := 9) (v := ?_) rfl (by kernel_rfl) (by kernel_rfl) (by kernel_rfl) (fun _ _ _ h => h) (Or.inl ⟨by rfl, ?_⟩) ?_
                rotate_left 1
                · intro w
                  go_simp
                  try with_reducible rfl
                try simp only [Act.put, List.getElem_toArray, List.getElem_cons_zero, List.getElem_cons_succ, List.setIfInBounds_toArray, List.set_cons_zero, List.set_cons_succ]
                refine wpAny_ready (rs := [10]) (by kernel_rfl) (by simp) ?_
                refine AllReady.cons rfl (fun K hK => ?_) ?_
                · go_simp
                  refine hK _ _ ?_
                  clear hK K
                  refine wpAny_done (by kernel_rfl) ?_ _
                  have H6 : Hid ((w5.setCell ⟨p, 33, none⟩ (.slice A5 (j + 1) c5)).heap[p]? = some (.cells (maniRow h l.length (.slice A5 (j + 1) c5)) 39 (0, 0))) := Lib.hid ((heap_setCell_same _ p 33 _ _ _ H5.out).trans (by rw [maniRow_set _ _ _ _ hd]))
                  have HB6 : Hid (Bag0 (w5.setCell ⟨p, 33, none⟩ (.slice A5 (j + 1) c5)) w4.heap.size 32 (.slice A5 (j + 1) c5) (j + 1) ((((chunks l).take (j + 1)).map (fun x => byV (hashB KK x))).flatten)) := Lib.hid (by rw [digs_succ _ _ hjt, ← Ht.out, ← Hd0.out]; exact hB5.only ((Only.refl [p] w5).setCell (by simp) _) (by simp; omega))
                  have HO6 : Hid (Only [p] w4 (w5.setCell ⟨p, 33, none⟩ (.slice A5 (j + 1) c5))) := Lib.hid ((((HO.out.trans (Only.of_below hz)).alloc _).belowB hb5).setCell (by simp) _)
                  clear hB5 hb5 hz
                  go_wp2_with fail
                  go_roundw
                  case rel => exact ⟨j + 1, .slice A5 (j + 1) c5, by omega, by go_num, H6.out, HB6.out, HO6.out⟩
                  case measure => simp [intOf]; omega
                exact AllReady.nil
              exact AllReady.nil
            exact AllReady.nil
          exact AllReady.nil
        exact AllReady.nil
      exact AllReady.nil
    · --@after region
      have hjn' : j = n := by omega
      subst hjn'
      have hall : ((((chunks l).take j).map (fun x => byV (hashB KK x))).flatten) = ((((chunks l).map (hashB KK)).map byV).flatten) := by
        rw [List.take_of_length_le (by rw [← Hn.out]; exact Nat.le_refl _), List.map_map]; rfl
      rw [hall] at hB
      obtain ⟨A9, c9, rfl, hc9, hjc9⟩ := hB.shape
      obtain ⟨m, hm⟩ : ∃ m : ManiD, m = ⟨h, l.length, A9, c9, (chunks l).map (hashB KK)⟩ := ⟨_, rfl⟩
      have hrow : maniRow h l.length (.slice A9 j c9) = m.row := by rw [hm]; unfold maniRow ManiD.row ManiD.cells; simp [Hn.out]
      rw [hrow] at hP
      have hmw : m.whole.length = 32 := by rw [hm]; exact hd
      have hone := m.row_one
      have hms := m.row_size hmw
      have hinf : (Tryd.prog.info? 39).map (·.size) = some m.row.size := by rw [hms]; exact mani_info
      have hq0 := H0.out
      have hql : q < w1.heap.size := heap_lt hq0
      have hqp : q ≠ p := by have := Hp.out; have := HB2.out.size; omega
      have hq2 : wr.heap[q]? = some (.cells zeroMani.row 39 (0, 0)) := hO.keep ((HB4.out.block q hql).trans hq0) (by simp; exact hqp)
      have HBm := Lib.hid hB
      have HP := Lib.hid hP
      have Hm := Lib.hid hm
      have HO := Lib.hid hO
      have Hq2 := Lib.hid hq2
      clear hP hm hO hq2 hB hall hrow hq0
      go_wp2_with (first
        | (refine wpList_load_row rfl 39 _ rfl p rfl 39 _ (0, 0) _ HP.out Tryd.underlying39 rfl hinf ?_)
        | (refine wpList_store_row rfl 39 _ _ rfl q m.row rfl rfl 39 _ Hq2.out hinf (by rw [hms]; rfl) hone ?_))
      (try simp only [Exit.inBlock, Exit.then])
      refine bodyPost_ret (results_cell_row2 rfl _ _ q 39 m.row (0, 0) _ rfl (setRow_heap _ _ _ _ _ _ Hq2.out) Tryd.underlying39 rfl hinf) rfl ?_
      have o1 : Only [q] wr (wr.setRow q m.row) := ((Only.refl [q] wr).setRow (by simp) _)
      have hb14 : Only [p] w1 wr := ((Only.of_below HB4.out).trans HO.out)
      have hq1 := Hq.out
      have hp1 := Hp.out
      have hs2 := HB2.out.size
      have hs1 := Hb0.out.size
      refine ⟨m, rfl, ?_, by rw [Hm.out]; exact Hh.out, by rw [Hm.out], by rw [Hm.out], ?_⟩
      · refine ⟨hmw, ?_, ?_, ?_, ?_, ?_⟩
        · rw [Hm.out]; intro d hd'; obtain ⟨x, _, rfl⟩ := List.mem_map.1 hd'; exact hashB_length KK x
        · rw [Hm.out]; show (-9223372036854775808 : Int) ≤ (l.length : Int); omega
        · rw [Hm.out]; show (l.length : Int) ≤ 9223372036854775807; omega
        · rw [Hm.out]; show ((chunks l).map (hashB KK)).length ≤ maxLen; rw [List.length_map, ← Hn.out]; unfold maxLen; omega
        · have e1 : m.A = A9 := by rw [Hm.out]
          have e2 : m.parts = (chunks l).map (hashB KK) := by rw [Hm.out]
          rw [e1, e2]
          exact digs_of_bag (HBm.out.only o1 (by intro x hx; simp at hx; have := HB4.out.size; omega)) (by simp [Hn.out]) (by intro d hd'; obtain ⟨x, _, rfl⟩ := List.mem_map.1 hd'; exact hashB_length KK x)
      · exact Hb0.out.trans ((hb14.mono (by simp) |>.trans (o1.mono (by simp)) : Only [p, q] w1 _).below hs1 (by intro x hx; simp at hx; rcases hx with rfl | rfl <;> omega))
end Go.Proofs.YtfbjbhddapoopaaDoor
