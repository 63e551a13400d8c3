/-
  Layer 3's reference: the walks of bytes, Encode.
-/
import Derived.Test.YtokdnfhglckpkaaDoorFmB
import Derived.Test.YtokdnfhglckpkaaDoorRcE
import Derived.Test.YtokdnfhglckpkaaDoorSapI
set_option linter.unusedVariables false
set_option linter.unusedSimpArgs false
namespace Go.Proofs.YtokdnfhglckpkaaDoor
open Go.RowKit Pl
attribute [local go_sem] Lb.ba_get Lb.ba_cut Lb.ba_add Lb.ba_size Lb.take_rest

theorem byte_src0 {w : World} (g : Nat) (x : UInt8) (T : TypeId) (f : Nat × Nat) (h : w.heap[g]? = some (.cells #[.int .u8 ((x.toNat : Nat) : Int)] T f)) : Src Tryd.prog 1 45 (.slice (some ⟨g, 0, none⟩) 1 1) 1 (byV [x]) w := by
  refine Src.ofSlice w Tryd.underlying45 _ 1 1 (byV [x]) (by simp [byV]) (fun j u hu => ?_) (fun u hu => ?_)
  · rw [Addr.add_lit, Nat.zero_add, Lib.cell_of_heap h]; simpa [byV] using hu
  · simp only [byV, List.mem_map] at hu; obtain ⟨_, _, rfl⟩ := hu; rfl
theorem bag_empty {w : World} {g size : Nat} {T : TypeId} {f : Nat × Nat} (h : w.heap[g]? = some (.cells #[] T f)) (B : Nat) (hB : B ≤ g) : Bag0 w B size (.slice (some ⟨g, 0, none⟩) 0 0) 0 [] :=
  .inr ⟨g, 0, rfl, hB, ⟨Nat.le_refl _, by unfold maxLen; omega, heap_lt h, by simp, fun j u hu => by simp at hu, fun j hj => absurd hj (by simp)⟩⟩

set_option maxHeartbeats 1000000 in
set_option maxRecDepth 100000 in
theorem rbytes_any (d : List UInt8) (w : World) (hd : d.length = 32) :
    Calls Tryd.prog 58 #[.agg (digV d)] w fun e w' => e = .returned (.string ⟨d.toArray⟩) ∧ Below w.heap.size w w' := by
  go_enter Tryd.func58, Tryd.ntmps58
  obtain ⟨i1, hi1, hy0, hy1, hy2⟩ := info_parts u8_info3
  go_upto_region 2 with fail
  obtain ⟨q, hq⟩ : ∃ q, q = w.heap.size := ⟨_, rfl⟩
  have h0 : ((w.alloc (.cells (digV d) 24)).alloc (.cells #[] 5)).heap[q]? = some (.cells (digV d) 24 (0, 0)) := by
    rw [hq]; exact (Below.heap_alloc _ _ _ (by simp)).trans (heap_alloc_new w _)
  have h1 : ((w.alloc (.cells (digV d) 24)).alloc (.cells #[] 5)).heap[w.heap.size + 1]? = some (.cells #[] 5 (0, 0)) := heap_alloc2_new w _ _
  have b0 : Below w.heap.size w ((w.alloc (.cells (digV d) 24)).alloc (.cells #[] 5)) := ((Below.refl _ w).alloc (Nat.le_refl _) _).alloc (by simp) _
  obtain ⟨w1, hw1⟩ : ∃ w1, w1 = (w.alloc (.cells (digV d) 24)).alloc (.cells #[] 5) := ⟨_, rfl⟩
  rw [← hw1] at h0 h1 b0 ⊢
  have hB := bag_empty (size := 1) h1 (q + 1) (by omega)
  rw [← hq] at hB ⊢
  have HB0 := Lib.hid hB
  have Hb0 := Lib.hid b0
  have H0 := Lib.hid h0
  have hq1 := heap_lt h0
  have Hq := Lib.hid hq
  clear hw1 h1 h0 b0 hB hq
  go_wp2_with fail
  go_loopw [4, 3] (fun c v wr => ∃ j : Nat, j ≤ 32 ∧ c = .int .i64 j ∧ Bag0 wr (q + 1) 1 v j (byV (d.take j)) ∧ Below (q + 1) w1 wr) (fun c _ _ => 32 - (intOf c).toNat)
  case atStart => exact ⟨0, by omega, rfl, HB0.out, Below.refl _ _⟩
  case round =>
    obtain ⟨j, hj, rfl, hB, hO⟩ := hrel
    have HO := Lib.hid hO
    by_cases hjn : j < 32
    · have hjd : j < d.length := by omega
      have hqr : wr.cell? ⟨q, j, none⟩ = some (.int .u8 ((d[j].toNat : Nat) : Int)) := by
        refine (hO.cell (p := ⟨q, j, none⟩) (by simp)).trans ?_
        rw [Lib.cell_of_heap H0.out]
        simp [digV, byV, hjd]
      obtain ⟨x, hx⟩ : ∃ x, x = d[j] := ⟨_, rfl⟩
      rw [← hx] at hqr
      have hqs : q + 1 ≤ wr.heap.size := by have := hO.size; omega
      have j0 : (0 : Int) ≤ (j : Int) := by omega
      have jn : (j : Int) < 32 := by omega
      have HB := Lib.hid hB
      have Hx := Lib.hid hx
      clear hB hO hx
      go_wp2_with (refine wpList_append_bag0 (B := q + 1) (wr.alloc (.cells #[.int .u8 ((x.toNat : Nat) : Int)] 5)) rfl _ _ 45 45 rfl i1 _ 1 Tryd.underlying45 hi1 hy0 hy1 hy2 rfl (by simp; omega) rfl (HB.out.alloc _) _ 1 (byV [x]) rfl (byte_src0 wr.heap.size x 5 (0, 0) (heap_alloc_new wr _)) (by omega) (by unfold maxLen; omega) (by omega) ?_; intro v5 w5 hB5 hb5)
      have HB5 : Hid (Bag0 w5 (q + 1) 1 v5 (j + 1) (byV (d.take (j + 1)))) := Lib.hid (by rw [List.take_succ_eq_append_getElem hjd, byV_app, ← Hx.out]; exact hB5)
      have HO5 := Lib.hid ((HO.out.alloc hqs _).trans hb5)
      clear hB5 hb5
      go_wp2_with fail
      go_roundw
      case rel => exact ⟨j + 1, by omega, by go_num, HB5.out, HO5.out⟩
      case measure => simp [intOf]; omega
    · obtain rfl : j = 32 := by omega
      have htk : d.take 32 = d := List.take_of_length_le (by omega)
      rw [htk] at hB
      have hs := str_bag0 (ds := d) (by rw [hd]; exact hB)
      clear hB hO
      go_wp2_with fail
      go_ret
      exact ⟨rfl, Hb0.out.trans (HO.out.mono (by rw [Hq.out]; omega))⟩

set_option maxHeartbeats 1000000 in
set_option maxRecDepth 100000 in
theorem rencode_any (m : ManiD) (w : World) (hm : m.Ok w w.heap.size) :
    Calls Tryd.prog 30 #[.agg m.row] w fun e w' => e = .returned (.tuple #[.string ⟨((encS m).1).toArray⟩, .int .i64 (encS m).2]) ∧ Below w.heap.size w w' := by
  have hmw := hm.whole
  have hinf : (Tryd.prog.info? 27).map (·.size) = some m.row.size := by rw [m.row_size hmw]; exact mani_info
  go_enter Tryd.func30, Tryd.ntmps30
  go_upto_region 1 with fail
  obtain ⟨q, hq⟩ : ∃ q, q = w.heap.size := ⟨_, rfl⟩
  have h0 : (w.alloc (.cells m.row 27)).heap[q]? = some (.cells m.row 27 (0, 0)) := by rw [hq]; exact heap_alloc_new w _
  have b0 : Below w.heap.size w (w.alloc (.cells m.row 27)) := (Below.refl _ w).alloc (Nat.le_refl _) _
  obtain ⟨w1, hw1⟩ : ∃ w1, w1 = w.alloc (.cells m.row 27) := ⟨_, rfl⟩
  rw [← hw1] at h0 b0 ⊢
  rw [← hq]
  have hg := rgood_any m w1 hm.whole hm.lo hm.hi hm.len
  have Hg := Lib.hid hg
  have H0 := Lib.hid h0
  have Hb0 := Lib.hid b0
  have Hm1 := Lib.hid ((hm.below b0 (Nat.le_refl _)).more b0.size)
  have Hq := Lib.hid hq
  have hc32 := m.at32 hmw
  have hc33 := m.at33 hmw
  clear hw1 hq h0 b0 hg hm
  go_wp2_with (refine wpList_load_row rfl 27 _ rfl q rfl 27 _ (0, 0) _ H0.out Tryd.underlying27 rfl hinf ?_)
  refine Hg.out.mono ?_
  rintro e w2 ⟨rfl, hB2⟩
  have H2 : Hid (w2.heap[q]? = some (.cells m.row 27 (0, 0))) := Lib.hid (below_keep hB2 H0.out)
  have Hm2 := Lib.hid ((Hm1.out.below hB2 (Nat.le_refl _)).more hB2.size)
  have HB2 := Lib.hid (Hb0.out.trans (hB2.mono Hb0.out.size))
  clear hB2 Hg H0 Hm1
  by_cases hgood : goodS m.size m.parts.length = true
  · have he : encS m = (encB m, 0) := by unfold encS; rw [if_pos hgood]
    rw [hgood]
    have He := Lib.hid he
    have hgb := good_bounds hgood
    have Hwf := Lib.hid Hm2.out.wf
    obtain ⟨n, hnn⟩ : ∃ n, n = m.parts.length := ⟨_, rfl⟩
    rw [← hnn] at hgb hc33
    have hnI : (n : Int) ≤ 8 := by omega
    have Hn := Lib.hid hnn
    have hq2 := heap_lt H2.out
    clear hnn he hgood
    go_wp2_with fail
    go_loopw [5, 4] (fun c v wr => ∃ j : Nat, j ≤ n ∧ c = .int .i64 j ∧ v = .string ⟨((m.parts.take j).flatten).toArray⟩ ∧ Below w2.heap.size w2 wr) (fun c _ _ => n - (intOf c).toNat)
    case atStart => exact ⟨0, by omega, rfl, rfl, Below.refl _ _⟩
    case round =>
      obtain ⟨j, hj, rfl, rfl, hO⟩ := hrel
      have hR : wr.heap[q]? = some (.cells m.row 27 (0, 0)) := below_keep hO H2.out
      have r33 : wr.cell? ⟨q, 33, none⟩ = some (.slice m.A n m.cap) := by rw [Lib.cell_of_heap hR]; exact hc33
      have HRr := Lib.hid hR
      clear hR
      by_cases hjn : j < n
      · have hjt : j < m.parts.length := by rw [← Hn.out]; exact hjn
        obtain ⟨b, o, hA, hb, hc⟩ := (Hm2.out.below hO (Nat.le_refl _)).digs j hjt
        obtain ⟨d, hdd⟩ : ∃ d, d = m.parts[j] := ⟨_, rfl⟩
        have hd : d.length = 32 := by rw [hdd]; exact Hm2.out.each _ (List.getElem_mem _)
        rw [← hdd] at hc
        have hdi : (Tryd.prog.info? 24).map (·.size) = some (byV d).length := by rw [dig_info, byV_len, hd]
        have HD := Lib.hid (rbytes_any d wr hd)
        have Hc := Lib.hid hc
        have HO := Lib.hid hO
        have Hdd := Lib.hid hdd
        have j0 : (0 : Int) ≤ (j : Int) := by omega
        have jn : (j : Int) < (n : Int) := by omega
        obtain ⟨t, ht⟩ : ∃ t, t = (m.parts.take j).flatten := ⟨_, rfl⟩
        rw [← ht]
        have Ht := Lib.hid ht
        have htl : t.length ≤ 256 := by
          have := flat32_length (m.parts.take j) (fun d hd => Hm2.out.each d (List.mem_of_mem_take hd))
          rw [ht, this, List.length_take]; omega
        clear hO hdd hc ht
        rw [hA] at r33
        go_wp2_with (refine wpList_load_mid rfl 24 _ rfl b (o + j * 32) rfl _ _ Hc.out Tryd.underlying24 rfl hdi ?_)
        refine HD.out.mono ?_
        rintro e w3 ⟨rfl, hB3⟩
        go_wp2_with fail
        go_roundw
        case rel => exact ⟨j + 1, by omega, by go_num, by rw [flat_take_succ j hjt, ← Hdd.out, ← Ht.out], HO.out.trans (hB3.mono HO.out.size)⟩
        case measure => simp [intOf]; omega
      · obtain rfl : j = n := by omega
        have htk : m.parts.take j = m.parts := by rw [Hn.out]; exact List.take_length
        rw [htk]
        have hfl := flat32_length m.parts Hm2.out.each
        have hqr := heap_lt HRr.out
        have r32 : wr.cell? ⟨q, 32, none⟩ = some (.int .i64 m.size) := by rw [Lib.cell_of_heap HRr.out]; exact hc32
        have rm := range_row HRr.out
        have Hlen : Hid (m.parts.flatten.length = 32 * j) := Lib.hid (by rw [hfl, ← Hn.out])
        have HO := Lib.hid hO
        obtain ⟨t0, ht0⟩ : ∃ t, t = m.whole := ⟨_, rfl⟩
        obtain ⟨t1, ht1⟩ : ∃ t, t = num m.size := ⟨_, rfl⟩
        obtain ⟨t2, ht2⟩ : ∃ t, t = m.parts.flatten := ⟨_, rfl⟩
        have HR : Hid (srow [t0, t1, t2] = encB m) := Lib.hid (by rw [ht0, ht1, ht2]; rfl)
        have HL : Hid ((srow [t0, t1, t2]).length ≤ 140737488355328) := Lib.hid (by
          have := rowB_le9 [t0, t1, t2] (by simp) (by
            have := num_length_le m.size Hm2.out.lo Hm2.out.hi
            intro s hs
            simp only [List.mem_cons, List.not_mem_nil, or_false] at hs
            rcases hs with rfl | rfl | rfl
            · rw [ht0, hmw]; omega
            · rw [ht1]; omega
            · rw [ht2, Hlen.out]; omega)
          have := num_length_le m.size Hm2.out.lo Hm2.out.hi
          have e0 : t0.length = 32 := by rw [ht0]; exact hmw
          have e1 : t1.length ≤ 9 := by rw [ht1]; assumption
          have e2 : t2.length ≤ 256 := by rw [ht2, Hlen.out]; omega
          simp only [List.map_cons, List.map_nil, List.sum_cons, List.sum_nil] at *
          omega)
        have HN : Hid (∀ W : World, Calls Tryd.prog 60 #[.int .i64 m.size] W fun e w' => e = .returned (.string ⟨t1.toArray⟩) ∧ Below W.heap.size W w') := Lib.hid (fun W => by rw [ht1]; exact refNum_any m.size W Hm2.out.lo Hm2.out.hi)
        have t32 : t0.length = 32 := by rw [ht0]; exact hmw
        have HBy : Hid (∀ W : World, Calls Tryd.prog 58 #[.agg (byV t0).toArray] W fun e w' => e = .returned (.string ⟨t0.toArray⟩) ∧ Below W.heap.size W w') := Lib.hid (fun W => rbytes_any t0 W t32)
        rw [← ht0] at rm
        rw [← ht2]
        have dim : (Tryd.prog.info? 24).map (·.size) = some (byV t0).length := by rw [dig_info, byV_len, t32]
        have dund := Tryd.underlying24
        have Rm := Lib.hid rm
        clear ht0 ht1 ht2 hO rm hfl htk
        go_upto_region 8 with fail
        refine wp_region_held_drew (S := fun w' => Below wr.heap.size wr w') (by kernel_rfl) ((Below.refl _ _).drew) (fun hH0 => ?_)
        obtain ⟨W0, hW0⟩ : ∃ W, W = wr.drew := ⟨_, rfl⟩
        rw [← hW0] at hH0 ⊢
        clear hW0
        refine wpAnyH_take (i := 0) (v := ?_) rfl (by kernel_rfl) (by kernel_rfl) (by kernel_rfl) (fun _ _ _ h => h) (Or.inl ⟨by kernel_rfl, ?_⟩) hH0 ?_
        rotate_left 1
        · intro w hSw
          go_simp
          try with_reducible rfl
        try simp only [Act.put, List.getElem_toArray, List.getElem_cons_zero, List.getElem_cons_succ, List.setIfInBounds_toArray, List.set_cons_zero, List.set_cons_succ]
        refine wpAnyH_take (i := 1) (v := _) rfl (by kernel_rfl) (by kernel_rfl) (by kernel_rfl) (fun _ _ _ h => h) (yieldsIf_load_mid (by kernel_rfl) _ _ rfl _ _ rfl (byV t0) _ (fun W hW => range_below Rm.out hW hqr) dund rfl dim) hH0 ?_
        try simp only [Act.put, List.getElem_toArray, List.getElem_cons_zero, List.getElem_cons_succ, List.setIfInBounds_toArray, List.set_cons_zero, List.set_cons_succ]
        refine wpAnyH_take (i := 3) (v := ?_) rfl (by kernel_rfl) (by kernel_rfl) (by kernel_rfl) (fun _ _ _ h => h) (Or.inl ⟨by kernel_rfl, ?_⟩) hH0 ?_
        rotate_left 1
        · intro w hSw
          go_simp
          try with_reducible rfl
        try simp only [Act.put, List.getElem_toArray, List.getElem_cons_zero, List.getElem_cons_succ, List.setIfInBounds_toArray, List.set_cons_zero, List.set_cons_succ]
        refine wpAnyH_take (i := 4) (v := ?_) rfl (by kernel_rfl) (by kernel_rfl) (by kernel_rfl) (fun _ _ _ h => h) (Or.inl ⟨by kernel_rfl, ?_⟩) hH0 ?_
        rotate_left 1
        · intro w hSw
          have f0 := (hSw.cell (p := ⟨q, 32, none⟩) hqr).trans r32
          go_simp
          try with_reducible rfl
        try simp only [Act.put, List.getElem_toArray, List.getElem_cons_zero, List.getElem_cons_succ, List.setIfInBounds_toArray, List.set_cons_zero, List.set_cons_succ]
        refine wpAnyH_take (i := 6) (v := ?_) rfl (by kernel_rfl) (by kernel_rfl) (by kernel_rfl) (fun _ _ _ h => h) (Or.inl ⟨by kernel_rfl, ?_⟩) hH0 ?_
        rotate_left 1
        · intro w hSw
          go_simp
          try with_reducible rfl
        try simp only [Act.put, List.getElem_toArray, List.getElem_cons_zero, List.getElem_cons_succ, List.setIfInBounds_toArray, List.set_cons_zero, List.set_cons_succ]
        refine wpAnyH_ready (rs := [2]) (by kernel_rfl) (by simp) ?_
        refine AllReadyH.cons rfl (fun K_ hK => ?_) ?_
        · go_simp
          refine (HBy.out _).mono ?_
          rintro e W1 ⟨rfl, hb1⟩
          refine hK.out _ _ ((hH0).trans (hb1.mono (hH0).size)) (fun hH1 => ?_)
          clear hK K_
          try simp only [Act.put, List.getElem_toArray, List.getElem_cons_zero, List.getElem_cons_succ, List.setIfInBounds_toArray, List.set_cons_zero, List.set_cons_succ]
          refine wpAnyH_ready (rs := [5]) (by kernel_rfl) (by simp) ?_
          refine AllReadyH.cons rfl (fun K_ hK => ?_) ?_
          · go_simp
            refine (HN.out _).mono ?_
            rintro e W2 ⟨rfl, hb2⟩
            refine hK.out _ _ ((hH1).trans (hb2.mono (hH1).size)) (fun hH2 => ?_)
            clear hK K_
            try simp only [Act.put, List.getElem_toArray, List.getElem_cons_zero, List.getElem_cons_succ, List.setIfInBounds_toArray, List.set_cons_zero, List.set_cons_succ]
            refine wpAnyH_ready (rs := [7]) (by kernel_rfl) (by simp) ?_
            refine AllReadyH.cons rfl (fun K_ hK => ?_) ?_
            · go_simp
              have hb3 := (Below.refl W2.heap.size W2).alloc (Nat.le_refl _) (.cells #[.string ⟨t0.toArray⟩, .string ⟨t1.toArray⟩, .string ⟨t2.toArray⟩] 9)
              have hS3 := strs_three W2 t0 t1 t2
              obtain ⟨W3, hW3⟩ : ∃ W, W = W2.alloc (.cells #[.string ⟨t0.toArray⟩, .string ⟨t1.toArray⟩, .string ⟨t2.toArray⟩] 9) := ⟨_, rfl⟩
              rw [← hW3] at hb3 hS3 ⊢
              clear hW3
              have hS := Lib.hid hS3
              refine hK.out _ _ ((hH2).trans (hb3.mono (hH2).size)) (fun hH3 => ?_)
              clear hK K_
              try simp only [Act.put, List.getElem_toArray, List.getElem_cons_zero, List.getElem_cons_succ, List.setIfInBounds_toArray, List.set_cons_zero, List.set_cons_succ]
              refine wpAnyH_ready (rs := [8]) (by kernel_rfl) (by simp) ?_
              refine AllReadyH.cons rfl (fun K_ hK => ?_) ?_
              · go_simp
                refine (refRow_any _ _ [t0, t1, t2] _ hS.out HL.out).mono ?_
                rintro e W4 ⟨rfl, hb4⟩
                rw [HR.out]
                refine hK.out _ _ ((hH3).trans (hb4.mono (hH3).size)) (fun hH4 => ?_)
                clear hK K_
                try simp only [Act.put, List.getElem_toArray, List.getElem_cons_zero, List.getElem_cons_succ, List.setIfInBounds_toArray, List.set_cons_zero, List.set_cons_succ]
                refine wpAnyH_take (i := 9) (v := ?_) rfl (by kernel_rfl) (by kernel_rfl) (by kernel_rfl) (fun _ _ _ h => h) (Or.inl ⟨by kernel_rfl, ?_⟩) hH4 ?_
                rotate_left 1
                · intro w hSw
                  go_simp
                  try with_reducible rfl
                try simp only [Act.put, List.getElem_toArray, List.getElem_cons_zero, List.getElem_cons_succ, List.setIfInBounds_toArray, List.set_cons_zero, List.set_cons_succ]
                refine wpAnyH_take (i := 10) (v := ?_) rfl (by kernel_rfl) (by kernel_rfl) (by kernel_rfl) (fun _ _ _ h => h) (Or.inl ⟨by kernel_rfl, ?_⟩) hH4 ?_
                rotate_left 1
                · intro w hSw
                  go_simp
                  try with_reducible rfl
                try simp only [Act.put, List.getElem_toArray, List.getElem_cons_zero, List.getElem_cons_succ, List.setIfInBounds_toArray, List.set_cons_zero, List.set_cons_succ]
                refine wpAnyH_done (by kernel_rfl) ?_ _
                have HH := Lib.hid hH4
                clear hH4
                go_wp2_with fail
                go_ret2
                exact ⟨by rw [He.out]; rfl, HB2.out.trans ((HO.out.trans (HH.out.mono HO.out.size)).mono HB2.out.size)⟩
              exact AllReadyH.nil
            exact AllReadyH.nil
          exact AllReadyH.nil
        exact AllReadyH.nil
  · have hg2 : goodS m.size m.parts.length = false := by simpa using hgood
    have he : encS m = ([], 1) := by unfold encS; rw [if_neg (by rw [hg2]; simp)]
    rw [hg2]
    have He := Lib.hid he
    clear he
    go_wp2_with fail
    go_ret2
    exact ⟨by rw [He.out]; rfl, HB2.out⟩
end Go.Proofs.YtokdnfhglckpkaaDoor
