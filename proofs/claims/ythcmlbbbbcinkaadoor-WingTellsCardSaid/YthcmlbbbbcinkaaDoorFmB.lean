/-
  Layer 3: the walk of Encode.
-/
import Derived.Test.YthcmlbbbbcinkaaDoorFmA
import Derived.Test.YthcmlbbbbcinkaaDoorSapD
import Derived.Test.YthcmlbbbbcinkaaDoorLibB
set_option linter.unusedVariables false
set_option linter.unusedSimpArgs false
namespace Go.Proofs.YthcmlbbbbcinkaaDoor
open Go.RowKit Pl
attribute [local go_sem] Lb.ba_get Lb.ba_cut Lb.ba_add Lb.ba_size Lb.take_rest

theorem u8_info3 : (Tryd.prog.info? 5).map (fun i => (i.zero, i.size, i.bytes)) = some (some (.int .u8 0), 1, 1) := by kernel_rfl
theorem byV_len (d : List UInt8) : (byV d).length = d.length := by simp [byV]
theorem byV_cells (d : List UInt8) : byV d = Lib.byteCells d := rfl
theorem byV_app (a b : List UInt8) : byV (a ++ b) = byV a ++ byV b := by simp [byV]
/-- a digest's own bytes, as a slice of its array -/
theorem arr_src {w : World} (g c : Nat) (d : List UInt8) (T : TypeId) (f : Nat × Nat) (hd : d.length = 32) (h : w.heap[g]? = some (.cells (digV d) T f)) : Src Tryd.prog 1 45 (.slice (some ⟨g, 0, none⟩) 32 c) 32 (byV d) w := by
  refine Src.ofSlice w Tryd.underlying45 _ 32 c (byV d) (by simp [byV, hd]) (fun j u hu => ?_) (fun u hu => ?_)
  · rw [Addr.add_lit, Nat.zero_add, Lib.cell_of_heap h]; simpa [digV] using hu
  · simp only [byV, List.mem_map] at hu; obtain ⟨_, _, rfl⟩ := hu; rfl
theorem flat_take_succ {ds : List (List UInt8)} (j : Nat) (hj : j < ds.length) : (ds.take (j + 1)).flatten = (ds.take j).flatten ++ ds[j] := by
  rw [List.take_succ_eq_append_getElem hj, List.flatten_append]; simp
theorem strs_three (w : World) (x y z : List UInt8) : Strs (w.alloc (.cells #[.string ⟨x.toArray⟩, .string ⟨y.toArray⟩, .string ⟨z.toArray⟩] 9)) (w.alloc (.cells #[.string ⟨x.toArray⟩, .string ⟨y.toArray⟩, .string ⟨z.toArray⟩] 9)).heap.size (some ⟨w.heap.size, 0, none⟩) [x, y, z] := by
  intro i hi
  refine ⟨_, rfl, by simp, ?_⟩
  match i, hi with
  | 0, _ => simp [Addr.add]
  | 1, _ => simp [Addr.add]
  | 2, _ => simp [Addr.add]
/-- a row's length -/
theorem textsB_le9 (ls : List (List UInt8)) (h : ∀ s ∈ ls, s.length ≤ 9223372036854775807) : (textsB ls).length ≤ 9 * (ls.map fun s => s.length + 1).sum := by
  induction ls with
  | nil => simp [textsB]
  | cons s ls ih =>
    have h1 := ih (fun t ht => h t (by simp [ht]))
    have h2 : (num (s.length : Int)).length ≤ 9 := num_length_le _ (by omega) (by have := h s (by simp); omega)
    have e : textsB (s :: ls) = textB s ++ textsB ls := by simp [textsB]
    rw [e]
    simp only [textB, List.length_append, List.map_cons, List.sum_cons] at *
    omega
theorem rowB_le9 (ls : List (List UInt8)) (hn : ls.length ≤ 9223372036854775807) (h : ∀ s ∈ ls, s.length ≤ 9223372036854775807) : (srow ls).length ≤ 9 + 9 * (ls.map fun s => s.length + 1).sum := by
  have h1 := textsB_le9 ls h
  have h2 : (num (ls.length : Int)).length ≤ 9 := num_length_le _ (by omega) (by omega)
  unfold srow
  rw [List.length_append]
  omega
/-- a row of the call's own, nil too, as a text -/
theorem str_bag0 {w : World} {B : Nat} {v : Value} {ds : List UInt8} (h : Bag0 w B 1 v ds.length (byV ds)) : (convert 45 9 v).run Tryd.prog w = .ok (.string ⟨ds.toArray⟩) w := by
  rcases h with ⟨rfl, h0, hcs⟩ | ⟨g, c, rfl, hg, hB⟩
  · have : ds = [] := List.length_eq_zero_iff.1 h0
    subst this
    exact run_convert_bytes_nil (P := Tryd.prog) (w := w) 45 5 Tryd.underlying45 Tryd.underlying5 0 0 _ Tryd.underlying9
  · refine run_convert_bytes_back w 45 9 5 ⟨g, 0, none⟩ c ds Tryd.underlying45 Tryd.underlying5 Tryd.underlying9 fun j hj => ?_
    rw [Addr.add_lit, Nat.zero_add]
    exact hB.holds j _ (by simp [byV, hj])
set_option maxHeartbeats 1000000 in
set_option maxRecDepth 100000 in
theorem encode_any (m : ManiD) (w : World) (hm : m.Ok w w.heap.size) :
    Calls Tryd.prog 41 #[.agg m.row] w fun e w' => e = .returned (.tuple #[.string ⟨((encS m).1).toArray⟩, .int .i64 (encS m).2]) ∧ Below w.heap.size w w' := by
  have hmw := hm.whole
  have hinf : (Tryd.prog.info? 31).map (·.size) = some m.row.size := by rw [m.row_size hmw]; exact mani_info
  go_enter Tryd.func41, Tryd.ntmps41
  go_upto_region 1 with fail
  obtain ⟨q, hq⟩ : ∃ q, q = w.heap.size := ⟨_, rfl⟩
  have h0 : (w.alloc (.cells m.row 31)).heap[q]? = some (.cells m.row 31 (0, 0)) := by rw [hq]; exact heap_alloc_new w _
  have b0 : Below w.heap.size w (w.alloc (.cells m.row 31)) := (Below.refl _ w).alloc (Nat.le_refl _) _
  obtain ⟨w1, hw1⟩ : ∃ w1, w1 = w.alloc (.cells m.row 31) := ⟨_, rfl⟩
  rw [← hw1] at h0 b0 ⊢
  rw [← hq]
  have hg := good_any m w1 hm.whole hm.lo hm.hi hm.len
  have Hg := Lib.hid hg
  have H0 := Lib.hid h0
  have Hb0 := Lib.hid b0
  have Hm1 := Lib.hid ((hm.below b0 (Nat.le_refl _)).more b0.size)
  have Hq := Lib.hid hq
  have hc32 := m.at32 hmw
  have hc33 := m.at33 hmw
  clear hw1 hq h0 b0 hg hm
  go_wp2_with (refine wpList_load_row rfl 31 _ rfl q rfl 31 _ (0, 0) _ H0.out Tryd.underlying31 rfl hinf ?_)
  refine Hg.out.mono ?_
  rintro e w2 ⟨rfl, hB2⟩
  have H2 : Hid (w2.heap[q]? = some (.cells m.row 31 (0, 0))) := Lib.hid (below_keep hB2 H0.out)
  have Hm2 := Lib.hid ((Hm1.out.below hB2 (Nat.le_refl _)).more hB2.size)
  have HB2 := Lib.hid (Hb0.out.trans (hB2.mono Hb0.out.size))
  clear hB2 Hg H0 Hm1
  by_cases hgood : goodS m.size m.parts.length = true
  · have he : encS m = (encB m, 0) := by unfold encS; rw [if_pos hgood]
    rw [hgood]
    have He := Lib.hid he
    have hgb := good_bounds hgood
    have Hwf := Lib.hid Hm2.out.wf
    obtain ⟨n, hnn⟩ : ∃ n, n = m.parts.length := ⟨_, rfl⟩
    have c33 : w2.cell? ⟨q, 33, none⟩ = some (.slice m.A n m.cap) := by rw [Lib.cell_of_heap H2.out, hnn]; exact hc33
    rw [← hnn] at hgb
    have hnI : (n : Int) ≤ 8 := by omega
    have Hn := Lib.hid hnn
    have hq2 := heap_lt H2.out
    clear hnn hc33 he hgood
    go_wp2_with fail
    go_loopw [13, 4] (fun c v wr => ∃ j : Nat, j ≤ n ∧ c = .int .i64 j ∧ Bag0 wr w2.heap.size 1 v (32 * j) (byV ((m.parts.take j).flatten)) ∧ Below w2.heap.size w2 wr) (fun c _ _ => n - (intOf c).toNat)
    case atStart => exact ⟨0, by omega, rfl, Bag0.nil _ _ _, Below.refl _ _⟩
    case round =>
      obtain ⟨j, hj, rfl, hB, hO⟩ := hrel
      by_cases hjn : j < n
      · have hjt : j < m.parts.length := by rw [← Hn.out]; exact hjn
        obtain ⟨b, o, hA, hb, hc⟩ := (Hm2.out.below hO (Nat.le_refl _)).digs j hjt
        obtain ⟨d, hdd⟩ : ∃ d, d = m.parts[j] := ⟨_, rfl⟩
        have hd : d.length = 32 := by rw [hdd]; exact Hm2.out.each _ (List.getElem_mem _)
        rw [← hdd] at hc
        have hds : (digV d).size = 32 := by rw [digV_size, hd]
        have hone := digV_one d
        have hdi : (Tryd.prog.info? 23).map (·.size) = some (byV d).length := by rw [dig_info, byV_len, hd]
        have hdv : (Tryd.prog.info? 23).map (·.size) = some (digV d).size := by rw [dig_info, hds]
        have Hc := Lib.hid hc
        have HB := Lib.hid hB
        have HO := Lib.hid hO
        have Hdd := Lib.hid hdd
        have j0 : (0 : Int) ≤ (j : Int) := by omega
        have jn : (j : Int) < (n : Int) := by omega
        clear hB hO hdd hc
        rw [hA]
        obtain ⟨i1, hi1, hy0, hy1, hy2⟩ := info_parts u8_info3
        go_upto_region 7 with (first
          | (refine wpList_load_mid rfl 23 _ rfl b (o + j * 32) rfl _ _ Hc.out Tryd.underlying23 rfl hdi ?_)
          | (refine wpList_store_row rfl 23 _ _ rfl wr.heap.size (digV d) rfl rfl 23 _ (heap_alloc_new wr _) hdv (by rw [hds]; rfl) hone ?_))
        obtain ⟨p, hp⟩ : ∃ p, p = wr.heap.size := ⟨_, rfl⟩
        have h3 := setRow_heap _ _ _ (digV d) _ _ (heap_alloc_new wr (.cells (digV (List.replicate 32 0)) 23))
        have o3 : Only [p] wr ((wr.alloc (.cells (digV (List.replicate 32 0)) 23)).setRow wr.heap.size (digV d)) := ((Only.refl [p] wr).alloc _).setRow (by simp [hp]) _
        obtain ⟨w3, hw3⟩ : ∃ w3, w3 = (wr.alloc (.cells (digV (List.replicate 32 0)) 23)).setRow wr.heap.size (digV d) := ⟨_, rfl⟩
        rw [← hw3] at h3 o3
        show Code.wp _ _ _ _ ((wr.alloc (.cells (digV (List.replicate 32 0)) 23)).setRow wr.heap.size (digV d))
        rw [← hw3, ← hp]
        rw [← hp] at h3
        have b3 : Below wr.heap.size wr w3 := o3.below (Nat.le_refl _) (by simp [hp])
        have H3 := Lib.hid h3
        have HB3 := Lib.hid (HB.out.below b3)
        have HO3 := Lib.hid (HO.out.trans (b3.mono HO.out.size))
        clear hw3 h3 o3 b3 hp HB HO
        go_wp2_with (refine wpList_append_bag0 (B := w2.heap.size) w3 rfl _ _ 45 45 rfl i1 _ 1 Tryd.underlying45 hi1 hy0 hy1 hy2 rfl HO3.out.size rfl HB3.out _ 32 (byV d) rfl (arr_src p 32 d _ _ hd H3.out) (by omega) (by unfold maxLen; omega) (by omega) ?_; intro v5 w5 hB5 hb5)
        have HB5 : Hid (Bag0 w5 w2.heap.size 1 v5 (32 * (j + 1)) (byV ((m.parts.take (j + 1)).flatten))) := Lib.hid (by rw [flat_take_succ j hjt, ← Hdd.out, byV_app]; exact hB5)
        have HO5 := Lib.hid (HO3.out.trans hb5)
        clear hB5 hb5 HB3 HO3
        go_wp2_with fail
        go_roundw
        case rel => exact ⟨j + 1, by omega, by go_num, HB5.out, HO5.out⟩
        case measure => simp [intOf]; omega
      · obtain rfl : j = n := by omega
        have htk : m.parts.take j = m.parts := by rw [Hn.out]; exact List.take_length
        rw [htk] at hB
        have hfl := flat32_length m.parts Hm2.out.each
        have hR : wr.heap[q]? = some (.cells m.row 31 (0, 0)) := below_keep hO H2.out
        have hqr := heap_lt hR
        have r32 : wr.cell? ⟨q, 32, none⟩ = some (.int .i64 m.size) := by rw [Lib.cell_of_heap hR]; exact hc32
        have rm := range_row hR
        have Hlen : Hid (m.parts.flatten.length = 32 * j) := Lib.hid (by rw [hfl, ← Hn.out])
        have k1 : ∀ W : World, Below wr.heap.size wr W → (convert 45 9 (.slice (some ⟨q, 0, none⟩) 32 32)).run Tryd.prog W = .ok (.string ⟨m.whole.toArray⟩) W := fun W hW => by
          have := run_convert_bytes_back W 45 9 5 ⟨q, 0, none⟩ 32 m.whole Tryd.underlying45 Tryd.underlying5 Tryd.underlying9 (fun i hi => by
            rw [Addr.add_lit, Nat.zero_add]
            have := range_below rm hW hqr i _ (by simp [byV, hi]; rfl)
            rwa [Nat.zero_add] at this)
          rwa [hmw] at this
        have k2 : ∀ W : World, Below wr.heap.size wr W → (convert 45 9 u4).run Tryd.prog W = .ok (.string ⟨m.parts.flatten.toArray⟩) W := fun W hW => str_bag0 (by rw [Hlen.out]; exact hB.below hW)
        have K1 := Lib.hid k1
        have K2 := Lib.hid k2
        obtain ⟨v, hv⟩ : ∃ v, v = u4 := ⟨_, rfl⟩
        have HO := Lib.hid hO
        obtain ⟨t0, ht0⟩ : ∃ t, t = m.whole := ⟨_, rfl⟩
        obtain ⟨t1, ht1⟩ : ∃ t, t = num m.size := ⟨_, rfl⟩
        obtain ⟨t2, ht2⟩ : ∃ t, t = m.parts.flatten := ⟨_, rfl⟩
        have HR : Hid (srow [t0, t1, t2] = encB m) := Lib.hid (by rw [ht0, ht1, ht2]; rfl)
        have HL : Hid ((srow [t0, t1, t2]).length ≤ 140737488355328) := Lib.hid (by
          have := rowB_le9 [t0, t1, t2] (by simp) (by
            have := num_length_le m.size Hm2.out.lo Hm2.out.hi
            intro s hs
            simp only [List.mem_cons, List.not_mem_nil, or_false] at hs
            rcases hs with rfl | rfl | rfl
            · rw [ht0, hmw]; omega
            · rw [ht1]; omega
            · rw [ht2, Hlen.out]; omega)
          have := num_length_le m.size Hm2.out.lo Hm2.out.hi
          have e0 : t0.length = 32 := by rw [ht0]; exact hmw
          have e1 : t1.length ≤ 9 := by rw [ht1]; assumption
          have e2 : t2.length ≤ 256 := by rw [ht2, Hlen.out]; omega
          simp only [List.map_cons, List.map_nil, List.sum_cons, List.sum_nil] at *
          omega)
        have HN : Hid (∀ W : World, Calls Tryd.prog 13 #[.int .i64 m.size] W fun e w' => e = .returned (.string ⟨t1.toArray⟩) ∧ Below W.heap.size W w') := Lib.hid (fun W => by rw [ht1]; exact num_any m.size W Hm2.out.lo Hm2.out.hi)
        rw [← ht0] at K1
        rw [← ht2] at K2
        clear ht0 ht1 ht2 hB hO k1 k2 hR rm hfl htk hv
        go_upto_region 9 with fail
        refine wp_region_held_drew (S := fun w' => Below wr.heap.size wr w') (by kernel_rfl) ((Below.refl _ _).drew) (fun hH0 => ?_)
        obtain ⟨W0, hW0⟩ : ∃ W, W = wr.drew := ⟨_, rfl⟩
        rw [← hW0] at hH0 ⊢
        clear hW0
        refine wpAnyH_take (i := 0) (v := ?_) rfl (by kernel_rfl) (by kernel_rfl) (by kernel_rfl) (fun _ _ _ h => h) (Or.inl ⟨by kernel_rfl, ?_⟩) hH0 ?_
        rotate_left 1
        · intro w hSw
          go_simp
          try with_reducible rfl
        try simp only [Act.put, List.getElem_toArray, List.getElem_cons_zero, List.getElem_cons_succ, List.setIfInBounds_toArray, List.set_cons_zero, List.set_cons_succ]
        refine wpAnyH_take (i := 1) (v := ?_) rfl (by kernel_rfl) (by kernel_rfl) (by kernel_rfl) (fun _ _ _ h => h) (Or.inl ⟨by kernel_rfl, ?_⟩) hH0 ?_
        rotate_left 1
        · intro w hSw
          go_simp
          try with_reducible rfl
        try simp only [Act.put, List.getElem_toArray, List.getElem_cons_zero, List.getElem_cons_succ, List.setIfInBounds_toArray, List.set_cons_zero, List.set_cons_succ]
        refine wpAnyH_take (i := 2) (v := ?_) rfl (by kernel_rfl) (by kernel_rfl) (by kernel_rfl) (fun _ _ _ h => h) (Or.inl ⟨by kernel_rfl, ?_⟩) hH0 ?_
        rotate_left 1
        · intro w hSw
          go_simp
          rw [K1.out w hSw]
          rfl
          try with_reducible rfl
        try simp only [Act.put, List.getElem_toArray, List.getElem_cons_zero, List.getElem_cons_succ, List.setIfInBounds_toArray, List.set_cons_zero, List.set_cons_succ]
        refine wpAnyH_take (i := 3) (v := ?_) rfl (by kernel_rfl) (by kernel_rfl) (by kernel_rfl) (fun _ _ _ h => h) (Or.inl ⟨by kernel_rfl, ?_⟩) hH0 ?_
        rotate_left 1
        · intro w hSw
          go_simp
          try with_reducible rfl
        try simp only [Act.put, List.getElem_toArray, List.getElem_cons_zero, List.getElem_cons_succ, List.setIfInBounds_toArray, List.set_cons_zero, List.set_cons_succ]
        refine wpAnyH_take (i := 4) (v := ?_) rfl (by kernel_rfl) (by kernel_rfl) (by kernel_rfl) (fun _ _ _ h => h) (Or.inl ⟨by kernel_rfl, ?_⟩) hH0 ?_
        rotate_left 1
        · intro w hSw
          have f0 := (hSw.cell (p := ⟨q, 32, none⟩) hqr).trans r32
          go_simp
          try with_reducible rfl
        try simp only [Act.put, List.getElem_toArray, List.getElem_cons_zero, List.getElem_cons_succ, List.setIfInBounds_toArray, List.set_cons_zero, List.set_cons_succ]
        refine wpAnyH_take (i := 6) (v := ?_) rfl (by kernel_rfl) (by kernel_rfl) (by kernel_rfl) (fun _ _ _ h => h) (Or.inl ⟨by kernel_rfl, ?_⟩) hH0 ?_
        rotate_left 1
        · intro w hSw
          go_simp
          try with_reducible rfl
        try simp only [Act.put, List.getElem_toArray, List.getElem_cons_zero, List.getElem_cons_succ, List.setIfInBounds_toArray, List.set_cons_zero, List.set_cons_succ]
        refine wpAnyH_take (i := 7) (v := ?_) rfl (by kernel_rfl) (by kernel_rfl) (by kernel_rfl) (fun _ _ _ h => h) (Or.inl ⟨by kernel_rfl, ?_⟩) hH0 ?_
        rotate_left 1
        · intro w hSw
          go_simp
          rw [K2.out w hSw]
          rfl
          try with_reducible rfl
        try simp only [Act.put, List.getElem_toArray, List.getElem_cons_zero, List.getElem_cons_succ, List.setIfInBounds_toArray, List.set_cons_zero, List.set_cons_succ]
        refine wpAnyH_ready (rs := [5]) (by kernel_rfl) (by simp) ?_
        refine AllReadyH.cons rfl (fun K_ hK => ?_) ?_
        · go_simp
          refine (HN.out _).mono ?_
          rintro e W1 ⟨rfl, hb1⟩
          refine hK.out _ _ ((hH0).trans (hb1.mono (hH0).size)) (fun hH1 => ?_)
          clear hK K_
          try simp only [Act.put, List.getElem_toArray, List.getElem_cons_zero, List.getElem_cons_succ, List.setIfInBounds_toArray, List.set_cons_zero, List.set_cons_succ]
          refine wpAnyH_ready (rs := [8]) (by kernel_rfl) (by simp) ?_
          refine AllReadyH.cons rfl (fun K_ hK => ?_) ?_
          · go_simp
            have hb2 := (Below.refl W1.heap.size W1).alloc (Nat.le_refl _) (.cells #[.string ⟨t0.toArray⟩, .string ⟨t1.toArray⟩, .string ⟨t2.toArray⟩] 9)
            have hS2 := strs_three W1 t0 t1 t2
            obtain ⟨W2, hW2⟩ : ∃ W, W = W1.alloc (.cells #[.string ⟨t0.toArray⟩, .string ⟨t1.toArray⟩, .string ⟨t2.toArray⟩] 9) := ⟨_, rfl⟩
            rw [← hW2] at hb2 hS2 ⊢
            clear hW2
            have hS := Lib.hid hS2
            refine hK.out _ _ ((hH1).trans (hb2.mono (hH1).size)) (fun hH2 => ?_)
            clear hK K_
            try simp only [Act.put, List.getElem_toArray, List.getElem_cons_zero, List.getElem_cons_succ, List.setIfInBounds_toArray, List.set_cons_zero, List.set_cons_succ]
            refine wpAnyH_ready (rs := [9]) (by kernel_rfl) (by simp) ?_
            refine AllReadyH.cons rfl (fun K_ hK => ?_) ?_
            · go_simp
              refine (row_any _ _ [t0, t1, t2] _ hS.out HL.out).mono ?_
              rintro e W3 ⟨rfl, hb3⟩
              rw [HR.out]
              refine hK.out _ _ ((hH2).trans (hb3.mono (hH2).size)) (fun hH3 => ?_)
              clear hK K_
              try simp only [Act.put, List.getElem_toArray, List.getElem_cons_zero, List.getElem_cons_succ, List.setIfInBounds_toArray, List.set_cons_zero, List.set_cons_succ]
              refine wpAnyH_take (i := 10) (v := ?_) rfl (by kernel_rfl) (by kernel_rfl) (by kernel_rfl) (fun _ _ _ h => h) (Or.inl ⟨by kernel_rfl, ?_⟩) hH3 ?_
              rotate_left 1
              · intro w hSw
                go_simp
                try with_reducible rfl
              try simp only [Act.put, List.getElem_toArray, List.getElem_cons_zero, List.getElem_cons_succ, List.setIfInBounds_toArray, List.set_cons_zero, List.set_cons_succ]
              refine wpAnyH_take (i := 11) (v := ?_) rfl (by kernel_rfl) (by kernel_rfl) (by kernel_rfl) (fun _ _ _ h => h) (Or.inl ⟨by kernel_rfl, ?_⟩) hH3 ?_
              rotate_left 1
              · intro w hSw
                go_simp
                try with_reducible rfl
              try simp only [Act.put, List.getElem_toArray, List.getElem_cons_zero, List.getElem_cons_succ, List.setIfInBounds_toArray, List.set_cons_zero, List.set_cons_succ]
              refine wpAnyH_done (by kernel_rfl) ?_ _
              have HH := Lib.hid hH3
              clear hH3
              go_wp2_with fail
              go_ret2
              exact ⟨by rw [He.out]; rfl, HB2.out.trans ((HO.out.trans (HH.out.mono HO.out.size)).mono HB2.out.size)⟩
            exact AllReadyH.nil
          exact AllReadyH.nil
        exact AllReadyH.nil
  · have hg2 : goodS m.size m.parts.length = false := by simpa using hgood
    have he : encS m = ([], 1) := by unfold encS; rw [if_neg (by rw [hg2]; simp)]
    rw [hg2]
    have He := Lib.hid he
    clear he
    go_wp2_with fail
    go_ret2
    exact ⟨by rw [He.out]; rfl, HB2.out⟩
end Go.Proofs.YthcmlbbbbcinkaaDoor
