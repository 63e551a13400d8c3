/-
  Layer 3's reference: the walk of Join.
-/
import Derived.Test.YtfbjbhddapoopaaDoorRcE
set_option linter.unusedVariables false
set_option linter.unusedSimpArgs false
namespace Go.Proofs.YtfbjbhddapoopaaDoor
open Go.RowKit
attribute [local go_sem] Lb.ba_get Lb.ba_cut Lb.ba_add Lb.ba_size Lb.take_rest

set_option maxHeartbeats 4000000 in
set_option maxRecDepth 100000 in
theorem rjoin_any (m : ManiD) (A : Option Addr) (cap : Nat) (ts : List (List UInt8)) (w : World) (hm : m.Ok w w.heap.size) (hS : Strs w w.heap.size A ts) (hcap : ts.length ≤ cap) (hcx : cap ≤ maxLen)
    (hn : ts.length ≤ 1000) (ht : ∀ t ∈ ts, t.length ≤ 1000) :
    Calls Tryd.prog 107 #[.agg m.row, .slice A ts.length cap] w fun e w' => e = .returned (.tuple #[.string ⟨((joinS KK m ts).1).toArray⟩, .int .i64 (joinS KK m ts).2]) ∧ Below w.heap.size w w' := by
  have hmw := hm.whole
  have hinf : (Tryd.prog.info? 39).map (·.size) = some m.row.size := by rw [m.row_size hmw]; exact mani_info
  obtain ⟨K, hKd⟩ : ∃ K, K = KK := ⟨_, rfl⟩
  rw [← hKd]
  have HOF : Hid (∀ (t : List UInt8) (W : World), t.length ≤ 1000000 → Calls Tryd.prog 108 #[.string ⟨t.toArray⟩] W fun e w' => e = .returned (.agg (digV (hashB K t))) ∧ Below W.heap.size W w') := Lib.hid (fun t W ht => by rw [hKd]; exact rof_any t W ht)
  have HFT : Hid (∀ (i : Int) (x : List UInt8) (W : World), m.Ok W W.heap.size → -9223372036854775808 ≤ i → i ≤ 9223372036854775807 → x.length ≤ 1000000 → Calls Tryd.prog 72 #[.agg m.row, .int .i64 i, .string ⟨x.toArray⟩] W fun e w' => e = .returned (.bool (fitsS K m i x)) ∧ Below W.heap.size W w') := Lib.hid (fun i x W h1 h2 h3 h4 => by rw [hKd]; exact rfits_any m i x W h1 h2 h3 h4)
  clear hKd
  go_enter Tryd.func107, Tryd.ntmps107
  go_upto_region 1 with fail
  obtain ⟨q, hq⟩ : ∃ q, q = w.heap.size := ⟨_, rfl⟩
  have h0 : (w.alloc (.cells m.row 39)).heap[q]? = some (.cells m.row 39 (0, 0)) := by rw [hq]; exact heap_alloc_new w _
  have b0 : Below w.heap.size w (w.alloc (.cells m.row 39)) := (Below.refl _ w).alloc (Nat.le_refl _) _
  obtain ⟨w1, hw1⟩ : ∃ w1, w1 = w.alloc (.cells m.row 39) := ⟨_, rfl⟩
  rw [← hw1] at h0 b0 ⊢
  rw [← hq]
  have hg := rgood_any m w1 hm.whole hm.lo hm.hi hm.len
  have Hg := Lib.hid hg
  have H0 := Lib.hid h0
  have Hb0 := Lib.hid b0
  have Hm1 := Lib.hid ((hm.below b0 (Nat.le_refl _)).more b0.size)
  have HS1 := Lib.hid ((hS.below b0 (Nat.le_refl _)).more b0.size)
  have Hq := Lib.hid hq
  have hc33 := m.at33 hmw
  have hn2 : m.parts.length ≤ maxLen := hm.len
  have Ht := Lib.hid ht
  clear hw1 hq h0 b0 hg hm hS ht
  go_wp2_with (refine wpList_load_row rfl 39 _ rfl q rfl 39 _ (0, 0) _ H0.out Tryd.underlying39 rfl hinf ?_)
  refine Hg.out.mono ?_
  rintro e w2 ⟨rfl, hB2⟩
  obtain ⟨n, hnn⟩ : ∃ n, n = m.parts.length := ⟨_, rfl⟩
  have H2 : Hid (w2.heap[q]? = some (.cells m.row 39 (0, 0))) := Lib.hid (below_keep hB2 H0.out)
  have c33 : w2.cell? ⟨q, 33, none⟩ = some (.slice m.A n m.cap) := by rw [Lib.cell_of_heap H2.out, hnn]; exact hc33
  rw [← hnn] at hn2 ⊢
  have hnI : (n : Int) ≤ 9223372036854775807 := by unfold maxLen at hn2; omega
  have Hm2 := Lib.hid ((Hm1.out.below hB2 (Nat.le_refl _)).more hB2.size)
  have HS2 := Lib.hid ((HS1.out.below hB2 (Nat.le_refl _)).more hB2.size)
  have Hnn := Lib.hid hnn
  have HB2 := Lib.hid (Hb0.out.trans (hB2.mono Hb0.out.size))
  clear hnn hc33 hB2 Hg H0 Hm1 HS1
  obtain ⟨L, hL⟩ : ∃ L, L = ts.length := ⟨_, rfl⟩
  have hLm : L ≤ 1000 := by omega
  have hLi : (L : Int) ≤ 1000 := by omega
  rw [← hL]
  have HLt := Lib.hid hL
  clear hL hn
  by_cases hgood : goodS m.size n = true
  · rw [hgood]
    by_cases hln : L = n
    · subst hln
      have hbe : ((L : Int) != (L : Int)) = false := by simp
      go_wp2_with fail
      have rm0 : w2.rangeAt q 0 m.cells := fun k v hv => by
        rw [Nat.zero_add, Lib.cell_of_heap H2.out]
        unfold ManiD.row
        rw [List.getElem?_toArray]
        exact hv
      have minfo : (Tryd.prog.info? 39).map (·.size) = some m.cells.length := by have := m.row_size hmw; rw [mani_info]; unfold ManiD.row at this; simp only [List.size_toArray] at this; rw [this]
      have mund := Tryd.underlying39
      have hq2 : q < w2.heap.size := heap_lt H2.out
      have Rm0 := Lib.hid rm0
      clear rm0
      go_loopw [6, 7] (fun s c wr => ∃ j : Nat, j ≤ L ∧ c = .int .i64 j ∧ s = .string ⟨((ts.take j).flatten).toArray⟩ ∧ (∀ i, i < j → fitsS K m i (ts.getD i []) = true) ∧ Below w2.heap.size w2 wr) (fun _ c _ => L - (intOf c).toNat)
      case atStart => exact ⟨0, by omega, rfl, rfl, fun i hi => absurd hi (Nat.not_lt_zero _), Below.refl _ _⟩
      case round =>
        obtain ⟨j, hj, rfl, rfl, hF, hB⟩ := hrel
        have hfl : ((ts.take j).flatten).length ≤ 1000000 := by
          have h1 := flat_le (ts.take j) 1000 (fun t ht => Ht.out t (List.mem_of_mem_take ht))
          have h2 : (ts.take j).length * 1000 ≤ 1000 * 1000 := Nat.mul_le_mul_right _ (by simp; omega)
          omega
        have hnext : ∀ t, j < L → ts.getD j [] = t → (ts.take j).flatten ++ t = (ts.take (j + 1)).flatten := fun t h1 h2 => by
          rw [List.take_succ_eq_append_getElem (by rw [← HLt.out]; exact h1), List.flatten_append]
          rw [List.getD_eq_getElem?_getD, List.getElem?_eq_getElem (by rw [← HLt.out]; exact h1)] at h2
          simp only [Option.getD_some] at h2
          rw [h2]; simp
        obtain ⟨f, hf⟩ : ∃ f, f = (ts.take j).flatten := ⟨_, rfl⟩
        rw [← hf] at hfl hnext ⊢
        have hfli : (f.length : Int) ≤ 1000000 := by omega
        have Hnext := Lib.hid hnext
        have Hfd := Lib.hid hf
        clear hf hnext
        by_cases hjl : j < L
        · have hjt : j < ts.length := by rw [← HLt.out]; exact hjl
          obtain ⟨a, hA, ha, hc⟩ := (HS2.out.below hB (Nat.le_refl _)) j hjt
          subst hA
          obtain ⟨t, htd⟩ : ∃ t, t = ts[j] := ⟨_, rfl⟩
          rw [← htd] at hc
          have hgd : ts.getD j [] = t := by rw [List.getD_eq_getElem?_getD, List.getElem?_eq_getElem hjt, htd]; rfl
          have htl : t.length ≤ 1000000 := by have := Ht.out t (by rw [htd]; exact List.getElem_mem _); omega
          have hti : (t.length : Int) ≤ 1000000 := by omega
          have HF := Lib.hid hF
          have HB := Lib.hid hB
          have Hgd := Lib.hid hgd
          have Rm1 := Lib.hid (range_below Rm0.out hB hq2)
          have hqr : q < wr.heap.size := Nat.lt_of_lt_of_le hq2 hB.size
          have har : (a.add j).block < wr.heap.size := by rw [block_add]; exact Nat.lt_of_lt_of_le ha hB.size
          have Hm3 := Lib.hid ((Hm2.out.below hB (Nat.le_refl _)).more hB.size)
          have j0 : (0 : Int) ≤ (j : Int) := by omega
          have jl : (j : Int) < (L : Int) := by omega
          clear hF hB hgd htd hjt ha
          by_cases hft : fitsS K m (j : Int) t = true
          · have HF2 : Hid (∀ i, i < j + 1 → fitsS K m i (ts.getD i []) = true) := Lib.hid (fun i hi => by
              rcases Nat.lt_or_ge i j with h | h
              · exact HF.out i h
              · have : i = j := by omega
                subst this
                rw [Hgd.out]; exact hft)
            have Hft := Lib.hid hft
            clear hft
            have Hnx := Lib.hid (Hnext.out t hjl Hgd.out)
            clear Hnext
            go_upto_region 7 with fail
            refine wp_region_held_drew (S := fun w' => Below wr.heap.size wr w') (by kernel_rfl) ((Below.refl _ _).drew) (fun hH0 => ?_)
            obtain ⟨W0, hW0⟩ : ∃ W, W = wr.drew := ⟨_, rfl⟩
            rw [← hW0] at hH0 ⊢
            clear hW0
            refine wpAnyH_take (i := 0) (v := _) rfl (by kernel_rfl) (by kernel_rfl) (by kernel_rfl) (fun _ _ _ h => h) (yieldsIf_load_mid (by kernel_rfl) _ _ rfl _ _ rfl m.cells _ (fun W hW => range_below Rm1.out hW hqr) mund rfl minfo) hH0 ?_
            try simp only [Act.put, List.getElem_toArray, List.getElem_cons_zero, List.getElem_cons_succ, List.setIfInBounds_toArray, List.set_cons_zero, List.set_cons_succ]
            refine wpAnyH_take (i := 1) (v := ?_) rfl (by kernel_rfl) (by kernel_rfl) (by kernel_rfl) (fun _ _ _ h => h) (Or.inl ⟨by kernel_rfl, ?_⟩) hH0 ?_
            rotate_left 1
            · intro w hSw
              go_simp
              try with_reducible rfl
            try simp only [Act.put, List.getElem_toArray, List.getElem_cons_zero, List.getElem_cons_succ, List.setIfInBounds_toArray, List.set_cons_zero, List.set_cons_succ]
            refine wpAnyH_take (i := 2) (v := ?_) rfl (by kernel_rfl) (by kernel_rfl) (by kernel_rfl) (fun _ _ _ h => h) (Or.inl ⟨by kernel_rfl, ?_⟩) hH0 ?_
            rotate_left 1
            · intro w hSw
              go_simp
              try with_reducible rfl
            try simp only [Act.put, List.getElem_toArray, List.getElem_cons_zero, List.getElem_cons_succ, List.setIfInBounds_toArray, List.set_cons_zero, List.set_cons_succ]
            refine wpAnyH_take (i := 3) (v := ?_) rfl (by kernel_rfl) (by kernel_rfl) (by kernel_rfl) (fun _ _ _ h => h) (Or.inl ⟨by kernel_rfl, ?_⟩) hH0 ?_
            rotate_left 1
            · intro w hSw
              go_simp
              try with_reducible rfl
            try simp only [Act.put, List.getElem_toArray, List.getElem_cons_zero, List.getElem_cons_succ, List.setIfInBounds_toArray, List.set_cons_zero, List.set_cons_succ]
            refine wpAnyH_take (i := 4) (v := ?_) rfl (by kernel_rfl) (by kernel_rfl) (by kernel_rfl) (fun _ _ _ h => h) (Or.inl ⟨by kernel_rfl, ?_⟩) hH0 ?_
            rotate_left 1
            · intro w hSw
              go_simp
              try with_reducible rfl
            try simp only [Act.put, List.getElem_toArray, List.getElem_cons_zero, List.getElem_cons_succ, List.setIfInBounds_toArray, List.set_cons_zero, List.set_cons_succ]
            refine wpAnyH_take (i := 5) (v := ?_) rfl (by kernel_rfl) (by kernel_rfl) (by kernel_rfl) (fun _ _ _ h => h) (Or.inl ⟨by kernel_rfl, ?_⟩) hH0 ?_
            rotate_left 1
            · intro w hSw
              have f0 := (hSw.cell (p := a.add j) har).trans hc
              go_simp
              try with_reducible rfl
            try simp only [Act.put, List.getElem_toArray, List.getElem_cons_zero, List.getElem_cons_succ, List.setIfInBounds_toArray, List.set_cons_zero, List.set_cons_succ]
            refine wpAnyH_ready (rs := [6]) (by kernel_rfl) (by simp) ?_
            refine AllReadyH.cons rfl (fun K_ hK => ?_) ?_
            · go_simp
              refine (HFT.out _ _ _ ((Hm3.out.below hH0 (Nat.le_refl _)).more (hH0).size) (by omega) (by omega) htl).mono ?_
              rintro e W1 ⟨rfl, hb1⟩
              rw [Hft.out]
              refine hK.out _ _ ((hH0).trans (hb1.mono (hH0).size)) (fun hH1 => ?_)
              clear hK K_
              try simp only [Act.put, List.getElem_toArray, List.getElem_cons_zero, List.getElem_cons_succ, List.setIfInBounds_toArray, List.set_cons_zero, List.set_cons_succ]
              refine wpAnyH_take (i := 7) (v := ?_) rfl (by kernel_rfl) (by kernel_rfl) (by kernel_rfl) (fun _ _ _ h => h) (Or.inl ⟨by kernel_rfl, ?_⟩) hH1 ?_
              rotate_left 1
              · intro w hSw
                go_simp
                try with_reducible rfl
              try simp only [Act.put, List.getElem_toArray, List.getElem_cons_zero, List.getElem_cons_succ, List.setIfInBounds_toArray, List.set_cons_zero, List.set_cons_succ]
              refine wpAnyH_done (by kernel_rfl) ?_ _
              have hc2 := ((hH1).cell (p := a.add j) har).trans hc
              have HH := Lib.hid (HB.out.trans ((hH1).mono HB.out.size))
              clear hH1
              go_wp2_with fail
              go_roundw
              case rel => exact ⟨j + 1, by omega, by go_num, by rw [Hnx.out], HF2.out, HH.out⟩
              case measure => simp [intOf]; omega
            exact AllReadyH.nil
          · have hff : fitsS K m (j : Int) t = false := by simpa using hft
            have hres : joinS K m ts = ([], 5) := by
              unfold joinS
              rw [if_pos ⟨by rw [← Hnn.out]; exact hgood, by rw [← Hnn.out]; exact HLt.out.symm⟩, if_neg]
              intro h
              have := List.all_eq_true.1 h j (List.mem_range.2 (by rw [← HLt.out]; exact hjl))
              rw [Hgd.out, hff] at this
              cases this
            have Hff := Lib.hid hff
            have Hres := Lib.hid hres
            clear hft hff hres
            go_upto_region 7 with fail
            refine wp_region_held_drew (S := fun w' => Below wr.heap.size wr w') (by kernel_rfl) ((Below.refl _ _).drew) (fun hH0 => ?_)
            obtain ⟨W0, hW0⟩ : ∃ W, W = wr.drew := ⟨_, rfl⟩
            rw [← hW0] at hH0 ⊢
            clear hW0
            refine wpAnyH_take (i := 0) (v := _) rfl (by kernel_rfl) (by kernel_rfl) (by kernel_rfl) (fun _ _ _ h => h) (yieldsIf_load_mid (by kernel_rfl) _ _ rfl _ _ rfl m.cells _ (fun W hW => range_below Rm1.out hW hqr) mund rfl minfo) hH0 ?_
            try simp only [Act.put, List.getElem_toArray, List.getElem_cons_zero, List.getElem_cons_succ, List.setIfInBounds_toArray, List.set_cons_zero, List.set_cons_succ]
            refine wpAnyH_take (i := 1) (v := ?_) rfl (by kernel_rfl) (by kernel_rfl) (by kernel_rfl) (fun _ _ _ h => h) (Or.inl ⟨by kernel_rfl, ?_⟩) hH0 ?_
            rotate_left 1
            · intro w hSw
              go_simp
              try with_reducible rfl
            try simp only [Act.put, List.getElem_toArray, List.getElem_cons_zero, List.getElem_cons_succ, List.setIfInBounds_toArray, List.set_cons_zero, List.set_cons_succ]
            refine wpAnyH_take (i := 2) (v := ?_) rfl (by kernel_rfl) (by kernel_rfl) (by kernel_rfl) (fun _ _ _ h => h) (Or.inl ⟨by kernel_rfl, ?_⟩) hH0 ?_
            rotate_left 1
            · intro w hSw
              go_simp
              try with_reducible rfl
            try simp only [Act.put, List.getElem_toArray, List.getElem_cons_zero, List.getElem_cons_succ, List.setIfInBounds_toArray, List.set_cons_zero, List.set_cons_succ]
            refine wpAnyH_take (i := 3) (v := ?_) rfl (by kernel_rfl) (by kernel_rfl) (by kernel_rfl) (fun _ _ _ h => h) (Or.inl ⟨by kernel_rfl, ?_⟩) hH0 ?_
            rotate_left 1
            · intro w hSw
              go_simp
              try with_reducible rfl
            try simp only [Act.put, List.getElem_toArray, List.getElem_cons_zero, List.getElem_cons_succ, List.setIfInBounds_toArray, List.set_cons_zero, List.set_cons_succ]
            refine wpAnyH_take (i := 4) (v := ?_) rfl (by kernel_rfl) (by kernel_rfl) (by kernel_rfl) (fun _ _ _ h => h) (Or.inl ⟨by kernel_rfl, ?_⟩) hH0 ?_
            rotate_left 1
            · intro w hSw
              go_simp
              try with_reducible rfl
            try simp only [Act.put, List.getElem_toArray, List.getElem_cons_zero, List.getElem_cons_succ, List.setIfInBounds_toArray, List.set_cons_zero, List.set_cons_succ]
            refine wpAnyH_take (i := 5) (v := ?_) rfl (by kernel_rfl) (by kernel_rfl) (by kernel_rfl) (fun _ _ _ h => h) (Or.inl ⟨by kernel_rfl, ?_⟩) hH0 ?_
            rotate_left 1
            · intro w hSw
              have f0 := (hSw.cell (p := a.add j) har).trans hc
              go_simp
              try with_reducible rfl
            try simp only [Act.put, List.getElem_toArray, List.getElem_cons_zero, List.getElem_cons_succ, List.setIfInBounds_toArray, List.set_cons_zero, List.set_cons_succ]
            refine wpAnyH_ready (rs := [6]) (by kernel_rfl) (by simp) ?_
            refine AllReadyH.cons rfl (fun K_ hK => ?_) ?_
            · go_simp
              refine (HFT.out _ _ _ ((Hm3.out.below hH0 (Nat.le_refl _)).more (hH0).size) (by omega) (by omega) htl).mono ?_
              rintro e W1 ⟨rfl, hb1⟩
              rw [Hff.out]
              refine hK.out _ _ ((hH0).trans (hb1.mono (hH0).size)) (fun hH1 => ?_)
              clear hK K_
              try simp only [Act.put, List.getElem_toArray, List.getElem_cons_zero, List.getElem_cons_succ, List.setIfInBounds_toArray, List.set_cons_zero, List.set_cons_succ]
              refine wpAnyH_take (i := 7) (v := ?_) rfl (by kernel_rfl) (by kernel_rfl) (by kernel_rfl) (fun _ _ _ h => h) (Or.inl ⟨by kernel_rfl, ?_⟩) hH1 ?_
              rotate_left 1
              · intro w hSw
                go_simp
                try with_reducible rfl
              try simp only [Act.put, List.getElem_toArray, List.getElem_cons_zero, List.getElem_cons_succ, List.setIfInBounds_toArray, List.set_cons_zero, List.set_cons_succ]
              refine wpAnyH_done (by kernel_rfl) ?_ _
              have HH := Lib.hid (HB.out.trans ((hH1).mono HB.out.size))
              clear hH1
              go_wp2_with fail
              go_ret2
              exact ⟨by rw [Hres.out]; rfl, HB2.out.trans (HH.out.mono HB2.out.size)⟩
            exact AllReadyH.nil
        · have hjL : j = L := by omega
          subst hjL
          have hfe : f = ts.flatten := by rw [Hfd.out, HLt.out, List.take_length]
          have hres : joinS K m ts = if hashB K f = m.whole then (f, 0) else ([], 5) := by
            unfold joinS
            rw [if_pos ⟨by rw [← Hnn.out]; exact hgood, by rw [← Hnn.out]; exact HLt.out.symm⟩, if_pos, ← hfe]
            rw [List.all_eq_true]
            intro i hi
            exact hF i (by rw [HLt.out]; exact List.mem_range.1 hi)
          have Hres := Lib.hid hres
          have HB := Lib.hid hB
          have hqr : q < wr.heap.size := Nat.lt_of_lt_of_le hq2 hB.size
          have hrw : wr.rangeAt q 0 (byV m.whole) := range_row (below_keep hB H2.out)
          have Hrw := Lib.hid hrw
          have hf1 : f.length ≤ 1000000 := hfl
          obtain ⟨hx, hhx⟩ : ∃ h, h = hashB K f := ⟨_, rfl⟩
          have hx32 : hx.length = 32 := by rw [hhx]; exact hashB_length K f
          have HO1 : Hid (∀ W : World, Calls Tryd.prog 108 #[.string ⟨f.toArray⟩] W fun e w' => e = .returned (.agg (digV hx)) ∧ Below W.heap.size W w') := Lib.hid (fun W => by rw [hhx]; exact HOF.out f W hf1)
          have heq : ∀ W : World, (Op.equalIn 10000 23 (.agg (digV hx)) (.agg (byV m.whole).toArray)).run Tryd.prog W = .ok (hx == m.whole) W := fun W => eqIn_dig W hx m.whole hx32 hmw
          have dinfo : (Tryd.prog.info? 23).map (·.size) = some (byV m.whole).length := by rw [dig_info, byV_length, hmw]
          have dund := Tryd.underlying23
          have Hhx := Lib.hid hhx
          clear hres hB hF hfe hrw hhx hx32
          by_cases hwh : hx = m.whole
          · have hb : (hx == m.whole) = true := by rw [hwh]; simp
            rw [hb] at heq
            have hr : joinS K m ts = (f, 0) := by rw [Hres.out, ← Hhx.out, if_pos hwh]
            have Hr := Lib.hid hr
            clear hr hwh hb
            go_upto_region 10 with fail
            refine wp_region_held_drew (S := fun w' => Below wr.heap.size wr w') (by kernel_rfl) ((Below.refl _ _).drew) (fun hH0 => ?_)
            obtain ⟨W0, hW0⟩ : ∃ W, W = wr.drew := ⟨_, rfl⟩
            rw [← hW0] at hH0 ⊢
            clear hW0
            refine wpAnyH_take (i := 0) (v := ?_) rfl (by kernel_rfl) (by kernel_rfl) (by kernel_rfl) (fun _ _ _ h => h) (Or.inl ⟨by kernel_rfl, ?_⟩) hH0 ?_
            rotate_left 1
            · intro w hSw
              go_simp
              try with_reducible rfl
            try simp only [Act.put, List.getElem_toArray, List.getElem_cons_zero, List.getElem_cons_succ, List.setIfInBounds_toArray, List.set_cons_zero, List.set_cons_succ]
            refine wpAnyH_take (i := 2) (v := ?_) rfl (by kernel_rfl) (by kernel_rfl) (by kernel_rfl) (fun _ _ _ h => h) (Or.inl ⟨by kernel_rfl, ?_⟩) hH0 ?_
            rotate_left 1
            · intro w hSw
              go_simp
              try with_reducible rfl
            try simp only [Act.put, List.getElem_toArray, List.getElem_cons_zero, List.getElem_cons_succ, List.setIfInBounds_toArray, List.set_cons_zero, List.set_cons_succ]
            refine wpAnyH_take (i := 3) (v := _) rfl (by kernel_rfl) (by kernel_rfl) (by kernel_rfl) (fun _ _ _ h => h) (yieldsIf_load_mid (by kernel_rfl) _ _ rfl _ _ rfl (byV m.whole) _ (fun W hW => range_below Hrw.out hW hqr) dund rfl dinfo) hH0 ?_
            try simp only [Act.put, List.getElem_toArray, List.getElem_cons_zero, List.getElem_cons_succ, List.setIfInBounds_toArray, List.set_cons_zero, List.set_cons_succ]
            refine wpAnyH_ready (rs := [1]) (by kernel_rfl) (by simp) ?_
            refine AllReadyH.cons rfl (fun K_ hK => ?_) ?_
            · go_simp
              refine (HO1.out _).mono ?_
              rintro e W1 ⟨rfl, hb1⟩
              refine hK.out _ _ ((hH0).trans (hb1.mono (hH0).size)) (fun hH1 => ?_)
              clear hK K_
              try simp only [Act.put, List.getElem_toArray, List.getElem_cons_zero, List.getElem_cons_succ, List.setIfInBounds_toArray, List.set_cons_zero, List.set_cons_succ]
              refine wpAnyH_take (i := 4) (v := ?_) rfl (by kernel_rfl) (by kernel_rfl) (by kernel_rfl) (fun _ _ _ h => h) (Or.inl ⟨by kernel_rfl, ?_⟩) hH1 ?_
              rotate_left 1
              · intro w hSw
                go_simp
                try with_reducible rfl
              try simp only [Act.put, List.getElem_toArray, List.getElem_cons_zero, List.getElem_cons_succ, List.setIfInBounds_toArray, List.set_cons_zero, List.set_cons_succ]
              refine wpAnyH_done (by kernel_rfl) ?_ _
              have HH := Lib.hid (HB.out.trans ((hH1).mono HB.out.size))
              clear hH1
              go_wp2_with fail
              go_ret2
              exact ⟨by rw [Hr.out]; rfl, HB2.out.trans (HH.out.mono HB2.out.size)⟩
            exact AllReadyH.nil
          · have hb : (hx == m.whole) = false := by simpa using hwh
            rw [hb] at heq
            have hr : joinS K m ts = ([], 5) := by rw [Hres.out, ← Hhx.out, if_neg hwh]
            have Hr := Lib.hid hr
            clear hr hwh hb
            go_upto_region 10 with fail
            refine wp_region_held_drew (S := fun w' => Below wr.heap.size wr w') (by kernel_rfl) ((Below.refl _ _).drew) (fun hH0 => ?_)
            obtain ⟨W0, hW0⟩ : ∃ W, W = wr.drew := ⟨_, rfl⟩
            rw [← hW0] at hH0 ⊢
            clear hW0
            refine wpAnyH_take (i := 0) (v := ?_) rfl (by kernel_rfl) (by kernel_rfl) (by kernel_rfl) (fun _ _ _ h => h) (Or.inl ⟨by kernel_rfl, ?_⟩) hH0 ?_
            rotate_left 1
            · intro w hSw
              go_simp
              try with_reducible rfl
            try simp only [Act.put, List.getElem_toArray, List.getElem_cons_zero, List.getElem_cons_succ, List.setIfInBounds_toArray, List.set_cons_zero, List.set_cons_succ]
            refine wpAnyH_take (i := 2) (v := ?_) rfl (by kernel_rfl) (by kernel_rfl) (by kernel_rfl) (fun _ _ _ h => h) (Or.inl ⟨by kernel_rfl, ?_⟩) hH0 ?_
            rotate_left 1
            · intro w hSw
              go_simp
              try with_reducible rfl
            try simp only [Act.put, List.getElem_toArray, List.getElem_cons_zero, List.getElem_cons_succ, List.setIfInBounds_toArray, List.set_cons_zero, List.set_cons_succ]
            refine wpAnyH_take (i := 3) (v := _) rfl (by kernel_rfl) (by kernel_rfl) (by kernel_rfl) (fun _ _ _ h => h) (yieldsIf_load_mid (by kernel_rfl) _ _ rfl _ _ rfl (byV m.whole) _ (fun W hW => range_below Hrw.out hW hqr) dund rfl dinfo) hH0 ?_
            try simp only [Act.put, List.getElem_toArray, List.getElem_cons_zero, List.getElem_cons_succ, List.setIfInBounds_toArray, List.set_cons_zero, List.set_cons_succ]
            refine wpAnyH_ready (rs := [1]) (by kernel_rfl) (by simp) ?_
            refine AllReadyH.cons rfl (fun K_ hK => ?_) ?_
            · go_simp
              refine (HO1.out _).mono ?_
              rintro e W1 ⟨rfl, hb1⟩
              refine hK.out _ _ ((hH0).trans (hb1.mono (hH0).size)) (fun hH1 => ?_)
              clear hK K_
              try simp only [Act.put, List.getElem_toArray, List.getElem_cons_zero, List.getElem_cons_succ, List.setIfInBounds_toArray, List.set_cons_zero, List.set_cons_succ]
              refine wpAnyH_take (i := 4) (v := ?_) rfl (by kernel_rfl) (by kernel_rfl) (by kernel_rfl) (fun _ _ _ h => h) (Or.inl ⟨by kernel_rfl, ?_⟩) hH1 ?_
              rotate_left 1
              · intro w hSw
                go_simp
                try with_reducible rfl
              try simp only [Act.put, List.getElem_toArray, List.getElem_cons_zero, List.getElem_cons_succ, List.setIfInBounds_toArray, List.set_cons_zero, List.set_cons_succ]
              refine wpAnyH_done (by kernel_rfl) ?_ _
              have HH := Lib.hid (HB.out.trans ((hH1).mono HB.out.size))
              clear hH1
              go_wp2_with fail
              go_ret2
              exact ⟨by rw [Hr.out]; rfl, HB2.out.trans (HH.out.mono HB2.out.size)⟩
            exact AllReadyH.nil
    · have hres : joinS K m ts = ([], 1) := by
        unfold joinS
        rw [if_neg]
        rintro ⟨_, h⟩
        apply hln
        rw [HLt.out, Hnn.out]; exact h
      have hbe : ((L : Int) != (n : Int)) = true := by rw [bne_iff_ne]; omega
      have Hres := Lib.hid hres
      clear hres
      go_wp2_with fail
      go_ret2
      exact ⟨by rw [Hres.out]; rfl, HB2.out⟩
  · have hgf : goodS m.size n = false := by simpa using hgood
    have hres : joinS K m ts = ([], 1) := by
      unfold joinS
      rw [if_neg]
      rintro ⟨h, _⟩
      apply hgood
      rw [Hnn.out]; exact h
    rw [hgf]
    have Hres := Lib.hid hres
    clear hres hgf hgood
    go_wp2_with fail
    go_ret2
    exact ⟨by rw [Hres.out]; rfl, HB2.out⟩
end Go.Proofs.YtfbjbhddapoopaaDoor
