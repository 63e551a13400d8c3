/-
  Layer 3's reference: the walks of Good, Fits, Join.
-/
import Derived.Test.YtfbjbhddapoopaaDoorRcD
set_option linter.unusedVariables false
set_option linter.unusedSimpArgs false
namespace Go.Proofs.YtfbjbhddapoopaaDoor
open Go.RowKit
attribute [local go_sem] Lb.ba_get Lb.ba_cut Lb.ba_add Lb.ba_size Lb.take_rest

set_option maxHeartbeats 2000000 in
set_option maxRecDepth 100000 in
theorem rgood_any (m : ManiD) (w : World) (hw : m.whole.length = 32) (lo : -9223372036854775808 ≤ m.size) (hi : m.size ≤ 9223372036854775807) (hn : m.parts.length ≤ maxLen) :
    Calls Tryd.prog 70 #[.agg m.row] w fun e w' => e = .returned (.bool (goodS m.size m.parts.length)) ∧ Below w.heap.size w w' := by
  have h32 := m.at32 hw
  have h33 := m.at33 hw
  have hsz := m.row_size hw
  have hone := m.row_one
  obtain ⟨R, hR⟩ : ∃ R, R = m.row := ⟨_, rfl⟩
  obtain ⟨s, hs⟩ : ∃ s, s = m.size := ⟨_, rfl⟩
  obtain ⟨A, hA⟩ : ∃ A, A = m.A := ⟨_, rfl⟩
  obtain ⟨n, hnn⟩ : ∃ n, n = m.parts.length := ⟨_, rfl⟩
  obtain ⟨c, hc⟩ : ∃ c, c = m.cap := ⟨_, rfl⟩
  rw [← hR] at h32 h33 hsz hone ⊢
  rw [← hs] at h32 lo hi ⊢
  rw [← hA, ← hnn, ← hc] at h33
  rw [← hnn] at hn ⊢
  clear hR hs hA hnn hc hw m
  have c32 : (w.alloc (.cells R 39)).cell? ⟨w.heap.size, 32, none⟩ = some (.int .i64 s) := by rw [Lib.cell_of_heap (heap_alloc_new w _)]; exact h32
  have c33 : (w.alloc (.cells R 39)).cell? ⟨w.heap.size, 33, none⟩ = some (.slice A n c) := by rw [Lib.cell_of_heap (heap_alloc_new w _)]; exact h33
  clear h32 h33
  have hn2 : (n : Int) ≤ 9223372036854775807 := by unfold maxLen at hn; omega
  go_enter Tryd.func70, Tryd.ntmps70
  have fin : Below w.heap.size w (w.alloc (.cells R 39)) := (Below.refl _ _).alloc (Nat.le_refl _) _
  by_cases h1 : 0 ≤ s
  · by_cases h2 : s ≤ 512
    · obtain ⟨u, hu⟩ : ∃ u : Nat, (u : Int) = s := ⟨s.toNat, by omega⟩
      subst hu
      have e3 : ((u : Int) + 63).tdiv 64 = (((u + 63) / 64 : Nat) : Int) := by
        rw [show (u : Int) + 63 = ((u + 63 : Nat) : Int) by omega]; rfl
      have hg : goodS (u : Int) n = ((n : Int) == (((u + 63) / 64 : Nat) : Int)) := by
        unfold goodS
        rw [Bool.eq_iff_iff]
        simp only [decide_eq_true_eq, beq_iff_eq]
        omega
      rw [hg]
      go_wp2
      go_ret
      exact ⟨by first | rfl | simp, fin⟩
    · have hg : goodS s n = false := by unfold goodS; simp; omega
      rw [hg]
      go_wp2
      go_ret
      exact ⟨rfl, fin⟩
  · have hg : goodS s n = false := by unfold goodS; simp; omega
    rw [hg]
    go_wp2
    go_ret
    exact ⟨rfl, fin⟩

set_option maxHeartbeats 4000000 in
set_option maxRecDepth 100000 in
theorem rfits_any (m : ManiD) (i : Int) (x : List UInt8) (w : World) (hm : m.Ok w w.heap.size) (ilo : -9223372036854775808 ≤ i) (ihi : i ≤ 9223372036854775807) (hx : x.length ≤ 1000000) :
    Calls Tryd.prog 72 #[.agg m.row, .int .i64 i, .string ⟨x.toArray⟩] w fun e w' => e = .returned (.bool (fitsS KK m i x)) ∧ Below w.heap.size w w' := by
  obtain ⟨K, hKd⟩ : ∃ K, K = KK := ⟨_, rfl⟩
  rw [← hKd]
  have HOF : Hid (∀ W : World, Calls Tryd.prog 108 #[.string ⟨x.toArray⟩] W fun e w' => e = .returned (.agg (digV (hashB K x))) ∧ Below W.heap.size W w') := Lib.hid (fun W => by rw [hKd]; exact rof_any x W hx)
  clear hKd
  go_enter Tryd.func72, Tryd.ntmps72
  go_upto_region 1 with fail
  obtain ⟨q, hq⟩ : ∃ q, q = w.heap.size := ⟨_, rfl⟩
  have h0 : (w.alloc (.cells m.row 39)).heap[q]? = some (.cells m.row 39 (0, 0)) := by rw [hq]; exact heap_alloc_new w _
  have b0 : Below w.heap.size w (w.alloc (.cells m.row 39)) := (Below.refl _ w).alloc (Nat.le_refl _) _
  obtain ⟨w1, hw1⟩ : ∃ w1, w1 = w.alloc (.cells m.row 39) := ⟨_, rfl⟩
  rw [← hw1] at h0 b0 ⊢
  rw [← hq]
  have hsz := m.row_size hm.whole
  have hg := rgood_any m w1 hm.whole hm.lo hm.hi hm.len
  have Hg := Lib.hid hg
  have H0 := Lib.hid h0
  have Hb0 := Lib.hid b0
  have Hm1 := Lib.hid ((hm.below b0 (Nat.le_refl _)).more b0.size)
  have Hq := Lib.hid hq
  have hc32 := m.at32 hm.whole
  have hc33 := m.at33 hm.whole
  have hn2 : m.parts.length ≤ maxLen := hm.len
  have lo := hm.lo
  have hi := hm.hi
  have hq1 := heap_lt h0
  clear hw1 hq h0 b0 hg hm
  go_wp2_with (refine wpList_load_row rfl 39 _ rfl q rfl 39 _ (0, 0) _ H0.out Tryd.underlying39 rfl (by rw [hsz]; kernel_rfl) ?_)
  refine Hg.out.mono ?_
  rintro e w2 ⟨rfl, hB2⟩
  obtain ⟨s, hs⟩ : ∃ s, s = m.size := ⟨_, rfl⟩
  obtain ⟨n, hn⟩ : ∃ n, n = m.parts.length := ⟨_, rfl⟩
  have H2 : Hid (w2.heap[q]? = some (.cells m.row 39 (0, 0))) := Lib.hid (below_keep hB2 H0.out)
  have c32 : w2.cell? ⟨q, 32, none⟩ = some (.int .i64 s) := by rw [Lib.cell_of_heap H2.out, hs]; exact hc32
  have c33 : w2.cell? ⟨q, 33, none⟩ = some (.slice m.A n m.cap) := by rw [Lib.cell_of_heap H2.out, hn]; exact hc33
  rw [← hs] at lo hi ⊢
  rw [← hn] at hn2 ⊢
  have hnI : (n : Int) ≤ 9223372036854775807 := by unfold maxLen at hn2; omega
  have Hs := Lib.hid hs
  have Hn := Lib.hid hn
  have HB2 := Lib.hid hB2
  have hq2 := heap_lt H2.out
  clear hs hn hc32 hc33 hB2 Hg H0 hsz
  by_cases hgood : goodS s n = true
  · rw [hgood]
    by_cases h0 : 0 ≤ i
    · by_cases hin : i < (n : Int)
      · obtain ⟨u, rfl⟩ : ∃ u : Nat, i = (u : Int) := ⟨i.toNat, by omega⟩
        have hun : u < n := by omega
        have hg5 : (0 : Int) ≤ s ∧ s ≤ 512 ∧ (n : Int) = (s + 63) / 64 := of_decide_eq_true hgood
        have hn9 : (n : Int) ≤ 8 := by omega
        obtain ⟨b, o, hA, hb, hrg⟩ := Hm1.out.digs u (by rw [← Hn.out]; exact hun)
        obtain ⟨d, hd⟩ : ∃ d, d = m.parts[u]'(by rw [← Hn.out]; exact hun) := ⟨_, rfl⟩
        rw [← hd] at hrg
        have hd32 : d.length = 32 := by rw [hd]; exact Hm1.out.each _ (List.getElem_mem _)
        have hrg2 : w2.rangeAt b (o + u * 32) (byV d) := range_below hrg HB2.out hb
        rw [hA] at c33
        have hmin : min (s - (u : Int) * 64) 64 = if 64 < s - (u : Int) * 64 then 64 else s - (u : Int) * 64 := by split <;> omega
        have hfit : fitsS K m (u : Int) x = (decide ((x.length : Int) = min (s - (u : Int) * 64) 64) && (hashB K x == d)) := by
          unfold fitsS
          rw [← Hs.out, ← Hn.out, hgood, hd]
          simp [List.getD_eq_getElem?_getD, hun, List.getElem?_eq_getElem (show u < m.parts.length by rw [← Hn.out]; exact hun)]
        have Hfit := Lib.hid hfit
        have heq : ∀ W : World, (Op.equalIn 10000 23 (.agg (digV (hashB K x))) (.agg (byV d).toArray)).run Tryd.prog W = .ok (hashB K x == d) W := fun W => eqIn_dig W (hashB K x) d (hashB_length K x) hd32
        have dinfo : (Tryd.prog.info? 23).map (·.size) = some (byV d).length := by rw [dig_info, byV_length, hd32]
        have dund := Tryd.underlying23
        have hbw : b < w2.heap.size := Nat.lt_of_lt_of_le hb HB2.out.size
        have u0 : (0 : Int) ≤ (u : Int) := by omega
        have u8 : (u : Int) < (n : Int) := by omega
        have s512 : s ≤ 512 := hg5.2.1
        have s0 : 0 ≤ s := hg5.1
        have Hrg2 := Lib.hid hrg2
        clear hfit hA hrg hd hgood hg5 hmin hrg2
        obtain ⟨t, ht⟩ : ∃ t, t = s - 64 * (u : Int) := ⟨_, rfl⟩
        have ht2 : s - 64 * (u : Int) = t := ht.symm
        have tlo : -512 ≤ t := by omega
        have thi : t ≤ 512 := by omega
        have hfit2 := Hfit.out
        clear Hfit
        by_cases h64 : 64 < t
        · have hmin : min (s - (u : Int) * 64) 64 = 64 := by omega
          rw [hmin] at hfit2
          have Hfit := Lib.hid hfit2
          clear hmin hfit2
          by_cases hlen : (x.length : Int) = 64
          · have hbe : ((x.length : Int) == 64) = true := by rw [hlen]; simp
            have hdl : decide ((x.length : Int) = 64) = true := by simpa using hlen
            have Hdl := Lib.hid hdl
            clear hlen hdl ht
            go_upto_region 6 with fail
            refine wp_region_held_drew (S := fun w' => Below w2.heap.size w2 w') (by kernel_rfl) ((Below.refl _ _).drew) (fun hH0 => ?_)
            obtain ⟨W0, hW0⟩ : ∃ W, W = w2.drew := ⟨_, rfl⟩
            rw [← hW0] at hH0 ⊢
            clear hW0
            refine wpAnyH_take (i := 0) (v := ?_) rfl (by kernel_rfl) (by kernel_rfl) (by kernel_rfl) (fun _ _ _ h => h) (Or.inl ⟨by kernel_rfl, ?_⟩) hH0 ?_
            rotate_left 1
            · intro w hSw
              go_simp
              try with_reducible rfl
            try simp only [Act.put, List.getElem_toArray, List.getElem_cons_zero, List.getElem_cons_succ, List.setIfInBounds_toArray, List.set_cons_zero, List.set_cons_succ]
            refine wpAnyH_take (i := 1) (v := ?_) rfl (by kernel_rfl) (by kernel_rfl) (by kernel_rfl) (fun _ _ _ h => h) (Or.inl ⟨by kernel_rfl, ?_⟩) hH0 ?_
            rotate_left 1
            · intro w hSw
              go_simp
              try with_reducible rfl
            try simp only [Act.put, List.getElem_toArray, List.getElem_cons_zero, List.getElem_cons_succ, List.setIfInBounds_toArray, List.set_cons_zero, List.set_cons_succ]
            refine wpAnyH_take (i := 2) (v := ?_) rfl (by kernel_rfl) (by kernel_rfl) (by kernel_rfl) (fun _ _ _ h => h) (Or.inl ⟨by kernel_rfl, ?_⟩) hH0 ?_
            rotate_left 1
            · intro w hSw
              go_simp
              try with_reducible rfl
            try simp only [Act.put, List.getElem_toArray, List.getElem_cons_zero, List.getElem_cons_succ, List.setIfInBounds_toArray, List.set_cons_zero, List.set_cons_succ]
            refine wpAnyH_take (i := 3) (v := ?_) rfl (by kernel_rfl) (by kernel_rfl) (by kernel_rfl) (fun _ _ _ h => h) (Or.inl ⟨by kernel_rfl, ?_⟩) hH0 ?_
            rotate_left 1
            · intro w hSw
              go_simp
              try with_reducible rfl
            try simp only [Act.put, List.getElem_toArray, List.getElem_cons_zero, List.getElem_cons_succ, List.setIfInBounds_toArray, List.set_cons_zero, List.set_cons_succ]
            refine wpAnyH_take (i := 4) (v := ?_) rfl (by kernel_rfl) (by kernel_rfl) (by kernel_rfl) (fun _ _ _ h => h) (Or.inl ⟨by kernel_rfl, ?_⟩) hH0 ?_
            rotate_left 1
            · intro w hSw
              go_simp
              try with_reducible rfl
            try simp only [Act.put, List.getElem_toArray, List.getElem_cons_zero, List.getElem_cons_succ, List.setIfInBounds_toArray, List.set_cons_zero, List.set_cons_succ]
            refine wpAnyH_take (i := 5) (v := ?_) rfl (by kernel_rfl) (by kernel_rfl) (by kernel_rfl) (fun _ _ _ h => h) (Or.inl ⟨by kernel_rfl, ?_⟩) hH0 ?_
            rotate_left 1
            · intro w hSw
              go_simp
              try with_reducible rfl
            try simp only [Act.put, List.getElem_toArray, List.getElem_cons_zero, List.getElem_cons_succ, List.setIfInBounds_toArray, List.set_cons_zero, List.set_cons_succ]
            refine wpAnyH_take (i := 7) (v := ?_) rfl (by kernel_rfl) (by kernel_rfl) (by kernel_rfl) (fun _ _ _ h => h) (Or.inl ⟨by kernel_rfl, ?_⟩) hH0 ?_
            rotate_left 1
            · intro w hSw
              go_simp
              try with_reducible rfl
            try simp only [Act.put, List.getElem_toArray, List.getElem_cons_zero, List.getElem_cons_succ, List.setIfInBounds_toArray, List.set_cons_zero, List.set_cons_succ]
            refine wpAnyH_take (i := 8) (v := ?_) rfl (by kernel_rfl) (by kernel_rfl) (by kernel_rfl) (fun _ _ _ h => h) (Or.inl ⟨by kernel_rfl, ?_⟩) hH0 ?_
            rotate_left 1
            · intro w hSw
              have f0 := (hSw.cell (p := ⟨q, 33, none⟩) hq2).trans c33
              go_simp
              try with_reducible rfl
            try simp only [Act.put, List.getElem_toArray, List.getElem_cons_zero, List.getElem_cons_succ, List.setIfInBounds_toArray, List.set_cons_zero, List.set_cons_succ]
            refine wpAnyH_take (i := 9) (v := ?_) rfl (by kernel_rfl) (by kernel_rfl) (by kernel_rfl) (fun _ _ _ h => h) (Or.inl ⟨by kernel_rfl, ?_⟩) hH0 ?_
            rotate_left 1
            · intro w hSw
              go_simp
              try with_reducible rfl
            try simp only [Act.put, List.getElem_toArray, List.getElem_cons_zero, List.getElem_cons_succ, List.setIfInBounds_toArray, List.set_cons_zero, List.set_cons_succ]
            refine wpAnyH_take (i := 10) (v := ?_) rfl (by kernel_rfl) (by kernel_rfl) (by kernel_rfl) (fun _ _ _ h => h) (Or.inl ⟨by kernel_rfl, ?_⟩) hH0 ?_
            rotate_left 1
            · intro w hSw
              go_simp
              try with_reducible rfl
            try simp only [Act.put, List.getElem_toArray, List.getElem_cons_zero, List.getElem_cons_succ, List.setIfInBounds_toArray, List.set_cons_zero, List.set_cons_succ]
            refine wpAnyH_take (i := 11) (v := _) rfl (by kernel_rfl) (by kernel_rfl) (by kernel_rfl) (fun _ _ _ h => h) (yieldsIf_load_mid (by kernel_rfl) _ _ rfl _ _ rfl (byV d) _ (fun W hW => range_below Hrg2.out hW hbw) dund rfl dinfo) hH0 ?_
            try simp only [Act.put, List.getElem_toArray, List.getElem_cons_zero, List.getElem_cons_succ, List.setIfInBounds_toArray, List.set_cons_zero, List.set_cons_succ]
            refine wpAnyH_ready (rs := [6]) (by kernel_rfl) (by simp) ?_
            refine AllReadyH.cons rfl (fun K_ hK => ?_) ?_
            · go_simp
              refine (HOF.out _).mono ?_
              rintro e W1 ⟨rfl, hb1⟩
              refine hK.out _ _ ((hH0).trans (hb1.mono (hH0).size)) (fun hH1 => ?_)
              clear hK K_
              try simp only [Act.put, List.getElem_toArray, List.getElem_cons_zero, List.getElem_cons_succ, List.setIfInBounds_toArray, List.set_cons_zero, List.set_cons_succ]
              refine wpAnyH_take (i := 12) (v := ?_) rfl (by kernel_rfl) (by kernel_rfl) (by kernel_rfl) (fun _ _ _ h => h) (Or.inl ⟨by kernel_rfl, ?_⟩) hH1 ?_
              rotate_left 1
              · intro w hSw
                go_simp
                try with_reducible rfl
              try simp only [Act.put, List.getElem_toArray, List.getElem_cons_zero, List.getElem_cons_succ, List.setIfInBounds_toArray, List.set_cons_zero, List.set_cons_succ]
              refine wpAnyH_take (i := 13) (v := ?_) rfl (by kernel_rfl) (by kernel_rfl) (by kernel_rfl) (fun _ _ _ h => h) (Or.inl ⟨by kernel_rfl, ?_⟩) hH1 ?_
              rotate_left 1
              · intro w hSw
                go_simp
                try with_reducible rfl
              try simp only [Act.put, List.getElem_toArray, List.getElem_cons_zero, List.getElem_cons_succ, List.setIfInBounds_toArray, List.set_cons_zero, List.set_cons_succ]
              refine wpAnyH_take (i := 14) (v := ?_) rfl (by kernel_rfl) (by kernel_rfl) (by kernel_rfl) (fun _ _ _ h => h) (Or.inl ⟨by kernel_rfl, ?_⟩) hH1 ?_
              rotate_left 1
              · intro w hSw
                go_simp
                try with_reducible rfl
              try simp only [Act.put, List.getElem_toArray, List.getElem_cons_zero, List.getElem_cons_succ, List.setIfInBounds_toArray, List.set_cons_zero, List.set_cons_succ]
              refine wpAnyH_done (by kernel_rfl) ?_ _
              have HH := Lib.hid hH1
              clear hH1
              go_wp2_with fail
              go_ret
              refine ⟨by rw [Hfit.out, Hdl.out]; simp, Hb0.out.trans ((HB2.out.trans (HH.out.mono HB2.out.size)).mono Hb0.out.size)⟩
            exact AllReadyH.nil
          · have hbe : ((x.length : Int) == 64) = false := by simpa using hlen
            have hdl : decide ((x.length : Int) = 64) = false := by simpa using hlen
            have Hdl := Lib.hid hdl
            clear hlen hdl ht
            go_upto_region 6 with fail
            go_quiet (fail)
            go_wp2_with fail
            go_ret
            exact ⟨by rw [Hfit.out, Hdl.out]; rfl, Hb0.out.trans (below_drewN'' (HB2.out.mono Hb0.out.size) _)⟩
        · have hmin : min (s - (u : Int) * 64) 64 = t := by omega
          rw [hmin] at hfit2
          have Hfit := Lib.hid hfit2
          clear hmin hfit2
          by_cases hlen : (x.length : Int) = t
          · have hbe : ((x.length : Int) == t) = true := by rw [hlen]; simp
            have hdl : decide ((x.length : Int) = t) = true := by simpa using hlen
            have Hdl := Lib.hid hdl
            clear hlen hdl ht
            go_upto_region 6 with fail
            refine wp_region_held_drew (S := fun w' => Below w2.heap.size w2 w') (by kernel_rfl) ((Below.refl _ _).drew) (fun hH0 => ?_)
            obtain ⟨W0, hW0⟩ : ∃ W, W = w2.drew := ⟨_, rfl⟩
            rw [← hW0] at hH0 ⊢
            clear hW0
            refine wpAnyH_take (i := 0) (v := ?_) rfl (by kernel_rfl) (by kernel_rfl) (by kernel_rfl) (fun _ _ _ h => h) (Or.inl ⟨by kernel_rfl, ?_⟩) hH0 ?_
            rotate_left 1
            · intro w hSw
              go_simp
              try with_reducible rfl
            try simp only [Act.put, List.getElem_toArray, List.getElem_cons_zero, List.getElem_cons_succ, List.setIfInBounds_toArray, List.set_cons_zero, List.set_cons_succ]
            refine wpAnyH_take (i := 1) (v := ?_) rfl (by kernel_rfl) (by kernel_rfl) (by kernel_rfl) (fun _ _ _ h => h) (Or.inl ⟨by kernel_rfl, ?_⟩) hH0 ?_
            rotate_left 1
            · intro w hSw
              go_simp
              try with_reducible rfl
            try simp only [Act.put, List.getElem_toArray, List.getElem_cons_zero, List.getElem_cons_succ, List.setIfInBounds_toArray, List.set_cons_zero, List.set_cons_succ]
            refine wpAnyH_take (i := 2) (v := ?_) rfl (by kernel_rfl) (by kernel_rfl) (by kernel_rfl) (fun _ _ _ h => h) (Or.inl ⟨by kernel_rfl, ?_⟩) hH0 ?_
            rotate_left 1
            · intro w hSw
              go_simp
              try with_reducible rfl
            try simp only [Act.put, List.getElem_toArray, List.getElem_cons_zero, List.getElem_cons_succ, List.setIfInBounds_toArray, List.set_cons_zero, List.set_cons_succ]
            refine wpAnyH_take (i := 3) (v := ?_) rfl (by kernel_rfl) (by kernel_rfl) (by kernel_rfl) (fun _ _ _ h => h) (Or.inl ⟨by kernel_rfl, ?_⟩) hH0 ?_
            rotate_left 1
            · intro w hSw
              go_simp
              try with_reducible rfl
            try simp only [Act.put, List.getElem_toArray, List.getElem_cons_zero, List.getElem_cons_succ, List.setIfInBounds_toArray, List.set_cons_zero, List.set_cons_succ]
            refine wpAnyH_take (i := 4) (v := ?_) rfl (by kernel_rfl) (by kernel_rfl) (by kernel_rfl) (fun _ _ _ h => h) (Or.inl ⟨by kernel_rfl, ?_⟩) hH0 ?_
            rotate_left 1
            · intro w hSw
              go_simp
              try with_reducible rfl
            try simp only [Act.put, List.getElem_toArray, List.getElem_cons_zero, List.getElem_cons_succ, List.setIfInBounds_toArray, List.set_cons_zero, List.set_cons_succ]
            refine wpAnyH_take (i := 5) (v := ?_) rfl (by kernel_rfl) (by kernel_rfl) (by kernel_rfl) (fun _ _ _ h => h) (Or.inl ⟨by kernel_rfl, ?_⟩) hH0 ?_
            rotate_left 1
            · intro w hSw
              go_simp
              try with_reducible rfl
            try simp only [Act.put, List.getElem_toArray, List.getElem_cons_zero, List.getElem_cons_succ, List.setIfInBounds_toArray, List.set_cons_zero, List.set_cons_succ]
            refine wpAnyH_take (i := 7) (v := ?_) rfl (by kernel_rfl) (by kernel_rfl) (by kernel_rfl) (fun _ _ _ h => h) (Or.inl ⟨by kernel_rfl, ?_⟩) hH0 ?_
            rotate_left 1
            · intro w hSw
              go_simp
              try with_reducible rfl
            try simp only [Act.put, List.getElem_toArray, List.getElem_cons_zero, List.getElem_cons_succ, List.setIfInBounds_toArray, List.set_cons_zero, List.set_cons_succ]
            refine wpAnyH_take (i := 8) (v := ?_) rfl (by kernel_rfl) (by kernel_rfl) (by kernel_rfl) (fun _ _ _ h => h) (Or.inl ⟨by kernel_rfl, ?_⟩) hH0 ?_
            rotate_left 1
            · intro w hSw
              have f0 := (hSw.cell (p := ⟨q, 33, none⟩) hq2).trans c33
              go_simp
              try with_reducible rfl
            try simp only [Act.put, List.getElem_toArray, List.getElem_cons_zero, List.getElem_cons_succ, List.setIfInBounds_toArray, List.set_cons_zero, List.set_cons_succ]
            refine wpAnyH_take (i := 9) (v := ?_) rfl (by kernel_rfl) (by kernel_rfl) (by kernel_rfl) (fun _ _ _ h => h) (Or.inl ⟨by kernel_rfl, ?_⟩) hH0 ?_
            rotate_left 1
            · intro w hSw
              go_simp
              try with_reducible rfl
            try simp only [Act.put, List.getElem_toArray, List.getElem_cons_zero, List.getElem_cons_succ, List.setIfInBounds_toArray, List.set_cons_zero, List.set_cons_succ]
            refine wpAnyH_take (i := 10) (v := ?_) rfl (by kernel_rfl) (by kernel_rfl) (by kernel_rfl) (fun _ _ _ h => h) (Or.inl ⟨by kernel_rfl, ?_⟩) hH0 ?_
            rotate_left 1
            · intro w hSw
              go_simp
              try with_reducible rfl
            try simp only [Act.put, List.getElem_toArray, List.getElem_cons_zero, List.getElem_cons_succ, List.setIfInBounds_toArray, List.set_cons_zero, List.set_cons_succ]
            refine wpAnyH_take (i := 11) (v := _) rfl (by kernel_rfl) (by kernel_rfl) (by kernel_rfl) (fun _ _ _ h => h) (yieldsIf_load_mid (by kernel_rfl) _ _ rfl _ _ rfl (byV d) _ (fun W hW => range_below Hrg2.out hW hbw) dund rfl dinfo) hH0 ?_
            try simp only [Act.put, List.getElem_toArray, List.getElem_cons_zero, List.getElem_cons_succ, List.setIfInBounds_toArray, List.set_cons_zero, List.set_cons_succ]
            refine wpAnyH_ready (rs := [6]) (by kernel_rfl) (by simp) ?_
            refine AllReadyH.cons rfl (fun K_ hK => ?_) ?_
            · go_simp
              refine (HOF.out _).mono ?_
              rintro e W1 ⟨rfl, hb1⟩
              refine hK.out _ _ ((hH0).trans (hb1.mono (hH0).size)) (fun hH1 => ?_)
              clear hK K_
              try simp only [Act.put, List.getElem_toArray, List.getElem_cons_zero, List.getElem_cons_succ, List.setIfInBounds_toArray, List.set_cons_zero, List.set_cons_succ]
              refine wpAnyH_take (i := 12) (v := ?_) rfl (by kernel_rfl) (by kernel_rfl) (by kernel_rfl) (fun _ _ _ h => h) (Or.inl ⟨by kernel_rfl, ?_⟩) hH1 ?_
              rotate_left 1
              · intro w hSw
                go_simp
                try with_reducible rfl
              try simp only [Act.put, List.getElem_toArray, List.getElem_cons_zero, List.getElem_cons_succ, List.setIfInBounds_toArray, List.set_cons_zero, List.set_cons_succ]
              refine wpAnyH_take (i := 13) (v := ?_) rfl (by kernel_rfl) (by kernel_rfl) (by kernel_rfl) (fun _ _ _ h => h) (Or.inl ⟨by kernel_rfl, ?_⟩) hH1 ?_
              rotate_left 1
              · intro w hSw
                go_simp
                try with_reducible rfl
              try simp only [Act.put, List.getElem_toArray, List.getElem_cons_zero, List.getElem_cons_succ, List.setIfInBounds_toArray, List.set_cons_zero, List.set_cons_succ]
              refine wpAnyH_take (i := 14) (v := ?_) rfl (by kernel_rfl) (by kernel_rfl) (by kernel_rfl) (fun _ _ _ h => h) (Or.inl ⟨by kernel_rfl, ?_⟩) hH1 ?_
              rotate_left 1
              · intro w hSw
                go_simp
                try with_reducible rfl
              try simp only [Act.put, List.getElem_toArray, List.getElem_cons_zero, List.getElem_cons_succ, List.setIfInBounds_toArray, List.set_cons_zero, List.set_cons_succ]
              refine wpAnyH_done (by kernel_rfl) ?_ _
              have HH := Lib.hid hH1
              clear hH1
              go_wp2_with fail
              go_ret
              refine ⟨by rw [Hfit.out, Hdl.out]; simp, Hb0.out.trans ((HB2.out.trans (HH.out.mono HB2.out.size)).mono Hb0.out.size)⟩
            exact AllReadyH.nil
          · have hbe : ((x.length : Int) == t) = false := by simpa using hlen
            have hdl : decide ((x.length : Int) = t) = false := by simpa using hlen
            have Hdl := Lib.hid hdl
            clear hlen hdl ht
            go_upto_region 6 with fail
            go_quiet (fail)
            go_wp2_with fail
            go_ret
            exact ⟨by rw [Hfit.out, Hdl.out]; rfl, Hb0.out.trans (below_drewN'' (HB2.out.mono Hb0.out.size) _)⟩
      · have hfit : fitsS K m i x = false := by
          unfold fitsS
          rw [← Hn.out, decide_eq_false hin]
          simp
        have Hfit := Lib.hid hfit
        obtain ⟨u, rfl⟩ : ∃ u : Nat, i = (u : Int) := ⟨i.toNat, by omega⟩
        clear hfit
        go_wp2_with fail
        go_ret
        exact ⟨by rw [Hfit.out]; rfl, Hb0.out.trans (HB2.out.mono Hb0.out.size)⟩
    · have hfit : fitsS K m i x = false := by
        unfold fitsS
        rw [decide_eq_false h0]
        simp
      have hneg : i < 0 := by omega
      have Hfit := Lib.hid hfit
      clear hfit
      go_wp2_with fail
      go_ret
      exact ⟨by rw [Hfit.out]; rfl, Hb0.out.trans (HB2.out.mono Hb0.out.size)⟩
  · have hgf : goodS s n = false := by simpa using hgood
    have hfit : fitsS K m i x = false := by unfold fitsS; rw [← Hs.out, ← Hn.out, hgf]; rfl
    rw [hgf]
    have Hfit := Lib.hid hfit
    clear hfit hgf hgood
    go_wp2_with fail
    go_ret
    exact ⟨by rw [Hfit.out]; rfl, Hb0.out.trans (HB2.out.mono Hb0.out.size)⟩
end Go.Proofs.YtfbjbhddapoopaaDoor
