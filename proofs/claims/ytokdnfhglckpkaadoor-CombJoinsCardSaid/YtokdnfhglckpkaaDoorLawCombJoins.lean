/-
  CombJoins: of every manifest, raw ones too, what fits where, and what is joined, is what the document says. No condition: every input.
-/
import Derived.Test.YtokdnfhglckpkaaDoorRcG
import Derived.Test.YtokdnfhglckpkaaDoorCoG
import Derived.Test.YtokdnfhglckpkaaDoorCards
import Derived.Test.YtokdnfhglckpkaaDoorTie
set_option linter.unusedVariables false
set_option linter.unusedSimpArgs false
namespace Go.Proofs.YtokdnfhglckpkaaDoor
open Go.RowKit
attribute [local go_sem] Lb.ba_get Lb.ba_cut Lb.ba_add Lb.ba_size Lb.take_rest

theorem joinS_le (K : List Int) (m : ManiD) (ls : List (List UInt8)) (h1 : ls.length ≤ 40) (h2 : ∀ t ∈ ls, t.length ≤ 1000) : ((joinS K m ls).1).length ≤ 1000000 := by
  have h3 := flat_le ls 1000 h2
  have h4 : ls.length * 1000 ≤ 40 * 1000 := Nat.mul_le_mul_right _ h1
  unfold joinS
  split
  · split
    · split
      · show ls.flatten.length ≤ _; omega
      · simp
    · simp
  · simp

set_option maxHeartbeats 8000000 in
set_option maxRecDepth 100000 in
theorem combJoins_core (m : ManiD) (A : Option Addr) (cap : Nat) (ls : List (List UInt8)) (at_ : Int) (w : World) (hL : Laid KK w) (hm : m.Ok w w.heap.size) (hS : Strs w w.heap.size A ls) (hlc : ls.length ≤ cap) (hcm : cap ≤ maxLen) (hts : ∀ t ∈ ls, t.length ≤ maxLen)
    (alo : -9223372036854775808 ≤ at_) (ahi : at_ ≤ 9223372036854775807) :
    Calls Tryd.prog 4 #[.agg m.row, .slice A ls.length cap, .int .i64 at_] w fun e w' => e = .returned (.bool true) ∧ Below w.heap.size w w' := by
  have hmw := hm.whole
  have hinf : (Tryd.prog.info? 27).map (·.size) = some m.row.size := by rw [m.row_size hmw]; exact mani_info
  have minfo : (Tryd.prog.info? 27).map (·.size) = some m.cells.length := by have := m.row_size hmw; rw [mani_info]; unfold ManiD.row at this; simp only [List.size_toArray] at this; rw [this]
  have mund := Tryd.underlying27
  obtain ⟨K, hK⟩ : ∃ K, K = KK := ⟨_, rfl⟩
  rw [← hK] at hL
  have HRJ : Hid (∀ W : World, m.Ok W W.heap.size → Strs W W.heap.size A ls → ls.length ≤ 1000 → (∀ t ∈ ls, t.length ≤ 1000) → Calls Tryd.prog 23 #[.agg m.row, .slice A ls.length cap] W fun e w' => e = .returned (.tuple #[.string ⟨((joinS K m ls).1).toArray⟩, .int .i64 (joinS K m ls).2]) ∧ Below W.heap.size W w') :=
    Lib.hid (fun W h1 h2 h3 h4 => by rw [hK]; exact rjoin_any m A cap ls W h1 h2 hlc hcm h3 h4)
  have HRF : Hid (∀ (i : Int) (x : List UInt8) (W : World), m.Ok W W.heap.size → -9223372036854775808 ≤ i → i ≤ 9223372036854775807 → x.length ≤ 1000000 → Calls Tryd.prog 27 #[.agg m.row, .int .i64 i, .string ⟨x.toArray⟩] W fun e w' => e = .returned (.bool (fitsS K m i x)) ∧ Below W.heap.size W w') := Lib.hid (fun i x W h1 h2 h3 h4 => by rw [hK]; exact rfits_any m i x W h1 h2 h3 h4)
  clear hK
  have hlm : ls.length ≤ maxLen := Nat.le_trans hlc hcm
  have Hlc := Lib.hid hlc
  have Hcm := Lib.hid hcm
  go_enter Tryd.func4, Tryd.ntmps4
  go_upto_region 1 with fail
  obtain ⟨q, hq⟩ : ∃ q, q = w.heap.size := ⟨_, rfl⟩
  have h0 : (w.alloc (.cells m.row 27)).heap[q]? = some (.cells m.row 27 (0, 0)) := by rw [hq]; exact heap_alloc_new w _
  have b0 : Below w.heap.size w (w.alloc (.cells m.row 27)) := (Below.refl _ w).alloc (Nat.le_refl _) _
  obtain ⟨w1, hw1⟩ : ∃ w1, w1 = w.alloc (.cells m.row 27) := ⟨_, rfl⟩
  rw [← hw1] at h0 b0 ⊢
  rw [← hq]
  have H0 := Lib.hid h0
  have Hb0 := Lib.hid b0
  have HL1 := Lib.hid (hL.below b0)
  have Hm1 := Lib.hid ((hm.below b0 (Nat.le_refl _)).more b0.size)
  have HS1 := Lib.hid ((hS.below b0 (Nat.le_refl _)).more b0.size)
  have Hts := Lib.hid hts
  clear hw1 h0 b0 hq hL hm hS hts hlc hcm
  go_wp2_with fail
  refine (awake_any K w1 HL1.out).mono ?_
  rintro e w2 ⟨rfl, hB2⟩
  have H2 := Lib.hid (below_keep hB2 H0.out)
  have HL2 := Lib.hid (HL1.out.below hB2)
  have Hm2 := Lib.hid ((Hm1.out.below hB2 (Nat.le_refl _)).more hB2.size)
  have HS2 := Lib.hid ((HS1.out.below hB2 (Nat.le_refl _)).more hB2.size)
  have HB2 := Lib.hid (Hb0.out.trans (hB2.mono Hb0.out.size))
  have hg2 := great_any m A cap ls w2 Hm2.out HS2.out hlm Hts.out
  have Hg2 := Lib.hid hg2
  clear hB2 H0 HL1 Hm1 HS1 Hb0 hg2 Hts
  go_wp2_with (refine wpList_load_row rfl 27 _ rfl q rfl 27 _ (0, 0) _ H2.out Tryd.underlying27 rfl hinf ?_)
  refine Hg2.out.mono ?_
  rintro e w3 ⟨hor, hB3⟩
  have H3 := Lib.hid (below_keep hB3 H2.out)
  have HL3 := Lib.hid (HL2.out.below hB3)
  have Hm3 := Lib.hid ((Hm2.out.below hB3 (Nat.le_refl _)).more hB3.size)
  have HS3 := Lib.hid ((HS2.out.below hB3 (Nat.le_refl _)).more hB3.size)
  have HB3 := Lib.hid (HB2.out.trans (hB3.mono HB2.out.size))
  clear hB3 H2 HL2 Hm2 HS2 HB2 Hg2
  rcases hor with rfl | ⟨rfl, hp40, hl40, ht1000⟩
  · go_wp2_with fail
    go_ret
    exact ⟨rfl, HB3.out⟩
  · have hJ := join_any K m A cap ls w3 HL3.out Hm3.out HS3.out Hlc.out Hcm.out (by omega) (fun t ht => by have := ht1000 t ht; omega)
    have hJl := joinS_le K m ls hl40 ht1000
    have HJ2 : Hid (∀ W : World, m.Ok W W.heap.size → Strs W W.heap.size A ls → Calls Tryd.prog 23 #[.agg m.row, .slice A ls.length cap] W fun e w' => e = .returned (.tuple #[.string ⟨((joinS K m ls).1).toArray⟩, .int .i64 (joinS K m ls).2]) ∧ Below W.heap.size W w') := Lib.hid (fun W h1 h2 => HRJ.out W h1 h2 (by omega) ht1000)
    obtain ⟨f, hf⟩ : ∃ f, f = (joinS K m ls).1 := ⟨_, rfl⟩
    obtain ⟨x, hx⟩ : ∃ x, x = (joinS K m ls).2 := ⟨_, rfl⟩
    rw [← hf, ← hx] at hJ HJ2
    rw [← hf] at hJl
    have hfi : (f.length : Int) ≤ 1000000 := by omega
    have HJ := Lib.hid hJ
    have Ht := Lib.hid ht1000
    clear hJ hf hx HRJ ht1000
    obtain ⟨L, hLd⟩ : ∃ L, L = ls.length := ⟨_, rfl⟩
    rw [← hLd] at hl40 HJ HJ2 ⊢
    have hLi : (L : Int) ≤ 40 := by omega
    have HLd := Lib.hid hLd
    clear hLd hlm
    go_wp2_with (refine wpList_load_row rfl 27 _ rfl q rfl 27 _ (0, 0) _ H3.out Tryd.underlying27 rfl hinf ?_)
    refine HJ.out.mono ?_
    rintro e w4 ⟨rfl, hB4⟩
    have H4 := Lib.hid (below_keep hB4 H3.out)
    have HL4 := Lib.hid (HL3.out.below hB4)
    have Hm4 := Lib.hid ((Hm3.out.below hB4 (Nat.le_refl _)).more hB4.size)
    have HS4 := Lib.hid ((HS3.out.below hB4 (Nat.le_refl _)).more hB4.size)
    have HB4 := Lib.hid (HB3.out.trans (hB4.mono HB3.out.size))
    clear hB4 H3 HL3 Hm3 HS3 HB3 HJ
    go_wp2_with (refine wpList_load_row rfl 27 _ rfl q rfl 27 _ (0, 0) _ H4.out Tryd.underlying27 rfl hinf ?_)
    refine (HJ2.out w4 Hm4.out HS4.out).mono ?_
    rintro e w5 ⟨rfl, hB5⟩
    have H5 := Lib.hid (below_keep hB5 H4.out)
    have HL5 := Lib.hid (HL4.out.below hB5)
    have Hm5 := Lib.hid ((Hm4.out.below hB5 (Nat.le_refl _)).more hB5.size)
    have HS5 := Lib.hid ((HS4.out.below hB5 (Nat.le_refl _)).more hB5.size)
    have HB5 := Lib.hid (HB4.out.trans (hB5.mono HB4.out.size))
    have hq5 : q < w5.heap.size := heap_lt H5.out
    have rm0 : w5.rangeAt q 0 m.cells := fun k v hv => by
      rw [Nat.zero_add, Lib.cell_of_heap H5.out]
      unfold ManiD.row
      rw [List.getElem?_toArray]
      exact hv
    have Rm0 := Lib.hid rm0
    have h1 : (f != f) = false := by simp
    have h2 : (x != x) = false := by simp
    obtain ⟨g, hg⟩ : ∃ g, g = goodS m.size m.parts.length := ⟨_, rfl⟩
    have HG : Hid (∀ W : World, Calls Tryd.prog 24 #[.agg m.row] W fun e w' => e = .returned (.bool g) ∧ Below W.heap.size W w') := Lib.hid (fun W => by rw [hg]; exact good_any m W hmw Hm5.out.lo Hm5.out.hi Hm5.out.len)
    have HRG : Hid (∀ W : World, Calls Tryd.prog 25 #[.agg m.row] W fun e w' => e = .returned (.bool g) ∧ Below W.heap.size W w') := Lib.hid (fun W => by rw [hg]; exact rgood_any m W hmw Hm5.out.lo Hm5.out.hi Hm5.out.len)
    have h3 : (g != g) = false := by simp
    clear hB5 H4 HL4 Hm4 HS4 HB4 HJ2 rm0 hg
    go_upto_region 7 with fail
    refine wp_region_held_drew (S := fun w' => Below w5.heap.size w5 w') (by kernel_rfl) ((Below.refl _ _).drew) (fun hH0 => ?_)
    obtain ⟨W0, hW0⟩ : ∃ W, W = w5.drew := ⟨_, rfl⟩
    rw [← hW0] at hH0 ⊢
    clear hW0
    refine wpAnyH_take (i := 0) (v := ?_) rfl (by kernel_rfl) (by kernel_rfl) (by kernel_rfl) (fun _ _ _ h => h) (Or.inl ⟨by kernel_rfl, ?_⟩) hH0 ?_
    rotate_left 1
    · intro w hSw
      go_simp
      try with_reducible rfl
    try simp only [Act.put, List.getElem_toArray, List.getElem_cons_zero, List.getElem_cons_succ, List.setIfInBounds_toArray, List.set_cons_zero, List.set_cons_succ]
    refine wpAnyH_take (i := 1) (v := ?_) rfl (by kernel_rfl) (by kernel_rfl) (by kernel_rfl) (fun _ _ _ h => h) (Or.inl ⟨by kernel_rfl, ?_⟩) hH0 ?_
    rotate_left 1
    · intro w hSw
      go_simp
      try with_reducible rfl
    try simp only [Act.put, List.getElem_toArray, List.getElem_cons_zero, List.getElem_cons_succ, List.setIfInBounds_toArray, List.set_cons_zero, List.set_cons_succ]
    refine wpAnyH_take (i := 2) (v := ?_) rfl (by kernel_rfl) (by kernel_rfl) (by kernel_rfl) (fun _ _ _ h => h) (Or.inl ⟨by kernel_rfl, ?_⟩) hH0 ?_
    rotate_left 1
    · intro w hSw
      go_simp
      try with_reducible rfl
    try simp only [Act.put, List.getElem_toArray, List.getElem_cons_zero, List.getElem_cons_succ, List.setIfInBounds_toArray, List.set_cons_zero, List.set_cons_succ]
    refine wpAnyH_take (i := 3) (v := ?_) rfl (by kernel_rfl) (by kernel_rfl) (by kernel_rfl) (fun _ _ _ h => h) (Or.inl ⟨by kernel_rfl, ?_⟩) hH0 ?_
    rotate_left 1
    · intro w hSw
      go_simp
      try with_reducible rfl
    try simp only [Act.put, List.getElem_toArray, List.getElem_cons_zero, List.getElem_cons_succ, List.setIfInBounds_toArray, List.set_cons_zero, List.set_cons_succ]
    refine wpAnyH_take (i := 4) (v := ?_) rfl (by kernel_rfl) (by kernel_rfl) (by kernel_rfl) (fun _ _ _ h => h) (Or.inl ⟨by kernel_rfl, ?_⟩) hH0 ?_
    rotate_left 1
    · intro w hSw
      go_simp
      try with_reducible rfl
    try simp only [Act.put, List.getElem_toArray, List.getElem_cons_zero, List.getElem_cons_succ, List.setIfInBounds_toArray, List.set_cons_zero, List.set_cons_succ]
    refine wpAnyH_take (i := 5) (v := ?_) rfl (by kernel_rfl) (by kernel_rfl) (by kernel_rfl) (fun _ _ _ h => h) (Or.inl ⟨by kernel_rfl, ?_⟩) hH0 ?_
    rotate_left 1
    · intro w hSw
      go_simp
      try with_reducible rfl
    try simp only [Act.put, List.getElem_toArray, List.getElem_cons_zero, List.getElem_cons_succ, List.setIfInBounds_toArray, List.set_cons_zero, List.set_cons_succ]
    refine wpAnyH_take (i := 6) (v := ?_) rfl (by kernel_rfl) (by kernel_rfl) (by kernel_rfl) (fun _ _ _ h => h) (Or.inl ⟨by kernel_rfl, ?_⟩) hH0 ?_
    rotate_left 1
    · intro w hSw
      go_simp
      try with_reducible rfl
    try simp only [Act.put, List.getElem_toArray, List.getElem_cons_zero, List.getElem_cons_succ, List.setIfInBounds_toArray, List.set_cons_zero, List.set_cons_succ]
    refine wpAnyH_take (i := 7) (v := ?_) rfl (by kernel_rfl) (by kernel_rfl) (by kernel_rfl) (fun _ _ _ h => h) (Or.inl ⟨by kernel_rfl, ?_⟩) hH0 ?_
    rotate_left 1
    · intro w hSw
      go_simp
      try with_reducible rfl
    try simp only [Act.put, List.getElem_toArray, List.getElem_cons_zero, List.getElem_cons_succ, List.setIfInBounds_toArray, List.set_cons_zero, List.set_cons_succ]
    refine wpAnyH_take (i := 8) (v := ?_) rfl (by kernel_rfl) (by kernel_rfl) (by kernel_rfl) (fun _ _ _ h => h) (Or.inl ⟨by kernel_rfl, ?_⟩) hH0 ?_
    rotate_left 1
    · intro w hSw
      go_simp
      try with_reducible rfl
    try simp only [Act.put, List.getElem_toArray, List.getElem_cons_zero, List.getElem_cons_succ, List.setIfInBounds_toArray, List.set_cons_zero, List.set_cons_succ]
    refine wpAnyH_take (i := 9) (v := _) rfl (by kernel_rfl) (by kernel_rfl) (by kernel_rfl) (fun _ _ _ h => h) (yieldsIf_load_mid (by kernel_rfl) _ _ rfl _ _ rfl m.cells _ (fun W hW => range_below Rm0.out hW hq5) mund rfl minfo) hH0 ?_
    try simp only [Act.put, List.getElem_toArray, List.getElem_cons_zero, List.getElem_cons_succ, List.setIfInBounds_toArray, List.set_cons_zero, List.set_cons_succ]
    refine wpAnyH_take (i := 11) (v := _) rfl (by kernel_rfl) (by kernel_rfl) (by kernel_rfl) (fun _ _ _ h => h) (yieldsIf_load_mid (by kernel_rfl) _ _ rfl _ _ rfl m.cells _ (fun W hW => range_below Rm0.out hW hq5) mund rfl minfo) hH0 ?_
    try simp only [Act.put, List.getElem_toArray, List.getElem_cons_zero, List.getElem_cons_succ, List.setIfInBounds_toArray, List.set_cons_zero, List.set_cons_succ]
    refine wpAnyH_ready (rs := [10]) (by kernel_rfl) (by simp) ?_
    refine AllReadyH.cons rfl (fun K_ hK => ?_) ?_
    · go_simp
      refine (HG.out _).mono ?_
      rintro e W1 ⟨rfl, hb1⟩
      refine hK.out _ _ ((hH0).trans (hb1.mono (hH0).size)) (fun hH1 => ?_)
      clear hK K_
      try simp only [Act.put, List.getElem_toArray, List.getElem_cons_zero, List.getElem_cons_succ, List.setIfInBounds_toArray, List.set_cons_zero, List.set_cons_succ]
      refine wpAnyH_ready (rs := [12]) (by kernel_rfl) (by simp) ?_
      refine AllReadyH.cons rfl (fun K_ hK => ?_) ?_
      · go_simp
        refine (HRG.out _).mono ?_
        rintro e W2 ⟨rfl, hb2⟩
        refine hK.out _ _ ((hH1).trans (hb2.mono (hH1).size)) (fun hH2 => ?_)
        clear hK K_
        try simp only [Act.put, List.getElem_toArray, List.getElem_cons_zero, List.getElem_cons_succ, List.setIfInBounds_toArray, List.set_cons_zero, List.set_cons_succ]
        refine wpAnyH_take (i := 13) (v := ?_) rfl (by kernel_rfl) (by kernel_rfl) (by kernel_rfl) (fun _ _ _ h => h) (Or.inl ⟨by kernel_rfl, ?_⟩) hH2 ?_
        rotate_left 1
        · intro w hSw
          go_simp
          try with_reducible rfl
        try simp only [Act.put, List.getElem_toArray, List.getElem_cons_zero, List.getElem_cons_succ, List.setIfInBounds_toArray, List.set_cons_zero, List.set_cons_succ]
        refine wpAnyH_take (i := 14) (v := ?_) rfl (by kernel_rfl) (by kernel_rfl) (by kernel_rfl) (fun _ _ _ h => h) (Or.inl ⟨by kernel_rfl, ?_⟩) hH2 ?_
        rotate_left 1
        · intro w hSw
          go_simp
          try with_reducible rfl
        try simp only [Act.put, List.getElem_toArray, List.getElem_cons_zero, List.getElem_cons_succ, List.setIfInBounds_toArray, List.set_cons_zero, List.set_cons_succ]
        refine wpAnyH_done (by kernel_rfl) ?_ _
        have HH := Lib.hid hH2
        clear hH2 h1 h2 h3 HG HRG
        obtain ⟨w6, hw6⟩ : ∃ w6, w6 = W2 := ⟨_, rfl⟩
        rw [← hw6] at HH ⊢
        clear hw6
        go_wp2_with fail
        go_loopw [11] (fun c wr => ∃ k : Nat, k ≤ L ∧ c = .int .i64 k ∧ Below w5.heap.size w5 wr) (fun c _ => L - (intOf c).toNat)
        case atStart => exact ⟨0, by omega, rfl, HH.out⟩
        case round =>
          obtain ⟨k, hk, rfl, hBr⟩ := hrel
          have HBr := Lib.hid hBr
          by_cases hkL : k < L
          · have k1 : k < ls.length := by rw [← HLd.out]; exact hkL
            obtain ⟨a, rfl, ha, hc⟩ := HS5.out k k1
            obtain ⟨y, hyd⟩ : ∃ y, y = ls[k] := ⟨_, rfl⟩
            rw [← hyd] at hc
            have hyl : y.length ≤ 1000 := by rw [hyd]; exact Ht.out _ (List.getElem_mem _)
            have ck : wr.cell? (a.add k) = some (.string ⟨y.toArray⟩) := (hBr.cell (p := a.add k) (by rw [block_add]; exact ha)).trans hc
            have hak : (a.add k).block < wr.heap.size := by rw [block_add]; have := hBr.size; omega
            have k0 : (0 : Int) ≤ (k : Int) := by omega
            have kL : (k : Int) < (L : Int) := by omega
            have rmr : wr.rangeAt q 0 m.cells := range_below Rm0.out hBr hq5
            have Rmr := Lib.hid rmr
            have hqr : q < wr.heap.size := by have := hBr.size; omega
            obtain ⟨p, hp⟩ : ∃ p, p = fitsS K m k y := ⟨_, rfl⟩
            obtain ⟨r, hr⟩ : ∃ r, r = fitsS K m at_ y := ⟨_, rfl⟩
            have HP : Hid (∀ W : World, Below wr.heap.size wr W → Calls Tryd.prog 26 #[.agg m.row, .int .i64 k, .string ⟨y.toArray⟩] W fun e w' => e = .returned (.bool p) ∧ Below W.heap.size W w') := Lib.hid (fun W hW => by
              rw [hp]; exact fits_any K m k y W ((HL5.out.below HBr.out).below hW) ((((Hm5.out.below HBr.out (Nat.le_refl _)).more HBr.out.size).below hW (Nat.le_refl _)).more hW.size) (by omega) (by omega) (by omega))
            have HPR : Hid (∀ W : World, Below wr.heap.size wr W → Calls Tryd.prog 27 #[.agg m.row, .int .i64 k, .string ⟨y.toArray⟩] W fun e w' => e = .returned (.bool p) ∧ Below W.heap.size W w') := Lib.hid (fun W hW => by
              rw [hp]; exact HRF.out k y W ((((Hm5.out.below HBr.out (Nat.le_refl _)).more HBr.out.size).below hW (Nat.le_refl _)).more hW.size) (by omega) (by omega) (by omega))
            have HQ : Hid (∀ W : World, Below wr.heap.size wr W → Calls Tryd.prog 26 #[.agg m.row, .int .i64 at_, .string ⟨y.toArray⟩] W fun e w' => e = .returned (.bool r) ∧ Below W.heap.size W w') := Lib.hid (fun W hW => by
              rw [hr]; exact fits_any K m at_ y W ((HL5.out.below HBr.out).below hW) ((((Hm5.out.below HBr.out (Nat.le_refl _)).more HBr.out.size).below hW (Nat.le_refl _)).more hW.size) alo ahi (by omega))
            have HQR : Hid (∀ W : World, Below wr.heap.size wr W → Calls Tryd.prog 27 #[.agg m.row, .int .i64 at_, .string ⟨y.toArray⟩] W fun e w' => e = .returned (.bool r) ∧ Below W.heap.size W w') := Lib.hid (fun W hW => by
              rw [hr]; exact HRF.out at_ y W ((((Hm5.out.below HBr.out (Nat.le_refl _)).more HBr.out.size).below hW (Nat.le_refl _)).more hW.size) alo ahi (by omega))
            have hp1 : (p != p) = false := by simp
            have hr1 : (r != r) = false := by simp
            clear hp hr hc hyd rmr hBr
            go_upto_region 12 with fail
            refine wp_region_held_drew (S := fun w' => Below wr.heap.size wr w') (by kernel_rfl) ((Below.refl _ _).drew) (fun hH0 => ?_)
            obtain ⟨W0, hW0⟩ : ∃ W, W = wr.drew := ⟨_, rfl⟩
            rw [← hW0] at hH0 ⊢
            clear hW0
            refine wpAnyH_take (i := 0) (v := _) rfl (by kernel_rfl) (by kernel_rfl) (by kernel_rfl) (fun _ _ _ h => h) (yieldsIf_load_mid (by kernel_rfl) _ _ rfl _ _ rfl m.cells _ (fun W hW => range_below Rmr.out hW hqr) mund rfl minfo) hH0 ?_
            try simp only [Act.put, List.getElem_toArray, List.getElem_cons_zero, List.getElem_cons_succ, List.setIfInBounds_toArray, List.set_cons_zero, List.set_cons_succ]
            refine wpAnyH_take (i := 1) (v := ?_) rfl (by kernel_rfl) (by kernel_rfl) (by kernel_rfl) (fun _ _ _ h => h) (Or.inl ⟨by kernel_rfl, ?_⟩) hH0 ?_
            rotate_left 1
            · intro w hSw
              go_simp
              try with_reducible rfl
            try simp only [Act.put, List.getElem_toArray, List.getElem_cons_zero, List.getElem_cons_succ, List.setIfInBounds_toArray, List.set_cons_zero, List.set_cons_succ]
            refine wpAnyH_take (i := 2) (v := ?_) rfl (by kernel_rfl) (by kernel_rfl) (by kernel_rfl) (fun _ _ _ h => h) (Or.inl ⟨by kernel_rfl, ?_⟩) hH0 ?_
            rotate_left 1
            · intro w hSw
              go_simp
              try with_reducible rfl
            try simp only [Act.put, List.getElem_toArray, List.getElem_cons_zero, List.getElem_cons_succ, List.setIfInBounds_toArray, List.set_cons_zero, List.set_cons_succ]
            refine wpAnyH_take (i := 3) (v := ?_) rfl (by kernel_rfl) (by kernel_rfl) (by kernel_rfl) (fun _ _ _ h => h) (Or.inl ⟨by kernel_rfl, ?_⟩) hH0 ?_
            rotate_left 1
            · intro w hSw
              go_simp
              try with_reducible rfl
            try simp only [Act.put, List.getElem_toArray, List.getElem_cons_zero, List.getElem_cons_succ, List.setIfInBounds_toArray, List.set_cons_zero, List.set_cons_succ]
            refine wpAnyH_take (i := 4) (v := ?_) rfl (by kernel_rfl) (by kernel_rfl) (by kernel_rfl) (fun _ _ _ h => h) (Or.inl ⟨by kernel_rfl, ?_⟩) hH0 ?_
            rotate_left 1
            · intro w hSw
              go_simp
              try with_reducible rfl
            try simp only [Act.put, List.getElem_toArray, List.getElem_cons_zero, List.getElem_cons_succ, List.setIfInBounds_toArray, List.set_cons_zero, List.set_cons_succ]
            refine wpAnyH_take (i := 5) (v := ?_) rfl (by kernel_rfl) (by kernel_rfl) (by kernel_rfl) (fun _ _ _ h => h) (Or.inl ⟨by kernel_rfl, ?_⟩) hH0 ?_
            rotate_left 1
            · intro w hSw
              have f0 := (hSw.cell (p := a.add k) hak).trans ck
              go_simp
              try with_reducible rfl
            try simp only [Act.put, List.getElem_toArray, List.getElem_cons_zero, List.getElem_cons_succ, List.setIfInBounds_toArray, List.set_cons_zero, List.set_cons_succ]
            refine wpAnyH_take (i := 7) (v := _) rfl (by kernel_rfl) (by kernel_rfl) (by kernel_rfl) (fun _ _ _ h => h) (yieldsIf_load_mid (by kernel_rfl) _ _ rfl _ _ rfl m.cells _ (fun W hW => range_below Rmr.out hW hqr) mund rfl minfo) hH0 ?_
            try simp only [Act.put, List.getElem_toArray, List.getElem_cons_zero, List.getElem_cons_succ, List.setIfInBounds_toArray, List.set_cons_zero, List.set_cons_succ]
            refine wpAnyH_take (i := 8) (v := ?_) rfl (by kernel_rfl) (by kernel_rfl) (by kernel_rfl) (fun _ _ _ h => h) (Or.inl ⟨by kernel_rfl, ?_⟩) hH0 ?_
            rotate_left 1
            · intro w hSw
              go_simp
              try with_reducible rfl
            try simp only [Act.put, List.getElem_toArray, List.getElem_cons_zero, List.getElem_cons_succ, List.setIfInBounds_toArray, List.set_cons_zero, List.set_cons_succ]
            refine wpAnyH_take (i := 9) (v := ?_) rfl (by kernel_rfl) (by kernel_rfl) (by kernel_rfl) (fun _ _ _ h => h) (Or.inl ⟨by kernel_rfl, ?_⟩) hH0 ?_
            rotate_left 1
            · intro w hSw
              go_simp
              try with_reducible rfl
            try simp only [Act.put, List.getElem_toArray, List.getElem_cons_zero, List.getElem_cons_succ, List.setIfInBounds_toArray, List.set_cons_zero, List.set_cons_succ]
            refine wpAnyH_take (i := 10) (v := ?_) rfl (by kernel_rfl) (by kernel_rfl) (by kernel_rfl) (fun _ _ _ h => h) (Or.inl ⟨by kernel_rfl, ?_⟩) hH0 ?_
            rotate_left 1
            · intro w hSw
              go_simp
              try with_reducible rfl
            try simp only [Act.put, List.getElem_toArray, List.getElem_cons_zero, List.getElem_cons_succ, List.setIfInBounds_toArray, List.set_cons_zero, List.set_cons_succ]
            refine wpAnyH_take (i := 11) (v := ?_) rfl (by kernel_rfl) (by kernel_rfl) (by kernel_rfl) (fun _ _ _ h => h) (Or.inl ⟨by kernel_rfl, ?_⟩) hH0 ?_
            rotate_left 1
            · intro w hSw
              go_simp
              try with_reducible rfl
            try simp only [Act.put, List.getElem_toArray, List.getElem_cons_zero, List.getElem_cons_succ, List.setIfInBounds_toArray, List.set_cons_zero, List.set_cons_succ]
            refine wpAnyH_take (i := 12) (v := ?_) rfl (by kernel_rfl) (by kernel_rfl) (by kernel_rfl) (fun _ _ _ h => h) (Or.inl ⟨by kernel_rfl, ?_⟩) hH0 ?_
            rotate_left 1
            · intro w hSw
              have f0 := (hSw.cell (p := a.add k) hak).trans ck
              go_simp
              try with_reducible rfl
            try simp only [Act.put, List.getElem_toArray, List.getElem_cons_zero, List.getElem_cons_succ, List.setIfInBounds_toArray, List.set_cons_zero, List.set_cons_succ]
            refine wpAnyH_ready (rs := [6]) (by kernel_rfl) (by simp) ?_
            refine AllReadyH.cons rfl (fun K_ hK => ?_) ?_
            · go_simp
              refine (HP.out _ hH0).mono ?_
              rintro e W1 ⟨rfl, hb1⟩
              refine hK.out _ _ ((hH0).trans (hb1.mono (hH0).size)) (fun hH1 => ?_)
              clear hK K_
              try simp only [Act.put, List.getElem_toArray, List.getElem_cons_zero, List.getElem_cons_succ, List.setIfInBounds_toArray, List.set_cons_zero, List.set_cons_succ]
              refine wpAnyH_ready (rs := [13]) (by kernel_rfl) (by simp) ?_
              refine AllReadyH.cons rfl (fun K_ hK => ?_) ?_
              · go_simp
                refine (HPR.out _ hH1).mono ?_
                rintro e W2 ⟨rfl, hb2⟩
                refine hK.out _ _ ((hH1).trans (hb2.mono (hH1).size)) (fun hH2 => ?_)
                clear hK K_
                try simp only [Act.put, List.getElem_toArray, List.getElem_cons_zero, List.getElem_cons_succ, List.setIfInBounds_toArray, List.set_cons_zero, List.set_cons_succ]
                refine wpAnyH_take (i := 14) (v := ?_) rfl (by kernel_rfl) (by kernel_rfl) (by kernel_rfl) (fun _ _ _ h => h) (Or.inl ⟨by kernel_rfl, ?_⟩) hH2 ?_
                rotate_left 1
                · intro w hSw
                  go_simp
                  try with_reducible rfl
                try simp only [Act.put, List.getElem_toArray, List.getElem_cons_zero, List.getElem_cons_succ, List.setIfInBounds_toArray, List.set_cons_zero, List.set_cons_succ]
                refine wpAnyH_take (i := 15) (v := ?_) rfl (by kernel_rfl) (by kernel_rfl) (by kernel_rfl) (fun _ _ _ h => h) (Or.inl ⟨by kernel_rfl, ?_⟩) hH2 ?_
                rotate_left 1
                · intro w hSw
                  go_simp
                  try with_reducible rfl
                try simp only [Act.put, List.getElem_toArray, List.getElem_cons_zero, List.getElem_cons_succ, List.setIfInBounds_toArray, List.set_cons_zero, List.set_cons_succ]
                refine wpAnyH_take (i := 16) (v := _) rfl (by kernel_rfl) (by kernel_rfl) (by kernel_rfl) (fun _ _ _ h => h) (yieldsIf_load_mid (by kernel_rfl) _ _ rfl _ _ rfl m.cells _ (fun W hW => range_below Rmr.out hW hqr) mund rfl minfo) hH2 ?_
                try simp only [Act.put, List.getElem_toArray, List.getElem_cons_zero, List.getElem_cons_succ, List.setIfInBounds_toArray, List.set_cons_zero, List.set_cons_succ]
                refine wpAnyH_take (i := 17) (v := ?_) rfl (by kernel_rfl) (by kernel_rfl) (by kernel_rfl) (fun _ _ _ h => h) (Or.inl ⟨by kernel_rfl, ?_⟩) hH2 ?_
                rotate_left 1
                · intro w hSw
                  go_simp
                  try with_reducible rfl
                try simp only [Act.put, List.getElem_toArray, List.getElem_cons_zero, List.getElem_cons_succ, List.setIfInBounds_toArray, List.set_cons_zero, List.set_cons_succ]
                refine wpAnyH_take (i := 18) (v := ?_) rfl (by kernel_rfl) (by kernel_rfl) (by kernel_rfl) (fun _ _ _ h => h) (Or.inl ⟨by kernel_rfl, ?_⟩) hH2 ?_
                rotate_left 1
                · intro w hSw
                  go_simp
                  try with_reducible rfl
                try simp only [Act.put, List.getElem_toArray, List.getElem_cons_zero, List.getElem_cons_succ, List.setIfInBounds_toArray, List.set_cons_zero, List.set_cons_succ]
                refine wpAnyH_take (i := 19) (v := ?_) rfl (by kernel_rfl) (by kernel_rfl) (by kernel_rfl) (fun _ _ _ h => h) (Or.inl ⟨by kernel_rfl, ?_⟩) hH2 ?_
                rotate_left 1
                · intro w hSw
                  go_simp
                  try with_reducible rfl
                try simp only [Act.put, List.getElem_toArray, List.getElem_cons_zero, List.getElem_cons_succ, List.setIfInBounds_toArray, List.set_cons_zero, List.set_cons_succ]
                refine wpAnyH_take (i := 20) (v := ?_) rfl (by kernel_rfl) (by kernel_rfl) (by kernel_rfl) (fun _ _ _ h => h) (Or.inl ⟨by kernel_rfl, ?_⟩) hH2 ?_
                rotate_left 1
                · intro w hSw
                  go_simp
                  try with_reducible rfl
                try simp only [Act.put, List.getElem_toArray, List.getElem_cons_zero, List.getElem_cons_succ, List.setIfInBounds_toArray, List.set_cons_zero, List.set_cons_succ]
                refine wpAnyH_take (i := 21) (v := ?_) rfl (by kernel_rfl) (by kernel_rfl) (by kernel_rfl) (fun _ _ _ h => h) (Or.inl ⟨by kernel_rfl, ?_⟩) hH2 ?_
                rotate_left 1
                · intro w hSw
                  have f0 := (hSw.cell (p := a.add k) hak).trans ck
                  go_simp
                  try with_reducible rfl
                try simp only [Act.put, List.getElem_toArray, List.getElem_cons_zero, List.getElem_cons_succ, List.setIfInBounds_toArray, List.set_cons_zero, List.set_cons_succ]
                refine wpAnyH_take (i := 23) (v := _) rfl (by kernel_rfl) (by kernel_rfl) (by kernel_rfl) (fun _ _ _ h => h) (yieldsIf_load_mid (by kernel_rfl) _ _ rfl _ _ rfl m.cells _ (fun W hW => range_below Rmr.out hW hqr) mund rfl minfo) hH2 ?_
                try simp only [Act.put, List.getElem_toArray, List.getElem_cons_zero, List.getElem_cons_succ, List.setIfInBounds_toArray, List.set_cons_zero, List.set_cons_succ]
                refine wpAnyH_take (i := 24) (v := ?_) rfl (by kernel_rfl) (by kernel_rfl) (by kernel_rfl) (fun _ _ _ h => h) (Or.inl ⟨by kernel_rfl, ?_⟩) hH2 ?_
                rotate_left 1
                · intro w hSw
                  go_simp
                  try with_reducible rfl
                try simp only [Act.put, List.getElem_toArray, List.getElem_cons_zero, List.getElem_cons_succ, List.setIfInBounds_toArray, List.set_cons_zero, List.set_cons_succ]
                refine wpAnyH_take (i := 25) (v := ?_) rfl (by kernel_rfl) (by kernel_rfl) (by kernel_rfl) (fun _ _ _ h => h) (Or.inl ⟨by kernel_rfl, ?_⟩) hH2 ?_
                rotate_left 1
                · intro w hSw
                  go_simp
                  try with_reducible rfl
                try simp only [Act.put, List.getElem_toArray, List.getElem_cons_zero, List.getElem_cons_succ, List.setIfInBounds_toArray, List.set_cons_zero, List.set_cons_succ]
                refine wpAnyH_take (i := 26) (v := ?_) rfl (by kernel_rfl) (by kernel_rfl) (by kernel_rfl) (fun _ _ _ h => h) (Or.inl ⟨by kernel_rfl, ?_⟩) hH2 ?_
                rotate_left 1
                · intro w hSw
                  go_simp
                  try with_reducible rfl
                try simp only [Act.put, List.getElem_toArray, List.getElem_cons_zero, List.getElem_cons_succ, List.setIfInBounds_toArray, List.set_cons_zero, List.set_cons_succ]
                refine wpAnyH_take (i := 27) (v := ?_) rfl (by kernel_rfl) (by kernel_rfl) (by kernel_rfl) (fun _ _ _ h => h) (Or.inl ⟨by kernel_rfl, ?_⟩) hH2 ?_
                rotate_left 1
                · intro w hSw
                  go_simp
                  try with_reducible rfl
                try simp only [Act.put, List.getElem_toArray, List.getElem_cons_zero, List.getElem_cons_succ, List.setIfInBounds_toArray, List.set_cons_zero, List.set_cons_succ]
                refine wpAnyH_take (i := 28) (v := ?_) rfl (by kernel_rfl) (by kernel_rfl) (by kernel_rfl) (fun _ _ _ h => h) (Or.inl ⟨by kernel_rfl, ?_⟩) hH2 ?_
                rotate_left 1
                · intro w hSw
                  have f0 := (hSw.cell (p := a.add k) hak).trans ck
                  go_simp
                  try with_reducible rfl
                try simp only [Act.put, List.getElem_toArray, List.getElem_cons_zero, List.getElem_cons_succ, List.setIfInBounds_toArray, List.set_cons_zero, List.set_cons_succ]
                refine wpAnyH_ready (rs := [22]) (by kernel_rfl) (by simp) ?_
                refine AllReadyH.cons rfl (fun K_ hK => ?_) ?_
                · go_simp
                  refine (HQ.out _ hH2).mono ?_
                  rintro e W3 ⟨rfl, hb3⟩
                  refine hK.out _ _ ((hH2).trans (hb3.mono (hH2).size)) (fun hH3 => ?_)
                  clear hK K_
                  try simp only [Act.put, List.getElem_toArray, List.getElem_cons_zero, List.getElem_cons_succ, List.setIfInBounds_toArray, List.set_cons_zero, List.set_cons_succ]
                  refine wpAnyH_ready (rs := [29]) (by kernel_rfl) (by simp) ?_
                  refine AllReadyH.cons rfl (fun K_ hK => ?_) ?_
                  · go_simp
                    refine (HQR.out _ hH3).mono ?_
                    rintro e W4 ⟨rfl, hb4⟩
                    refine hK.out _ _ ((hH3).trans (hb4.mono (hH3).size)) (fun hH4 => ?_)
                    clear hK K_
                    try simp only [Act.put, List.getElem_toArray, List.getElem_cons_zero, List.getElem_cons_succ, List.setIfInBounds_toArray, List.set_cons_zero, List.set_cons_succ]
                    refine wpAnyH_take (i := 30) (v := ?_) rfl (by kernel_rfl) (by kernel_rfl) (by kernel_rfl) (fun _ _ _ h => h) (Or.inl ⟨by kernel_rfl, ?_⟩) hH4 ?_
                    rotate_left 1
                    · intro w hSw
                      go_simp
                      try with_reducible rfl
                    try simp only [Act.put, List.getElem_toArray, List.getElem_cons_zero, List.getElem_cons_succ, List.setIfInBounds_toArray, List.set_cons_zero, List.set_cons_succ]
                    refine wpAnyH_take (i := 31) (v := ?_) rfl (by kernel_rfl) (by kernel_rfl) (by kernel_rfl) (fun _ _ _ h => h) (Or.inl ⟨by kernel_rfl, ?_⟩) hH4 ?_
                    rotate_left 1
                    · intro w hSw
                      go_simp
                      try with_reducible rfl
                    try simp only [Act.put, List.getElem_toArray, List.getElem_cons_zero, List.getElem_cons_succ, List.setIfInBounds_toArray, List.set_cons_zero, List.set_cons_succ]
                    refine wpAnyH_done (by kernel_rfl) ?_ _
                    have HE := Lib.hid (HBr.out.trans (hH4.mono HBr.out.size))
                    clear hH4
                    go_wp2_with fail
                    go_roundw
                    case rel => exact ⟨k + 1, by omega, by go_num, HE.out⟩
                    case measure => simp [intOf]; omega
                  exact AllReadyH.nil
                exact AllReadyH.nil
              exact AllReadyH.nil
            exact AllReadyH.nil
          · obtain rfl : k = L := by omega
            go_wp2_with fail
            go_ret
            exact ⟨rfl, HB5.out.trans (HBr.out.mono HB5.out.size)⟩
      exact AllReadyH.nil
    exact AllReadyH.nil

namespace CombJoinsLaw
open Go.ChangeShapes Go.WideShapes Go.ChangeAt
open Go.ChangeMaps (open_string shut_string)
set_option maxRecDepth 100000 in
theorem contract (H : Type) (enc : TypeId × Value → H) (W : World) (base : Nat) (args : Array Value) (ds gs : List (DataW H)) (before : List MemPlace)
    (hval : ∀ (j : Nat) t v, Tryd.f4.params[j]? = some t → args[j]? = some v → Value.okWide Tryd.prog W .any base t v)
    (hW : DataW.Whole enc Tryd.prog Tryd.f4.params.toList Rows.combJoinsSpec.vars false W args.toList ds gs before) (hsz0 : (DataW.weightsEach Tryd.prog (Tryd.f4.params.toList ++ Rows.combJoinsSpec.plain.varTypes Tryd.prog) (ds ++ gs)).all (· ≤ reachBytes) = true) (hLd : laidMetH Tryd.prog laid1 W) :
    Calls Tryd.prog 4 args W fun e W' => ∃ v, e = .returned v ∧ Rows.combJoinsSpec.post enc Tryd.prog Tryd.f4 false true false false W args v W' := by
  have hW' := hW
  obtain ⟨p, q, hA0, hV, rfl, hfz, hnd⟩ := hW
  have hA : DataW.TrodAll enc Tryd.prog W 0 (fun _ => true) true Tryd.f4.params.toList args.toList ds p := hA0
  rw [Tryd.params4] at hA hval
  obtain ⟨v0, vs0, d0, ds0, p0, q0, hargs, rfl, rfl, h0, r0⟩ := trodAll_cons hA
  obtain ⟨v1, vs1, d1, ds1, p1, q1, rfl, rfl, rfl, h1, r1⟩ := trodAll_cons r0
  obtain ⟨v2, vs2, d2, ds2, p2, q2, rfl, rfl, rfl, h2, r2⟩ := trodAll_cons r1
  obtain ⟨rfl, rfl, rfl⟩ := trodAll_nil r2
  obtain rfl : args = #[v0, v1, v2] := by cases args; simp_all
  obtain ⟨rfl, rfl⟩ := trodVars_none hV
  obtain ⟨m0, rfl, hm0⟩ := open_mani (hval 0 27 v0 rfl rfl) h0
  obtain ⟨A1, c1, x1, rfl, hS1, hl1, hc1, he1⟩ := open_strc (hval 1 32 v1 rfl rfl) h1
  obtain ⟨x2, rfl, hd2, _, w2⟩ := open_int Tryd.underlying3 (hval 2 3 v2 rfl rfl) h2
  refine (combJoins_core m0 A1 c1 x1 x2 W (of_laid hLd) hm0 hS1 hl1 hc1 he1 (wf_bounds w2).1 (wf_bounds w2).2).mono fun e W' ⟨he, hg⟩ => ?_
  subst he
  exact ⟨_, rfl, law_post (tb := 4) laidOut_ (of_decide_eq_true (by kernel_rfl)) Tryd.underlying4 (by kernel_rfl) rfl rfl hW' hg⟩

theorem door_met (os : Os) (args : Array Value) : laidMetH Tryd.prog laid1 ((World.doorLaid Tryd.prog 400 os).forCall (fun _ _ => 0) ⟨#[], args, []⟩).memory :=
  laidMetH_of_parts3 (fuel := 8) (laidMet_of_run' 8 (by kernel_rfl) (by kernel_rfl)) (by kernel_rfl) (by kernel_rfl)

set_option maxRecDepth 100000 in
theorem lifted (os : Os) (started : os.Started) (H : Type) (enc : TypeId × Value → H) :
    ReturnsInHanded {} Tryd.checked os 4 .any (fun w args => (Rows.combJoinsSpec.pre enc Tryd.prog Tryd.f4 [] false w args ∧ laidMetH Tryd.prog laid1 w) ∧ sizedMet enc Tryd.prog Tryd.f4 (OpenSpec.ofChange Rows.combJoinsSpec) false w args)
      (Rows.combJoinsSpec.post enc Tryd.prog Tryd.f4 false true false false) := by
  refine returnsInHanded_of_change_and (C := Tryd.checked) (X := fun w _ => laidMetH Tryd.prog laid1 w) (fun _ _ _ hh h => h.of_heap hh) ownKnob_ started (by kernel_rfl) Tryd.func4
    (ChangeSpec.witness_shaped (enc := enc) (C := Tryd.checked) (os := os) (X := fun w _ => laidMetH Tryd.prog laid1 w) false (World.doorLaid Tryd.prog 400 os) #[.agg zeroMani.row, .slice none 0 0, .int .i64 0] 8 rfl (World.shaped_of_RefB (by kernel_rfl) (by kernel_rfl)) (by kernel_rfl) (by kernel_rfl) (by kernel_rfl) (door_met os _)) ?_
  intro W base args ds gs before hval hW _ hsz hLd _
  exact contract H enc W base args ds gs before hval hW hsz hLd

theorem said : Rows.CombJoinsSaid :=
  OpenClaim.holds_of_wide 4 Tryd.f4 rfl rfl rfl rfl rfl rfl rfl ⟨rfl, rfl, rfl, rfl, rfl⟩ rfl rfl rfl rfl rfl (by kernel_rfl) Tryd.func4 (by kernel_rfl)
    (of_decide_eq_true (by kernel_rfl)) (by unfold Func.isWrapper; first | (rw [if_pos (by decide +kernel)]; kernel_rfl) | (rw [if_neg (by decide +kernel)]; exact ⟨rfl, rfl⟩))
    (fun os started H enc _ => lifted os started H enc)

theorem proved : Rows.CombJoinsCardSaid :=
  Claim7.holds_tied_plain_at .later [] [.data] true Rows.combJoinsCard.stood.harness false
    said (fun _ h => by cases h) (by kernel_rfl) (fun _ h => by cases h) combJoins_row_tie rfl ⟨rfl, rfl⟩ (by kernel_rfl) rfl
    (fun f fn hf hfn => by
      obtain rfl : f = 4 := Option.some.inj ((show Tryd.prog.funcNamed "apiary/apiarylaw03.CombJoins" = some 4 by kernel_rfl).symm.trans hf) |>.symm
      obtain rfl : fn = Tryd.f4 := (Option.some.inj (Tryd.func4.symm.trans hfn)).symm
      exact ⟨by kernel_rfl, fun j t ht => by
        rw [Tryd.params4] at ht
        have hm : t ∈ [27, 32, 3] := by simpa using Array.mem_of_getElem? ht
        have hall : ([27, 32, 3].all fun u => !Tryd.prog.wantsStandIn u) = true := by kernel_rfl
        exact (show Tryd.prog.wantsStandIn t = false by simpa using List.all_eq_true.1 hall t hm)⟩)
    (by kernel_rfl)
end CombJoinsLaw

end Go.Proofs.YtokdnfhglckpkaaDoor
