/-
  Layer 3's reference: the walk of Same.
-/
import Derived.Test.YtfbjbhddapoopaaDoorStV
import Derived.Test.YtfbjbhddapoopaaDoorCoC
import Derived.Test.YtfbjbhddapoopaaDoorCoD
set_option linter.unusedVariables false
set_option linter.unusedSimpArgs false
namespace Go.Proofs.YtfbjbhddapoopaaDoor
open Go.RowKit
attribute [local go_sem] Lb.ba_get Lb.ba_cut Lb.ba_add Lb.ba_size Lb.take_rest

set_option maxHeartbeats 4000000 in
set_option maxRecDepth 100000 in
theorem rsplit_any (l : List UInt8) (w : World) (hl : l.length ≤ 140737488351232) :
    Calls Tryd.prog 77 #[.string ⟨l.toArray⟩] w fun e w' => ∃ v, e = .returned v ∧ Txts w' w.heap.size v (chunks l) ∧ Below w.heap.size w w' := by
  obtain ⟨i0, hi0, hz0, hz1, hz2⟩ := info_parts str_info
  go_enter Tryd.func77, Tryd.ntmps77
  go_wp2_with fail
  go_loopw [0, 3] (fun s v wr => ∃ j : Nat, (j = 0 ∨ 64 * j < l.length) ∧ s = .string ⟨(l.drop (64 * j)).toArray⟩ ∧ Bag0 wr w.heap.size 1 v j (rowT (chunksN l j)) ∧ Below w.heap.size w wr) (fun s _ _ => match s with | .string x => x.size | _ => 0)
  case atStart => exact ⟨0, .inl rfl, rfl, .inr ⟨w.heap.size, 0, rfl, Nat.le_refl _, Nat.le_refl _, by unfold maxLen; omega, by simp, rfl, fun j u hu => by simp [rowT, chunksN] at hu, fun j hj => by omega⟩, (Below.refl _ w).alloc (Nat.le_refl _) _⟩
  case round =>
    obtain ⟨j, hj, rfl, hB, hb⟩ := hrel
    have hbs := hb.size
    obtain ⟨A, cap, rfl, -, -⟩ := hB.shape
    obtain ⟨r, hr⟩ : ∃ r, r = l.drop (64 * j) := ⟨_, rfl⟩
    have hrl : r.length = l.length - 64 * j := by rw [hr]; simp
    rw [← hr]
    have hr63 : (r.length : Int) ≤ 140737488351232 := by omega
    by_cases h64 : 64 < r.length
    · have hi64 : (64 : Int) < (r.length : Int) := by omega
      have hi64' : (64 : Int) ≤ (r.length : Int) := by omega
      have hb2 : Bag0 (wr.alloc (.cells #[.string ⟨(r.take 64).toArray⟩] 9)) w.heap.size 1 (.slice A j cap) j (rowT (chunksN l j)) := hB.alloc _
      have hsrc : Src Tryd.prog 1 54 (.slice (some ⟨wr.heap.size, 0, none⟩) 1 1) 1 [.string ⟨(r.take 64).toArray⟩] (wr.alloc (.cells #[.string ⟨(r.take 64).toArray⟩] 9)) :=
        str_src _ 1 _ (by rw [Lib.cell_of_heap (heap_alloc_new wr _)]; rfl)
      have hj2 : j + 1 ≤ 2199023255489 := by omega
      have Hb := Lib.hid hb
      have Hr := Lib.hid hr
      have hl2 : 64 * (j + 1) < l.length := by omega
      clear hB hb hr hrl
      go_wp2_with (at_builtin; refine wpList_append_bag0 _ rfl _ _ 54 54 rfl i0 (.string ByteArray.empty) 16 Tryd.underlying54 hi0 hz0 hz1 hz2 rfl (by simp; omega) rfl hb2 _ 1 _ rfl hsrc (by omega) (by unfold maxLen; omega) (by omega) ?_)
      intro v' w' hB' hb'
      have hB2 : Bag0 w' w.heap.size 1 v' (j + 1) (rowT (chunksN l (j + 1))) := by
        have e : r.take 64 = chunk l j := by rw [Hr.out]; rfl
        rw [chunksN_succ, rowT_append, ← e]; exact hB'
      have HB2 := Lib.hid hB2
      have Hb2 := Lib.hid ((Hb.out.alloc hbs _).trans hb')
      clear hB' hb' hB2 hsrc hb2
      go_wp2_with fail
      go_roundw
      case rel => exact ⟨j + 1, .inr hl2, by rw [Hr.out, List.drop_drop]; congr 3, HB2.out, Hb2.out⟩
      case measure => show (ByteArray.mk _).size < (ByteArray.mk _).size; simp only [Lb.ba_size, List.length_drop]; omega
    · have hi64 : ¬ (64 : Int) < (r.length : Int) := by omega
      by_cases h0 : r = []
      · have hl0 : l = [] := by
          rcases hj with rfl | h
          · rw [h0] at hr; simpa using hr.symm
          · rw [h0] at hrl; simp at hrl; omega
        have hj0 : j = 0 := by rcases hj with h | h <;> simp_all
        subst hj0
        subst hl0
        subst h0
        have HB := Lib.hid hB
        have Hb := Lib.hid hb
        clear hB hb hr hj hr63 hi64 hrl h64 hl hbs
        go_wp2_with fail
        go_ret
        exact ⟨_, rfl, HB.out, Hb.out⟩
      · have hn0 : ¬ (⟨r.toArray⟩ : ByteArray) = ByteArray.mk #[] := by
          intro h
          apply h0
          have := congrArg (fun b : ByteArray => b.data.toList) h
          simpa using this
        have hemp : r.isEmpty = false := by simpa using h0
        have hr0 : r.length ≠ 0 := by intro h; exact h0 (List.eq_nil_of_length_eq_zero h)
        have hb2 : Bag0 (wr.alloc (.cells #[.string ⟨r.toArray⟩] 9)) w.heap.size 1 (.slice A j cap) j (rowT (chunksN l j)) := hB.alloc _
        have hsrc : Src Tryd.prog 1 54 (.slice (some ⟨wr.heap.size, 0, none⟩) 1 1) 1 [.string ⟨r.toArray⟩] (wr.alloc (.cells #[.string ⟨r.toArray⟩] 9)) :=
          str_src _ 1 _ (by rw [Lib.cell_of_heap (heap_alloc_new wr _)]; rfl)
        have hj2 : j + 1 ≤ 2199023255489 := by omega
        have hcnt : (l.length + 63) / 64 = j + 1 := by omega
        have hch : r = chunk l j := by
          rw [hr]; unfold chunk; rw [← hr]; exact (List.take_of_length_le (by omega)).symm
        have Hb := Lib.hid hb
        have Hch := Lib.hid hch
        have Hcnt := Lib.hid hcnt
        clear hB hb hr hrl hj hch hcnt
        go_wp2_with (at_builtin; refine wpList_append_bag0 _ rfl _ _ 54 54 rfl i0 (.string ByteArray.empty) 16 Tryd.underlying54 hi0 hz0 hz1 hz2 rfl (by simp; omega) rfl hb2 _ 1 _ rfl hsrc (by omega) (by unfold maxLen; omega) (by omega) ?_)
        intro v' w' hB' hb'
        have hB2 : Txts w' w.heap.size v' (chunks l) := by
          unfold Txts
          rw [chunks_length, Hcnt.out]
          unfold chunks
          rw [Hcnt.out, chunksN_succ, rowT_append, ← Hch.out]; exact hB'
        have HB2 := Lib.hid hB2
        have Hb2 := Lib.hid ((Hb.out.alloc hbs _).trans hb')
        clear hB' hb' hB2 hsrc hb2
        go_wp2_with fail
        go_ret
        exact ⟨_, rfl, HB2.out, Hb2.out⟩
end Go.Proofs.YtfbjbhddapoopaaDoor

set_option linter.unusedVariables false
set_option linter.unusedSimpArgs false
namespace Go.Proofs.YtfbjbhddapoopaaDoor
open Go.RowKit
attribute [local go_sem] Lb.ba_get Lb.ba_cut Lb.ba_add Lb.ba_size Lb.take_rest

set_option maxHeartbeats 4000000 in
set_option maxRecDepth 100000 in
theorem rmani_big (l : List UInt8) (w : World) (h : 512 < l.length) (hl : l.length ≤ 140737488355328) :
    Calls Tryd.prog 78 #[.string ⟨l.toArray⟩] w fun e w' => e = .returned (.tuple #[.agg zeroMani.row, .int .i64 33]) ∧ Below w.heap.size w w' := by
  go_enter Tryd.func78, Tryd.ntmps78
  go_upto_region 1 with fail
  show Code.wp _ _ _ _ (w.alloc (.cells zeroMani.row 39))
  obtain ⟨q, hq⟩ : ∃ q, q = w.heap.size := ⟨_, rfl⟩
  have h0 : (w.alloc (.cells zeroMani.row 39)).heap[q]? = some (.cells zeroMani.row 39 (0, 0)) := by rw [hq]; exact heap_alloc_new w _
  have b0 : Below w.heap.size w (w.alloc (.cells zeroMani.row 39)) := (Below.refl _ w).alloc (Nat.le_refl _) _
  obtain ⟨w1, hw1⟩ : ∃ w1, w1 = w.alloc (.cells zeroMani.row 39) := ⟨_, rfl⟩
  rw [← hw1] at h0 b0 ⊢
  rw [← hq]
  have Hq := Lib.hid hq
  have H0 := Lib.hid h0
  have Hb0 := Lib.hid b0
  have hi : (512 : Int) < (l.length : Int) := by omega
  clear hw1 h0 b0 hq
  go_upto_region 2 with fail
  go_wp2_with (refine wpList_store_row rfl 39 _ _ rfl q zeroMani.row rfl rfl 39 zeroMani.row H0.out mani_info rfl (ManiD.row_one zeroMani) ?_)
  (try simp only [Exit.inBlock, Exit.then])
  refine bodyPost_ret (results_cell_row2 rfl _ _ q 39 zeroMani.row (0, 0) _ rfl (setRow_heap _ _ _ _ _ _ H0.out) Tryd.underlying39 rfl mani_info) rfl ?_
  refine ⟨rfl, ?_⟩
  exact Hb0.out.trans (((Only.refl [q] w1).setRow (by simp) _).below Hb0.out.size (by intro x hx; simp at hx; rw [hx, Hq.out]; exact Nat.le_refl _))

set_option maxHeartbeats 400000 in
set_option maxRecDepth 100000 in
theorem rmani_any2 (l : List UInt8) (w : World) (hl : l.length ≤ 512) :
    Calls Tryd.prog 78 #[.string ⟨l.toArray⟩] w fun e w' => ∃ m : ManiD, e = .returned (.tuple #[.agg m.row, .int .i64 0]) ∧ m.Ok w' w'.heap.size ∧ m.whole = hashB KK l ∧ m.size = l.length ∧ m.parts = (chunks l).map (hashB KK) ∧ Below w.heap.size w w' ∧ (∀ a, m.A = some a → w.heap.size ≤ a.block) := by
  go_enter Tryd.func78, Tryd.ntmps78
  go_upto_region 1 with fail
  show Code.wp _ _ _ _ (w.alloc (.cells zeroMani.row 39))
  obtain ⟨q, hq⟩ : ∃ q, q = w.heap.size := ⟨_, rfl⟩
  have h0 : (w.alloc (.cells zeroMani.row 39)).heap[q]? = some (.cells zeroMani.row 39 (0, 0)) := by rw [hq]; exact heap_alloc_new w _
  have b0 : Below w.heap.size w (w.alloc (.cells zeroMani.row 39)) := (Below.refl _ w).alloc (Nat.le_refl _) _
  obtain ⟨w1, hw1⟩ : ∃ w1, w1 = w.alloc (.cells zeroMani.row 39) := ⟨_, rfl⟩
  rw [← hw1] at h0 b0 ⊢
  rw [← hq]
  have hi : ¬ (512 : Int) < (l.length : Int) := by omega
  have Hq := Lib.hid hq
  have H0 := Lib.hid h0
  have Hb0 := Lib.hid b0
  clear hw1 h0 b0 hq
  go_upto_region 3 with fail
  go_wp2_with fail
  refine (rof_any l _ (by omega)).mono ?_
  rintro e w2 ⟨rfl, hB2⟩
  have HB2 := Lib.hid hB2
  obtain ⟨h, hh⟩ : ∃ h, h = hashB KK l := ⟨_, rfl⟩
  have hd : h.length = 32 := by rw [hh]; exact hashB_length KK l
  rw [← hh]
  have Hh := Lib.hid hh
  have hbd := built_mani h (l.length : Int) hd
  obtain ⟨R, hR⟩ : ∃ R, R = maniRow h (l.length : Int) (.slice none 0 0) := ⟨_, rfl⟩
  rw [← hR] at hbd
  have HR := Lib.hid hR
  have hsz : R.size = 34 := by rw [hR]; simp [maniRow, byV, hd]
  have h1c : R.all (·.oneCell') = true := by rw [hR]; exact ManiD.row_one ⟨h, l.length, none, 0, []⟩
  have hinf : (Tryd.prog.info? 39).map (·.size) = some R.size := by rw [hsz]; exact mani_info
  clear hB2 hh hR
  go_wp2_with (first
    | (refine wpList_build2 rfl 39 _ _ _ _ rfl _ _ rfl rfl _ hbd ?_)
    | (refine wpList_store_row rfl 39 _ _ rfl w2.heap.size R rfl rfl 39 _ (heap_alloc_new w2 _) hinf (by rw [hsz]; rfl) h1c ?_))
  obtain ⟨p, hp⟩ : ∃ p, p = w2.heap.size := ⟨_, rfl⟩
  have h3 := setRow_heap _ _ _ R _ _ (heap_alloc_new w2 (.cells zeroMani.row 39))
  have b3 := (((Below.refl w2.heap.size w2).alloc (Nat.le_refl _) (.cells zeroMani.row 39)))
  have o3 : Only [p] w2 ((w2.alloc (.cells zeroMani.row 39)).setRow w2.heap.size R) := ((Only.refl [p] w2).alloc _).setRow (by simp [hp]) R
  obtain ⟨w3, hw3⟩ : ∃ w3, w3 = (w2.alloc (.cells zeroMani.row 39)).setRow w2.heap.size R := ⟨_, rfl⟩
  rw [← hw3] at h3 o3
  show Calls _ _ _ ((w2.alloc (.cells zeroMani.row 39)).setRow w2.heap.size R) _
  rw [← hw3, ← hp]
  rw [← hp] at h3
  have b3' : Below w2.heap.size w2 w3 := o3.below (Nat.le_refl _) (by simp [hp])
  have H3 := Lib.hid h3
  have Hp := Lib.hid hp
  have HB3 := Lib.hid (HB2.out.trans (b3'.mono HB2.out.size))
  clear hw3 h3 o3 b3 hp b3' hinf h1c hsz hbd
  refine (rsplit_any l w3 (by omega)).mono ?_
  rintro e w4 ⟨v, rfl, hT, hB4⟩
  obtain ⟨A, cap, rfl, hcap, hncap⟩ := Bag0.shape hT
  have hlen : (chunks l).length = (l.length + 63) / 64 := chunks_length l
  obtain ⟨n, hn⟩ : ∃ n, n = (chunks l).length := ⟨_, rfl⟩
  rw [← hn] at hncap hlen ⊢
  have hn8 : n ≤ 8 := by omega
  have HT := Lib.hid hT
  have H4 : Hid (w4.heap[p]? = some (.cells (maniRow h l.length (.slice none 0 0)) 39 (0, 0))) := Lib.hid (by rw [← HR.out]; exact below_keep hB4 H3.out)
  have HB4 := Lib.hid (HB3.out.trans (hB4.mono HB3.out.size))
  have Hn := Lib.hid hn
  have hp4 := heap_lt H4.out
  have H4lt : p < w3.heap.size := heap_lt H3.out
  clear hT hB4 hn hlen H3 HB3
  go_wp2_with fail
  go_loopw [6] (fun c wr => ∃ (j : Nat) (v : Value), j ≤ n ∧ c = .int .i64 j ∧ wr.heap[p]? = some (.cells (maniRow h l.length v) 39 (0, 0)) ∧ Bag0 wr w4.heap.size 32 v j ((((chunks l).take j).map (fun x => byV (hashB KK x))).flatten) ∧ Only [p] w4 wr) (fun c _ => n - (intOf c).toNat)
  case atStart => exact ⟨0, _, by omega, rfl, H4.out, Bag0.nil _ _ _, Only.refl _ _⟩
  case round =>
    clear H4
    obtain ⟨j, v, hj, rfl, hP, hB, hO⟩ := hrel
    by_cases hjn : j < n
    · have hjt : j < (chunks l).length := by rw [← Hn.out]; exact hjn
      obtain ⟨g, rfl, hg, hg4, hc⟩ := HT.out.cell j hjt
      obtain ⟨t, ht⟩ : ∃ t, t = (chunks l)[j] := ⟨_, rfl⟩
      rw [← ht] at hc
      have hgp : g ≠ p := by have := Hp.out; have := H4lt; intro e; subst e; omega
      have hc2 : wr.cell? ⟨g, j, none⟩ = some (.string ⟨t.toArray⟩) := (hO.cell (p := ⟨g, j, none⟩) hg4 (by simp; exact hgp)).trans hc
      have c33 : wr.cell? ⟨p, 33, none⟩ = some v := by
        rw [Lib.cell_of_heap hP]
        unfold maniRow
        rw [List.getElem?_toArray, List.getElem?_append_right (by simp [byV, hd])]
        simp [byV, hd]
      have ht64 : t.length ≤ 64 := by rw [ht, chunks_get]; simp [chunk]; omega
      have j0 : (0 : Int) ≤ (j : Int) := by omega
      have jn : (j : Int) < (n : Int) := by omega
      have HP := Lib.hid hP
      have HBg := Lib.hid hB
      have HO := Lib.hid hO
      have Ht := Lib.hid ht
      clear hP hB hO ht hc hg hg4 hgp HT
      go_upto_region 8 with fail
      have hpw : p < wr.heap.size := by have := HO.out.size; omega
      have zp : wr.frozen? ⟨p, 33, none⟩ = false := Lib.frozen_of_heap HP.out _
      obtain ⟨i1, hi1, hy0, hy1, hy2⟩ := info_parts dig_info3
      have hm33 : (maniRow h l.length v)[33]? = some v := by rw [Lib.cell_of_heap HP.out] at c33; exact c33
      refine wp_region_any (by kernel_rfl) ?_
      try change wpAny _ _ _ _ _ _ _ (World.drew _)
      try simp only [Act.put, List.getElem_toArray, List.getElem_cons_zero, List.getElem_cons_succ, List.setIfInBounds_toArray, List.set_cons_zero, List.set_cons_succ]
      refine wpAny_take (i := 0) (v := ?_) rfl (by kernel_rfl) (by kernel_rfl) (by kernel_rfl) (fun _ _ _ h => h) (Or.inl ⟨by rfl, ?_⟩) ?_
      rotate_left 1
      · intro w
        go_simp
        try with_reducible rfl
      try simp only [Act.put, List.getElem_toArray, List.getElem_cons_zero, List.getElem_cons_succ, List.setIfInBounds_toArray, List.set_cons_zero, List.set_cons_succ]
      refine wpAny_take (i := 2) (v := ?_) rfl (by kernel_rfl) (by kernel_rfl) (by kernel_rfl) (fun _ _ _ h => h) (Or.inl ⟨by rfl, ?_⟩) ?_
      rotate_left 1
      · intro w
        go_simp
        try with_reducible rfl
      try simp only [Act.put, List.getElem_toArray, List.getElem_cons_zero, List.getElem_cons_succ, List.setIfInBounds_toArray, List.set_cons_zero, List.set_cons_succ]
      refine wpAny_take (i := 3) (v := ?_) rfl (by kernel_rfl) (by kernel_rfl) (by kernel_rfl) (fun _ _ _ h => h) (Or.inl ⟨by rfl, ?_⟩) ?_
      rotate_left 1
      · intro w
        go_simp
        try with_reducible rfl
      try simp only [Act.put, List.getElem_toArray, List.getElem_cons_zero, List.getElem_cons_succ, List.setIfInBounds_toArray, List.set_cons_zero, List.set_cons_succ]
      refine wpAny_take (i := 4) (v := ?_) rfl (by kernel_rfl) (by kernel_rfl) (by kernel_rfl) (fun _ _ _ h => h) (Or.inl ⟨by rfl, ?_⟩) ?_
      rotate_left 1
      · intro w
        go_simp
        try with_reducible rfl
      try simp only [Act.put, List.getElem_toArray, List.getElem_cons_zero, List.getElem_cons_succ, List.setIfInBounds_toArray, List.set_cons_zero, List.set_cons_succ]
      refine wpAny_ready (rs := [1, 5]) (by kernel_rfl) (by simp) ?_
      refine AllReady.cons rfl (fun K hK => ?_) ?_
      · go_simp
        refine hK _ _ ?_
        clear hK K
        try simp only [Act.put, List.getElem_toArray, List.getElem_cons_zero, List.getElem_cons_succ, List.setIfInBounds_toArray, List.set_cons_zero, List.set_cons_succ]
        refine wpAny_ready (rs := [5]) (by kernel_rfl) (by simp) ?_
        refine AllReady.cons rfl (fun K hK => ?_) ?_
        · go_simp
          refine hK _ _ ?_
          clear hK K
          try simp only [Act.put, List.getElem_toArray, List.getElem_cons_zero, List.getElem_cons_succ, List.setIfInBounds_toArray, List.set_cons_zero, List.set_cons_succ]
          refine wpAny_ready (rs := [6]) (by kernel_rfl) (by simp) ?_
          refine AllReady.cons rfl (fun K hK => ?_) ?_
          · go_simp
            refine (rof_any t _ (by omega)).mono ?_
            rintro e w' ⟨rfl, hBw⟩
            obtain ⟨d, hd0⟩ : ∃ d, d = hashB KK t := ⟨_, rfl⟩
            rw [← hd0]
            have hdd : d.length = 32 := by rw [hd0]; exact hashB_length KK t
            have hds : (digV d).size = 32 := by rw [digV_size, hdd]
            have hF := fold_dig d hdd
            have Hd0 := Lib.hid hd0
            clear hd0
            have hz := ((Below.refl wr.heap.size wr).drew).trans (hBw.mono (Nat.le_refl _))
            have c33' : w'.cell? ⟨p, 33, none⟩ = some v := (hz.cell (p := ⟨p, 33, none⟩) hpw).trans c33
            have c33a : (w'.alloc (.cells (digV d) 23)).cell? ⟨p, 33, none⟩ = some v := (((Below.refl w'.heap.size w').alloc (Nat.le_refl _) (.cells (digV d) 23)).cell (p := ⟨p, 33, none⟩) (Nat.lt_of_lt_of_le hpw hz.size)).trans c33'
            go_wp2_with fail
            try simp only [Act.put, List.getElem_toArray, List.getElem_cons_zero, List.getElem_cons_succ, List.setIfInBounds_toArray, List.set_cons_zero, List.set_cons_succ]
            refine wpAny_ready (rs := [7]) (by kernel_rfl) (by simp) ?_
            refine AllReady.cons rfl (fun K hK => ?_) ?_
            · go_simp
              refine hK _ _ ?_
              clear hK K
              try simp only [Act.put, List.getElem_toArray, List.getElem_cons_zero, List.getElem_cons_succ, List.setIfInBounds_toArray, List.set_cons_zero, List.set_cons_succ]
              refine wpAny_ready (rs := [8]) (by kernel_rfl) (by simp) ?_
              refine AllReady.cons rfl (fun K hK => ?_) ?_
              · rw [if_pos (by rfl)]
                refine wp_append_bag0 (B := w4.heap.size) (w'.alloc (.cells (digV d) 23)) _ _ 37 37 rfl i1 _ 32 Tryd.underlying37 hi1 hy0 hy1 hy2 (by show (digV (List.replicate 32 0)).size = 32; rfl) (by have := HO.out.size; have := hz.size; simp; omega) rfl ((HBg.out.below hz).alloc _) (.slice (some ⟨w'.heap.size, 0, none⟩) 1 1) 1 (byV d) rfl (dig_src w'.heap.size 1 d 23 (0, 0) hdd (heap_alloc_new w' _)) (by omega) (by unfold maxLen; omega) (by omega) ?_
                intro v2 w5 hB5 hb5
                obtain ⟨A5, c5, rfl, -, -⟩ := hB5.shape
                have h5 : w5.heap[p]? = some (.cells (maniRow h l.length v) 39 (0, 0)) := (hb5.block p hp4).trans (((Below.refl w'.heap.size w').alloc (Nat.le_refl _) (.cells (digV d) 23)).block p (Nat.lt_of_lt_of_le hpw hz.size) |>.trans ((hz.block p hpw).trans HP.out))
                have c35 : w5.cell? ⟨p, 33, none⟩ = some v := by rw [Lib.cell_of_heap h5]; exact hm33
                have z35 : w5.frozen? ⟨p, 33, none⟩ = false := Lib.frozen_of_heap h5 _
                have H5 := Lib.hid h5
                clear h5
                refine hK _ _ ?_
                clear hK K
                try simp only [Act.put, List.getElem_toArray, List.getElem_cons_zero, List.getElem_cons_succ, List.setIfInBounds_toArray, List.set_cons_zero, List.set_cons_succ]
                refine wpAny_take (i := 9) (v := ?_) rfl (by kernel_rfl) (by kernel_rfl) (by kernel_rfl) (fun _ _ _ h => h) (Or.inl ⟨by rfl, ?_⟩) ?_
                rotate_left 1
                · intro w
                  go_simp
                  try with_reducible rfl
                try simp only [Act.put, List.getElem_toArray, List.getElem_cons_zero, List.getElem_cons_succ, List.setIfInBounds_toArray, List.set_cons_zero, List.set_cons_succ]
                refine wpAny_ready (rs := [10]) (by kernel_rfl) (by simp) ?_
                refine AllReady.cons rfl (fun K hK => ?_) ?_
                · go_simp
                  refine hK _ _ ?_
                  clear hK K
                  refine wpAny_done (by kernel_rfl) ?_ _
                  have H6 : Hid ((w5.setCell ⟨p, 33, none⟩ (.slice A5 (j + 1) c5)).heap[p]? = some (.cells (maniRow h l.length (.slice A5 (j + 1) c5)) 39 (0, 0))) := Lib.hid ((heap_setCell_same _ p 33 _ _ _ H5.out).trans (by rw [maniRow_set _ _ _ _ hd]))
                  have HB6 : Hid (Bag0 (w5.setCell ⟨p, 33, none⟩ (.slice A5 (j + 1) c5)) w4.heap.size 32 (.slice A5 (j + 1) c5) (j + 1) ((((chunks l).take (j + 1)).map (fun x => byV (hashB KK x))).flatten)) := Lib.hid (by rw [digs_succ _ _ hjt, ← Ht.out, ← Hd0.out]; exact hB5.only ((Only.refl [p] w5).setCell (by simp) _) (by simp; omega))
                  have HO6 : Hid (Only [p] w4 (w5.setCell ⟨p, 33, none⟩ (.slice A5 (j + 1) c5))) := Lib.hid ((((HO.out.trans (Only.of_below hz)).alloc _).belowB hb5).setCell (by simp) _)
                  clear hB5 hb5 hz
                  go_wp2_with fail
                  go_roundw
                  case rel => exact ⟨j + 1, .slice A5 (j + 1) c5, by omega, by go_num, H6.out, HB6.out, HO6.out⟩
                  case measure => simp [intOf]; omega
                exact AllReady.nil
              exact AllReady.nil
            exact AllReady.nil
          exact AllReady.nil
        exact AllReady.nil
      refine AllReady.cons rfl (fun K hK => ?_) ?_
      · go_simp
        refine hK _ _ ?_
        clear hK K
        try simp only [Act.put, List.getElem_toArray, List.getElem_cons_zero, List.getElem_cons_succ, List.setIfInBounds_toArray, List.set_cons_zero, List.set_cons_succ]
        refine wpAny_ready (rs := [1, 6]) (by kernel_rfl) (by simp) ?_
        refine AllReady.cons rfl (fun K hK => ?_) ?_
        · go_simp
          refine hK _ _ ?_
          clear hK K
          try simp only [Act.put, List.getElem_toArray, List.getElem_cons_zero, List.getElem_cons_succ, List.setIfInBounds_toArray, List.set_cons_zero, List.set_cons_succ]
          refine wpAny_ready (rs := [6]) (by kernel_rfl) (by simp) ?_
          refine AllReady.cons rfl (fun K hK => ?_) ?_
          · go_simp
            refine (rof_any t _ (by omega)).mono ?_
            rintro e w' ⟨rfl, hBw⟩
            obtain ⟨d, hd0⟩ : ∃ d, d = hashB KK t := ⟨_, rfl⟩
            rw [← hd0]
            have hdd : d.length = 32 := by rw [hd0]; exact hashB_length KK t
            have hds : (digV d).size = 32 := by rw [digV_size, hdd]
            have hF := fold_dig d hdd
            have Hd0 := Lib.hid hd0
            clear hd0
            have hz := ((Below.refl wr.heap.size wr).drew).trans (hBw.mono (Nat.le_refl _))
            have c33' : w'.cell? ⟨p, 33, none⟩ = some v := (hz.cell (p := ⟨p, 33, none⟩) hpw).trans c33
            have c33a : (w'.alloc (.cells (digV d) 23)).cell? ⟨p, 33, none⟩ = some v := (((Below.refl w'.heap.size w').alloc (Nat.le_refl _) (.cells (digV d) 23)).cell (p := ⟨p, 33, none⟩) (Nat.lt_of_lt_of_le hpw hz.size)).trans c33'
            go_wp2_with fail
            try simp only [Act.put, List.getElem_toArray, List.getElem_cons_zero, List.getElem_cons_succ, List.setIfInBounds_toArray, List.set_cons_zero, List.set_cons_succ]
            refine wpAny_ready (rs := [7]) (by kernel_rfl) (by simp) ?_
            refine AllReady.cons rfl (fun K hK => ?_) ?_
            · go_simp
              refine hK _ _ ?_
              clear hK K
              try simp only [Act.put, List.getElem_toArray, List.getElem_cons_zero, List.getElem_cons_succ, List.setIfInBounds_toArray, List.set_cons_zero, List.set_cons_succ]
              refine wpAny_ready (rs := [8]) (by kernel_rfl) (by simp) ?_
              refine AllReady.cons rfl (fun K hK => ?_) ?_
              · rw [if_pos (by rfl)]
                refine wp_append_bag0 (B := w4.heap.size) (w'.alloc (.cells (digV d) 23)) _ _ 37 37 rfl i1 _ 32 Tryd.underlying37 hi1 hy0 hy1 hy2 (by show (digV (List.replicate 32 0)).size = 32; rfl) (by have := HO.out.size; have := hz.size; simp; omega) rfl ((HBg.out.below hz).alloc _) (.slice (some ⟨w'.heap.size, 0, none⟩) 1 1) 1 (byV d) rfl (dig_src w'.heap.size 1 d 23 (0, 0) hdd (heap_alloc_new w' _)) (by omega) (by unfold maxLen; omega) (by omega) ?_
                intro v2 w5 hB5 hb5
                obtain ⟨A5, c5, rfl, -, -⟩ := hB5.shape
                have h5 : w5.heap[p]? = some (.cells (maniRow h l.length v) 39 (0, 0)) := (hb5.block p hp4).trans (((Below.refl w'.heap.size w').alloc (Nat.le_refl _) (.cells (digV d) 23)).block p (Nat.lt_of_lt_of_le hpw hz.size) |>.trans ((hz.block p hpw).trans HP.out))
                have c35 : w5.cell? ⟨p, 33, none⟩ = some v := by rw [Lib.cell_of_heap h5]; exact hm33
                have z35 : w5.frozen? ⟨p, 33, none⟩ = false := Lib.frozen_of_heap h5 _
                have H5 := Lib.hid h5
                clear h5
                refine hK _ _ ?_
                clear hK K
                try simp only [Act.put, List.getElem_toArray, List.getElem_cons_zero, List.getElem_cons_succ, List.setIfInBounds_toArray, List.set_cons_zero, List.set_cons_succ]
                refine wpAny_take (i := 9) (v := ?_) rfl (by kernel_rfl) (by kernel_rfl) (by kernel_rfl) (fun _ _ _ h => h) (Or.inl ⟨by rfl, ?_⟩) ?_
                rotate_left 1
                · intro w
                  go_simp
                  try with_reducible rfl
                try simp only [Act.put, List.getElem_toArray, List.getElem_cons_zero, List.getElem_cons_succ, List.setIfInBounds_toArray, List.set_cons_zero, List.set_cons_succ]
                refine wpAny_ready (rs := [10]) (by kernel_rfl) (by simp) ?_
                refine AllReady.cons rfl (fun K hK => ?_) ?_
                · go_simp
                  refine hK _ _ ?_
                  clear hK K
                  refine wpAny_done (by kernel_rfl) ?_ _
                  have H6 : Hid ((w5.setCell ⟨p, 33, none⟩ (.slice A5 (j + 1) c5)).heap[p]? = some (.cells (maniRow h l.length (.slice A5 (j + 1) c5)) 39 (0, 0))) := Lib.hid ((heap_setCell_same _ p 33 _ _ _ H5.out).trans (by rw [maniRow_set _ _ _ _ hd]))
                  have HB6 : Hid (Bag0 (w5.setCell ⟨p, 33, none⟩ (.slice A5 (j + 1) c5)) w4.heap.size 32 (.slice A5 (j + 1) c5) (j + 1) ((((chunks l).take (j + 1)).map (fun x => byV (hashB KK x))).flatten)) := Lib.hid (by rw [digs_succ _ _ hjt, ← Ht.out, ← Hd0.out]; exact hB5.only ((Only.refl [p] w5).setCell (by simp) _) (by simp; omega))
                  have HO6 : Hid (Only [p] w4 (w5.setCell ⟨p, 33, none⟩ (.slice A5 (j + 1) c5))) := Lib.hid ((((HO.out.trans (Only.of_below hz)).alloc _).belowB hb5).setCell (by simp) _)
                  clear hB5 hb5 hz
                  go_wp2_with fail
                  go_roundw
                  case rel => exact ⟨j + 1, .slice A5 (j + 1) c5, by omega, by go_num, H6.out, HB6.out, HO6.out⟩
                  case measure => simp [intOf]; omega
                exact AllReady.nil
              exact AllReady.nil
            exact AllReady.nil
          exact AllReady.nil
        refine AllReady.cons rfl (fun K hK => ?_) ?_
        · go_simp
          refine (rof_any t _ (by omega)).mono ?_
          rintro e w' ⟨rfl, hBw⟩
          obtain ⟨d, hd0⟩ : ∃ d, d = hashB KK t := ⟨_, rfl⟩
          rw [← hd0]
          have hdd : d.length = 32 := by rw [hd0]; exact hashB_length KK t
          have hds : (digV d).size = 32 := by rw [digV_size, hdd]
          have hF := fold_dig d hdd
          have Hd0 := Lib.hid hd0
          clear hd0
          have hz := ((Below.refl wr.heap.size wr).drew).trans (hBw.mono (Nat.le_refl _))
          have c33' : w'.cell? ⟨p, 33, none⟩ = some v := (hz.cell (p := ⟨p, 33, none⟩) hpw).trans c33
          have c33a : (w'.alloc (.cells (digV d) 23)).cell? ⟨p, 33, none⟩ = some v := (((Below.refl w'.heap.size w').alloc (Nat.le_refl _) (.cells (digV d) 23)).cell (p := ⟨p, 33, none⟩) (Nat.lt_of_lt_of_le hpw hz.size)).trans c33'
          go_wp2_with fail
          try simp only [Act.put, List.getElem_toArray, List.getElem_cons_zero, List.getElem_cons_succ, List.setIfInBounds_toArray, List.set_cons_zero, List.set_cons_succ]
          refine wpAny_ready (rs := [1, 7]) (by kernel_rfl) (by simp) ?_
          refine AllReady.cons rfl (fun K hK => ?_) ?_
          · go_simp
            refine hK _ _ ?_
            clear hK K
            try simp only [Act.put, List.getElem_toArray, List.getElem_cons_zero, List.getElem_cons_succ, List.setIfInBounds_toArray, List.set_cons_zero, List.set_cons_succ]
            refine wpAny_ready (rs := [7]) (by kernel_rfl) (by simp) ?_
            refine AllReady.cons rfl (fun K hK => ?_) ?_
            · go_simp
              refine hK _ _ ?_
              clear hK K
              try simp only [Act.put, List.getElem_toArray, List.getElem_cons_zero, List.getElem_cons_succ, List.setIfInBounds_toArray, List.set_cons_zero, List.set_cons_succ]
              refine wpAny_ready (rs := [8]) (by kernel_rfl) (by simp) ?_
              refine AllReady.cons rfl (fun K hK => ?_) ?_
              · rw [if_pos (by rfl)]
                refine wp_append_bag0 (B := w4.heap.size) (w'.alloc (.cells (digV d) 23)) _ _ 37 37 rfl i1 _ 32 Tryd.underlying37 hi1 hy0 hy1 hy2 (by show (digV (List.replicate 32 0)).size = 32; rfl) (by have := HO.out.size; have := hz.size; simp; omega) rfl ((HBg.out.below hz).alloc _) (.slice (some ⟨w'.heap.size, 0, none⟩) 1 1) 1 (byV d) rfl (dig_src w'.heap.size 1 d 23 (0, 0) hdd (heap_alloc_new w' _)) (by omega) (by unfold maxLen; omega) (by omega) ?_
                intro v2 w5 hB5 hb5
                obtain ⟨A5, c5, rfl, -, -⟩ := hB5.shape
                have h5 : w5.heap[p]? = some (.cells (maniRow h l.length v) 39 (0, 0)) := (hb5.block p hp4).trans (((Below.refl w'.heap.size w').alloc (Nat.le_refl _) (.cells (digV d) 23)).block p (Nat.lt_of_lt_of_le hpw hz.size) |>.trans ((hz.block p hpw).trans HP.out))
                have c35 : w5.cell? ⟨p, 33, none⟩ = some v := by rw [Lib.cell_of_heap h5]; exact hm33
                have z35 : w5.frozen? ⟨p, 33, none⟩ = false := Lib.frozen_of_heap h5 _
                have H5 := Lib.hid h5
                clear h5
                refine hK _ _ ?_
                clear hK K
                try simp only [Act.put, List.getElem_toArray, List.getElem_cons_zero, List.getElem_cons_succ, List.setIfInBounds_toArray, List.set_cons_zero, List.set_cons_succ]
                refine wpAny_take (i := 9) (v := ?_) rfl (by kernel_rfl) (by kernel_rfl) (by kernel_rfl) (fun _ _ _ h => h) (Or.inl ⟨by rfl, ?_⟩) ?_
                rotate_left 1
                · intro w
                  go_simp
                  try with_reducible rfl
                try simp only [Act.put, List.getElem_toArray, List.getElem_cons_zero, List.getElem_cons_succ, List.setIfInBounds_toArray, List.set_cons_zero, List.set_cons_succ]
                refine wpAny_ready (rs := [10]) (by kernel_rfl) (by simp) ?_
                refine AllReady.cons rfl (fun K hK => ?_) ?_
                · go_simp
                  refine hK _ _ ?_
                  clear hK K
                  refine wpAny_done (by kernel_rfl) ?_ _
                  have H6 : Hid ((w5.setCell ⟨p, 33, none⟩ (.slice A5 (j + 1) c5)).heap[p]? = some (.cells (maniRow h l.length (.slice A5 (j + 1) c5)) 39 (0, 0))) := Lib.hid ((heap_setCell_same _ p 33 _ _ _ H5.out).trans (by rw [maniRow_set _ _ _ _ hd]))
                  have HB6 : Hid (Bag0 (w5.setCell ⟨p, 33, none⟩ (.slice A5 (j + 1) c5)) w4.heap.size 32 (.slice A5 (j + 1) c5) (j + 1) ((((chunks l).take (j + 1)).map (fun x => byV (hashB KK x))).flatten)) := Lib.hid (by rw [digs_succ _ _ hjt, ← Ht.out, ← Hd0.out]; exact hB5.only ((Only.refl [p] w5).setCell (by simp) _) (by simp; omega))
                  have HO6 : Hid (Only [p] w4 (w5.setCell ⟨p, 33, none⟩ (.slice A5 (j + 1) c5))) := Lib.hid ((((HO.out.trans (Only.of_below hz)).alloc _).belowB hb5).setCell (by simp) _)
                  clear hB5 hb5 hz
                  go_wp2_with fail
                  go_roundw
                  case rel => exact ⟨j + 1, .slice A5 (j + 1) c5, by omega, by go_num, H6.out, HB6.out, HO6.out⟩
                  case measure => simp [intOf]; omega
                exact AllReady.nil
              exact AllReady.nil
            exact AllReady.nil
          refine AllReady.cons rfl (fun K hK => ?_) ?_
          · go_simp
            refine hK _ _ ?_
            clear hK K
            try simp only [Act.put, List.getElem_toArray, List.getElem_cons_zero, List.getElem_cons_succ, List.setIfInBounds_toArray, List.set_cons_zero, List.set_cons_succ]
            refine wpAny_ready (rs := [1]) (by kernel_rfl) (by simp) ?_
            refine AllReady.cons rfl (fun K hK => ?_) ?_
            · go_simp
              refine hK _ _ ?_
              clear hK K
              try simp only [Act.put, List.getElem_toArray, List.getElem_cons_zero, List.getElem_cons_succ, List.setIfInBounds_toArray, List.set_cons_zero, List.set_cons_succ]
              refine wpAny_ready (rs := [8]) (by kernel_rfl) (by simp) ?_
              refine AllReady.cons rfl (fun K hK => ?_) ?_
              · rw [if_pos (by rfl)]
                refine wp_append_bag0 (B := w4.heap.size) (w'.alloc (.cells (digV d) 23)) _ _ 37 37 rfl i1 _ 32 Tryd.underlying37 hi1 hy0 hy1 hy2 (by show (digV (List.replicate 32 0)).size = 32; rfl) (by have := HO.out.size; have := hz.size; simp; omega) rfl ((HBg.out.below hz).alloc _) (.slice (some ⟨w'.heap.size, 0, none⟩) 1 1) 1 (byV d) rfl (dig_src w'.heap.size 1 d 23 (0, 0) hdd (heap_alloc_new w' _)) (by omega) (by unfold maxLen; omega) (by omega) ?_
                intro v2 w5 hB5 hb5
                obtain ⟨A5, c5, rfl, -, -⟩ := hB5.shape
                have h5 : w5.heap[p]? = some (.cells (maniRow h l.length v) 39 (0, 0)) := (hb5.block p hp4).trans (((Below.refl w'.heap.size w').alloc (Nat.le_refl _) (.cells (digV d) 23)).block p (Nat.lt_of_lt_of_le hpw hz.size) |>.trans ((hz.block p hpw).trans HP.out))
                have c35 : w5.cell? ⟨p, 33, none⟩ = some v := by rw [Lib.cell_of_heap h5]; exact hm33
                have z35 : w5.frozen? ⟨p, 33, none⟩ = false := Lib.frozen_of_heap h5 _
                have H5 := Lib.hid h5
                clear h5
                refine hK _ _ ?_
                clear hK K
                try simp only [Act.put, List.getElem_toArray, List.getElem_cons_zero, List.getElem_cons_succ, List.setIfInBounds_toArray, List.set_cons_zero, List.set_cons_succ]
                refine wpAny_take (i := 9) (v := ?_) rfl (by kernel_rfl) (by kernel_rfl) (by kernel_rfl) (fun _ _ _ h => h) (Or.inl ⟨by rfl, ?_⟩) ?_
                rotate_left 1
                · intro w
                  go_simp
                  try with_reducible rfl
                try simp only [Act.put, List.getElem_toArray, List.getElem_cons_zero, List.getElem_cons_succ, List.setIfInBounds_toArray, List.set_cons_zero, List.set_cons_succ]
                refine wpAny_ready (rs := [10]) (by kernel_rfl) (by simp) ?_
                refine AllReady.cons rfl (fun K hK => ?_) ?_
                · go_simp
                  refine hK _ _ ?_
                  clear hK K
                  refine wpAny_done (by kernel_rfl) ?_ _
                  have H6 : Hid ((w5.setCell ⟨p, 33, none⟩ (.slice A5 (j + 1) c5)).heap[p]? = some (.cells (maniRow h l.length (.slice A5 (j + 1) c5)) 39 (0, 0))) := Lib.hid ((heap_setCell_same _ p 33 _ _ _ H5.out).trans (by rw [maniRow_set _ _ _ _ hd]))
                  have HB6 : Hid (Bag0 (w5.setCell ⟨p, 33, none⟩ (.slice A5 (j + 1) c5)) w4.heap.size 32 (.slice A5 (j + 1) c5) (j + 1) ((((chunks l).take (j + 1)).map (fun x => byV (hashB KK x))).flatten)) := Lib.hid (by rw [digs_succ _ _ hjt, ← Ht.out, ← Hd0.out]; exact hB5.only ((Only.refl [p] w5).setCell (by simp) _) (by simp; omega))
                  have HO6 : Hid (Only [p] w4 (w5.setCell ⟨p, 33, none⟩ (.slice A5 (j + 1) c5))) := Lib.hid ((((HO.out.trans (Only.of_below hz)).alloc _).belowB hb5).setCell (by simp) _)
                  clear hB5 hb5 hz
                  go_wp2_with fail
                  go_roundw
                  case rel => exact ⟨j + 1, .slice A5 (j + 1) c5, by omega, by go_num, H6.out, HB6.out, HO6.out⟩
                  case measure => simp [intOf]; omega
                exact AllReady.nil
              exact AllReady.nil
            exact AllReady.nil
          exact AllReady.nil
        exact AllReady.nil
      exact AllReady.nil
    · --@after region
      have hjn' : j = n := by omega
      subst hjn'
      have hall : ((((chunks l).take j).map (fun x => byV (hashB KK x))).flatten) = ((((chunks l).map (hashB KK)).map byV).flatten) := by
        rw [List.take_of_length_le (by rw [← Hn.out]; exact Nat.le_refl _), List.map_map]; rfl
      rw [hall] at hB
      obtain ⟨A9, c9, rfl, hc9, hjc9⟩ := hB.shape
      obtain ⟨m, hm⟩ : ∃ m : ManiD, m = ⟨h, l.length, A9, c9, (chunks l).map (hashB KK)⟩ := ⟨_, rfl⟩
      have hrow : maniRow h l.length (.slice A9 j c9) = m.row := by rw [hm]; unfold maniRow ManiD.row ManiD.cells; simp [Hn.out]
      rw [hrow] at hP
      have hmw : m.whole.length = 32 := by rw [hm]; exact hd
      have hone := m.row_one
      have hms := m.row_size hmw
      have hinf : (Tryd.prog.info? 39).map (·.size) = some m.row.size := by rw [hms]; exact mani_info
      have hq0 := H0.out
      have hql : q < w1.heap.size := heap_lt hq0
      have hqp : q ≠ p := by have := Hp.out; have := HB2.out.size; omega
      have hq2 : wr.heap[q]? = some (.cells zeroMani.row 39 (0, 0)) := hO.keep ((HB4.out.block q hql).trans hq0) (by simp; exact hqp)
      have HBm := Lib.hid hB
      have HP := Lib.hid hP
      have Hm := Lib.hid hm
      have HO := Lib.hid hO
      have Hq2 := Lib.hid hq2
      clear hP hm hO hq2 hB hall hrow hq0
      go_wp2_with (first
        | (refine wpList_load_row rfl 39 _ rfl p rfl 39 _ (0, 0) _ HP.out Tryd.underlying39 rfl hinf ?_)
        | (refine wpList_store_row rfl 39 _ _ rfl q m.row rfl rfl 39 _ Hq2.out hinf (by rw [hms]; rfl) hone ?_))
      (try simp only [Exit.inBlock, Exit.then])
      refine bodyPost_ret (results_cell_row2 rfl _ _ q 39 m.row (0, 0) _ rfl (setRow_heap _ _ _ _ _ _ Hq2.out) Tryd.underlying39 rfl hinf) rfl ?_
      have o1 : Only [q] wr (wr.setRow q m.row) := ((Only.refl [q] wr).setRow (by simp) _)
      have hb14 : Only [p] w1 wr := ((Only.of_below HB4.out).trans HO.out)
      have hq1 := Hq.out
      have hp1 := Hp.out
      have hs2 := HB2.out.size
      have hs1 := Hb0.out.size
      refine ⟨m, rfl, ?_, by rw [Hm.out]; exact Hh.out, by rw [Hm.out], by rw [Hm.out], ?_, ?_⟩
      · refine ⟨hmw, ?_, ?_, ?_, ?_, ?_⟩
        · rw [Hm.out]; intro d hd'; obtain ⟨x, _, rfl⟩ := List.mem_map.1 hd'; exact hashB_length KK x
        · rw [Hm.out]; show (-9223372036854775808 : Int) ≤ (l.length : Int); omega
        · rw [Hm.out]; show (l.length : Int) ≤ 9223372036854775807; omega
        · rw [Hm.out]; show ((chunks l).map (hashB KK)).length ≤ maxLen; rw [List.length_map, ← Hn.out]; unfold maxLen; omega
        · have e1 : m.A = A9 := by rw [Hm.out]
          have e2 : m.parts = (chunks l).map (hashB KK) := by rw [Hm.out]
          rw [e1, e2]
          exact digs_of_bag (HBm.out.only o1 (by intro x hx; simp at hx; have := HB4.out.size; omega)) (by simp [Hn.out]) (by intro d hd'; obtain ⟨x, _, rfl⟩ := List.mem_map.1 hd'; exact hashB_length KK x)
      · exact Hb0.out.trans ((hb14.mono (by simp) |>.trans (o1.mono (by simp)) : Only [p, q] w1 _).below hs1 (by intro x hx; simp at hx; rcases hx with rfl | rfl <;> omega))
      · intro a ha
        have e1 : m.A = A9 := by rw [Hm.out]
        rw [e1] at ha
        rcases HBm.out with ⟨h1, -, -⟩ | ⟨g9, c9, h1, h2, -⟩
        · injection h1 with h1; rw [h1] at ha; cases ha
        · injection h1 with h1
          rw [h1] at ha
          obtain rfl := Option.some.inj ha
          show w.heap.size ≤ g9
          have := HB4.out.size
          omega
theorem rmani_any (l : List UInt8) (w : World) (hl : l.length ≤ 512) :
    Calls Tryd.prog 78 #[.string ⟨l.toArray⟩] w fun e w' => ∃ m : ManiD, e = .returned (.tuple #[.agg m.row, .int .i64 0]) ∧ m.Ok w' w'.heap.size ∧ m.whole = hashB KK l ∧ m.size = l.length ∧ m.parts = (chunks l).map (hashB KK) ∧ Below w.heap.size w w' :=
  (rmani_any2 l w hl).mono fun e w' ⟨m, h1, h2, h3, h4, h5, h6, _⟩ => ⟨m, h1, h2, h3, h4, h5, h6⟩
end Go.Proofs.YtfbjbhddapoopaaDoor

set_option linter.unusedVariables false
set_option linter.unusedSimpArgs false
namespace Go.Proofs.YtfbjbhddapoopaaDoor
open Go.RowKit
attribute [local go_sem] Lb.ba_get Lb.ba_cut Lb.ba_add Lb.ba_size Lb.take_rest

def sameM (m n : ManiD) : Bool := m.whole == n.whole && (m.size == n.size && m.parts == n.parts)

theorem range_row {w : World} {q : Nat} {m : ManiD} {T : TypeId} {f : Nat × Nat} (h : w.heap[q]? = some (.cells m.row T f)) : w.rangeAt q 0 (byV m.whole) := fun k v hv => by
  rw [Nat.zero_add, Lib.cell_of_heap h]
  unfold ManiD.row ManiD.cells
  rw [List.getElem?_toArray, List.getElem?_append_left (List.getElem?_eq_some_iff.1 hv).1]
  exact hv

set_option maxHeartbeats 4000000 in
set_option maxRecDepth 100000 in
theorem rmsame_any (m n : ManiD) (w : World) (hm : m.Ok w w.heap.size) (hn : n.Ok w w.heap.size) :
    Calls Tryd.prog 79 #[.agg m.row, .agg n.row] w fun e w' => e = .returned (.bool (sameM m n)) ∧ Below w.heap.size w w' := by
  have hmw := hm.whole
  have hnw := hn.whole
  go_enter Tryd.func79, Tryd.ntmps79
  go_upto_region 1 with fail
  obtain ⟨q, hq⟩ : ∃ q, q = w.heap.size := ⟨_, rfl⟩
  obtain ⟨p, hp⟩ : ∃ p, p = w.heap.size + 1 := ⟨_, rfl⟩
  have h0 : ((w.alloc (.cells m.row 39)).alloc (.cells n.row 39)).heap[q]? = some (.cells m.row 39 (0, 0)) := by
    rw [hq]; exact (Below.heap_alloc _ _ _ (by simp)).trans (heap_alloc_new w _)
  have h1 : ((w.alloc (.cells m.row 39)).alloc (.cells n.row 39)).heap[p]? = some (.cells n.row 39 (0, 0)) := by
    rw [hp]; exact heap_alloc2_new w _ _
  have b0 : Below w.heap.size w ((w.alloc (.cells m.row 39)).alloc (.cells n.row 39)) := ((Below.refl _ w).alloc (Nat.le_refl _) _).alloc (by simp) _
  obtain ⟨w1, hw1⟩ : ∃ w1, w1 = (w.alloc (.cells m.row 39)).alloc (.cells n.row 39) := ⟨_, rfl⟩
  rw [← hw1] at h0 h1 b0 ⊢
  rw [← hp, ← hq]
  have hq1 := heap_lt h0
  have hp1 := heap_lt h1
  have rm := range_row h0
  have rn := range_row h1
  have heq : ∀ W : World, (Op.equalIn 10000 23 (.agg (byV m.whole).toArray) (.agg (byV n.whole).toArray)).run Tryd.prog W = .ok (m.whole == n.whole) W := fun W => eqIn_dig W m.whole n.whole hmw hnw
  have dim : (Tryd.prog.info? 23).map (·.size) = some (byV m.whole).length := by rw [dig_info, byV_length, hmw]
  have din : (Tryd.prog.info? 23).map (·.size) = some (byV n.whole).length := by rw [dig_info, byV_length, hnw]
  have c32 : w1.cell? ⟨q, 32, none⟩ = some (.int .i64 m.size) := by rw [Lib.cell_of_heap h0]; exact m.at32 hmw
  have c33 : w1.cell? ⟨q, 33, none⟩ = some (.slice m.A m.parts.length m.cap) := by rw [Lib.cell_of_heap h0]; exact m.at33 hmw
  have d32 : w1.cell? ⟨p, 32, none⟩ = some (.int .i64 n.size) := by rw [Lib.cell_of_heap h1]; exact n.at32 hnw
  have d33 : w1.cell? ⟨p, 33, none⟩ = some (.slice n.A n.parts.length n.cap) := by rw [Lib.cell_of_heap h1]; exact n.at33 hnw
  have Hm := Lib.hid ((hm.below b0 (Nat.le_refl _)).more b0.size)
  have Hn := Lib.hid ((hn.below b0 (Nat.le_refl _)).more b0.size)
  have Hb0 := Lib.hid b0
  obtain ⟨a, ha⟩ : ∃ a, a = m.parts.length := ⟨_, rfl⟩
  obtain ⟨b, hb⟩ : ∃ b, b = n.parts.length := ⟨_, rfl⟩
  have hal := hm.len
  have hbl := hn.len
  rw [← ha] at c33 hal
  rw [← hb] at d33 hbl
  unfold maxLen at hal hbl
  have hai : (a : Int) ≤ 9223372036854775807 := by omega
  have hbi : (b : Int) ≤ 9223372036854775807 := by omega
  have Ha := Lib.hid ha
  have Hbb := Lib.hid hb
  obtain ⟨s, hs⟩ : ∃ s, s = m.size := ⟨_, rfl⟩
  obtain ⟨u, hu⟩ : ∃ u, u = n.size := ⟨_, rfl⟩
  rw [← hs] at c32
  rw [← hu] at d32
  have Hs := Lib.hid hs
  have Hu := Lib.hid hu
  obtain ⟨cm, hcm⟩ : ∃ c, c = byV m.whole := ⟨_, rfl⟩
  obtain ⟨cn, hcn⟩ : ∃ c, c = byV n.whole := ⟨_, rfl⟩
  rw [← hcm] at rm dim heq
  rw [← hcn] at rn din heq
  have Rm := Lib.hid rm
  have Rn := Lib.hid rn
  clear hw1 h0 h1 b0 hq hp ha hb hs hu hm hn rm rn hcm hcn
  by_cases hw : m.whole = n.whole
  · have hwb : (m.whole == n.whole) = true := by rw [hw]; simp
    rw [hwb] at heq
    by_cases hsu : s = u
    · have hsb : (s != u) = false := by rw [hsu]; simp
      by_cases hab : a = b
      · subst hab
        have hl1 : ((a : Int) != (a : Int)) = false := by simp
        have hl2 : (a != a) = false := by simp
        have hres : sameM m n = (m.parts == n.parts) := by
          unfold sameM
          rw [hwb, ← Hs.out, ← Hu.out, hsu]; simp
        have Hres := Lib.hid hres
        have Hw := Lib.hid hw
        have Hsu := Lib.hid hsu
        clear hres hw hsu
        have tok1 : True := trivial
        have tok2 : True := trivial
        go_wp2_with (first
          | (have _t := tok1; refine wpList_load_mid rfl 23 _ rfl q 0 rfl _ _ Rm.out Tryd.underlying23 rfl dim ?_; clear tok1)
          | (have _t := tok2; refine wpList_load_mid rfl 23 _ rfl p 0 rfl _ _ Rn.out Tryd.underlying23 rfl din ?_; clear tok2))
        go_loopw [5] (fun c wr => ∃ k : Nat, k ≤ a ∧ c = .int .i64 k ∧ (∀ i, i < k → m.parts.getD i [] = n.parts.getD i []) ∧ Below w1.heap.size w1 wr) (fun c _ => a - (intOf c).toNat)
        case atStart => exact ⟨0, by omega, rfl, fun i hi => absurd hi (Nat.not_lt_zero _), Below.refl _ _⟩
        case round =>
          obtain ⟨k, hk, rfl, hE, hwr⟩ := hrel
          have HE := Lib.hid hE
          clear hE heq
          have r32 : wr.cell? ⟨q, 33, none⟩ = some (.slice m.A a m.cap) := (hwr.cell (p := ⟨q, 33, none⟩) hq1).trans c33
          have s32 : wr.cell? ⟨p, 33, none⟩ = some (.slice n.A a n.cap) := (hwr.cell (p := ⟨p, 33, none⟩) hp1).trans d33
          by_cases hka : k < a
          · have k1 : k < m.parts.length := by rw [← Ha.out]; exact hka
            have k2 : k < n.parts.length := by rw [← Hbb.out]; exact hka
            obtain ⟨b1, o1, hA1, hl1', hr1⟩ := Hm.out.digs k k1
            obtain ⟨b2, o2, hA2, hl2', hr2⟩ := Hn.out.digs k k2
            obtain ⟨x, hx⟩ : ∃ x, x = m.parts[k] := ⟨_, rfl⟩
            obtain ⟨y, hy⟩ : ∃ y, y = n.parts[k] := ⟨_, rfl⟩
            rw [← hx] at hr1
            rw [← hy] at hr2
            have hx32 : x.length = 32 := by rw [hx]; exact Hm.out.each _ (List.getElem_mem _)
            have hy32 : y.length = 32 := by rw [hy]; exact Hn.out.each _ (List.getElem_mem _)
            have hgx : m.parts.getD k [] = x := by rw [List.getD_eq_getElem?_getD, List.getElem?_eq_getElem k1, hx]; rfl
            have hgy : n.parts.getD k [] = y := by rw [List.getD_eq_getElem?_getD, List.getElem?_eq_getElem k2, hy]; rfl
            have r1 : wr.rangeAt b1 (o1 + k * 32) (byV x) := range_below hr1 hwr hl1'
            have r2 : wr.rangeAt b2 (o2 + k * 32) (byV y) := range_below hr2 hwr hl2'
            rw [hA1] at r32
            rw [hA2] at s32
            have hqr : q < wr.heap.size := Nat.lt_of_lt_of_le hq1 hwr.size
            have hpr : p < wr.heap.size := Nat.lt_of_lt_of_le hp1 hwr.size
            have hl1r : b1 < wr.heap.size := Nat.lt_of_lt_of_le hl1' hwr.size
            have hl2r : b2 < wr.heap.size := Nat.lt_of_lt_of_le hl2' hwr.size
            have dix : (Tryd.prog.info? 23).map (·.size) = some (byV x).length := by rw [dig_info, byV_length, hx32]
            have diy : (Tryd.prog.info? 23).map (·.size) = some (byV y).length := by rw [dig_info, byV_length, hy32]
            have dund := Tryd.underlying23
            have heq : ∀ W : World, (Op.equalIn 10000 23 (.agg (byV x).toArray) (.agg (byV y).toArray)).run Tryd.prog W = .ok (x == y) W := fun W => eqIn_dig W x y hx32 hy32
            have Hgx := Lib.hid hgx
            have Hgy := Lib.hid hgy
            have Hwr := Lib.hid hwr
            have k0 : (0 : Int) ≤ (k : Int) := by omega
            have kn : (k : Int) < (a : Int) := by omega
            clear hx hy hgx hgy hwr hA1 hA2 hr1 hr2 hl1' hl2' hx32 hy32
            by_cases hxy : x = y
            · have hb1 : (x == y) = true := by rw [hxy]; simp
              rw [hb1] at heq
              have HE2 : Hid (∀ i, i < k + 1 → m.parts.getD i [] = n.parts.getD i []) := Lib.hid (fun i hi => by
                rcases Nat.lt_or_ge i k with h | h
                · exact HE.out i h
                · obtain rfl : i = k := by omega
                  rw [Hgx.out, Hgy.out, hxy])
              have Hxy := Lib.hid hxy
              clear hxy hb1
              go_upto_region 6 with fail
              refine wp_region_held_drew (S := fun w' => Below wr.heap.size wr w') (by kernel_rfl) ((Below.refl _ _).drew) (fun hH0 => ?_)
              obtain ⟨W0, hW0⟩ : ∃ W, W = wr.drew := ⟨_, rfl⟩
              rw [← hW0] at hH0 ⊢
              clear hW0
              refine wpAnyH_take (i := 0) (v := ?_) rfl (by kernel_rfl) (by kernel_rfl) (by kernel_rfl) (fun _ _ _ h => h) (Or.inl ⟨by kernel_rfl, ?_⟩) hH0 ?_
              rotate_left 1
              · intro w hSw
                go_simp
                try with_reducible rfl
              try simp only [Act.put, List.getElem_toArray, List.getElem_cons_zero, List.getElem_cons_succ, List.setIfInBounds_toArray, List.set_cons_zero, List.set_cons_succ]
              refine wpAnyH_take (i := 1) (v := ?_) rfl (by kernel_rfl) (by kernel_rfl) (by kernel_rfl) (fun _ _ _ h => h) (Or.inl ⟨by kernel_rfl, ?_⟩) hH0 ?_
              rotate_left 1
              · intro w hSw
                have f0 := (hSw.cell (p := ⟨q, 33, none⟩) hqr).trans r32
                have f1 := (hSw.cell (p := ⟨p, 33, none⟩) hpr).trans s32
                go_simp
                try with_reducible rfl
              try simp only [Act.put, List.getElem_toArray, List.getElem_cons_zero, List.getElem_cons_succ, List.setIfInBounds_toArray, List.set_cons_zero, List.set_cons_succ]
              refine wpAnyH_take (i := 2) (v := ?_) rfl (by kernel_rfl) (by kernel_rfl) (by kernel_rfl) (fun _ _ _ h => h) (Or.inl ⟨by kernel_rfl, ?_⟩) hH0 ?_
              rotate_left 1
              · intro w hSw
                go_simp
                try with_reducible rfl
              try simp only [Act.put, List.getElem_toArray, List.getElem_cons_zero, List.getElem_cons_succ, List.setIfInBounds_toArray, List.set_cons_zero, List.set_cons_succ]
              refine wpAnyH_take (i := 3) (v := ?_) rfl (by kernel_rfl) (by kernel_rfl) (by kernel_rfl) (fun _ _ _ h => h) (Or.inl ⟨by kernel_rfl, ?_⟩) hH0 ?_
              rotate_left 1
              · intro w hSw
                go_simp
                try with_reducible rfl
              try simp only [Act.put, List.getElem_toArray, List.getElem_cons_zero, List.getElem_cons_succ, List.setIfInBounds_toArray, List.set_cons_zero, List.set_cons_succ]
              refine wpAnyH_take (i := 4) (v := _) rfl (by kernel_rfl) (by kernel_rfl) (by kernel_rfl) (fun _ _ _ h => h) (yieldsIf_load_mid (by kernel_rfl) _ _ rfl _ _ rfl (byV x) _ (fun W hW => range_below r1 hW hl1r) dund rfl dix) hH0 ?_
              try simp only [Act.put, List.getElem_toArray, List.getElem_cons_zero, List.getElem_cons_succ, List.setIfInBounds_toArray, List.set_cons_zero, List.set_cons_succ]
              refine wpAnyH_take (i := 5) (v := ?_) rfl (by kernel_rfl) (by kernel_rfl) (by kernel_rfl) (fun _ _ _ h => h) (Or.inl ⟨by kernel_rfl, ?_⟩) hH0 ?_
              rotate_left 1
              · intro w hSw
                go_simp
                try with_reducible rfl
              try simp only [Act.put, List.getElem_toArray, List.getElem_cons_zero, List.getElem_cons_succ, List.setIfInBounds_toArray, List.set_cons_zero, List.set_cons_succ]
              refine wpAnyH_take (i := 6) (v := ?_) rfl (by kernel_rfl) (by kernel_rfl) (by kernel_rfl) (fun _ _ _ h => h) (Or.inl ⟨by kernel_rfl, ?_⟩) hH0 ?_
              rotate_left 1
              · intro w hSw
                have f0 := (hSw.cell (p := ⟨q, 33, none⟩) hqr).trans r32
                have f1 := (hSw.cell (p := ⟨p, 33, none⟩) hpr).trans s32
                go_simp
                try with_reducible rfl
              try simp only [Act.put, List.getElem_toArray, List.getElem_cons_zero, List.getElem_cons_succ, List.setIfInBounds_toArray, List.set_cons_zero, List.set_cons_succ]
              refine wpAnyH_take (i := 7) (v := ?_) rfl (by kernel_rfl) (by kernel_rfl) (by kernel_rfl) (fun _ _ _ h => h) (Or.inl ⟨by kernel_rfl, ?_⟩) hH0 ?_
              rotate_left 1
              · intro w hSw
                go_simp
                try with_reducible rfl
              try simp only [Act.put, List.getElem_toArray, List.getElem_cons_zero, List.getElem_cons_succ, List.setIfInBounds_toArray, List.set_cons_zero, List.set_cons_succ]
              refine wpAnyH_take (i := 8) (v := ?_) rfl (by kernel_rfl) (by kernel_rfl) (by kernel_rfl) (fun _ _ _ h => h) (Or.inl ⟨by kernel_rfl, ?_⟩) hH0 ?_
              rotate_left 1
              · intro w hSw
                go_simp
                try with_reducible rfl
              try simp only [Act.put, List.getElem_toArray, List.getElem_cons_zero, List.getElem_cons_succ, List.setIfInBounds_toArray, List.set_cons_zero, List.set_cons_succ]
              refine wpAnyH_take (i := 9) (v := _) rfl (by kernel_rfl) (by kernel_rfl) (by kernel_rfl) (fun _ _ _ h => h) (yieldsIf_load_mid (by kernel_rfl) _ _ rfl _ _ rfl (byV y) _ (fun W hW => range_below r2 hW hl2r) dund rfl diy) hH0 ?_
              try simp only [Act.put, List.getElem_toArray, List.getElem_cons_zero, List.getElem_cons_succ, List.setIfInBounds_toArray, List.set_cons_zero, List.set_cons_succ]
              refine wpAnyH_take (i := 10) (v := ?_) rfl (by kernel_rfl) (by kernel_rfl) (by kernel_rfl) (fun _ _ _ h => h) (Or.inl ⟨by kernel_rfl, ?_⟩) hH0 ?_
              rotate_left 1
              · intro w hSw
                go_simp
                try with_reducible rfl
              try simp only [Act.put, List.getElem_toArray, List.getElem_cons_zero, List.getElem_cons_succ, List.setIfInBounds_toArray, List.set_cons_zero, List.set_cons_succ]
              refine wpAnyH_done (by kernel_rfl) ?_ _
              have HH := Lib.hid hH0
              clear hH0
              go_wp2_with fail
              go_roundw
              case rel => exact ⟨k + 1, by omega, by go_num, HE2.out, Hwr.out.trans (HH.out.mono Hwr.out.size)⟩
              case measure => simp [intOf]; omega
            · have hb1 : (x == y) = false := by simpa using hxy
              rw [hb1] at heq
              have hres : (m.parts == n.parts) = false := by
                rw [beq_eq_false_iff_ne]
                intro h
                apply hxy
                rw [← Hgx.out, ← Hgy.out, h]
              have Hr2 := Lib.hid hres
              clear hxy hb1 hres
              go_upto_region 6 with fail
              refine wp_region_held_drew (S := fun w' => Below wr.heap.size wr w') (by kernel_rfl) ((Below.refl _ _).drew) (fun hH0 => ?_)
              obtain ⟨W0, hW0⟩ : ∃ W, W = wr.drew := ⟨_, rfl⟩
              rw [← hW0] at hH0 ⊢
              clear hW0
              refine wpAnyH_take (i := 0) (v := ?_) rfl (by kernel_rfl) (by kernel_rfl) (by kernel_rfl) (fun _ _ _ h => h) (Or.inl ⟨by kernel_rfl, ?_⟩) hH0 ?_
              rotate_left 1
              · intro w hSw
                go_simp
                try with_reducible rfl
              try simp only [Act.put, List.getElem_toArray, List.getElem_cons_zero, List.getElem_cons_succ, List.setIfInBounds_toArray, List.set_cons_zero, List.set_cons_succ]
              refine wpAnyH_take (i := 1) (v := ?_) rfl (by kernel_rfl) (by kernel_rfl) (by kernel_rfl) (fun _ _ _ h => h) (Or.inl ⟨by kernel_rfl, ?_⟩) hH0 ?_
              rotate_left 1
              · intro w hSw
                have f0 := (hSw.cell (p := ⟨q, 33, none⟩) hqr).trans r32
                have f1 := (hSw.cell (p := ⟨p, 33, none⟩) hpr).trans s32
                go_simp
                try with_reducible rfl
              try simp only [Act.put, List.getElem_toArray, List.getElem_cons_zero, List.getElem_cons_succ, List.setIfInBounds_toArray, List.set_cons_zero, List.set_cons_succ]
              refine wpAnyH_take (i := 2) (v := ?_) rfl (by kernel_rfl) (by kernel_rfl) (by kernel_rfl) (fun _ _ _ h => h) (Or.inl ⟨by kernel_rfl, ?_⟩) hH0 ?_
              rotate_left 1
              · intro w hSw
                go_simp
                try with_reducible rfl
              try simp only [Act.put, List.getElem_toArray, List.getElem_cons_zero, List.getElem_cons_succ, List.setIfInBounds_toArray, List.set_cons_zero, List.set_cons_succ]
              refine wpAnyH_take (i := 3) (v := ?_) rfl (by kernel_rfl) (by kernel_rfl) (by kernel_rfl) (fun _ _ _ h => h) (Or.inl ⟨by kernel_rfl, ?_⟩) hH0 ?_
              rotate_left 1
              · intro w hSw
                go_simp
                try with_reducible rfl
              try simp only [Act.put, List.getElem_toArray, List.getElem_cons_zero, List.getElem_cons_succ, List.setIfInBounds_toArray, List.set_cons_zero, List.set_cons_succ]
              refine wpAnyH_take (i := 4) (v := _) rfl (by kernel_rfl) (by kernel_rfl) (by kernel_rfl) (fun _ _ _ h => h) (yieldsIf_load_mid (by kernel_rfl) _ _ rfl _ _ rfl (byV x) _ (fun W hW => range_below r1 hW hl1r) dund rfl dix) hH0 ?_
              try simp only [Act.put, List.getElem_toArray, List.getElem_cons_zero, List.getElem_cons_succ, List.setIfInBounds_toArray, List.set_cons_zero, List.set_cons_succ]
              refine wpAnyH_take (i := 5) (v := ?_) rfl (by kernel_rfl) (by kernel_rfl) (by kernel_rfl) (fun _ _ _ h => h) (Or.inl ⟨by kernel_rfl, ?_⟩) hH0 ?_
              rotate_left 1
              · intro w hSw
                go_simp
                try with_reducible rfl
              try simp only [Act.put, List.getElem_toArray, List.getElem_cons_zero, List.getElem_cons_succ, List.setIfInBounds_toArray, List.set_cons_zero, List.set_cons_succ]
              refine wpAnyH_take (i := 6) (v := ?_) rfl (by kernel_rfl) (by kernel_rfl) (by kernel_rfl) (fun _ _ _ h => h) (Or.inl ⟨by kernel_rfl, ?_⟩) hH0 ?_
              rotate_left 1
              · intro w hSw
                have f0 := (hSw.cell (p := ⟨q, 33, none⟩) hqr).trans r32
                have f1 := (hSw.cell (p := ⟨p, 33, none⟩) hpr).trans s32
                go_simp
                try with_reducible rfl
              try simp only [Act.put, List.getElem_toArray, List.getElem_cons_zero, List.getElem_cons_succ, List.setIfInBounds_toArray, List.set_cons_zero, List.set_cons_succ]
              refine wpAnyH_take (i := 7) (v := ?_) rfl (by kernel_rfl) (by kernel_rfl) (by kernel_rfl) (fun _ _ _ h => h) (Or.inl ⟨by kernel_rfl, ?_⟩) hH0 ?_
              rotate_left 1
              · intro w hSw
                go_simp
                try with_reducible rfl
              try simp only [Act.put, List.getElem_toArray, List.getElem_cons_zero, List.getElem_cons_succ, List.setIfInBounds_toArray, List.set_cons_zero, List.set_cons_succ]
              refine wpAnyH_take (i := 8) (v := ?_) rfl (by kernel_rfl) (by kernel_rfl) (by kernel_rfl) (fun _ _ _ h => h) (Or.inl ⟨by kernel_rfl, ?_⟩) hH0 ?_
              rotate_left 1
              · intro w hSw
                go_simp
                try with_reducible rfl
              try simp only [Act.put, List.getElem_toArray, List.getElem_cons_zero, List.getElem_cons_succ, List.setIfInBounds_toArray, List.set_cons_zero, List.set_cons_succ]
              refine wpAnyH_take (i := 9) (v := _) rfl (by kernel_rfl) (by kernel_rfl) (by kernel_rfl) (fun _ _ _ h => h) (yieldsIf_load_mid (by kernel_rfl) _ _ rfl _ _ rfl (byV y) _ (fun W hW => range_below r2 hW hl2r) dund rfl diy) hH0 ?_
              try simp only [Act.put, List.getElem_toArray, List.getElem_cons_zero, List.getElem_cons_succ, List.setIfInBounds_toArray, List.set_cons_zero, List.set_cons_succ]
              refine wpAnyH_take (i := 10) (v := ?_) rfl (by kernel_rfl) (by kernel_rfl) (by kernel_rfl) (fun _ _ _ h => h) (Or.inl ⟨by kernel_rfl, ?_⟩) hH0 ?_
              rotate_left 1
              · intro w hSw
                go_simp
                try with_reducible rfl
              try simp only [Act.put, List.getElem_toArray, List.getElem_cons_zero, List.getElem_cons_succ, List.setIfInBounds_toArray, List.set_cons_zero, List.set_cons_succ]
              refine wpAnyH_done (by kernel_rfl) ?_ _
              have HH := Lib.hid hH0
              clear hH0
              go_wp2_with fail
              go_ret
              exact ⟨by rw [Hres.out, Hr2.out]; rfl, Hb0.out.trans ((Hwr.out.trans (HH.out.mono Hwr.out.size)).mono Hb0.out.size)⟩
          · obtain rfl : k = a := by omega
            have hres : (m.parts == n.parts) = true := by
              rw [beq_iff_eq]
              apply List.ext_getElem (by rw [← Ha.out, ← Hbb.out])
              intro i h1 h2
              have := HE.out i (by rw [Ha.out]; exact h1)
              rw [List.getD_eq_getElem?_getD, List.getD_eq_getElem?_getD, List.getElem?_eq_getElem h1, List.getElem?_eq_getElem h2] at this
              exact this
            have Hr2 := Lib.hid hres
            have Hwr := Lib.hid hwr
            clear hres hwr
            go_wp2_with fail
            go_ret
            exact ⟨by rw [Hres.out, Hr2.out]; rfl, Hb0.out.trans (Hwr.out.mono Hb0.out.size)⟩
      · have hl1 : ((a : Int) != (b : Int)) = true := by rw [bne_iff_ne]; omega
        have hl2 : (a != b) = true := by rw [bne_iff_ne]; exact hab
        have hres : sameM m n = false := by
          unfold sameM
          have : (m.parts == n.parts) = false := by
            rw [beq_eq_false_iff_ne]; intro h; apply hab; rw [Ha.out, Hbb.out, h]
          rw [this]; simp
        have Hres := Lib.hid hres
        have Hw := Lib.hid hw
        have Hsu := Lib.hid hsu
        clear hres hw hsu hab
        have tok1 : True := trivial
        have tok2 : True := trivial
        go_wp2_with (first
          | (have _t := tok1; refine wpList_load_mid rfl 23 _ rfl q 0 rfl _ _ Rm.out Tryd.underlying23 rfl dim ?_; clear tok1)
          | (have _t := tok2; refine wpList_load_mid rfl 23 _ rfl p 0 rfl _ _ Rn.out Tryd.underlying23 rfl din ?_; clear tok2))
        go_ret
        exact ⟨by rw [Hres.out]; rfl, Hb0.out⟩
    · have hsb : (s != u) = true := by rw [bne_iff_ne]; exact hsu
      have hres : sameM m n = false := by
        unfold sameM
        have : (m.size == n.size) = false := by rw [beq_eq_false_iff_ne, ← Hs.out, ← Hu.out]; exact hsu
        rw [this]; simp
      have Hres := Lib.hid hres
      have Hw := Lib.hid hw
      clear hres hw hsu
      have tok1 : True := trivial
      have tok2 : True := trivial
      go_wp2_with (first
        | (have _t := tok1; refine wpList_load_mid rfl 23 _ rfl q 0 rfl _ _ Rm.out Tryd.underlying23 rfl dim ?_; clear tok1)
        | (have _t := tok2; refine wpList_load_mid rfl 23 _ rfl p 0 rfl _ _ Rn.out Tryd.underlying23 rfl din ?_; clear tok2))
      go_ret
      exact ⟨by rw [Hres.out]; rfl, Hb0.out⟩
  · have hwb : (m.whole == n.whole) = false := by simpa using hw
    rw [hwb] at heq
    have hres : sameM m n = false := by unfold sameM; rw [hwb]; rfl
    have Hres := Lib.hid hres
    clear hres hw hwb
    have tok1 : True := trivial
    have tok2 : True := trivial
    go_wp2_with (first
      | (have _t := tok1; refine wpList_load_mid rfl 23 _ rfl q 0 rfl _ _ Rm.out Tryd.underlying23 rfl dim ?_; clear tok1)
      | (have _t := tok2; refine wpList_load_mid rfl 23 _ rfl p 0 rfl _ _ Rn.out Tryd.underlying23 rfl din ?_; clear tok2))
    go_ret
    exact ⟨by rw [Hres.out]; rfl, Hb0.out⟩
end Go.Proofs.YtfbjbhddapoopaaDoor
