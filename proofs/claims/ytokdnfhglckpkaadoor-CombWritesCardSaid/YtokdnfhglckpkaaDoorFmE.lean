/-
  Layer 3's reference: the walk of Decode.
-/
import Derived.Test.YtokdnfhglckpkaaDoorFmC
import Derived.Test.YtokdnfhglckpkaaDoorFmD
import Derived.Test.YtokdnfhglckpkaaDoorRdK
set_option linter.unusedVariables false
set_option linter.unusedSimpArgs false
namespace Go.Proofs.YtokdnfhglckpkaaDoor
open Go.RowKit Pl
attribute [local go_sem] Lb.ba_get Lb.ba_cut Lb.ba_add Lb.ba_size Lb.take_rest

def DecPost (s : List UInt8) (w : World) (e : Ending) (w' : World) : Prop := ∃ (m : ManiD) (x : Int), e = .returned (.tuple #[.agg m.row, .int .i64 x]) ∧ DecOf s m x ∧ m.Ok w' w'.heap.size ∧ Below w.heap.size w w'
theorem len3 {α : Type} {ts : List α} (h : ts.length = 3) : ∃ a b c, ts = [a, b, c] :=
  match ts, h with
  | [a, b, c], _ => ⟨a, b, c, rfl⟩
theorem cell_spot {w : World} {p : Addr} {v : Value} (h : w.cell? p = some v) : p.spot = none := by
  unfold World.cell? at h
  split at h
  · by_cases hs : p.spot.isSome = true
    · rw [if_pos hs] at h; cases h
    · cases hp : p.spot with
      | none => rfl
      | some x => rw [hp] at hs; simp at hs
  · cases h
theorem strs3 {w : World} {B : Nat} {A : Option Addr} {a b c : List UInt8} (h : Strs w B A [a, b, c]) : ∃ g o, A = some ⟨g, o, none⟩ ∧ g < B ∧ w.cell? ⟨g, o, none⟩ = some (.string ⟨a.toArray⟩) ∧ w.cell? ⟨g, o + 1, none⟩ = some (.string ⟨b.toArray⟩) ∧ w.cell? ⟨g, o + 2, none⟩ = some (.string ⟨c.toArray⟩) := by
  obtain ⟨ad, rfl, had, ca⟩ := h 0 (by simp)
  have cb : w.cell? (ad.add 1) = some (.string ⟨b.toArray⟩) := by obtain ⟨ad', e, _, h⟩ := h 1 (by simp); cases e; exact h
  have cc : w.cell? (ad.add 2) = some (.string ⟨c.toArray⟩) := by obtain ⟨ad', e, _, h⟩ := h 2 (by simp); cases e; exact h
  have e0 : ad.add 0 = ad := by simp [Addr.add]
  rw [e0] at ca
  have hsp := cell_spot ca
  obtain ⟨g, o, sp⟩ := ad
  simp only at hsp
  subst hsp
  rw [Addr.add_lit] at cb cc
  exact ⟨g, o, rfl, had, ca, cb, cc⟩
theorem row3_len {s a b c : List UInt8} (h : rdRow s 3 = some ([a, b, c], [])) : a.length + b.length + c.length ≤ s.length := by
  have := row_of_rd h
  rw [List.append_nil] at this
  rw [← this]
  simp [srow, textsB, textB]
  omega
theorem flat_cuts_succ (t : List UInt8) (j : Nat) : ((cuts t (j + 1)).map byV).flatten = ((cuts t j).map byV).flatten ++ byV (cut32 t j) := by
  rw [cuts_succ, List.map_append, List.flatten_append]; simp

set_option maxRecDepth 100000 in
set_option maxHeartbeats 600000 in
theorem rdecode_any (s : List UInt8) (w : World) (hs : s.length ≤ 140737488351232) : Calls Tryd.prog 32 #[.string ⟨s.toArray⟩] w (DecPost s w) := by
  have hzi := mani_info
  go_enter Tryd.func32, Tryd.ntmps32
  go_upto_region 2 with (refine wpList_store_row rfl 27 _ _ rfl (w.heap.size + 1) zeroMani.row rfl rfl 27 zeroMani.row (heap_alloc2_new w _ _) mani_info rfl (ManiD.row_one zeroMani) ?_)
  show Code.wp _ _ _ _ (((w.alloc (.cells zeroMani.row 27)).alloc (.cells zeroMani.row 27)).setRow (w.heap.size + 1) zeroMani.row)
  obtain ⟨q, hq⟩ : ∃ q, q = w.heap.size := ⟨_, rfl⟩
  obtain ⟨z, hp⟩ : ∃ z, z = w.heap.size + 1 := ⟨_, rfl⟩
  have a1 : ((w.alloc (.cells zeroMani.row 27)).alloc (.cells zeroMani.row 27)).heap[w.heap.size]? = some (.cells zeroMani.row 27 (0, 0)) := (Below.heap_alloc _ _ _ (by simp)).trans (heap_alloc_new w _)
  have a2 := setRow_heap _ _ _ zeroMani.row _ _ (heap_alloc2_new w (.cells zeroMani.row 27) (.cells zeroMani.row 27))
  have o2 : Only [z] w (((w.alloc (.cells zeroMani.row 27)).alloc (.cells zeroMani.row 27)).setRow (w.heap.size + 1) zeroMani.row) := (((Only.refl [z] w).alloc _).alloc _).setRow (by simp [hp]) _
  have a3 : (((w.alloc (.cells zeroMani.row 27)).alloc (.cells zeroMani.row 27)).setRow (w.heap.size + 1) zeroMani.row).heap[w.heap.size]? = some (.cells zeroMani.row 27 (0, 0)) := (setRow_other _ _ _ _ (by omega)).trans a1
  obtain ⟨w1, hw1⟩ : ∃ w1, w1 = (((w.alloc (.cells zeroMani.row 27)).alloc (.cells zeroMani.row 27)).setRow (w.heap.size + 1) zeroMani.row) := ⟨_, rfl⟩
  rw [← hw1] at a2 a3 o2 ⊢
  rw [← hp] at a2 ⊢
  rw [← hq] at a3 ⊢
  have HZ := Lib.hid a2
  have HQ := Lib.hid a3
  have B1 := Lib.hid (o2.below (Nat.le_refl _) (by intro x hx; simp at hx; omega))
  have Hq := Lib.hid hq
  have Hp := Lib.hid hp
  have hpq : z ≠ q := by omega
  clear hw1 a1 a2 a3 o2 hzi hq hp
  go_wp2_with fail
  refine (refReadRow_c s 3 (.inl (by omega)) (by omega) w1).mono ?_
  rintro e w2 ⟨A, cap, ts, r, ok, rfl, ⟨hgot, hS, htl⟩, hB⟩
  have HS := Lib.hid hS
  have B2 := Lib.hid (B1.out.trans (hB.mono B1.out.size))
  have HZ2 := Lib.hid (below_keep hB HZ.out)
  have HQ2 := Lib.hid (below_keep hB HQ.out)
  have hq2 : q < w2.heap.size := heap_lt HQ2.out
  have hz2 : z < w2.heap.size := heap_lt HZ2.out
  have htli : (ts.length : Int) ≤ 4294967296 := by omega
  clear hB hS B1 HZ HQ
  have hno : ∀ W : World, Below w2.heap.size w2 W → (∀ x, ¬ DecYes s x) → DecPost s w (.returned (.tuple #[.agg zeroMani.row, .int .i64 3])) (W.setRow q zeroMani.row) := fun W hW hn => by
    refine ⟨zeroMani, 3, rfl, .inr ⟨rfl, rfl, hn⟩, zeroMani_ok _ _, ?_⟩
    refine B2.out.trans (((Only.of_below (bs := [q]) hW).setRow (by simp) _).below B2.out.size (by intro x hx; simp at hx; rw [hx, Hq.out]; exact Nat.le_refl _))
  have HNO := Lib.hid hno
  clear hno
  rcases hgot with ⟨rfl, hrd⟩ | ⟨rfl, hrd, rfl, rfl⟩
  · by_cases hr : r = []
    · subst hr
      by_cases hl : ts.length = 3
      · obtain ⟨a, b, c, rfl⟩ : ∃ a b c, ts = [a, b, c] := len3 hl
        have hlen := row3_len hrd
        obtain ⟨g, o, rfl, hg, ca, cb, cc⟩ := strs3 HS.out
        clear htl htli hl
        have hai : (a.length : Int) ≤ 140737488351232 := by omega
        have hci : (c.length : Int) ≤ 140737488351232 := by omega
        by_cases ha : a.length = 32
        · have ha1 : ((a.length : Int) != 32) = false := by rw [ha]; rfl
          obtain ⟨u, hu⟩ : ∃ u, u = c.length % 32 := ⟨_, rfl⟩
          have hcm : (c.length : Int).tmod 32 = (u : Int) := by rw [hu]; rfl
          have Hu := Lib.hid hu
          by_cases hc : u = 0
          · have hcm0 : (c.length : Int).tmod 32 = 0 := by rw [hcm, hc]; rfl
            have hc32 : c.length % 32 = 0 := by rw [← hu]; exact hc
            have Hrd := Lib.hid hrd
            have Hlen := Lib.hid hlen
            have Hc32 := Lib.hid hc32
            clear hcm hc hu Hu hc32 hrd hlen
            go_wp2_with fail
            refine (refReadNum_c b (by have := Hlen.out; omega) w2).mono ?_
            rintro e w3 ⟨n, r, ok, rfl, hgot2, hB⟩
            have hgi : g < w3.heap.size := Nat.lt_of_lt_of_le hg hB.size
            have ca3 : w3.cell? ⟨g, o, none⟩ = some (.string ⟨a.toArray⟩) := (hB.cell (p := ⟨g, o, none⟩) hg).trans ca
            have cc3 : w3.cell? ⟨g, o + 2, none⟩ = some (.string ⟨c.toArray⟩) := (hB.cell (p := ⟨g, o + 2, none⟩) hg).trans cc
            have HZ3 := Lib.hid (below_keep hB HZ2.out)
            have HQ3 := Lib.hid (below_keep hB HQ2.out)
            have B3 := Lib.hid hB
            clear hB ca cb cc HZ2 HQ2 hcm0
            rcases hgot2 with ⟨rfl, hrn⟩ | ⟨rfl, hrn, rfl, rfl⟩
            · by_cases hr : r = []
              · subst hr
                have hnb := rdNum_bounds hrn
                have Hrn := Lib.hid hrn
                have Hnb := Lib.hid hnb
                clear hrn hnb
                go_wp2_with fail
                refine (rdigest_any a w3 ha).mono ?_
                rintro e w4 ⟨rfl, hB⟩
                have hbd := built_mani a n ha
                obtain ⟨R, hR⟩ : ∃ R, R = maniRow a n (.slice none 0 0) := ⟨_, rfl⟩
                rw [← hR] at hbd
                have HR := Lib.hid hR
                have hsz : R.size = 34 := by rw [hR]; simp [maniRow, byV, ha]
                have h1c : R.all (·.oneCell') = true := by rw [hR]; exact ManiD.row_one ⟨a, n, none, 0, []⟩
                have hinf : (Tryd.prog.info? 27).map (·.size) = some R.size := by rw [hsz]; exact mani_info
                have B4 := Lib.hid (B3.out.trans (hB.mono B3.out.size))
                have hg4 : g < w4.heap.size := Nat.lt_of_lt_of_le hgi hB.size
                have ca4 : w4.cell? ⟨g, o, none⟩ = some (.string ⟨a.toArray⟩) := (hB.cell (p := ⟨g, o, none⟩) hgi).trans ca3
                have cc4 : w4.cell? ⟨g, o + 2, none⟩ = some (.string ⟨c.toArray⟩) := (hB.cell (p := ⟨g, o + 2, none⟩) hgi).trans cc3
                have HZ4 := Lib.hid (below_keep hB HZ3.out)
                have HQ4 := Lib.hid (below_keep hB HQ3.out)
                clear hB hR ca3 cc3 HZ3 HQ3 B3
                go_wp2_with (first
                  | (refine wpList_build2 rfl 27 _ _ _ _ rfl _ _ rfl rfl _ hbd ?_)
                  | (refine wpList_store_row rfl 27 _ _ rfl w4.heap.size R rfl rfl 27 _ (heap_alloc_new w4 _) hinf (by rw [hsz]; rfl) h1c ?_))
                obtain ⟨p, hp⟩ : ∃ p, p = w4.heap.size := ⟨_, rfl⟩
                have h3 := setRow_heap _ _ _ R _ _ (heap_alloc_new w4 (.cells zeroMani.row 27))
                have o3 : Only [p] w4 ((w4.alloc (.cells zeroMani.row 27)).setRow w4.heap.size R) := ((Only.refl [p] w4).alloc _).setRow (by simp [hp]) R
                obtain ⟨w5, hw5⟩ : ∃ w5, w5 = (w4.alloc (.cells zeroMani.row 27)).setRow w4.heap.size R := ⟨_, rfl⟩
                rw [← hw5] at h3 o3
                show Code.wp _ _ _ _ ((w4.alloc (.cells zeroMani.row 27)).setRow w4.heap.size R)
                rw [← hw5, ← hp]
                rw [← hp] at h3
                have b5 : Below w4.heap.size w4 w5 := o3.below (Nat.le_refl _) (by simp [hp])
                have H5 : Hid (w5.heap[p]? = some (.cells (maniRow a n (.slice none 0 0)) 27 (0, 0))) := Lib.hid (by rw [← HR.out]; exact h3)
                have HZ5 := Lib.hid (below_keep b5 HZ4.out)
                have HQ5 := Lib.hid (below_keep b5 HQ4.out)
                have cc5 : w5.cell? ⟨g, o + 2, none⟩ = some (.string ⟨c.toArray⟩) := (b5.cell (p := ⟨g, o + 2, none⟩) hg4).trans cc4
                have hg5 : g < w5.heap.size := Nat.lt_of_lt_of_le hg4 b5.size
                have hgp : g ≠ p := by omega
                have hqp : q ≠ p := by have := heap_lt HQ4.out; omega
                have hzp : z ≠ p := by have := heap_lt HZ4.out; omega
                have hp5 : p < w5.heap.size := heap_lt h3
                have B5 := Lib.hid (B4.out.trans (b5.mono B4.out.size))
                have hp2 : w2.heap.size ≤ p := by rw [hp]; exact B4.out.size
                have Hp4 := Lib.hid hp
                clear hw5 h3 o3 hp b5 hinf h1c hsz hbd HZ4 HQ4 ca4 cc4 B4
                obtain ⟨k, hk⟩ : ∃ k, k = c.length / 32 := ⟨_, rfl⟩
                have hck : c.length = 32 * k := by have := Hc32.out; omega
                have Hk := Lib.hid hk
                have Hck := Lib.hid hck
                clear hk hck
                go_loopw [10] (fun x wr => ∃ (j i : Nat) (v : Value), j ≤ k ∧ i = 32 * j ∧ x = .int .i64 i ∧ wr.heap[p]? = some (.cells (maniRow a n v) 27 (0, 0)) ∧ Bag0 wr w5.heap.size 32 v j (((cuts c j).map byV).flatten) ∧ Only [p] w5 wr) (fun x _ => c.length - (intOf x).toNat)
                case atStart => exact ⟨0, 0, _, by omega, rfl, rfl, H5.out, Bag0.nil _ _ _, Only.refl _ _⟩
                case round =>
                  clear H5
                  obtain ⟨j, i, v, hj, hi, rfl, hP, hB, hO⟩ := hrel
                  have cw : wr.cell? ⟨g, o + 2, none⟩ = some (.string ⟨c.toArray⟩) := (hO.cell (p := ⟨g, o + 2, none⟩) hg5 (by simp; exact hgp)).trans cc5
                  have ci : (c.length : Int) ≤ 140737488351232 := hci
                  by_cases hjk : j < k
                  · have hik : i + 32 ≤ c.length := by have := Hck.out; omega
                    have i0 : (0 : Int) ≤ (i : Int) := by omega
                    have i1 : (i : Int) < (c.length : Int) := by omega
                    have i2 : (i : Int) + 32 ≤ (c.length : Int) := by omega
                    obtain ⟨d, hd⟩ : ∃ d, d = cut32 c j := ⟨_, rfl⟩
                    have hcut : (c.drop i).take 32 = d := by rw [hd, hi]; rfl
                    have hdd : d.length = 32 := by rw [hd]; exact cut32_length c j k Hck.out hjk
                    have hds : (digV d).size = 32 := by rw [digV_size, hdd]
                    have hF := fold_dig d hdd
                    have c33 : wr.cell? ⟨p, 33, none⟩ = some v := by
                      rw [Lib.cell_of_heap hP]
                      unfold maniRow
                      rw [List.getElem?_toArray, List.getElem?_append_right (by simp [byV, ha])]
                      simp [byV, ha]
                    have hpw : p < wr.heap.size := by have := hO.size; omega
                    have hgw : g < wr.heap.size := by have := hO.size; omega
                    have zp : wr.frozen? ⟨p, 33, none⟩ = false := Lib.frozen_of_heap hP _
                    have hm33 : (maniRow a n v)[33]? = some v := by rw [Lib.cell_of_heap hP] at c33; exact c33
                    obtain ⟨i1', hi1, hy0, hy1, hy2⟩ := info_parts dig_info3
                    have HP := Lib.hid hP
                    have HBg := Lib.hid hB
                    have HO := Lib.hid hO
                    have Hd := Lib.hid hd
                    have Hi := Lib.hid hi
                    have hwrap : IntKind.i64.wrap ((i : Int) + 32) = (i : Int) + 32 := IntWalk.i64_in _ (by omega)
                    have i3 : (0 : Int) ≤ (i : Int) + 32 := by omega
                    have i4 : (i : Int) ≤ (i : Int) + 32 := by omega
                    have htn : ((i : Int) + 32).toNat = i + 32 := by omega
                    have h32 : 32 * (j + 1) ≤ 140737488351232 := by omega
                    have HDg := Lib.hid (fun W => rdigest_any d W hdd)
                    clear hP hB hO hd hi
                    go_upto_region 12 with fail
                    refine wp_region_any (by kernel_rfl) ?_
                    try change wpAny _ _ _ _ _ _ _ (World.drew _)
                    try simp only [Act.put, List.getElem_toArray, List.getElem_cons_zero, List.getElem_cons_succ, List.setIfInBounds_toArray, List.set_cons_zero, List.set_cons_succ]
                    refine wpAny_take (i := 0) (v := ?_) rfl (by kernel_rfl) (by kernel_rfl) (by kernel_rfl) (fun _ _ _ h => h) (Or.inl ⟨by rfl, ?_⟩) ?_
                    rotate_left 1
                    · intro w
                      go_simp
                      try with_reducible rfl
                    try simp only [Act.put, List.getElem_toArray, List.getElem_cons_zero, List.getElem_cons_succ, List.setIfInBounds_toArray, List.set_cons_zero, List.set_cons_succ]
                    refine wpAny_take (i := 2) (v := ?_) rfl (by kernel_rfl) (by kernel_rfl) (by kernel_rfl) (fun _ _ _ h => h) (Or.inl ⟨by rfl, ?_⟩) ?_
                    rotate_left 1
                    · intro w
                      go_simp
                      try with_reducible rfl
                    try simp only [Act.put, List.getElem_toArray, List.getElem_cons_zero, List.getElem_cons_succ, List.setIfInBounds_toArray, List.set_cons_zero, List.set_cons_succ]
                    refine wpAny_take (i := 3) (v := ?_) rfl (by kernel_rfl) (by kernel_rfl) (by kernel_rfl) (fun _ _ _ h => h) (Or.inl ⟨by rfl, ?_⟩) ?_
                    rotate_left 1
                    · intro w
                      go_simp
                      try with_reducible rfl
                    try simp only [Act.put, List.getElem_toArray, List.getElem_cons_zero, List.getElem_cons_succ, List.setIfInBounds_toArray, List.set_cons_zero, List.set_cons_succ]
                    refine wpAny_take (i := 5) (v := ?_) rfl (by kernel_rfl) (by kernel_rfl) (by kernel_rfl) (fun _ _ _ h => h) (Or.inl ⟨by rfl, ?_⟩) ?_
                    rotate_left 1
                    · intro w
                      go_simp
                      try with_reducible rfl
                    try simp only [Act.put, List.getElem_toArray, List.getElem_cons_zero, List.getElem_cons_succ, List.setIfInBounds_toArray, List.set_cons_zero, List.set_cons_succ]
                    refine wpAny_take (i := 6) (v := ?_) rfl (by kernel_rfl) (by kernel_rfl) (by kernel_rfl) (fun _ _ _ h => h) (Or.inl ⟨by rfl, ?_⟩) ?_
                    rotate_left 1
                    · intro w
                      go_simp
                      try with_reducible rfl
                    try simp only [Act.put, List.getElem_toArray, List.getElem_cons_zero, List.getElem_cons_succ, List.setIfInBounds_toArray, List.set_cons_zero, List.set_cons_succ]
                    refine wpAny_take (i := 7) (v := ?_) rfl (by kernel_rfl) (by kernel_rfl) (by kernel_rfl) (fun _ _ _ h => h) (Or.inl ⟨by rfl, ?_⟩) ?_
                    rotate_left 1
                    · intro w
                      go_simp
                      try with_reducible rfl
                    try simp only [Act.put, List.getElem_toArray, List.getElem_cons_zero, List.getElem_cons_succ, List.setIfInBounds_toArray, List.set_cons_zero, List.set_cons_succ]
                    refine wpAny_ready (rs := [1, 4]) (by kernel_rfl) (by simp) ?_
                    refine AllReady.cons rfl (fun K hK => ?_) ?_
                    · go_simp
                      refine hK _ _ ?_
                      clear hK K
                      try simp only [Act.put, List.getElem_toArray, List.getElem_cons_zero, List.getElem_cons_succ, List.setIfInBounds_toArray, List.set_cons_zero, List.set_cons_succ]
                      refine wpAny_ready (rs := [4]) (by kernel_rfl) (by simp) ?_
                      refine AllReady.cons rfl (fun K hK => ?_) ?_
                      · go_simp
                        refine hK _ _ ?_
                        clear hK K
                        try simp only [Act.put, List.getElem_toArray, List.getElem_cons_zero, List.getElem_cons_succ, List.setIfInBounds_toArray, List.set_cons_zero, List.set_cons_succ]
                        refine wpAny_take (i := 8) (v := ?_) rfl (by kernel_rfl) (by kernel_rfl) (by kernel_rfl) (fun _ _ _ h => h) (Or.inl ⟨by rfl, ?_⟩) ?_
                        rotate_left 1
                        · intro w
                          go_simp
                          try with_reducible rfl
                        try simp only [Act.put, List.getElem_toArray, List.getElem_cons_zero, List.getElem_cons_succ, List.setIfInBounds_toArray, List.set_cons_zero, List.set_cons_succ]
                        refine wpAny_ready (rs := [9]) (by kernel_rfl) (by simp) ?_
                        refine AllReady.cons rfl (fun K hK => ?_) ?_
                        · go_simp
                          refine (HDg.out _).mono ?_
                          rintro e w' ⟨rfl, hBw⟩
                          have hz := ((Below.refl wr.heap.size wr).drew).trans (hBw.mono (Nat.le_refl _))
                          have c33' : w'.cell? ⟨p, 33, none⟩ = some v := (hz.cell (p := ⟨p, 33, none⟩) hpw).trans c33
                          have c33a : (w'.alloc (.cells (digV d) 24)).cell? ⟨p, 33, none⟩ = some v := (((Below.refl w'.heap.size w').alloc (Nat.le_refl _) (.cells (digV d) 24)).cell (p := ⟨p, 33, none⟩) (Nat.lt_of_lt_of_le hpw hz.size)).trans c33'
                          go_wp2_with fail
                          try simp only [Act.put, List.getElem_toArray, List.getElem_cons_zero, List.getElem_cons_succ, List.setIfInBounds_toArray, List.set_cons_zero, List.set_cons_succ]
                          refine wpAny_ready (rs := [10]) (by kernel_rfl) (by simp) ?_
                          refine AllReady.cons rfl (fun K hK => ?_) ?_
                          · go_simp
                            refine hK _ _ ?_
                            clear hK K
                            try simp only [Act.put, List.getElem_toArray, List.getElem_cons_zero, List.getElem_cons_succ, List.setIfInBounds_toArray, List.set_cons_zero, List.set_cons_succ]
                            refine wpAny_ready (rs := [11]) (by kernel_rfl) (by simp) ?_
                            refine AllReady.cons rfl (fun K hK => ?_) ?_
                            · rw [if_pos (by rfl)]
                              refine wp_append_bag0 (B := w5.heap.size) (w'.alloc (.cells (digV d) 24)) _ _ 25 25 rfl i1' _ 32 Tryd.underlying25 hi1 hy0 hy1 hy2 (by show (digV (List.replicate 32 0)).size = 32; rfl) (by have := HO.out.size; have := hz.size; simp; omega) rfl ((HBg.out.below hz).alloc _) (.slice (some ⟨w'.heap.size, 0, none⟩) 1 1) 1 (byV d) rfl (dig_src w'.heap.size 1 d 24 (0, 0) hdd (heap_alloc_new w' _)) (by omega) (by unfold maxLen; omega) (by omega) ?_
                              intro v2 w6 hB6 hb6
                              obtain ⟨A5, c5, rfl, -, -⟩ := hB6.shape
                              have h6 : w6.heap[p]? = some (.cells (maniRow a n v) 27 (0, 0)) := (hb6.block p hp5).trans (((Below.refl w'.heap.size w').alloc (Nat.le_refl _) (.cells (digV d) 24)).block p (Nat.lt_of_lt_of_le hpw hz.size) |>.trans ((hz.block p hpw).trans HP.out))
                              have c36 : w6.cell? ⟨p, 33, none⟩ = some v := by rw [Lib.cell_of_heap h6]; exact hm33
                              have z36 : w6.frozen? ⟨p, 33, none⟩ = false := Lib.frozen_of_heap h6 _
                              have H6 := Lib.hid h6
                              clear h6
                              refine hK _ _ ?_
                              clear hK K
                              try simp only [Act.put, List.getElem_toArray, List.getElem_cons_zero, List.getElem_cons_succ, List.setIfInBounds_toArray, List.set_cons_zero, List.set_cons_succ]
                              refine wpAny_take (i := 12) (v := ?_) rfl (by kernel_rfl) (by kernel_rfl) (by kernel_rfl) (fun _ _ _ h => h) (Or.inl ⟨by rfl, ?_⟩) ?_
                              rotate_left 1
                              · intro w
                                go_simp
                                try with_reducible rfl
                              try simp only [Act.put, List.getElem_toArray, List.getElem_cons_zero, List.getElem_cons_succ, List.setIfInBounds_toArray, List.set_cons_zero, List.set_cons_succ]
                              refine wpAny_ready (rs := [13]) (by kernel_rfl) (by simp) ?_
                              refine AllReady.cons rfl (fun K hK => ?_) ?_
                              · go_simp
                                refine hK _ _ ?_
                                clear hK K
                                refine wpAny_done (by kernel_rfl) ?_ _
                                have H7 : Hid ((w6.setCell ⟨p, 33, none⟩ (.slice A5 (j + 1) c5)).heap[p]? = some (.cells (maniRow a n (.slice A5 (j + 1) c5)) 27 (0, 0))) := Lib.hid ((heap_setCell_same _ p 33 _ _ _ H6.out).trans (by rw [maniRow_set _ _ _ _ ha]))
                                have HB7 : Hid (Bag0 (w6.setCell ⟨p, 33, none⟩ (.slice A5 (j + 1) c5)) w5.heap.size 32 (.slice A5 (j + 1) c5) (j + 1) (((cuts c (j + 1)).map byV).flatten)) := Lib.hid (by rw [flat_cuts_succ, ← Hd.out]; exact hB6.only ((Only.refl [p] w6).setCell (by simp) _) (by simp; omega))
                                have HO7 : Hid (Only [p] w5 (w6.setCell ⟨p, 33, none⟩ (.slice A5 (j + 1) c5))) := Lib.hid ((((HO.out.trans (Only.of_below hz)).alloc _).belowB hb6).setCell (by simp) _)
                                clear hB6 hb6 hz
                                go_wp2_with fail
                                go_roundw
                                case rel => exact ⟨j + 1, i + 32, .slice A5 (j + 1) c5, by omega, by have := Hi.out; omega, by go_num, H7.out, HB7.out, HO7.out⟩
                                case measure => simp [intOf]; omega
                              exact AllReady.nil
                            exact AllReady.nil
                          exact AllReady.nil
                        exact AllReady.nil
                      exact AllReady.nil
                    refine AllReady.cons rfl (fun K hK => ?_) ?_
                    · go_simp
                      refine hK _ _ ?_
                      clear hK K
                      try simp only [Act.put, List.getElem_toArray, List.getElem_cons_zero, List.getElem_cons_succ, List.setIfInBounds_toArray, List.set_cons_zero, List.set_cons_succ]
                      refine wpAny_take (i := 8) (v := ?_) rfl (by kernel_rfl) (by kernel_rfl) (by kernel_rfl) (fun _ _ _ h => h) (Or.inl ⟨by rfl, ?_⟩) ?_
                      rotate_left 1
                      · intro w
                        go_simp
                        try with_reducible rfl
                      try simp only [Act.put, List.getElem_toArray, List.getElem_cons_zero, List.getElem_cons_succ, List.setIfInBounds_toArray, List.set_cons_zero, List.set_cons_succ]
                      refine wpAny_ready (rs := [1, 9]) (by kernel_rfl) (by simp) ?_
                      refine AllReady.cons rfl (fun K hK => ?_) ?_
                      · go_simp
                        refine hK _ _ ?_
                        clear hK K
                        try simp only [Act.put, List.getElem_toArray, List.getElem_cons_zero, List.getElem_cons_succ, List.setIfInBounds_toArray, List.set_cons_zero, List.set_cons_succ]
                        refine wpAny_ready (rs := [9]) (by kernel_rfl) (by simp) ?_
                        refine AllReady.cons rfl (fun K hK => ?_) ?_
                        · go_simp
                          refine (HDg.out _).mono ?_
                          rintro e w' ⟨rfl, hBw⟩
                          have hz := ((Below.refl wr.heap.size wr).drew).trans (hBw.mono (Nat.le_refl _))
                          have c33' : w'.cell? ⟨p, 33, none⟩ = some v := (hz.cell (p := ⟨p, 33, none⟩) hpw).trans c33
                          have c33a : (w'.alloc (.cells (digV d) 24)).cell? ⟨p, 33, none⟩ = some v := (((Below.refl w'.heap.size w').alloc (Nat.le_refl _) (.cells (digV d) 24)).cell (p := ⟨p, 33, none⟩) (Nat.lt_of_lt_of_le hpw hz.size)).trans c33'
                          go_wp2_with fail
                          try simp only [Act.put, List.getElem_toArray, List.getElem_cons_zero, List.getElem_cons_succ, List.setIfInBounds_toArray, List.set_cons_zero, List.set_cons_succ]
                          refine wpAny_ready (rs := [10]) (by kernel_rfl) (by simp) ?_
                          refine AllReady.cons rfl (fun K hK => ?_) ?_
                          · go_simp
                            refine hK _ _ ?_
                            clear hK K
                            try simp only [Act.put, List.getElem_toArray, List.getElem_cons_zero, List.getElem_cons_succ, List.setIfInBounds_toArray, List.set_cons_zero, List.set_cons_succ]
                            refine wpAny_ready (rs := [11]) (by kernel_rfl) (by simp) ?_
                            refine AllReady.cons rfl (fun K hK => ?_) ?_
                            · rw [if_pos (by rfl)]
                              refine wp_append_bag0 (B := w5.heap.size) (w'.alloc (.cells (digV d) 24)) _ _ 25 25 rfl i1' _ 32 Tryd.underlying25 hi1 hy0 hy1 hy2 (by show (digV (List.replicate 32 0)).size = 32; rfl) (by have := HO.out.size; have := hz.size; simp; omega) rfl ((HBg.out.below hz).alloc _) (.slice (some ⟨w'.heap.size, 0, none⟩) 1 1) 1 (byV d) rfl (dig_src w'.heap.size 1 d 24 (0, 0) hdd (heap_alloc_new w' _)) (by omega) (by unfold maxLen; omega) (by omega) ?_
                              intro v2 w6 hB6 hb6
                              obtain ⟨A5, c5, rfl, -, -⟩ := hB6.shape
                              have h6 : w6.heap[p]? = some (.cells (maniRow a n v) 27 (0, 0)) := (hb6.block p hp5).trans (((Below.refl w'.heap.size w').alloc (Nat.le_refl _) (.cells (digV d) 24)).block p (Nat.lt_of_lt_of_le hpw hz.size) |>.trans ((hz.block p hpw).trans HP.out))
                              have c36 : w6.cell? ⟨p, 33, none⟩ = some v := by rw [Lib.cell_of_heap h6]; exact hm33
                              have z36 : w6.frozen? ⟨p, 33, none⟩ = false := Lib.frozen_of_heap h6 _
                              have H6 := Lib.hid h6
                              clear h6
                              refine hK _ _ ?_
                              clear hK K
                              try simp only [Act.put, List.getElem_toArray, List.getElem_cons_zero, List.getElem_cons_succ, List.setIfInBounds_toArray, List.set_cons_zero, List.set_cons_succ]
                              refine wpAny_take (i := 12) (v := ?_) rfl (by kernel_rfl) (by kernel_rfl) (by kernel_rfl) (fun _ _ _ h => h) (Or.inl ⟨by rfl, ?_⟩) ?_
                              rotate_left 1
                              · intro w
                                go_simp
                                try with_reducible rfl
                              try simp only [Act.put, List.getElem_toArray, List.getElem_cons_zero, List.getElem_cons_succ, List.setIfInBounds_toArray, List.set_cons_zero, List.set_cons_succ]
                              refine wpAny_ready (rs := [13]) (by kernel_rfl) (by simp) ?_
                              refine AllReady.cons rfl (fun K hK => ?_) ?_
                              · go_simp
                                refine hK _ _ ?_
                                clear hK K
                                refine wpAny_done (by kernel_rfl) ?_ _
                                have H7 : Hid ((w6.setCell ⟨p, 33, none⟩ (.slice A5 (j + 1) c5)).heap[p]? = some (.cells (maniRow a n (.slice A5 (j + 1) c5)) 27 (0, 0))) := Lib.hid ((heap_setCell_same _ p 33 _ _ _ H6.out).trans (by rw [maniRow_set _ _ _ _ ha]))
                                have HB7 : Hid (Bag0 (w6.setCell ⟨p, 33, none⟩ (.slice A5 (j + 1) c5)) w5.heap.size 32 (.slice A5 (j + 1) c5) (j + 1) (((cuts c (j + 1)).map byV).flatten)) := Lib.hid (by rw [flat_cuts_succ, ← Hd.out]; exact hB6.only ((Only.refl [p] w6).setCell (by simp) _) (by simp; omega))
                                have HO7 : Hid (Only [p] w5 (w6.setCell ⟨p, 33, none⟩ (.slice A5 (j + 1) c5))) := Lib.hid ((((HO.out.trans (Only.of_below hz)).alloc _).belowB hb6).setCell (by simp) _)
                                clear hB6 hb6 hz
                                go_wp2_with fail
                                go_roundw
                                case rel => exact ⟨j + 1, i + 32, .slice A5 (j + 1) c5, by omega, by have := Hi.out; omega, by go_num, H7.out, HB7.out, HO7.out⟩
                                case measure => simp [intOf]; omega
                              exact AllReady.nil
                            exact AllReady.nil
                          exact AllReady.nil
                        exact AllReady.nil
                      refine AllReady.cons rfl (fun K hK => ?_) ?_
                      · go_simp
                        refine (HDg.out _).mono ?_
                        rintro e w' ⟨rfl, hBw⟩
                        have hz := ((Below.refl wr.heap.size wr).drew).trans (hBw.mono (Nat.le_refl _))
                        have c33' : w'.cell? ⟨p, 33, none⟩ = some v := (hz.cell (p := ⟨p, 33, none⟩) hpw).trans c33
                        have c33a : (w'.alloc (.cells (digV d) 24)).cell? ⟨p, 33, none⟩ = some v := (((Below.refl w'.heap.size w').alloc (Nat.le_refl _) (.cells (digV d) 24)).cell (p := ⟨p, 33, none⟩) (Nat.lt_of_lt_of_le hpw hz.size)).trans c33'
                        go_wp2_with fail
                        try simp only [Act.put, List.getElem_toArray, List.getElem_cons_zero, List.getElem_cons_succ, List.setIfInBounds_toArray, List.set_cons_zero, List.set_cons_succ]
                        refine wpAny_ready (rs := [1, 10]) (by kernel_rfl) (by simp) ?_
                        refine AllReady.cons rfl (fun K hK => ?_) ?_
                        · go_simp
                          refine hK _ _ ?_
                          clear hK K
                          try simp only [Act.put, List.getElem_toArray, List.getElem_cons_zero, List.getElem_cons_succ, List.setIfInBounds_toArray, List.set_cons_zero, List.set_cons_succ]
                          refine wpAny_ready (rs := [10]) (by kernel_rfl) (by simp) ?_
                          refine AllReady.cons rfl (fun K hK => ?_) ?_
                          · go_simp
                            refine hK _ _ ?_
                            clear hK K
                            try simp only [Act.put, List.getElem_toArray, List.getElem_cons_zero, List.getElem_cons_succ, List.setIfInBounds_toArray, List.set_cons_zero, List.set_cons_succ]
                            refine wpAny_ready (rs := [11]) (by kernel_rfl) (by simp) ?_
                            refine AllReady.cons rfl (fun K hK => ?_) ?_
                            · rw [if_pos (by rfl)]
                              refine wp_append_bag0 (B := w5.heap.size) (w'.alloc (.cells (digV d) 24)) _ _ 25 25 rfl i1' _ 32 Tryd.underlying25 hi1 hy0 hy1 hy2 (by show (digV (List.replicate 32 0)).size = 32; rfl) (by have := HO.out.size; have := hz.size; simp; omega) rfl ((HBg.out.below hz).alloc _) (.slice (some ⟨w'.heap.size, 0, none⟩) 1 1) 1 (byV d) rfl (dig_src w'.heap.size 1 d 24 (0, 0) hdd (heap_alloc_new w' _)) (by omega) (by unfold maxLen; omega) (by omega) ?_
                              intro v2 w6 hB6 hb6
                              obtain ⟨A5, c5, rfl, -, -⟩ := hB6.shape
                              have h6 : w6.heap[p]? = some (.cells (maniRow a n v) 27 (0, 0)) := (hb6.block p hp5).trans (((Below.refl w'.heap.size w').alloc (Nat.le_refl _) (.cells (digV d) 24)).block p (Nat.lt_of_lt_of_le hpw hz.size) |>.trans ((hz.block p hpw).trans HP.out))
                              have c36 : w6.cell? ⟨p, 33, none⟩ = some v := by rw [Lib.cell_of_heap h6]; exact hm33
                              have z36 : w6.frozen? ⟨p, 33, none⟩ = false := Lib.frozen_of_heap h6 _
                              have H6 := Lib.hid h6
                              clear h6
                              refine hK _ _ ?_
                              clear hK K
                              try simp only [Act.put, List.getElem_toArray, List.getElem_cons_zero, List.getElem_cons_succ, List.setIfInBounds_toArray, List.set_cons_zero, List.set_cons_succ]
                              refine wpAny_take (i := 12) (v := ?_) rfl (by kernel_rfl) (by kernel_rfl) (by kernel_rfl) (fun _ _ _ h => h) (Or.inl ⟨by rfl, ?_⟩) ?_
                              rotate_left 1
                              · intro w
                                go_simp
                                try with_reducible rfl
                              try simp only [Act.put, List.getElem_toArray, List.getElem_cons_zero, List.getElem_cons_succ, List.setIfInBounds_toArray, List.set_cons_zero, List.set_cons_succ]
                              refine wpAny_ready (rs := [13]) (by kernel_rfl) (by simp) ?_
                              refine AllReady.cons rfl (fun K hK => ?_) ?_
                              · go_simp
                                refine hK _ _ ?_
                                clear hK K
                                refine wpAny_done (by kernel_rfl) ?_ _
                                have H7 : Hid ((w6.setCell ⟨p, 33, none⟩ (.slice A5 (j + 1) c5)).heap[p]? = some (.cells (maniRow a n (.slice A5 (j + 1) c5)) 27 (0, 0))) := Lib.hid ((heap_setCell_same _ p 33 _ _ _ H6.out).trans (by rw [maniRow_set _ _ _ _ ha]))
                                have HB7 : Hid (Bag0 (w6.setCell ⟨p, 33, none⟩ (.slice A5 (j + 1) c5)) w5.heap.size 32 (.slice A5 (j + 1) c5) (j + 1) (((cuts c (j + 1)).map byV).flatten)) := Lib.hid (by rw [flat_cuts_succ, ← Hd.out]; exact hB6.only ((Only.refl [p] w6).setCell (by simp) _) (by simp; omega))
                                have HO7 : Hid (Only [p] w5 (w6.setCell ⟨p, 33, none⟩ (.slice A5 (j + 1) c5))) := Lib.hid ((((HO.out.trans (Only.of_below hz)).alloc _).belowB hb6).setCell (by simp) _)
                                clear hB6 hb6 hz
                                go_wp2_with fail
                                go_roundw
                                case rel => exact ⟨j + 1, i + 32, .slice A5 (j + 1) c5, by omega, by have := Hi.out; omega, by go_num, H7.out, HB7.out, HO7.out⟩
                                case measure => simp [intOf]; omega
                              exact AllReady.nil
                            exact AllReady.nil
                          exact AllReady.nil
                        refine AllReady.cons rfl (fun K hK => ?_) ?_
                        · go_simp
                          refine hK _ _ ?_
                          clear hK K
                          try simp only [Act.put, List.getElem_toArray, List.getElem_cons_zero, List.getElem_cons_succ, List.setIfInBounds_toArray, List.set_cons_zero, List.set_cons_succ]
                          refine wpAny_ready (rs := [1]) (by kernel_rfl) (by simp) ?_
                          refine AllReady.cons rfl (fun K hK => ?_) ?_
                          · go_simp
                            refine hK _ _ ?_
                            clear hK K
                            try simp only [Act.put, List.getElem_toArray, List.getElem_cons_zero, List.getElem_cons_succ, List.setIfInBounds_toArray, List.set_cons_zero, List.set_cons_succ]
                            refine wpAny_ready (rs := [11]) (by kernel_rfl) (by simp) ?_
                            refine AllReady.cons rfl (fun K hK => ?_) ?_
                            · rw [if_pos (by rfl)]
                              refine wp_append_bag0 (B := w5.heap.size) (w'.alloc (.cells (digV d) 24)) _ _ 25 25 rfl i1' _ 32 Tryd.underlying25 hi1 hy0 hy1 hy2 (by show (digV (List.replicate 32 0)).size = 32; rfl) (by have := HO.out.size; have := hz.size; simp; omega) rfl ((HBg.out.below hz).alloc _) (.slice (some ⟨w'.heap.size, 0, none⟩) 1 1) 1 (byV d) rfl (dig_src w'.heap.size 1 d 24 (0, 0) hdd (heap_alloc_new w' _)) (by omega) (by unfold maxLen; omega) (by omega) ?_
                              intro v2 w6 hB6 hb6
                              obtain ⟨A5, c5, rfl, -, -⟩ := hB6.shape
                              have h6 : w6.heap[p]? = some (.cells (maniRow a n v) 27 (0, 0)) := (hb6.block p hp5).trans (((Below.refl w'.heap.size w').alloc (Nat.le_refl _) (.cells (digV d) 24)).block p (Nat.lt_of_lt_of_le hpw hz.size) |>.trans ((hz.block p hpw).trans HP.out))
                              have c36 : w6.cell? ⟨p, 33, none⟩ = some v := by rw [Lib.cell_of_heap h6]; exact hm33
                              have z36 : w6.frozen? ⟨p, 33, none⟩ = false := Lib.frozen_of_heap h6 _
                              have H6 := Lib.hid h6
                              clear h6
                              refine hK _ _ ?_
                              clear hK K
                              try simp only [Act.put, List.getElem_toArray, List.getElem_cons_zero, List.getElem_cons_succ, List.setIfInBounds_toArray, List.set_cons_zero, List.set_cons_succ]
                              refine wpAny_take (i := 12) (v := ?_) rfl (by kernel_rfl) (by kernel_rfl) (by kernel_rfl) (fun _ _ _ h => h) (Or.inl ⟨by rfl, ?_⟩) ?_
                              rotate_left 1
                              · intro w
                                go_simp
                                try with_reducible rfl
                              try simp only [Act.put, List.getElem_toArray, List.getElem_cons_zero, List.getElem_cons_succ, List.setIfInBounds_toArray, List.set_cons_zero, List.set_cons_succ]
                              refine wpAny_ready (rs := [13]) (by kernel_rfl) (by simp) ?_
                              refine AllReady.cons rfl (fun K hK => ?_) ?_
                              · go_simp
                                refine hK _ _ ?_
                                clear hK K
                                refine wpAny_done (by kernel_rfl) ?_ _
                                have H7 : Hid ((w6.setCell ⟨p, 33, none⟩ (.slice A5 (j + 1) c5)).heap[p]? = some (.cells (maniRow a n (.slice A5 (j + 1) c5)) 27 (0, 0))) := Lib.hid ((heap_setCell_same _ p 33 _ _ _ H6.out).trans (by rw [maniRow_set _ _ _ _ ha]))
                                have HB7 : Hid (Bag0 (w6.setCell ⟨p, 33, none⟩ (.slice A5 (j + 1) c5)) w5.heap.size 32 (.slice A5 (j + 1) c5) (j + 1) (((cuts c (j + 1)).map byV).flatten)) := Lib.hid (by rw [flat_cuts_succ, ← Hd.out]; exact hB6.only ((Only.refl [p] w6).setCell (by simp) _) (by simp; omega))
                                have HO7 : Hid (Only [p] w5 (w6.setCell ⟨p, 33, none⟩ (.slice A5 (j + 1) c5))) := Lib.hid ((((HO.out.trans (Only.of_below hz)).alloc _).belowB hb6).setCell (by simp) _)
                                clear hB6 hb6 hz
                                go_wp2_with fail
                                go_roundw
                                case rel => exact ⟨j + 1, i + 32, .slice A5 (j + 1) c5, by omega, by have := Hi.out; omega, by go_num, H7.out, HB7.out, HO7.out⟩
                                case measure => simp [intOf]; omega
                              exact AllReady.nil
                            exact AllReady.nil
                          exact AllReady.nil
                        exact AllReady.nil
                      exact AllReady.nil
                    exact AllReady.nil
                  · obtain rfl : j = k := by omega
                    obtain rfl : i = c.length := by have := Hck.out; omega
                    clear hi
                    obtain ⟨A9, c9, rfl, hc9, hjc9⟩ := hB.shape
                    obtain ⟨m, hm⟩ : ∃ m : ManiD, m = ⟨a, n, A9, c9, cuts c j⟩ := ⟨_, rfl⟩
                    have hpl : m.parts.length = j := by rw [hm]; exact cuts_length c j
                    have hrow : maniRow a n (.slice A9 j c9) = m.row := by rw [hm]; unfold maniRow ManiD.row ManiD.cells; simp [cuts_length]
                    rw [hrow] at hP
                    have hmw : m.whole.length = 32 := by rw [hm]; exact ha
                    have hwf : ManiWf m := ⟨hmw, by rw [hm]; exact cuts_each c j Hck.out, by rw [hm]; exact Hnb.out.1, by rw [hm]; exact Hnb.out.2.1⟩
                    have hml : m.parts.length ≤ maxLen := by rw [hpl]; have := Hck.out; have := Hlen.out; unfold maxLen; omega
                    have hone := m.row_one
                    have hms := m.row_size hmw
                    have hinf : (Tryd.prog.info? 27).map (·.size) = some m.row.size := by rw [hms]; exact mani_info
                    have hg := rgood_any m wr hmw hwf.lo hwf.hi hml
                    have hdy : ∀ h : goodS m.size m.parts.length = true, DecYes s m := fun h => by
                      rw [hpl] at h
                      rw [hm] at h ⊢
                      exact decYes_of Hrd.out ha Hck.out Hrn.out h A9 c9
                    have hdn : ∀ h : goodS m.size m.parts.length = false, ∀ x, ¬ DecYes s x := fun h => by
                      rw [hpl] at h
                      rw [hm] at h
                      exact decNo_of Hrd.out (.inr (.inr (.inr ⟨n, Hrn.out, by rw [show c.length / 32 = j by have := Hck.out; omega]; exact h⟩)))
                    have HBm := Lib.hid hB
                    have Hm := Lib.hid hm
                    have Hdy := Lib.hid hdy
                    have Hdn := Lib.hid hdn
                    have Hml := Lib.hid hml
                    have Hwf := Lib.hid hwf
                    have Hg := Lib.hid hg
                    have HP := Lib.hid hP
                    have HQ9 := Lib.hid (hO.keep HQ5.out (by simp; exact hqp))
                    have HZ9 := Lib.hid (hO.keep HZ5.out (by simp; exact hzp))
                    have HO := Lib.hid hO
                    have hqw5 := heap_lt HQ5.out
                    clear hP hm hO hB hrow hpl hwf hg hdy hdn hml
                    go_wp2_with (refine wpList_load_row rfl 27 _ rfl p rfl 27 _ (0, 0) _ HP.out Tryd.underlying27 rfl hinf ?_)
                    refine Hg.out.mono ?_
                    rintro e w9 ⟨rfl, hB9⟩
                    have HPx := Lib.hid (below_keep hB9 HP.out)
                    have HQx := Lib.hid (below_keep hB9 HQ9.out)
                    have HZx := Lib.hid (below_keep hB9 HZ9.out)
                    have HBx : Hid (Below w2.heap.size w2 w9) := Lib.hid (B5.out.trans ((HO.out.trans (Only.of_below hB9)).below B5.out.size (by intro x hx; simp at hx; rw [hx]; exact hp2)))
                    have HDx := Lib.hid (HBm.out.below hB9)
                    have hqx := heap_lt HQx.out
                    have hz9 := hB9.size
                    clear hB9 Hg HP HQ9 HZ9 HBm
                    obtain ⟨x, hx⟩ : ∃ x, x = goodS m.size m.parts.length := ⟨_, rfl⟩
                    rw [← hx] at Hdy Hdn ⊢
                    have Hx := Lib.hid hx
                    clear hx
                    cases x with
                    | true =>
                      have HY := Lib.hid (Hdy.out rfl)
                      clear Hdy Hdn
                      go_wp2_with (first
                        | (refine wpList_load_row rfl 27 _ rfl p rfl 27 _ (0, 0) _ HPx.out Tryd.underlying27 rfl hinf ?_)
                        | (refine wpList_store_row rfl 27 _ _ rfl q m.row rfl rfl 27 _ HQx.out hinf (by rw [hms]; rfl) hone ?_))
                      (try simp only [Exit.inBlock, Exit.then])
                      refine bodyPost_ret (results_cell_row2 rfl _ _ q 27 m.row (0, 0) _ rfl (setRow_heap _ _ _ _ _ _ HQx.out) Tryd.underlying27 rfl hinf) rfl ?_
                      have o1 : Only [q] w9 (w9.setRow q m.row) := ((Only.refl [q] w9).setRow (by simp) _)
                      refine ⟨m, 0, rfl, .inl ⟨rfl, HY.out⟩, ⟨hmw, Hwf.out.each, Hwf.out.lo, Hwf.out.hi, Hml.out, ?_⟩, ?_⟩
                      · have e1 : m.A = A9 := by rw [Hm.out]
                        have e2 : m.parts = cuts c j := by rw [Hm.out]
                        rw [e1, e2]
                        exact digs_of_bag (HDx.out.only o1 (by intro x hx; simp at hx; rw [hx]; exact hqw5)) (cuts_length c j).symm (cuts_each c j Hck.out)
                      · exact B2.out.trans ((((Only.of_below (bs := [q]) HBx.out)).trans o1).below B2.out.size (by intro x hx; simp at hx; rw [hx, Hq.out]; exact Nat.le_refl _))
                    | false =>
                      have Hn : Hid (∀ x, ¬ DecYes s x) := Lib.hid (Hdn.out rfl)
                      clear Hdy Hdn
                      go_wp2_with (first
                        | (refine wpList_load_row rfl 27 _ rfl z rfl 27 _ (0, 0) _ HZx.out Tryd.underlying27 rfl mani_info ?_)
                        | (refine wpList_store_row rfl 27 _ _ rfl q zeroMani.row rfl rfl 27 zeroMani.row HQx.out mani_info rfl (ManiD.row_one zeroMani) ?_))
                      (try simp only [Exit.inBlock, Exit.then])
                      refine bodyPost_ret (results_cell_row2 rfl _ _ q 27 zeroMani.row (0, 0) _ rfl (setRow_heap _ _ _ _ _ _ HQx.out) Tryd.underlying27 rfl mani_info) rfl ?_
                      exact HNO.out w9 (HBx.out) Hn.out
              · have r1 : (r != []) = true := by simpa using hr
                have r2 : (r == []) = false := by simpa using hr
                have Hn : Hid (∀ x, ¬ DecYes s x) := Lib.hid (decNo_of Hrd.out (.inr (.inr (.inl (fun m h => by rw [hrn] at h; simp only [Option.some.injEq, Prod.mk.injEq] at h; exact hr h.2)))))
                clear hrn hr
                go_wp2_with (first
                  | (refine wpList_load_row rfl 27 _ rfl z rfl 27 _ (0, 0) _ HZ3.out Tryd.underlying27 rfl mani_info ?_)
                  | (refine wpList_store_row rfl 27 _ _ rfl q zeroMani.row rfl rfl 27 zeroMani.row HQ3.out mani_info rfl (ManiD.row_one zeroMani) ?_))
                (try simp only [Exit.inBlock, Exit.then])
                refine bodyPost_ret (results_cell_row2 rfl _ _ q 27 zeroMani.row (0, 0) _ rfl (setRow_heap _ _ _ _ _ _ HQ3.out) Tryd.underlying27 rfl mani_info) rfl ?_
                exact HNO.out w3 (B3.out) Hn.out
            · have Hn : Hid (∀ x, ¬ DecYes s x) := Lib.hid (decNo_of Hrd.out (.inr (.inr (.inl (fun m h => by rw [hrn] at h; cases h)))))
              clear hrn
              go_wp2_with (first
                | (refine wpList_load_row rfl 27 _ rfl z rfl 27 _ (0, 0) _ HZ3.out Tryd.underlying27 rfl mani_info ?_)
                | (refine wpList_store_row rfl 27 _ _ rfl q zeroMani.row rfl rfl 27 zeroMani.row HQ3.out mani_info rfl (ManiD.row_one zeroMani) ?_))
              (try simp only [Exit.inBlock, Exit.then])
              refine bodyPost_ret (results_cell_row2 rfl _ _ q 27 zeroMani.row (0, 0) _ rfl (setRow_heap _ _ _ _ _ _ HQ3.out) Tryd.underlying27 rfl mani_info) rfl ?_
              exact HNO.out w3 (B3.out) Hn.out
          · have hc1 : ((u : Int) != 0) = true := by rw [bne_iff_ne]; omega
            have hc2 : (u != 0) = true := by rw [bne_iff_ne]; omega
            have Hn : Hid (∀ x, ¬ DecYes s x) := Lib.hid (decNo_of hrd (.inr (.inl (by rw [← hu]; exact hc))))
            clear hrd hlen hc hu
            go_wp2_with (first
              | (refine wpList_load_row rfl 27 _ rfl z rfl 27 _ (0, 0) _ HZ2.out Tryd.underlying27 rfl mani_info ?_)
              | (refine wpList_store_row rfl 27 _ _ rfl q zeroMani.row rfl rfl 27 zeroMani.row HQ2.out mani_info rfl (ManiD.row_one zeroMani) ?_))
            (try simp only [Exit.inBlock, Exit.then])
            refine bodyPost_ret (results_cell_row2 rfl _ _ q 27 zeroMani.row (0, 0) _ rfl (setRow_heap _ _ _ _ _ _ HQ2.out) Tryd.underlying27 rfl mani_info) rfl ?_
            exact HNO.out w2 (Below.refl _ _) Hn.out
        · have ha1 : ((a.length : Int) != 32) = true := by rw [bne_iff_ne]; omega
          have Hn : Hid (∀ x, ¬ DecYes s x) := Lib.hid (decNo_of hrd (.inl ha))
          clear hrd hlen ha
          go_wp2_with (first
            | (refine wpList_load_row rfl 27 _ rfl z rfl 27 _ (0, 0) _ HZ2.out Tryd.underlying27 rfl mani_info ?_)
            | (refine wpList_store_row rfl 27 _ _ rfl q zeroMani.row rfl rfl 27 zeroMani.row HQ2.out mani_info rfl (ManiD.row_one zeroMani) ?_))
          (try simp only [Exit.inBlock, Exit.then])
          refine bodyPost_ret (results_cell_row2 rfl _ _ q 27 zeroMani.row (0, 0) _ rfl (setRow_heap _ _ _ _ _ _ HQ2.out) Tryd.underlying27 rfl mani_info) rfl ?_
          exact HNO.out w2 (Below.refl _ _) Hn.out
      · have hl1 : ((ts.length : Int) != 3) = true := by rw [bne_iff_ne]; omega
        have hl2 : (ts.length != 3) = true := by rw [bne_iff_ne]; omega
        have Hn : Hid (∀ x, ¬ DecYes s x) := Lib.hid (decNo_row (fun a b c h => by rw [hrd] at h; simp only [Option.some.injEq, Prod.mk.injEq] at h; exact hl (by rw [h.1]; rfl)))
        clear hrd hl
        go_wp2_with (first
          | (refine wpList_load_row rfl 27 _ rfl z rfl 27 _ (0, 0) _ HZ2.out Tryd.underlying27 rfl mani_info ?_)
          | (refine wpList_store_row rfl 27 _ _ rfl q zeroMani.row rfl rfl 27 zeroMani.row HQ2.out mani_info rfl (ManiD.row_one zeroMani) ?_))
        (try simp only [Exit.inBlock, Exit.then])
        refine bodyPost_ret (results_cell_row2 rfl _ _ q 27 zeroMani.row (0, 0) _ rfl (setRow_heap _ _ _ _ _ _ HQ2.out) Tryd.underlying27 rfl mani_info) rfl ?_
        exact HNO.out w2 (Below.refl _ _) Hn.out
    · have r1 : (r != []) = true := by simpa using hr
      have r2 : (r == []) = false := by simpa using hr
      have Hn : Hid (∀ x, ¬ DecYes s x) := Lib.hid (decNo_row (fun a b c h => by rw [hrd] at h; simp only [Option.some.injEq, Prod.mk.injEq] at h; exact hr h.2))
      clear hrd hr
      go_wp2_with (first
        | (refine wpList_load_row rfl 27 _ rfl z rfl 27 _ (0, 0) _ HZ2.out Tryd.underlying27 rfl mani_info ?_)
        | (refine wpList_store_row rfl 27 _ _ rfl q zeroMani.row rfl rfl 27 zeroMani.row HQ2.out mani_info rfl (ManiD.row_one zeroMani) ?_))
      (try simp only [Exit.inBlock, Exit.then])
      refine bodyPost_ret (results_cell_row2 rfl _ _ q 27 zeroMani.row (0, 0) _ rfl (setRow_heap _ _ _ _ _ _ HQ2.out) Tryd.underlying27 rfl mani_info) rfl ?_
      exact HNO.out w2 (Below.refl _ _) Hn.out
  · have Hn : Hid (∀ x, ¬ DecYes s x) := Lib.hid (decNo_row (fun a b c h => by rw [hrd] at h; cases h))
    clear hrd
    go_wp2_with (first
      | (refine wpList_load_row rfl 27 _ rfl z rfl 27 _ (0, 0) _ HZ2.out Tryd.underlying27 rfl mani_info ?_)
      | (refine wpList_store_row rfl 27 _ _ rfl q zeroMani.row rfl rfl 27 zeroMani.row HQ2.out mani_info rfl (ManiD.row_one zeroMani) ?_))
    (try simp only [Exit.inBlock, Exit.then])
    refine bodyPost_ret (results_cell_row2 rfl _ _ q 27 zeroMani.row (0, 0) _ rfl (setRow_heap _ _ _ _ _ _ HQ2.out) Tryd.underlying27 rfl mani_info) rfl ?_
    exact HNO.out w2 (Below.refl _ _) Hn.out
end Go.Proofs.YtokdnfhglckpkaaDoor
