/-
  CombBack: a blob's chunks are the blob again; each fits at its place alone, unless two are the same; with one byte another one, one is none any more. No condition: every input.
-/
import Derived.Test.YtokdnfhglckpkaaDoorCoG
import Derived.Test.YtokdnfhglckpkaaDoorRow
import Derived.Test.YtokdnfhglckpkaaDoorCards
import Derived.Test.YtokdnfhglckpkaaDoorTie
set_option linter.unusedVariables false
set_option linter.unusedSimpArgs false
namespace Go.Proofs.YtokdnfhglckpkaaDoor
open Go.RowKit
attribute [local go_sem] Lb.ba_get Lb.ba_cut Lb.ba_add Lb.ba_size Lb.take_rest

theorem wpList_load_rowW {P : Program} {ops : Array Oper} {rest : List Oper} {o : Oper} {a : Act} {w : World} {Q : Exit → Act → World → Prop} (hw : Region.wanted o (yielded ops a.tmps) = true) (ty : TypeId) (x : Operand) (ho : o.op = .load ty x)
    (g : Nat) (hx : a.eval x = .pointer (some ⟨g, 0, none⟩)) (t : TypeId) (cs : Array Value) (fr : Nat × Nat) (d : TypeDesc) (hg : w.heap[g]? = some (.cells cs t fr))
    (hu : P.underlying ty = some d) (hd : (match d with | .struct _ | .array _ _ => true | _ => false) = true) (hi : (P.info? ty).map (·.size) = some cs.size)
    (h : wpList P ops Q rest (a.put o.dst (.agg cs)) w) : wpList P ops Q (o :: rest) a w := by
  unfold wpList
  rw [if_pos hw]
  exact Or.inl (wp_load_row ty x ho g hx t cs fr d hg hu hd hi h)

theorem bag_set_str {w : World} {g cap kk : Nat} {l : List UInt8} (h : Bag w 1 g cap l.length (byV l)) (hk : kk < l.length) (y : UInt8) :
    (convert 45 9 (.slice (some ⟨g, 0, none⟩) l.length cap)).run Tryd.prog (w.setCell ⟨g, kk, none⟩ (.int .u8 ((y.toNat : Nat) : Int))) = .ok (.string ⟨(l.set kk y).toArray⟩) (w.setCell ⟨g, kk, none⟩ (.int .u8 ((y.toNat : Nat) : Int))) := by
  have hl : (l.set kk y).length = l.length := by simp
  rw [← hl]
  refine run_convert_bytes_back _ 45 9 5 ⟨g, 0, none⟩ cap (l.set kk y) Tryd.underlying45 Tryd.underlying5 Tryd.underlying9 fun j hj => ?_
  rw [Addr.add_lit, Nat.zero_add]
  have hj' : j < l.length := by simpa using hj
  have hold : ∀ i, (hi : i < l.length) → w.cell? ⟨g, i, none⟩ = some (.int .u8 ((l[i].toNat : Nat) : Int)) := fun i hi => h.holds i _ (by simp [byV, hi])
  by_cases hjk : j = kk
  · subst hjk
    rw [World.cell?_setCell_same w _ _ (hold j hj')]
    simp
  · rw [World.cell?_setCell_other w _ _ _ (by intro e; injection e with _ e2; omega), hold j hj', List.getElem_set_ne (by omega)]
theorem chunk_set_ne (l : List UInt8) (kk j : Nat) (y : UInt8) (h : j ≠ kk / 64) : chunk (l.set kk y) j = chunk l j := by
  apply List.ext_getElem?
  intro i
  unfold chunk
  simp only [List.getElem?_take, List.getElem?_drop]
  split
  · rw [List.getElem?_set_ne (by omega)]
  · rfl

theorem u64_modL (x : Int) (L : Nat) (hL : 0 < L) (hL2 : L ≤ 512) (h : -9223372036854775808 ≤ x ∧ x ≤ 9223372036854775807) : ∃ u k : Nat, IntKind.u64.wrap x = (u : Int) ∧ (u : Int) ≤ 18446744073709551615 ∧ (u : Int).tmod (L : Int) = (k : Int) ∧ IntKind.i64.wrap (k : Int) = (k : Int) ∧ k < L := by
  have hk : ∀ u : Nat, u % L < L := fun u => Nat.mod_lt _ hL
  by_cases hx : 0 ≤ x
  · obtain ⟨u, rfl⟩ : ∃ u : Nat, x = u := ⟨x.toNat, by omega⟩
    have := hk u
    exact ⟨u, u % L, by rw [IntWalk.u64_in _ (by omega)], by omega, rfl, IntWalk.i64_in _ (by omega), this⟩
  · have := hk (x + 18446744073709551616).toNat
    refine ⟨(x + 18446744073709551616).toNat, (x + 18446744073709551616).toNat % L, ?_, by omega, rfl, IntWalk.i64_in _ (by omega), this⟩
    simp only [IntKind.wrap_u64]; omega

set_option maxHeartbeats 4000000 in
set_option maxRecDepth 100000 in
theorem combBack_big (l : List UInt8) (a x : Int) (w : World) (hL : Laid KK w) (hl : l.length ≤ 140737488351232) (h5 : 512 < l.length) :
    Calls Tryd.prog 5 #[.string ⟨l.toArray⟩, .int .i64 a, .int .u8 x] w fun e w' => e = .returned (.bool true) ∧ Below w.heap.size w w' := by
  have HL := Lib.hid hL
  clear hL
  go_enter Tryd.func5, Tryd.ntmps5
  go_wp2_with fail
  refine (awake_any KK w HL.out).mono ?_
  rintro e w1 ⟨rfl, hB1⟩
  have HB1 := Lib.hid hB1
  clear hB1
  have hi : (512 : Int) < (l.length : Int) := by omega
  go_wp2_with fail
  refine (mani_big KK l w1 h5 (by omega)).mono ?_
  rintro e w2 ⟨rfl, hB2⟩
  have HB2 := Lib.hid (HB1.out.trans (hB2.mono HB1.out.size))
  have hsz2 := HB2.out.size
  clear hB2
  go_wp2_with (refine wpList_store_row rfl 27 _ _ rfl w2.heap.size zeroMani.row rfl rfl 27 _ (heap_alloc_new w2 _) mani_info rfl (ManiD.row_one zeroMani) ?_)
  go_ret
  refine ⟨rfl, HB2.out.trans ?_⟩
  exact (((Only.refl [w2.heap.size] w2).alloc _).setRow (by simp) zeroMani.row).below hsz2 (by intro x hx; simp at hx; omega)

set_option maxHeartbeats 16000000 in
set_option maxRecDepth 100000 in
theorem combBack_small (l : List UInt8) (a x : Int) (w : World) (hL : Laid KK w) (h5 : l.length ≤ 512) (alo : -9223372036854775808 ≤ a) (ahi : a ≤ 9223372036854775807) (xlo : 0 ≤ x) (xhi : x < 256) :
    Calls Tryd.prog 5 #[.string ⟨l.toArray⟩, .int .i64 a, .int .u8 x] w fun e w' => e = .returned (.bool true) ∧ Below w.heap.size w w' := by
  obtain ⟨K, hK⟩ : ∃ K, K = KK := ⟨_, rfl⟩
  rw [← hK] at hL
  clear hK
  have HL := Lib.hid hL
  clear hL
  go_enter Tryd.func5, Tryd.ntmps5
  go_wp2_with fail
  refine (awake_any K w HL.out).mono ?_
  rintro e w1 ⟨rfl, hB1⟩
  have HL1 := Lib.hid (HL.out.below hB1)
  have HB1 := Lib.hid hB1
  clear hB1
  have hi : ¬ (512 : Int) < (l.length : Int) := by omega
  go_wp2_with fail
  refine (mani_any K l w1 HL1.out h5).mono ?_
  rintro e w2 ⟨m, rfl, hm, hmw, hms, hmp, hB2⟩
  have hown : OwnM K m l := ⟨hmw, hms, hmp⟩
  have hmw32 := hm.whole
  have hinf : (Tryd.prog.info? 27).map (·.size) = some m.row.size := by rw [m.row_size hmw32]; exact mani_info
  have hsz := m.row_size hmw32
  have hone := m.row_one
  have Hown := Lib.hid hown
  have Hm2 := Lib.hid hm
  have HL2 := Lib.hid (HL1.out.below hB2)
  have HB2 := Lib.hid (HB1.out.trans (hB2.mono HB1.out.size))
  clear hm hown hB2 hmw hms hmp HL1
  go_upto_region 7 with (refine wpList_store_row rfl 27 _ _ rfl w2.heap.size m.row rfl rfl 27 _ (heap_alloc_new w2 _) hinf (by rw [hsz]; rfl) hone ?_)
  obtain ⟨p, hp⟩ : ∃ p, p = w2.heap.size := ⟨_, rfl⟩
  have h3 := setRow_heap _ _ _ m.row _ _ (heap_alloc_new w2 (.cells zeroMani.row 27))
  have o3 : Only [p] w2 ((w2.alloc (.cells zeroMani.row 27)).setRow w2.heap.size m.row) := ((Only.refl [p] w2).alloc _).setRow (by simp [hp]) m.row
  show Code.wp _ _ _ _ ((w2.alloc (.cells zeroMani.row 27)).setRow w2.heap.size m.row)
  obtain ⟨w3, hw3⟩ : ∃ w3, w3 = (w2.alloc (.cells zeroMani.row 27)).setRow w2.heap.size m.row := ⟨_, rfl⟩
  rw [← hw3] at h3 o3 ⊢
  rw [← hp] at h3 ⊢
  have b3 : Below w2.heap.size w2 w3 := o3.below (Nat.le_refl _) (by simp [hp])
  have HL3 := Lib.hid (HL2.out.below b3)
  have Hm3 := Lib.hid ((Hm2.out.below b3 (Nat.le_refl _)).more b3.size)
  have H3 := Lib.hid h3
  have HB3 := Lib.hid (HB2.out.trans (b3.mono HB2.out.size))
  clear hw3 h3 o3 hp b3 HL2 Hm2 HB2
  go_wp2_with fail
  refine (split_any l w3 (by omega)).mono ?_
  rintro e w4 ⟨v, rfl, hT, hB4⟩
  obtain ⟨A, cap, rfl, hcx, hcap⟩ := Bag0.shape hT
  have hS4 : Strs w4 w4.heap.size A (chunks l) := by
    intro i hi
    obtain ⟨g2, e2, _, hl, hc⟩ := hT.cell i hi
    exact ⟨⟨g2, 0, none⟩, e2, hl, by rw [Addr.add_lit, Nat.zero_add]; exact hc⟩
  have HT := Lib.hid hT
  have HL4 := Lib.hid (HL3.out.below hB4)
  have Hm4 := Lib.hid ((Hm3.out.below hB4 (Nat.le_refl _)).more hB4.size)
  have H4 := Lib.hid (below_keep hB4 H3.out)
  have HB4 := Lib.hid (HB3.out.trans (hB4.mono HB3.out.size))
  have hj := join_any K m A cap (chunks l) w4 HL4.out Hm4.out hS4 hcap hcx (by rw [chunks_length]; omega) (fun t ht => by have := chunks_le l t ht; omega)
  rw [Hown.out.join h5] at hj
  obtain ⟨n, hn⟩ : ∃ n, n = (chunks l).length := ⟨_, rfl⟩
  have hnl : n = (l.length + 63) / 64 := by rw [hn, chunks_length]
  rw [← hn] at hj hcap ⊢
  have Hj := Lib.hid hj
  have Hn := Lib.hid hn
  have Hnl := Lib.hid hnl
  have hn8 : n ≤ 8 := by omega
  clear hT hB4 hS4 hj HL3 Hm3 H3 HB3 hn hnl
  go_wp2_with (refine wpList_load_row rfl 27 _ rfl p rfl 27 _ (0, 0) _ H4.out Tryd.underlying27 rfl hinf ?_)
  refine Hj.out.mono ?_
  rintro e w5 ⟨rfl, hB5⟩
  have h5_ := below_keep hB5 H4.out
  have H5 := Lib.hid h5_
  have HL5 := Lib.hid (HL4.out.below hB5)
  have Hm5 := Lib.hid ((Hm4.out.below hB5 (Nat.le_refl _)).more hB5.size)
  have HT5 : Hid (Txts w5 w3.heap.size (.slice A n cap) (chunks l)) := Lib.hid (by rw [Hn.out]; exact HT.out.below hB5)
  have HB5 := Lib.hid (HB4.out.trans (hB5.mono HB4.out.size))
  have c33 : w5.cell? ⟨p, 33, none⟩ = some (.slice m.A n m.cap) := by rw [Lib.cell_of_heap h5_, m.at33 hmw32, Hown.out.parts, List.length_map, Hn.out]
  have hgood := Hown.out.good h5
  have hg := good_any m w5 hmw32 Hm5.out.lo Hm5.out.hi Hm5.out.len
  rw [hgood] at hg
  have Hg := Lib.hid hg
  have hp5 := heap_lt h5_
  clear hB5 h5_ HL4 Hm4 H4 HB4 HT hg hgood Hj
  have hll : (!decide (l = l)) = false := by simp
  go_wp2_with (refine wpList_load_rowW (by kernel_rfl) 27 _ rfl p rfl 27 _ (0, 0) _ H5.out Tryd.underlying27 rfl hinf ?_)
  refine Hg.out.mono ?_
  rintro e w6 ⟨rfl, hB6⟩
  have H6 := Lib.hid (below_keep hB6 H5.out)
  have HL6 := Lib.hid (HL5.out.below hB6)
  have Hm6 := Lib.hid ((Hm5.out.below hB6 (Nat.le_refl _)).more hB6.size)
  have HT6 : Hid (Txts w6 w3.heap.size (.slice A n cap) (chunks l)) := Lib.hid (HT5.out.below hB6)
  have HB6 := Lib.hid (HB5.out.trans (hB6.mono HB5.out.size))
  have hp6 : p < w6.heap.size := Nat.lt_of_lt_of_le hp5 hB6.size
  clear hB6 H5 HL5 Hm5 HT5 HB5 Hg hll c33
  have hnI : (n : Int) ≤ 8 := by omega
  have mund := Tryd.underlying27
  have minfo : (Tryd.prog.info? 27).map (·.size) = some m.cells.length := by rw [mani_info]; have := m.row_size hmw32; simp only [ManiD.row, List.size_toArray] at this; rw [this]
  go_wp2_with fail
  go_loopw [14] (fun c wr => ∃ i : Nat, i ≤ n ∧ c = .int .i64 i ∧ Below w6.heap.size w6 wr) (fun c _ => n - (intOf c).toNat)
  case atStart => exact ⟨0, by omega, rfl, Below.refl _ _⟩
  case round =>
    obtain ⟨i, hin, rfl, hBi⟩ := hrel
    have i0 : (0 : Int) ≤ (i : Int) := by omega
    by_cases hil : i < n
    · have HBi := Lib.hid hBi
      have iI : (i : Int) < (n : Int) := by omega
      clear hBi
      go_wp2_with fail
      go_loopw [15] (fun c wr => ∃ k : Nat, k ≤ n ∧ c = .int .i64 k ∧ Below w6.heap.size w6 wr) (fun c _ => n - (intOf c).toNat)
      case atStart => exact ⟨0, by omega, rfl, HBi.out⟩
      case round =>
        obtain ⟨k, hkn, rfl, hBk⟩ := hrel
        have k0 : (0 : Int) ≤ (k : Int) := by omega
        by_cases hkl : k < n
        · have kI : (k : Int) < (n : Int) := by omega
          obtain ⟨g, rfl, hg, hgl, hci⟩ := HT6.out.cell i (by rw [← Hn.out]; exact hil)
          obtain ⟨g', e', _, _, hck⟩ := HT6.out.cell k (by rw [← Hn.out]; exact hkl)
          obtain rfl : g = g' := by injection e' with h1; injection h1
          rw [chunks_get] at hci hck
          obtain ⟨ti, hti⟩ : ∃ t, t = chunk l i := ⟨_, rfl⟩
          obtain ⟨tk, htk⟩ : ∃ t, t = chunk l k := ⟨_, rfl⟩
          rw [← hti] at hci
          rw [← htk] at hck
          have l0 := (hBk.cell (p := ⟨g, i, none⟩) hgl).trans hci
          have l1 := (hBk.cell (p := ⟨g, k, none⟩) hgl).trans hck
          have hgr : g < wr.heap.size := Nat.lt_of_lt_of_le hgl hBk.size
          have hpr : p < wr.heap.size := Nat.lt_of_lt_of_le hp6 hBk.size
          have hrow : wr.heap[p]? = some (.cells m.row 27 (0, 0)) := (hBk.block p hp6).trans H6.out
          have rm_ : wr.rangeAt p 0 m.cells := fun j v hv => by
            rw [Nat.zero_add, Lib.cell_of_heap hrow]
            unfold ManiD.row
            rw [List.getElem?_toArray]
            exact hv
          have HL0 := Lib.hid (HL6.out.below hBk)
          have Hm0 := Lib.hid ((Hm6.out.below hBk (Nat.le_refl _)).more hBk.size)
          have hfv := Hown.out.fits h5 i (by rw [← Hn.out]; exact hil) tk
          rw [← hti] at hfv
          have htl : tk.length ≤ 64 := by rw [htk, chunk_length]; omega
          have htl' : ti.length ≤ 64 := by rw [hti, chunk_length]; omega
          have HBk := Lib.hid hBk
          clear e' hci hck hrow hBk hti htk
          by_cases heq : ti = tk
          · subst heq
            have hf : fitsS K m (i : Int) ti = true := by rw [hfv]; simp
            clear hfv
            go_upto_region 17 with fail
            refine wp_region_held_drew (S := fun w' => Below wr.heap.size wr w') (by kernel_rfl) ((Below.refl _ _).drew) (fun hH0 => ?_)
            obtain ⟨W0, hW0⟩ : ∃ W, W = wr.drew := ⟨_, rfl⟩
            rw [← hW0] at hH0 ⊢
            clear hW0
            refine wpAnyH_take (i := 0) (v := _) rfl (by kernel_rfl) (by kernel_rfl) (by kernel_rfl) (fun _ _ _ h => h) (yieldsIf_load_mid (by kernel_rfl) _ _ rfl _ _ rfl m.cells _ (fun W hW => range_below rm_ hW hpr) mund rfl minfo) hH0 ?_
            try simp only [Act.put, List.getElem_toArray, List.getElem_cons_zero, List.getElem_cons_succ, List.setIfInBounds_toArray, List.set_cons_zero, List.set_cons_succ]
            refine wpAnyH_take (i := 1) (v := ?_) rfl (by kernel_rfl) (by kernel_rfl) (by kernel_rfl) (fun _ _ _ h => h) (Or.inl ⟨by kernel_rfl, ?_⟩) hH0 ?_
            rotate_left 1
            · intro w hSw
              go_simp
              try with_reducible rfl
            try simp only [Act.put, List.getElem_toArray, List.getElem_cons_zero, List.getElem_cons_succ, List.setIfInBounds_toArray, List.set_cons_zero, List.set_cons_succ]
            refine wpAnyH_take (i := 2) (v := ?_) rfl (by kernel_rfl) (by kernel_rfl) (by kernel_rfl) (fun _ _ _ h => h) (Or.inl ⟨by kernel_rfl, ?_⟩) hH0 ?_
            rotate_left 1
            · intro w hSw
              go_simp
              try with_reducible rfl
            try simp only [Act.put, List.getElem_toArray, List.getElem_cons_zero, List.getElem_cons_succ, List.setIfInBounds_toArray, List.set_cons_zero, List.set_cons_succ]
            refine wpAnyH_take (i := 3) (v := ?_) rfl (by kernel_rfl) (by kernel_rfl) (by kernel_rfl) (fun _ _ _ h => h) (Or.inl ⟨by kernel_rfl, ?_⟩) hH0 ?_
            rotate_left 1
            · intro w hSw
              go_simp
              try with_reducible rfl
            try simp only [Act.put, List.getElem_toArray, List.getElem_cons_zero, List.getElem_cons_succ, List.setIfInBounds_toArray, List.set_cons_zero, List.set_cons_succ]
            refine wpAnyH_take (i := 4) (v := ?_) rfl (by kernel_rfl) (by kernel_rfl) (by kernel_rfl) (fun _ _ _ h => h) (Or.inl ⟨by kernel_rfl, ?_⟩) hH0 ?_
            rotate_left 1
            · intro w hSw
              go_simp
              try with_reducible rfl
            try simp only [Act.put, List.getElem_toArray, List.getElem_cons_zero, List.getElem_cons_succ, List.setIfInBounds_toArray, List.set_cons_zero, List.set_cons_succ]
            refine wpAnyH_take (i := 5) (v := ?_) rfl (by kernel_rfl) (by kernel_rfl) (by kernel_rfl) (fun _ _ _ h => h) (Or.inl ⟨by kernel_rfl, ?_⟩) hH0 ?_
            rotate_left 1
            · intro w hSw
              have f0 := (hSw.cell (p := ⟨g, i, none⟩) hgr).trans l0
              have f1 := (hSw.cell (p := ⟨g, k, none⟩) hgr).trans l1
              go_simp
              try with_reducible rfl
            try simp only [Act.put, List.getElem_toArray, List.getElem_cons_zero, List.getElem_cons_succ, List.setIfInBounds_toArray, List.set_cons_zero, List.set_cons_succ]
            refine wpAnyH_take (i := 7) (v := ?_) rfl (by kernel_rfl) (by kernel_rfl) (by kernel_rfl) (fun _ _ _ h => h) (Or.inl ⟨by kernel_rfl, ?_⟩) hH0 ?_
            rotate_left 1
            · intro w hSw
              go_simp
              try with_reducible rfl
            try simp only [Act.put, List.getElem_toArray, List.getElem_cons_zero, List.getElem_cons_succ, List.setIfInBounds_toArray, List.set_cons_zero, List.set_cons_succ]
            refine wpAnyH_take (i := 8) (v := ?_) rfl (by kernel_rfl) (by kernel_rfl) (by kernel_rfl) (fun _ _ _ h => h) (Or.inl ⟨by kernel_rfl, ?_⟩) hH0 ?_
            rotate_left 1
            · intro w hSw
              go_simp
              try with_reducible rfl
            try simp only [Act.put, List.getElem_toArray, List.getElem_cons_zero, List.getElem_cons_succ, List.setIfInBounds_toArray, List.set_cons_zero, List.set_cons_succ]
            refine wpAnyH_take (i := 9) (v := ?_) rfl (by kernel_rfl) (by kernel_rfl) (by kernel_rfl) (fun _ _ _ h => h) (Or.inl ⟨by kernel_rfl, ?_⟩) hH0 ?_
            rotate_left 1
            · intro w hSw
              go_simp
              try with_reducible rfl
            try simp only [Act.put, List.getElem_toArray, List.getElem_cons_zero, List.getElem_cons_succ, List.setIfInBounds_toArray, List.set_cons_zero, List.set_cons_succ]
            refine wpAnyH_take (i := 10) (v := ?_) rfl (by kernel_rfl) (by kernel_rfl) (by kernel_rfl) (fun _ _ _ h => h) (Or.inl ⟨by kernel_rfl, ?_⟩) hH0 ?_
            rotate_left 1
            · intro w hSw
              have f0 := (hSw.cell (p := ⟨g, i, none⟩) hgr).trans l0
              have f1 := (hSw.cell (p := ⟨g, k, none⟩) hgr).trans l1
              go_simp
              try with_reducible rfl
            try simp only [Act.put, List.getElem_toArray, List.getElem_cons_zero, List.getElem_cons_succ, List.setIfInBounds_toArray, List.set_cons_zero, List.set_cons_succ]
            refine wpAnyH_take (i := 11) (v := ?_) rfl (by kernel_rfl) (by kernel_rfl) (by kernel_rfl) (fun _ _ _ h => h) (Or.inl ⟨by kernel_rfl, ?_⟩) hH0 ?_
            rotate_left 1
            · intro w hSw
              go_simp
              try with_reducible rfl
            try simp only [Act.put, List.getElem_toArray, List.getElem_cons_zero, List.getElem_cons_succ, List.setIfInBounds_toArray, List.set_cons_zero, List.set_cons_succ]
            refine wpAnyH_take (i := 12) (v := ?_) rfl (by kernel_rfl) (by kernel_rfl) (by kernel_rfl) (fun _ _ _ h => h) (Or.inl ⟨by kernel_rfl, ?_⟩) hH0 ?_
            rotate_left 1
            · intro w hSw
              go_simp
              try with_reducible rfl
            try simp only [Act.put, List.getElem_toArray, List.getElem_cons_zero, List.getElem_cons_succ, List.setIfInBounds_toArray, List.set_cons_zero, List.set_cons_succ]
            refine wpAnyH_take (i := 13) (v := ?_) rfl (by kernel_rfl) (by kernel_rfl) (by kernel_rfl) (fun _ _ _ h => h) (Or.inl ⟨by kernel_rfl, ?_⟩) hH0 ?_
            rotate_left 1
            · intro w hSw
              go_simp
              try with_reducible rfl
            try simp only [Act.put, List.getElem_toArray, List.getElem_cons_zero, List.getElem_cons_succ, List.setIfInBounds_toArray, List.set_cons_zero, List.set_cons_succ]
            refine wpAnyH_take (i := 14) (v := ?_) rfl (by kernel_rfl) (by kernel_rfl) (by kernel_rfl) (fun _ _ _ h => h) (Or.inl ⟨by kernel_rfl, ?_⟩) hH0 ?_
            rotate_left 1
            · intro w hSw
              have f0 := (hSw.cell (p := ⟨g, i, none⟩) hgr).trans l0
              have f1 := (hSw.cell (p := ⟨g, k, none⟩) hgr).trans l1
              go_simp
              try with_reducible rfl
            try simp only [Act.put, List.getElem_toArray, List.getElem_cons_zero, List.getElem_cons_succ, List.setIfInBounds_toArray, List.set_cons_zero, List.set_cons_succ]
            refine wpAnyH_take (i := 15) (v := ?_) rfl (by kernel_rfl) (by kernel_rfl) (by kernel_rfl) (fun _ _ _ h => h) (Or.inl ⟨by kernel_rfl, ?_⟩) hH0 ?_
            rotate_left 1
            · intro w hSw
              go_simp
              try with_reducible rfl
            try simp only [Act.put, List.getElem_toArray, List.getElem_cons_zero, List.getElem_cons_succ, List.setIfInBounds_toArray, List.set_cons_zero, List.set_cons_succ]
            refine wpAnyH_ready (rs := [6]) (by kernel_rfl) (by simp) ?_
            refine AllReadyH.cons rfl (fun K_ hK => ?_) ?_
            · go_simp
              refine (fits_any K m (i : Int) (ti) _ (HL0.out.below hH0) ((Hm0.out.below hH0 (Nat.le_refl _)).more (hH0).size) (by omega) (by omega) (by omega)).mono ?_
              rintro e W1 ⟨rfl, hb1⟩
              rw [hf]
              refine hK.out _ _ ((hH0).trans (hb1.mono (hH0).size)) (fun hH1 => ?_)
              clear hK K_
              try simp only [Act.put, List.getElem_toArray, List.getElem_cons_zero, List.getElem_cons_succ, List.setIfInBounds_toArray, List.set_cons_zero, List.set_cons_succ]
              refine wpAnyH_take (i := 16) (v := ?_) rfl (by kernel_rfl) (by kernel_rfl) (by kernel_rfl) (fun _ _ _ h => h) (Or.inl ⟨by kernel_rfl, ?_⟩) hH1 ?_
              rotate_left 1
              · intro w hSw
                go_simp
                try with_reducible rfl
              try simp only [Act.put, List.getElem_toArray, List.getElem_cons_zero, List.getElem_cons_succ, List.setIfInBounds_toArray, List.set_cons_zero, List.set_cons_succ]
              refine wpAnyH_take (i := 17) (v := ?_) rfl (by kernel_rfl) (by kernel_rfl) (by kernel_rfl) (fun _ _ _ h => h) (Or.inl ⟨by kernel_rfl, ?_⟩) hH1 ?_
              rotate_left 1
              · intro w hSw
                go_simp
                try with_reducible rfl
              try simp only [Act.put, List.getElem_toArray, List.getElem_cons_zero, List.getElem_cons_succ, List.setIfInBounds_toArray, List.set_cons_zero, List.set_cons_succ]
              refine wpAnyH_take (i := 18) (v := undef) rfl (by kernel_rfl) (by kernel_rfl) (by kernel_rfl) (fun _ _ _ h => h) (Or.inr ⟨by kernel_rfl, rfl⟩) hH1 ?_
              try simp only [Act.put, List.getElem_toArray, List.getElem_cons_zero, List.getElem_cons_succ, List.setIfInBounds_toArray, List.set_cons_zero, List.set_cons_succ]
              refine wpAnyH_take (i := 19) (v := undef) rfl (by kernel_rfl) (by kernel_rfl) (by kernel_rfl) (fun _ _ _ h => h) (Or.inr ⟨by kernel_rfl, rfl⟩) hH1 ?_
              try simp only [Act.put, List.getElem_toArray, List.getElem_cons_zero, List.getElem_cons_succ, List.setIfInBounds_toArray, List.set_cons_zero, List.set_cons_succ]
              refine wpAnyH_take (i := 20) (v := undef) rfl (by kernel_rfl) (by kernel_rfl) (by kernel_rfl) (fun _ _ _ h => h) (Or.inr ⟨by kernel_rfl, rfl⟩) hH1 ?_
              try simp only [Act.put, List.getElem_toArray, List.getElem_cons_zero, List.getElem_cons_succ, List.setIfInBounds_toArray, List.set_cons_zero, List.set_cons_succ]
              refine wpAnyH_take (i := 21) (v := undef) rfl (by kernel_rfl) (by kernel_rfl) (by kernel_rfl) (fun _ _ _ h => h) (Or.inr ⟨by kernel_rfl, rfl⟩) hH1 ?_
              try simp only [Act.put, List.getElem_toArray, List.getElem_cons_zero, List.getElem_cons_succ, List.setIfInBounds_toArray, List.set_cons_zero, List.set_cons_succ]
              refine wpAnyH_take (i := 22) (v := undef) rfl (by kernel_rfl) (by kernel_rfl) (by kernel_rfl) (fun _ _ _ h => h) (Or.inr ⟨by kernel_rfl, rfl⟩) hH1 ?_
              try simp only [Act.put, List.getElem_toArray, List.getElem_cons_zero, List.getElem_cons_succ, List.setIfInBounds_toArray, List.set_cons_zero, List.set_cons_succ]
              refine wpAnyH_take (i := 23) (v := undef) rfl (by kernel_rfl) (by kernel_rfl) (by kernel_rfl) (fun _ _ _ h => h) (Or.inr ⟨by kernel_rfl, rfl⟩) hH1 ?_
              try simp only [Act.put, List.getElem_toArray, List.getElem_cons_zero, List.getElem_cons_succ, List.setIfInBounds_toArray, List.set_cons_zero, List.set_cons_succ]
              refine wpAnyH_take (i := 24) (v := undef) rfl (by kernel_rfl) (by kernel_rfl) (by kernel_rfl) (fun _ _ _ h => h) (Or.inr ⟨by kernel_rfl, rfl⟩) hH1 ?_
              try simp only [Act.put, List.getElem_toArray, List.getElem_cons_zero, List.getElem_cons_succ, List.setIfInBounds_toArray, List.set_cons_zero, List.set_cons_succ]
              refine wpAnyH_take (i := 25) (v := undef) rfl (by kernel_rfl) (by kernel_rfl) (by kernel_rfl) (fun _ _ _ h => h) (Or.inr ⟨by kernel_rfl, rfl⟩) hH1 ?_
              try simp only [Act.put, List.getElem_toArray, List.getElem_cons_zero, List.getElem_cons_succ, List.setIfInBounds_toArray, List.set_cons_zero, List.set_cons_succ]
              refine wpAnyH_take (i := 26) (v := undef) rfl (by kernel_rfl) (by kernel_rfl) (by kernel_rfl) (fun _ _ _ h => h) (Or.inr ⟨by kernel_rfl, rfl⟩) hH1 ?_
              try simp only [Act.put, List.getElem_toArray, List.getElem_cons_zero, List.getElem_cons_succ, List.setIfInBounds_toArray, List.set_cons_zero, List.set_cons_succ]
              refine wpAnyH_take (i := 27) (v := undef) rfl (by kernel_rfl) (by kernel_rfl) (by kernel_rfl) (fun _ _ _ h => h) (Or.inr ⟨by kernel_rfl, rfl⟩) hH1 ?_
              try simp only [Act.put, List.getElem_toArray, List.getElem_cons_zero, List.getElem_cons_succ, List.setIfInBounds_toArray, List.set_cons_zero, List.set_cons_succ]
              refine wpAnyH_take (i := 28) (v := undef) rfl (by kernel_rfl) (by kernel_rfl) (by kernel_rfl) (fun _ _ _ h => h) (Or.inr ⟨by kernel_rfl, rfl⟩) hH1 ?_
              try simp only [Act.put, List.getElem_toArray, List.getElem_cons_zero, List.getElem_cons_succ, List.setIfInBounds_toArray, List.set_cons_zero, List.set_cons_succ]
              refine wpAnyH_take (i := 29) (v := undef) rfl (by kernel_rfl) (by kernel_rfl) (by kernel_rfl) (fun _ _ _ h => h) (Or.inr ⟨by kernel_rfl, rfl⟩) hH1 ?_
              try simp only [Act.put, List.getElem_toArray, List.getElem_cons_zero, List.getElem_cons_succ, List.setIfInBounds_toArray, List.set_cons_zero, List.set_cons_succ]
              refine wpAnyH_take (i := 30) (v := undef) rfl (by kernel_rfl) (by kernel_rfl) (by kernel_rfl) (fun _ _ _ h => h) (Or.inr ⟨by kernel_rfl, rfl⟩) hH1 ?_
              try simp only [Act.put, List.getElem_toArray, List.getElem_cons_zero, List.getElem_cons_succ, List.setIfInBounds_toArray, List.set_cons_zero, List.set_cons_succ]
              refine wpAnyH_take (i := 31) (v := undef) rfl (by kernel_rfl) (by kernel_rfl) (by kernel_rfl) (fun _ _ _ h => h) (Or.inr ⟨by kernel_rfl, rfl⟩) hH1 ?_
              try simp only [Act.put, List.getElem_toArray, List.getElem_cons_zero, List.getElem_cons_succ, List.setIfInBounds_toArray, List.set_cons_zero, List.set_cons_succ]
              refine wpAnyH_take (i := 32) (v := undef) rfl (by kernel_rfl) (by kernel_rfl) (by kernel_rfl) (fun _ _ _ h => h) (Or.inr ⟨by kernel_rfl, rfl⟩) hH1 ?_
              try simp only [Act.put, List.getElem_toArray, List.getElem_cons_zero, List.getElem_cons_succ, List.setIfInBounds_toArray, List.set_cons_zero, List.set_cons_succ]
              refine wpAnyH_take (i := 33) (v := undef) rfl (by kernel_rfl) (by kernel_rfl) (by kernel_rfl) (fun _ _ _ h => h) (Or.inr ⟨by kernel_rfl, rfl⟩) hH1 ?_
              try simp only [Act.put, List.getElem_toArray, List.getElem_cons_zero, List.getElem_cons_succ, List.setIfInBounds_toArray, List.set_cons_zero, List.set_cons_succ]
              refine wpAnyH_take (i := 34) (v := undef) rfl (by kernel_rfl) (by kernel_rfl) (by kernel_rfl) (fun _ _ _ h => h) (Or.inr ⟨by kernel_rfl, rfl⟩) hH1 ?_
              try simp only [Act.put, List.getElem_toArray, List.getElem_cons_zero, List.getElem_cons_succ, List.setIfInBounds_toArray, List.set_cons_zero, List.set_cons_succ]
              refine wpAnyH_take (i := 35) (v := undef) rfl (by kernel_rfl) (by kernel_rfl) (by kernel_rfl) (fun _ _ _ h => h) (Or.inr ⟨by kernel_rfl, rfl⟩) hH1 ?_
              try simp only [Act.put, List.getElem_toArray, List.getElem_cons_zero, List.getElem_cons_succ, List.setIfInBounds_toArray, List.set_cons_zero, List.set_cons_succ]
              refine wpAnyH_take (i := 36) (v := undef) rfl (by kernel_rfl) (by kernel_rfl) (by kernel_rfl) (fun _ _ _ h => h) (Or.inr ⟨by kernel_rfl, rfl⟩) hH1 ?_
              try simp only [Act.put, List.getElem_toArray, List.getElem_cons_zero, List.getElem_cons_succ, List.setIfInBounds_toArray, List.set_cons_zero, List.set_cons_succ]
              refine wpAnyH_take (i := 37) (v := undef) rfl (by kernel_rfl) (by kernel_rfl) (by kernel_rfl) (fun _ _ _ h => h) (Or.inr ⟨by kernel_rfl, rfl⟩) hH1 ?_
              try simp only [Act.put, List.getElem_toArray, List.getElem_cons_zero, List.getElem_cons_succ, List.setIfInBounds_toArray, List.set_cons_zero, List.set_cons_succ]
              refine wpAnyH_take (i := 38) (v := undef) rfl (by kernel_rfl) (by kernel_rfl) (by kernel_rfl) (fun _ _ _ h => h) (Or.inr ⟨by kernel_rfl, rfl⟩) hH1 ?_
              try simp only [Act.put, List.getElem_toArray, List.getElem_cons_zero, List.getElem_cons_succ, List.setIfInBounds_toArray, List.set_cons_zero, List.set_cons_succ]
              refine wpAnyH_take (i := 39) (v := undef) rfl (by kernel_rfl) (by kernel_rfl) (by kernel_rfl) (fun _ _ _ h => h) (Or.inr ⟨by kernel_rfl, rfl⟩) hH1 ?_
              try simp only [Act.put, List.getElem_toArray, List.getElem_cons_zero, List.getElem_cons_succ, List.setIfInBounds_toArray, List.set_cons_zero, List.set_cons_succ]
              refine wpAnyH_take (i := 40) (v := undef) rfl (by kernel_rfl) (by kernel_rfl) (by kernel_rfl) (fun _ _ _ h => h) (Or.inr ⟨by kernel_rfl, rfl⟩) hH1 ?_
              try simp only [Act.put, List.getElem_toArray, List.getElem_cons_zero, List.getElem_cons_succ, List.setIfInBounds_toArray, List.set_cons_zero, List.set_cons_succ]
              refine wpAnyH_take (i := 41) (v := undef) rfl (by kernel_rfl) (by kernel_rfl) (by kernel_rfl) (fun _ _ _ h => h) (Or.inr ⟨by kernel_rfl, rfl⟩) hH1 ?_
              try simp only [Act.put, List.getElem_toArray, List.getElem_cons_zero, List.getElem_cons_succ, List.setIfInBounds_toArray, List.set_cons_zero, List.set_cons_succ]
              refine wpAnyH_take (i := 42) (v := ?_) rfl (by kernel_rfl) (by kernel_rfl) (by kernel_rfl) (fun _ _ _ h => h) (Or.inl ⟨by kernel_rfl, ?_⟩) hH1 ?_
              rotate_left 1
              · intro w hSw
                go_simp
                try with_reducible rfl
              try simp only [Act.put, List.getElem_toArray, List.getElem_cons_zero, List.getElem_cons_succ, List.setIfInBounds_toArray, List.set_cons_zero, List.set_cons_succ]
              refine wpAnyH_done (by kernel_rfl) ?_ _
              have HH := Lib.hid hH1
              clear hH1
              go_wp2_with fail
              go_roundw
              case rel => exact ⟨k + 1, by omega, by go_num, HBk.out.trans (HH.out.mono HBk.out.size)⟩
              case measure => simp [intOf]; omega
            exact AllReadyH.nil
          · have hne : (ti == tk) = false := by simpa using heq
            cases hfb : fitsS K m (i : Int) tk with
            | false =>
              have hf := hfb
              clear hfv hfb
              go_upto_region 17 with fail
              refine wp_region_held_drew (S := fun w' => Below wr.heap.size wr w') (by kernel_rfl) ((Below.refl _ _).drew) (fun hH0 => ?_)
              obtain ⟨W0, hW0⟩ : ∃ W, W = wr.drew := ⟨_, rfl⟩
              rw [← hW0] at hH0 ⊢
              clear hW0
              refine wpAnyH_take (i := 0) (v := _) rfl (by kernel_rfl) (by kernel_rfl) (by kernel_rfl) (fun _ _ _ h => h) (yieldsIf_load_mid (by kernel_rfl) _ _ rfl _ _ rfl m.cells _ (fun W hW => range_below rm_ hW hpr) mund rfl minfo) hH0 ?_
              try simp only [Act.put, List.getElem_toArray, List.getElem_cons_zero, List.getElem_cons_succ, List.setIfInBounds_toArray, List.set_cons_zero, List.set_cons_succ]
              refine wpAnyH_take (i := 1) (v := ?_) rfl (by kernel_rfl) (by kernel_rfl) (by kernel_rfl) (fun _ _ _ h => h) (Or.inl ⟨by kernel_rfl, ?_⟩) hH0 ?_
              rotate_left 1
              · intro w hSw
                go_simp
                try with_reducible rfl
              try simp only [Act.put, List.getElem_toArray, List.getElem_cons_zero, List.getElem_cons_succ, List.setIfInBounds_toArray, List.set_cons_zero, List.set_cons_succ]
              refine wpAnyH_take (i := 2) (v := ?_) rfl (by kernel_rfl) (by kernel_rfl) (by kernel_rfl) (fun _ _ _ h => h) (Or.inl ⟨by kernel_rfl, ?_⟩) hH0 ?_
              rotate_left 1
              · intro w hSw
                go_simp
                try with_reducible rfl
              try simp only [Act.put, List.getElem_toArray, List.getElem_cons_zero, List.getElem_cons_succ, List.setIfInBounds_toArray, List.set_cons_zero, List.set_cons_succ]
              refine wpAnyH_take (i := 3) (v := ?_) rfl (by kernel_rfl) (by kernel_rfl) (by kernel_rfl) (fun _ _ _ h => h) (Or.inl ⟨by kernel_rfl, ?_⟩) hH0 ?_
              rotate_left 1
              · intro w hSw
                go_simp
                try with_reducible rfl
              try simp only [Act.put, List.getElem_toArray, List.getElem_cons_zero, List.getElem_cons_succ, List.setIfInBounds_toArray, List.set_cons_zero, List.set_cons_succ]
              refine wpAnyH_take (i := 4) (v := ?_) rfl (by kernel_rfl) (by kernel_rfl) (by kernel_rfl) (fun _ _ _ h => h) (Or.inl ⟨by kernel_rfl, ?_⟩) hH0 ?_
              rotate_left 1
              · intro w hSw
                go_simp
                try with_reducible rfl
              try simp only [Act.put, List.getElem_toArray, List.getElem_cons_zero, List.getElem_cons_succ, List.setIfInBounds_toArray, List.set_cons_zero, List.set_cons_succ]
              refine wpAnyH_take (i := 5) (v := ?_) rfl (by kernel_rfl) (by kernel_rfl) (by kernel_rfl) (fun _ _ _ h => h) (Or.inl ⟨by kernel_rfl, ?_⟩) hH0 ?_
              rotate_left 1
              · intro w hSw
                have f0 := (hSw.cell (p := ⟨g, i, none⟩) hgr).trans l0
                have f1 := (hSw.cell (p := ⟨g, k, none⟩) hgr).trans l1
                go_simp
                try with_reducible rfl
              try simp only [Act.put, List.getElem_toArray, List.getElem_cons_zero, List.getElem_cons_succ, List.setIfInBounds_toArray, List.set_cons_zero, List.set_cons_succ]
              refine wpAnyH_take (i := 7) (v := ?_) rfl (by kernel_rfl) (by kernel_rfl) (by kernel_rfl) (fun _ _ _ h => h) (Or.inl ⟨by kernel_rfl, ?_⟩) hH0 ?_
              rotate_left 1
              · intro w hSw
                go_simp
                try with_reducible rfl
              try simp only [Act.put, List.getElem_toArray, List.getElem_cons_zero, List.getElem_cons_succ, List.setIfInBounds_toArray, List.set_cons_zero, List.set_cons_succ]
              refine wpAnyH_take (i := 8) (v := ?_) rfl (by kernel_rfl) (by kernel_rfl) (by kernel_rfl) (fun _ _ _ h => h) (Or.inl ⟨by kernel_rfl, ?_⟩) hH0 ?_
              rotate_left 1
              · intro w hSw
                go_simp
                try with_reducible rfl
              try simp only [Act.put, List.getElem_toArray, List.getElem_cons_zero, List.getElem_cons_succ, List.setIfInBounds_toArray, List.set_cons_zero, List.set_cons_succ]
              refine wpAnyH_take (i := 9) (v := ?_) rfl (by kernel_rfl) (by kernel_rfl) (by kernel_rfl) (fun _ _ _ h => h) (Or.inl ⟨by kernel_rfl, ?_⟩) hH0 ?_
              rotate_left 1
              · intro w hSw
                go_simp
                try with_reducible rfl
              try simp only [Act.put, List.getElem_toArray, List.getElem_cons_zero, List.getElem_cons_succ, List.setIfInBounds_toArray, List.set_cons_zero, List.set_cons_succ]
              refine wpAnyH_take (i := 10) (v := ?_) rfl (by kernel_rfl) (by kernel_rfl) (by kernel_rfl) (fun _ _ _ h => h) (Or.inl ⟨by kernel_rfl, ?_⟩) hH0 ?_
              rotate_left 1
              · intro w hSw
                have f0 := (hSw.cell (p := ⟨g, i, none⟩) hgr).trans l0
                have f1 := (hSw.cell (p := ⟨g, k, none⟩) hgr).trans l1
                go_simp
                try with_reducible rfl
              try simp only [Act.put, List.getElem_toArray, List.getElem_cons_zero, List.getElem_cons_succ, List.setIfInBounds_toArray, List.set_cons_zero, List.set_cons_succ]
              refine wpAnyH_take (i := 11) (v := ?_) rfl (by kernel_rfl) (by kernel_rfl) (by kernel_rfl) (fun _ _ _ h => h) (Or.inl ⟨by kernel_rfl, ?_⟩) hH0 ?_
              rotate_left 1
              · intro w hSw
                go_simp
                try with_reducible rfl
              try simp only [Act.put, List.getElem_toArray, List.getElem_cons_zero, List.getElem_cons_succ, List.setIfInBounds_toArray, List.set_cons_zero, List.set_cons_succ]
              refine wpAnyH_take (i := 12) (v := ?_) rfl (by kernel_rfl) (by kernel_rfl) (by kernel_rfl) (fun _ _ _ h => h) (Or.inl ⟨by kernel_rfl, ?_⟩) hH0 ?_
              rotate_left 1
              · intro w hSw
                go_simp
                try with_reducible rfl
              try simp only [Act.put, List.getElem_toArray, List.getElem_cons_zero, List.getElem_cons_succ, List.setIfInBounds_toArray, List.set_cons_zero, List.set_cons_succ]
              refine wpAnyH_take (i := 13) (v := ?_) rfl (by kernel_rfl) (by kernel_rfl) (by kernel_rfl) (fun _ _ _ h => h) (Or.inl ⟨by kernel_rfl, ?_⟩) hH0 ?_
              rotate_left 1
              · intro w hSw
                go_simp
                try with_reducible rfl
              try simp only [Act.put, List.getElem_toArray, List.getElem_cons_zero, List.getElem_cons_succ, List.setIfInBounds_toArray, List.set_cons_zero, List.set_cons_succ]
              refine wpAnyH_take (i := 14) (v := ?_) rfl (by kernel_rfl) (by kernel_rfl) (by kernel_rfl) (fun _ _ _ h => h) (Or.inl ⟨by kernel_rfl, ?_⟩) hH0 ?_
              rotate_left 1
              · intro w hSw
                have f0 := (hSw.cell (p := ⟨g, i, none⟩) hgr).trans l0
                have f1 := (hSw.cell (p := ⟨g, k, none⟩) hgr).trans l1
                go_simp
                try with_reducible rfl
              try simp only [Act.put, List.getElem_toArray, List.getElem_cons_zero, List.getElem_cons_succ, List.setIfInBounds_toArray, List.set_cons_zero, List.set_cons_succ]
              refine wpAnyH_take (i := 15) (v := ?_) rfl (by kernel_rfl) (by kernel_rfl) (by kernel_rfl) (fun _ _ _ h => h) (Or.inl ⟨by kernel_rfl, ?_⟩) hH0 ?_
              rotate_left 1
              · intro w hSw
                go_simp
                try with_reducible rfl
              try simp only [Act.put, List.getElem_toArray, List.getElem_cons_zero, List.getElem_cons_succ, List.setIfInBounds_toArray, List.set_cons_zero, List.set_cons_succ]
              refine wpAnyH_ready (rs := [6]) (by kernel_rfl) (by simp) ?_
              refine AllReadyH.cons rfl (fun K_ hK => ?_) ?_
              · go_simp
                refine (fits_any K m (i : Int) (tk) _ (HL0.out.below hH0) ((Hm0.out.below hH0 (Nat.le_refl _)).more (hH0).size) (by omega) (by omega) (by omega)).mono ?_
                rintro e W1 ⟨rfl, hb1⟩
                rw [hf]
                refine hK.out _ _ ((hH0).trans (hb1.mono (hH0).size)) (fun hH1 => ?_)
                clear hK K_
                try simp only [Act.put, List.getElem_toArray, List.getElem_cons_zero, List.getElem_cons_succ, List.setIfInBounds_toArray, List.set_cons_zero, List.set_cons_succ]
                refine wpAnyH_take (i := 16) (v := ?_) rfl (by kernel_rfl) (by kernel_rfl) (by kernel_rfl) (fun _ _ _ h => h) (Or.inl ⟨by kernel_rfl, ?_⟩) hH1 ?_
                rotate_left 1
                · intro w hSw
                  go_simp
                  try with_reducible rfl
                try simp only [Act.put, List.getElem_toArray, List.getElem_cons_zero, List.getElem_cons_succ, List.setIfInBounds_toArray, List.set_cons_zero, List.set_cons_succ]
                refine wpAnyH_take (i := 17) (v := ?_) rfl (by kernel_rfl) (by kernel_rfl) (by kernel_rfl) (fun _ _ _ h => h) (Or.inl ⟨by kernel_rfl, ?_⟩) hH1 ?_
                rotate_left 1
                · intro w hSw
                  go_simp
                  try with_reducible rfl
                try simp only [Act.put, List.getElem_toArray, List.getElem_cons_zero, List.getElem_cons_succ, List.setIfInBounds_toArray, List.set_cons_zero, List.set_cons_succ]
                refine wpAnyH_take (i := 18) (v := undef) rfl (by kernel_rfl) (by kernel_rfl) (by kernel_rfl) (fun _ _ _ h => h) (Or.inr ⟨by kernel_rfl, rfl⟩) hH1 ?_
                try simp only [Act.put, List.getElem_toArray, List.getElem_cons_zero, List.getElem_cons_succ, List.setIfInBounds_toArray, List.set_cons_zero, List.set_cons_succ]
                refine wpAnyH_take (i := 19) (v := undef) rfl (by kernel_rfl) (by kernel_rfl) (by kernel_rfl) (fun _ _ _ h => h) (Or.inr ⟨by kernel_rfl, rfl⟩) hH1 ?_
                try simp only [Act.put, List.getElem_toArray, List.getElem_cons_zero, List.getElem_cons_succ, List.setIfInBounds_toArray, List.set_cons_zero, List.set_cons_succ]
                refine wpAnyH_take (i := 20) (v := undef) rfl (by kernel_rfl) (by kernel_rfl) (by kernel_rfl) (fun _ _ _ h => h) (Or.inr ⟨by kernel_rfl, rfl⟩) hH1 ?_
                try simp only [Act.put, List.getElem_toArray, List.getElem_cons_zero, List.getElem_cons_succ, List.setIfInBounds_toArray, List.set_cons_zero, List.set_cons_succ]
                refine wpAnyH_take (i := 21) (v := undef) rfl (by kernel_rfl) (by kernel_rfl) (by kernel_rfl) (fun _ _ _ h => h) (Or.inr ⟨by kernel_rfl, rfl⟩) hH1 ?_
                try simp only [Act.put, List.getElem_toArray, List.getElem_cons_zero, List.getElem_cons_succ, List.setIfInBounds_toArray, List.set_cons_zero, List.set_cons_succ]
                refine wpAnyH_take (i := 22) (v := undef) rfl (by kernel_rfl) (by kernel_rfl) (by kernel_rfl) (fun _ _ _ h => h) (Or.inr ⟨by kernel_rfl, rfl⟩) hH1 ?_
                try simp only [Act.put, List.getElem_toArray, List.getElem_cons_zero, List.getElem_cons_succ, List.setIfInBounds_toArray, List.set_cons_zero, List.set_cons_succ]
                refine wpAnyH_take (i := 23) (v := undef) rfl (by kernel_rfl) (by kernel_rfl) (by kernel_rfl) (fun _ _ _ h => h) (Or.inr ⟨by kernel_rfl, rfl⟩) hH1 ?_
                try simp only [Act.put, List.getElem_toArray, List.getElem_cons_zero, List.getElem_cons_succ, List.setIfInBounds_toArray, List.set_cons_zero, List.set_cons_succ]
                refine wpAnyH_take (i := 24) (v := undef) rfl (by kernel_rfl) (by kernel_rfl) (by kernel_rfl) (fun _ _ _ h => h) (Or.inr ⟨by kernel_rfl, rfl⟩) hH1 ?_
                try simp only [Act.put, List.getElem_toArray, List.getElem_cons_zero, List.getElem_cons_succ, List.setIfInBounds_toArray, List.set_cons_zero, List.set_cons_succ]
                refine wpAnyH_take (i := 25) (v := undef) rfl (by kernel_rfl) (by kernel_rfl) (by kernel_rfl) (fun _ _ _ h => h) (Or.inr ⟨by kernel_rfl, rfl⟩) hH1 ?_
                try simp only [Act.put, List.getElem_toArray, List.getElem_cons_zero, List.getElem_cons_succ, List.setIfInBounds_toArray, List.set_cons_zero, List.set_cons_succ]
                refine wpAnyH_take (i := 26) (v := undef) rfl (by kernel_rfl) (by kernel_rfl) (by kernel_rfl) (fun _ _ _ h => h) (Or.inr ⟨by kernel_rfl, rfl⟩) hH1 ?_
                try simp only [Act.put, List.getElem_toArray, List.getElem_cons_zero, List.getElem_cons_succ, List.setIfInBounds_toArray, List.set_cons_zero, List.set_cons_succ]
                refine wpAnyH_take (i := 27) (v := undef) rfl (by kernel_rfl) (by kernel_rfl) (by kernel_rfl) (fun _ _ _ h => h) (Or.inr ⟨by kernel_rfl, rfl⟩) hH1 ?_
                try simp only [Act.put, List.getElem_toArray, List.getElem_cons_zero, List.getElem_cons_succ, List.setIfInBounds_toArray, List.set_cons_zero, List.set_cons_succ]
                refine wpAnyH_take (i := 28) (v := undef) rfl (by kernel_rfl) (by kernel_rfl) (by kernel_rfl) (fun _ _ _ h => h) (Or.inr ⟨by kernel_rfl, rfl⟩) hH1 ?_
                try simp only [Act.put, List.getElem_toArray, List.getElem_cons_zero, List.getElem_cons_succ, List.setIfInBounds_toArray, List.set_cons_zero, List.set_cons_succ]
                refine wpAnyH_take (i := 29) (v := undef) rfl (by kernel_rfl) (by kernel_rfl) (by kernel_rfl) (fun _ _ _ h => h) (Or.inr ⟨by kernel_rfl, rfl⟩) hH1 ?_
                try simp only [Act.put, List.getElem_toArray, List.getElem_cons_zero, List.getElem_cons_succ, List.setIfInBounds_toArray, List.set_cons_zero, List.set_cons_succ]
                refine wpAnyH_take (i := 30) (v := undef) rfl (by kernel_rfl) (by kernel_rfl) (by kernel_rfl) (fun _ _ _ h => h) (Or.inr ⟨by kernel_rfl, rfl⟩) hH1 ?_
                try simp only [Act.put, List.getElem_toArray, List.getElem_cons_zero, List.getElem_cons_succ, List.setIfInBounds_toArray, List.set_cons_zero, List.set_cons_succ]
                refine wpAnyH_take (i := 31) (v := undef) rfl (by kernel_rfl) (by kernel_rfl) (by kernel_rfl) (fun _ _ _ h => h) (Or.inr ⟨by kernel_rfl, rfl⟩) hH1 ?_
                try simp only [Act.put, List.getElem_toArray, List.getElem_cons_zero, List.getElem_cons_succ, List.setIfInBounds_toArray, List.set_cons_zero, List.set_cons_succ]
                refine wpAnyH_take (i := 32) (v := undef) rfl (by kernel_rfl) (by kernel_rfl) (by kernel_rfl) (fun _ _ _ h => h) (Or.inr ⟨by kernel_rfl, rfl⟩) hH1 ?_
                try simp only [Act.put, List.getElem_toArray, List.getElem_cons_zero, List.getElem_cons_succ, List.setIfInBounds_toArray, List.set_cons_zero, List.set_cons_succ]
                refine wpAnyH_take (i := 33) (v := undef) rfl (by kernel_rfl) (by kernel_rfl) (by kernel_rfl) (fun _ _ _ h => h) (Or.inr ⟨by kernel_rfl, rfl⟩) hH1 ?_
                try simp only [Act.put, List.getElem_toArray, List.getElem_cons_zero, List.getElem_cons_succ, List.setIfInBounds_toArray, List.set_cons_zero, List.set_cons_succ]
                refine wpAnyH_take (i := 34) (v := undef) rfl (by kernel_rfl) (by kernel_rfl) (by kernel_rfl) (fun _ _ _ h => h) (Or.inr ⟨by kernel_rfl, rfl⟩) hH1 ?_
                try simp only [Act.put, List.getElem_toArray, List.getElem_cons_zero, List.getElem_cons_succ, List.setIfInBounds_toArray, List.set_cons_zero, List.set_cons_succ]
                refine wpAnyH_take (i := 35) (v := undef) rfl (by kernel_rfl) (by kernel_rfl) (by kernel_rfl) (fun _ _ _ h => h) (Or.inr ⟨by kernel_rfl, rfl⟩) hH1 ?_
                try simp only [Act.put, List.getElem_toArray, List.getElem_cons_zero, List.getElem_cons_succ, List.setIfInBounds_toArray, List.set_cons_zero, List.set_cons_succ]
                refine wpAnyH_take (i := 36) (v := undef) rfl (by kernel_rfl) (by kernel_rfl) (by kernel_rfl) (fun _ _ _ h => h) (Or.inr ⟨by kernel_rfl, rfl⟩) hH1 ?_
                try simp only [Act.put, List.getElem_toArray, List.getElem_cons_zero, List.getElem_cons_succ, List.setIfInBounds_toArray, List.set_cons_zero, List.set_cons_succ]
                refine wpAnyH_take (i := 37) (v := undef) rfl (by kernel_rfl) (by kernel_rfl) (by kernel_rfl) (fun _ _ _ h => h) (Or.inr ⟨by kernel_rfl, rfl⟩) hH1 ?_
                try simp only [Act.put, List.getElem_toArray, List.getElem_cons_zero, List.getElem_cons_succ, List.setIfInBounds_toArray, List.set_cons_zero, List.set_cons_succ]
                refine wpAnyH_take (i := 38) (v := undef) rfl (by kernel_rfl) (by kernel_rfl) (by kernel_rfl) (fun _ _ _ h => h) (Or.inr ⟨by kernel_rfl, rfl⟩) hH1 ?_
                try simp only [Act.put, List.getElem_toArray, List.getElem_cons_zero, List.getElem_cons_succ, List.setIfInBounds_toArray, List.set_cons_zero, List.set_cons_succ]
                refine wpAnyH_take (i := 39) (v := undef) rfl (by kernel_rfl) (by kernel_rfl) (by kernel_rfl) (fun _ _ _ h => h) (Or.inr ⟨by kernel_rfl, rfl⟩) hH1 ?_
                try simp only [Act.put, List.getElem_toArray, List.getElem_cons_zero, List.getElem_cons_succ, List.setIfInBounds_toArray, List.set_cons_zero, List.set_cons_succ]
                refine wpAnyH_take (i := 40) (v := undef) rfl (by kernel_rfl) (by kernel_rfl) (by kernel_rfl) (fun _ _ _ h => h) (Or.inr ⟨by kernel_rfl, rfl⟩) hH1 ?_
                try simp only [Act.put, List.getElem_toArray, List.getElem_cons_zero, List.getElem_cons_succ, List.setIfInBounds_toArray, List.set_cons_zero, List.set_cons_succ]
                refine wpAnyH_take (i := 41) (v := undef) rfl (by kernel_rfl) (by kernel_rfl) (by kernel_rfl) (fun _ _ _ h => h) (Or.inr ⟨by kernel_rfl, rfl⟩) hH1 ?_
                try simp only [Act.put, List.getElem_toArray, List.getElem_cons_zero, List.getElem_cons_succ, List.setIfInBounds_toArray, List.set_cons_zero, List.set_cons_succ]
                refine wpAnyH_take (i := 42) (v := ?_) rfl (by kernel_rfl) (by kernel_rfl) (by kernel_rfl) (fun _ _ _ h => h) (Or.inl ⟨by kernel_rfl, ?_⟩) hH1 ?_
                rotate_left 1
                · intro w hSw
                  go_simp
                  try with_reducible rfl
                try simp only [Act.put, List.getElem_toArray, List.getElem_cons_zero, List.getElem_cons_succ, List.setIfInBounds_toArray, List.set_cons_zero, List.set_cons_succ]
                refine wpAnyH_done (by kernel_rfl) ?_ _
                have HH := Lib.hid hH1
                clear hH1
                go_wp2_with fail
                go_roundw
                case rel => exact ⟨k + 1, by omega, by go_num, HBk.out.trans (HH.out.mono HBk.out.size)⟩
                case measure => simp [intOf]; omega
              exact AllReadyH.nil
            | true =>
              have hf := hfb
              have hh : hashB K ti = hashB K tk := by
                rw [hfv] at hfb
                simp at hfb
                exact hfb.2.symm
              have heqd : ∀ W : World, (Op.equalIn 10000 24 (.agg (digV (hashB K ti))) (.agg (digV (hashB K tk)))).run Tryd.prog W = .ok true W := fun W => by
                have := eqIn_dig W (hashB K ti) (hashB K tk) (hashB_length K ti) (hashB_length K tk)
                rw [this, hh]; simp
              clear hfv hfb hh
              go_upto_region 17 with fail
              refine wp_region_held_drew (S := fun w' => Below wr.heap.size wr w') (by kernel_rfl) ((Below.refl _ _).drew) (fun hH0 => ?_)
              obtain ⟨W0, hW0⟩ : ∃ W, W = wr.drew := ⟨_, rfl⟩
              rw [← hW0] at hH0 ⊢
              clear hW0
              refine wpAnyH_take (i := 0) (v := _) rfl (by kernel_rfl) (by kernel_rfl) (by kernel_rfl) (fun _ _ _ h => h) (yieldsIf_load_mid (by kernel_rfl) _ _ rfl _ _ rfl m.cells _ (fun W hW => range_below rm_ hW hpr) mund rfl minfo) hH0 ?_
              try simp only [Act.put, List.getElem_toArray, List.getElem_cons_zero, List.getElem_cons_succ, List.setIfInBounds_toArray, List.set_cons_zero, List.set_cons_succ]
              refine wpAnyH_take (i := 1) (v := ?_) rfl (by kernel_rfl) (by kernel_rfl) (by kernel_rfl) (fun _ _ _ h => h) (Or.inl ⟨by kernel_rfl, ?_⟩) hH0 ?_
              rotate_left 1
              · intro w hSw
                go_simp
                try with_reducible rfl
              try simp only [Act.put, List.getElem_toArray, List.getElem_cons_zero, List.getElem_cons_succ, List.setIfInBounds_toArray, List.set_cons_zero, List.set_cons_succ]
              refine wpAnyH_take (i := 2) (v := ?_) rfl (by kernel_rfl) (by kernel_rfl) (by kernel_rfl) (fun _ _ _ h => h) (Or.inl ⟨by kernel_rfl, ?_⟩) hH0 ?_
              rotate_left 1
              · intro w hSw
                go_simp
                try with_reducible rfl
              try simp only [Act.put, List.getElem_toArray, List.getElem_cons_zero, List.getElem_cons_succ, List.setIfInBounds_toArray, List.set_cons_zero, List.set_cons_succ]
              refine wpAnyH_take (i := 3) (v := ?_) rfl (by kernel_rfl) (by kernel_rfl) (by kernel_rfl) (fun _ _ _ h => h) (Or.inl ⟨by kernel_rfl, ?_⟩) hH0 ?_
              rotate_left 1
              · intro w hSw
                go_simp
                try with_reducible rfl
              try simp only [Act.put, List.getElem_toArray, List.getElem_cons_zero, List.getElem_cons_succ, List.setIfInBounds_toArray, List.set_cons_zero, List.set_cons_succ]
              refine wpAnyH_take (i := 4) (v := ?_) rfl (by kernel_rfl) (by kernel_rfl) (by kernel_rfl) (fun _ _ _ h => h) (Or.inl ⟨by kernel_rfl, ?_⟩) hH0 ?_
              rotate_left 1
              · intro w hSw
                go_simp
                try with_reducible rfl
              try simp only [Act.put, List.getElem_toArray, List.getElem_cons_zero, List.getElem_cons_succ, List.setIfInBounds_toArray, List.set_cons_zero, List.set_cons_succ]
              refine wpAnyH_take (i := 5) (v := ?_) rfl (by kernel_rfl) (by kernel_rfl) (by kernel_rfl) (fun _ _ _ h => h) (Or.inl ⟨by kernel_rfl, ?_⟩) hH0 ?_
              rotate_left 1
              · intro w hSw
                have f0 := (hSw.cell (p := ⟨g, i, none⟩) hgr).trans l0
                have f1 := (hSw.cell (p := ⟨g, k, none⟩) hgr).trans l1
                go_simp
                try with_reducible rfl
              try simp only [Act.put, List.getElem_toArray, List.getElem_cons_zero, List.getElem_cons_succ, List.setIfInBounds_toArray, List.set_cons_zero, List.set_cons_succ]
              refine wpAnyH_take (i := 7) (v := ?_) rfl (by kernel_rfl) (by kernel_rfl) (by kernel_rfl) (fun _ _ _ h => h) (Or.inl ⟨by kernel_rfl, ?_⟩) hH0 ?_
              rotate_left 1
              · intro w hSw
                go_simp
                try with_reducible rfl
              try simp only [Act.put, List.getElem_toArray, List.getElem_cons_zero, List.getElem_cons_succ, List.setIfInBounds_toArray, List.set_cons_zero, List.set_cons_succ]
              refine wpAnyH_take (i := 8) (v := ?_) rfl (by kernel_rfl) (by kernel_rfl) (by kernel_rfl) (fun _ _ _ h => h) (Or.inl ⟨by kernel_rfl, ?_⟩) hH0 ?_
              rotate_left 1
              · intro w hSw
                go_simp
                try with_reducible rfl
              try simp only [Act.put, List.getElem_toArray, List.getElem_cons_zero, List.getElem_cons_succ, List.setIfInBounds_toArray, List.set_cons_zero, List.set_cons_succ]
              refine wpAnyH_take (i := 9) (v := ?_) rfl (by kernel_rfl) (by kernel_rfl) (by kernel_rfl) (fun _ _ _ h => h) (Or.inl ⟨by kernel_rfl, ?_⟩) hH0 ?_
              rotate_left 1
              · intro w hSw
                go_simp
                try with_reducible rfl
              try simp only [Act.put, List.getElem_toArray, List.getElem_cons_zero, List.getElem_cons_succ, List.setIfInBounds_toArray, List.set_cons_zero, List.set_cons_succ]
              refine wpAnyH_take (i := 10) (v := ?_) rfl (by kernel_rfl) (by kernel_rfl) (by kernel_rfl) (fun _ _ _ h => h) (Or.inl ⟨by kernel_rfl, ?_⟩) hH0 ?_
              rotate_left 1
              · intro w hSw
                have f0 := (hSw.cell (p := ⟨g, i, none⟩) hgr).trans l0
                have f1 := (hSw.cell (p := ⟨g, k, none⟩) hgr).trans l1
                go_simp
                try with_reducible rfl
              try simp only [Act.put, List.getElem_toArray, List.getElem_cons_zero, List.getElem_cons_succ, List.setIfInBounds_toArray, List.set_cons_zero, List.set_cons_succ]
              refine wpAnyH_take (i := 11) (v := ?_) rfl (by kernel_rfl) (by kernel_rfl) (by kernel_rfl) (fun _ _ _ h => h) (Or.inl ⟨by kernel_rfl, ?_⟩) hH0 ?_
              rotate_left 1
              · intro w hSw
                go_simp
                try with_reducible rfl
              try simp only [Act.put, List.getElem_toArray, List.getElem_cons_zero, List.getElem_cons_succ, List.setIfInBounds_toArray, List.set_cons_zero, List.set_cons_succ]
              refine wpAnyH_take (i := 12) (v := ?_) rfl (by kernel_rfl) (by kernel_rfl) (by kernel_rfl) (fun _ _ _ h => h) (Or.inl ⟨by kernel_rfl, ?_⟩) hH0 ?_
              rotate_left 1
              · intro w hSw
                go_simp
                try with_reducible rfl
              try simp only [Act.put, List.getElem_toArray, List.getElem_cons_zero, List.getElem_cons_succ, List.setIfInBounds_toArray, List.set_cons_zero, List.set_cons_succ]
              refine wpAnyH_take (i := 13) (v := ?_) rfl (by kernel_rfl) (by kernel_rfl) (by kernel_rfl) (fun _ _ _ h => h) (Or.inl ⟨by kernel_rfl, ?_⟩) hH0 ?_
              rotate_left 1
              · intro w hSw
                go_simp
                try with_reducible rfl
              try simp only [Act.put, List.getElem_toArray, List.getElem_cons_zero, List.getElem_cons_succ, List.setIfInBounds_toArray, List.set_cons_zero, List.set_cons_succ]
              refine wpAnyH_take (i := 14) (v := ?_) rfl (by kernel_rfl) (by kernel_rfl) (by kernel_rfl) (fun _ _ _ h => h) (Or.inl ⟨by kernel_rfl, ?_⟩) hH0 ?_
              rotate_left 1
              · intro w hSw
                have f0 := (hSw.cell (p := ⟨g, i, none⟩) hgr).trans l0
                have f1 := (hSw.cell (p := ⟨g, k, none⟩) hgr).trans l1
                go_simp
                try with_reducible rfl
              try simp only [Act.put, List.getElem_toArray, List.getElem_cons_zero, List.getElem_cons_succ, List.setIfInBounds_toArray, List.set_cons_zero, List.set_cons_succ]
              refine wpAnyH_take (i := 15) (v := ?_) rfl (by kernel_rfl) (by kernel_rfl) (by kernel_rfl) (fun _ _ _ h => h) (Or.inl ⟨by kernel_rfl, ?_⟩) hH0 ?_
              rotate_left 1
              · intro w hSw
                go_simp
                try with_reducible rfl
              try simp only [Act.put, List.getElem_toArray, List.getElem_cons_zero, List.getElem_cons_succ, List.setIfInBounds_toArray, List.set_cons_zero, List.set_cons_succ]
              refine wpAnyH_ready (rs := [6]) (by kernel_rfl) (by simp) ?_
              refine AllReadyH.cons rfl (fun K_ hK => ?_) ?_
              · go_simp
                refine (fits_any K m (i : Int) (tk) _ (HL0.out.below hH0) ((Hm0.out.below hH0 (Nat.le_refl _)).more (hH0).size) (by omega) (by omega) (by omega)).mono ?_
                rintro e W1 ⟨rfl, hb1⟩
                rw [hf]
                refine hK.out _ _ ((hH0).trans (hb1.mono (hH0).size)) (fun hH1 => ?_)
                clear hK K_
                try simp only [Act.put, List.getElem_toArray, List.getElem_cons_zero, List.getElem_cons_succ, List.setIfInBounds_toArray, List.set_cons_zero, List.set_cons_succ]
                refine wpAnyH_take (i := 16) (v := ?_) rfl (by kernel_rfl) (by kernel_rfl) (by kernel_rfl) (fun _ _ _ h => h) (Or.inl ⟨by kernel_rfl, ?_⟩) hH1 ?_
                rotate_left 1
                · intro w hSw
                  go_simp
                  try with_reducible rfl
                try simp only [Act.put, List.getElem_toArray, List.getElem_cons_zero, List.getElem_cons_succ, List.setIfInBounds_toArray, List.set_cons_zero, List.set_cons_succ]
                refine wpAnyH_take (i := 17) (v := ?_) rfl (by kernel_rfl) (by kernel_rfl) (by kernel_rfl) (fun _ _ _ h => h) (Or.inl ⟨by kernel_rfl, ?_⟩) hH1 ?_
                rotate_left 1
                · intro w hSw
                  go_simp
                  try with_reducible rfl
                try simp only [Act.put, List.getElem_toArray, List.getElem_cons_zero, List.getElem_cons_succ, List.setIfInBounds_toArray, List.set_cons_zero, List.set_cons_succ]
                refine wpAnyH_take (i := 18) (v := ?_) rfl (by kernel_rfl) (by kernel_rfl) (by kernel_rfl) (fun _ _ _ h => h) (Or.inl ⟨by kernel_rfl, ?_⟩) hH1 ?_
                rotate_left 1
                · intro w hSw
                  go_simp
                  try with_reducible rfl
                try simp only [Act.put, List.getElem_toArray, List.getElem_cons_zero, List.getElem_cons_succ, List.setIfInBounds_toArray, List.set_cons_zero, List.set_cons_succ]
                refine wpAnyH_take (i := 19) (v := ?_) rfl (by kernel_rfl) (by kernel_rfl) (by kernel_rfl) (fun _ _ _ h => h) (Or.inl ⟨by kernel_rfl, ?_⟩) hH1 ?_
                rotate_left 1
                · intro w hSw
                  go_simp
                  try with_reducible rfl
                try simp only [Act.put, List.getElem_toArray, List.getElem_cons_zero, List.getElem_cons_succ, List.setIfInBounds_toArray, List.set_cons_zero, List.set_cons_succ]
                refine wpAnyH_take (i := 20) (v := ?_) rfl (by kernel_rfl) (by kernel_rfl) (by kernel_rfl) (fun _ _ _ h => h) (Or.inl ⟨by kernel_rfl, ?_⟩) hH1 ?_
                rotate_left 1
                · intro w hSw
                  go_simp
                  try with_reducible rfl
                try simp only [Act.put, List.getElem_toArray, List.getElem_cons_zero, List.getElem_cons_succ, List.setIfInBounds_toArray, List.set_cons_zero, List.set_cons_succ]
                refine wpAnyH_take (i := 21) (v := ?_) rfl (by kernel_rfl) (by kernel_rfl) (by kernel_rfl) (fun _ _ _ h => h) (Or.inl ⟨by kernel_rfl, ?_⟩) hH1 ?_
                rotate_left 1
                · intro w hSw
                  have f0 := (hSw.cell (p := ⟨g, i, none⟩) hgr).trans l0
                  have f1 := (hSw.cell (p := ⟨g, k, none⟩) hgr).trans l1
                  go_simp
                  try with_reducible rfl
                try simp only [Act.put, List.getElem_toArray, List.getElem_cons_zero, List.getElem_cons_succ, List.setIfInBounds_toArray, List.set_cons_zero, List.set_cons_succ]
                refine wpAnyH_take (i := 22) (v := ?_) rfl (by kernel_rfl) (by kernel_rfl) (by kernel_rfl) (fun _ _ _ h => h) (Or.inl ⟨by kernel_rfl, ?_⟩) hH1 ?_
                rotate_left 1
                · intro w hSw
                  go_simp
                  try with_reducible rfl
                try simp only [Act.put, List.getElem_toArray, List.getElem_cons_zero, List.getElem_cons_succ, List.setIfInBounds_toArray, List.set_cons_zero, List.set_cons_succ]
                refine wpAnyH_take (i := 23) (v := ?_) rfl (by kernel_rfl) (by kernel_rfl) (by kernel_rfl) (fun _ _ _ h => h) (Or.inl ⟨by kernel_rfl, ?_⟩) hH1 ?_
                rotate_left 1
                · intro w hSw
                  go_simp
                  try with_reducible rfl
                try simp only [Act.put, List.getElem_toArray, List.getElem_cons_zero, List.getElem_cons_succ, List.setIfInBounds_toArray, List.set_cons_zero, List.set_cons_succ]
                refine wpAnyH_take (i := 24) (v := ?_) rfl (by kernel_rfl) (by kernel_rfl) (by kernel_rfl) (fun _ _ _ h => h) (Or.inl ⟨by kernel_rfl, ?_⟩) hH1 ?_
                rotate_left 1
                · intro w hSw
                  go_simp
                  try with_reducible rfl
                try simp only [Act.put, List.getElem_toArray, List.getElem_cons_zero, List.getElem_cons_succ, List.setIfInBounds_toArray, List.set_cons_zero, List.set_cons_succ]
                refine wpAnyH_take (i := 25) (v := ?_) rfl (by kernel_rfl) (by kernel_rfl) (by kernel_rfl) (fun _ _ _ h => h) (Or.inl ⟨by kernel_rfl, ?_⟩) hH1 ?_
                rotate_left 1
                · intro w hSw
                  have f0 := (hSw.cell (p := ⟨g, i, none⟩) hgr).trans l0
                  have f1 := (hSw.cell (p := ⟨g, k, none⟩) hgr).trans l1
                  go_simp
                  try with_reducible rfl
                try simp only [Act.put, List.getElem_toArray, List.getElem_cons_zero, List.getElem_cons_succ, List.setIfInBounds_toArray, List.set_cons_zero, List.set_cons_succ]
                refine wpAnyH_take (i := 26) (v := ?_) rfl (by kernel_rfl) (by kernel_rfl) (by kernel_rfl) (fun _ _ _ h => h) (Or.inl ⟨by kernel_rfl, ?_⟩) hH1 ?_
                rotate_left 1
                · intro w hSw
                  go_simp
                  try with_reducible rfl
                try simp only [Act.put, List.getElem_toArray, List.getElem_cons_zero, List.getElem_cons_succ, List.setIfInBounds_toArray, List.set_cons_zero, List.set_cons_succ]
                refine wpAnyH_take (i := 27) (v := ?_) rfl (by kernel_rfl) (by kernel_rfl) (by kernel_rfl) (fun _ _ _ h => h) (Or.inl ⟨by kernel_rfl, ?_⟩) hH1 ?_
                rotate_left 1
                · intro w hSw
                  go_simp
                  try with_reducible rfl
                try simp only [Act.put, List.getElem_toArray, List.getElem_cons_zero, List.getElem_cons_succ, List.setIfInBounds_toArray, List.set_cons_zero, List.set_cons_succ]
                refine wpAnyH_take (i := 28) (v := ?_) rfl (by kernel_rfl) (by kernel_rfl) (by kernel_rfl) (fun _ _ _ h => h) (Or.inl ⟨by kernel_rfl, ?_⟩) hH1 ?_
                rotate_left 1
                · intro w hSw
                  go_simp
                  try with_reducible rfl
                try simp only [Act.put, List.getElem_toArray, List.getElem_cons_zero, List.getElem_cons_succ, List.setIfInBounds_toArray, List.set_cons_zero, List.set_cons_succ]
                refine wpAnyH_take (i := 29) (v := ?_) rfl (by kernel_rfl) (by kernel_rfl) (by kernel_rfl) (fun _ _ _ h => h) (Or.inl ⟨by kernel_rfl, ?_⟩) hH1 ?_
                rotate_left 1
                · intro w hSw
                  go_simp
                  try with_reducible rfl
                try simp only [Act.put, List.getElem_toArray, List.getElem_cons_zero, List.getElem_cons_succ, List.setIfInBounds_toArray, List.set_cons_zero, List.set_cons_succ]
                refine wpAnyH_take (i := 30) (v := ?_) rfl (by kernel_rfl) (by kernel_rfl) (by kernel_rfl) (fun _ _ _ h => h) (Or.inl ⟨by kernel_rfl, ?_⟩) hH1 ?_
                rotate_left 1
                · intro w hSw
                  go_simp
                  try with_reducible rfl
                try simp only [Act.put, List.getElem_toArray, List.getElem_cons_zero, List.getElem_cons_succ, List.setIfInBounds_toArray, List.set_cons_zero, List.set_cons_succ]
                refine wpAnyH_take (i := 31) (v := ?_) rfl (by kernel_rfl) (by kernel_rfl) (by kernel_rfl) (fun _ _ _ h => h) (Or.inl ⟨by kernel_rfl, ?_⟩) hH1 ?_
                rotate_left 1
                · intro w hSw
                  have f0 := (hSw.cell (p := ⟨g, i, none⟩) hgr).trans l0
                  have f1 := (hSw.cell (p := ⟨g, k, none⟩) hgr).trans l1
                  go_simp
                  try with_reducible rfl
                try simp only [Act.put, List.getElem_toArray, List.getElem_cons_zero, List.getElem_cons_succ, List.setIfInBounds_toArray, List.set_cons_zero, List.set_cons_succ]
                refine wpAnyH_take (i := 34) (v := ?_) rfl (by kernel_rfl) (by kernel_rfl) (by kernel_rfl) (fun _ _ _ h => h) (Or.inl ⟨by kernel_rfl, ?_⟩) hH1 ?_
                rotate_left 1
                · intro w hSw
                  go_simp
                  try with_reducible rfl
                try simp only [Act.put, List.getElem_toArray, List.getElem_cons_zero, List.getElem_cons_succ, List.setIfInBounds_toArray, List.set_cons_zero, List.set_cons_succ]
                refine wpAnyH_take (i := 35) (v := ?_) rfl (by kernel_rfl) (by kernel_rfl) (by kernel_rfl) (fun _ _ _ h => h) (Or.inl ⟨by kernel_rfl, ?_⟩) hH1 ?_
                rotate_left 1
                · intro w hSw
                  go_simp
                  try with_reducible rfl
                try simp only [Act.put, List.getElem_toArray, List.getElem_cons_zero, List.getElem_cons_succ, List.setIfInBounds_toArray, List.set_cons_zero, List.set_cons_succ]
                refine wpAnyH_take (i := 36) (v := ?_) rfl (by kernel_rfl) (by kernel_rfl) (by kernel_rfl) (fun _ _ _ h => h) (Or.inl ⟨by kernel_rfl, ?_⟩) hH1 ?_
                rotate_left 1
                · intro w hSw
                  go_simp
                  try with_reducible rfl
                try simp only [Act.put, List.getElem_toArray, List.getElem_cons_zero, List.getElem_cons_succ, List.setIfInBounds_toArray, List.set_cons_zero, List.set_cons_succ]
                refine wpAnyH_take (i := 37) (v := ?_) rfl (by kernel_rfl) (by kernel_rfl) (by kernel_rfl) (fun _ _ _ h => h) (Or.inl ⟨by kernel_rfl, ?_⟩) hH1 ?_
                rotate_left 1
                · intro w hSw
                  have f0 := (hSw.cell (p := ⟨g, i, none⟩) hgr).trans l0
                  have f1 := (hSw.cell (p := ⟨g, k, none⟩) hgr).trans l1
                  go_simp
                  try with_reducible rfl
                try simp only [Act.put, List.getElem_toArray, List.getElem_cons_zero, List.getElem_cons_succ, List.setIfInBounds_toArray, List.set_cons_zero, List.set_cons_succ]
                refine wpAnyH_ready (rs := [32, 38]) (by kernel_rfl) (by simp) ?_
                refine AllReadyH.cons rfl (fun K_ hK => ?_) ?_
                · go_simp
                  have hb2 := (Below.refl W1.heap.size W1).alloc (Nat.le_refl _) (.cells #[.string ⟨(ti).toArray⟩] 9)
                  have cb2 : (W1.alloc (.cells #[.string ⟨(ti).toArray⟩] 9)).cell? ⟨W1.heap.size, 0, none⟩ = some (.string ⟨(ti).toArray⟩) := by rw [Lib.cell_of_heap (heap_alloc_new W1 _)]; rfl
                  obtain ⟨W2, hW2⟩ : ∃ W, W = W1.alloc (.cells #[.string ⟨(ti).toArray⟩] 9) := ⟨_, rfl⟩
                  have hl2 : W1.heap.size < W2.heap.size := by rw [hW2]; simp
                  rw [← hW2] at hb2 cb2 ⊢
                  clear hW2
                  refine hK.out _ _ ((hH1).trans (hb2.mono (hH1).size)) (fun hH2 => ?_)
                  clear hK K_
                  try simp only [Act.put, List.getElem_toArray, List.getElem_cons_zero, List.getElem_cons_succ, List.setIfInBounds_toArray, List.set_cons_zero, List.set_cons_succ]
                  refine wpAnyH_ready (rs := [33, 38]) (by kernel_rfl) (by simp) ?_
                  refine AllReadyH.cons rfl (fun K_ hK => ?_) ?_
                  · go_simp
                    refine (of_hash K _ 1 (ti) _ (HL0.out.below hH2) ⟨_, rfl, cb2⟩ (by omega)).mono ?_
                    rintro e W3 ⟨rfl, hb3⟩
                    have c32_3 := (hb3.cell (p := ⟨W1.heap.size, 0, none⟩) hl2).trans cb2
                    have l32_3 : (⟨W1.heap.size, 0, none⟩ : Addr).block < W3.heap.size := Nat.lt_of_lt_of_le hl2 hb3.size
                    refine hK.out _ _ ((hH2).trans (hb3.mono (hH2).size)) (fun hH3 => ?_)
                    clear hK K_
                    try simp only [Act.put, List.getElem_toArray, List.getElem_cons_zero, List.getElem_cons_succ, List.setIfInBounds_toArray, List.set_cons_zero, List.set_cons_succ]
                    refine wpAnyH_ready (rs := [38]) (by kernel_rfl) (by simp) ?_
                    refine AllReadyH.cons rfl (fun K_ hK => ?_) ?_
                    · go_simp
                      have hb4 := (Below.refl W3.heap.size W3).alloc (Nat.le_refl _) (.cells #[.string ⟨(tk).toArray⟩] 9)
                      have cb4 : (W3.alloc (.cells #[.string ⟨(tk).toArray⟩] 9)).cell? ⟨W3.heap.size, 0, none⟩ = some (.string ⟨(tk).toArray⟩) := by rw [Lib.cell_of_heap (heap_alloc_new W3 _)]; rfl
                      obtain ⟨W4, hW4⟩ : ∃ W, W = W3.alloc (.cells #[.string ⟨(tk).toArray⟩] 9) := ⟨_, rfl⟩
                      have hl4 : W3.heap.size < W4.heap.size := by rw [hW4]; simp
                      rw [← hW4] at hb4 cb4 ⊢
                      clear hW4
                      have c32_4 := (hb4.cell (p := ⟨W1.heap.size, 0, none⟩) l32_3).trans c32_3
                      have l32_4 : (⟨W1.heap.size, 0, none⟩ : Addr).block < W4.heap.size := Nat.lt_of_lt_of_le l32_3 hb4.size
                      refine hK.out _ _ ((hH3).trans (hb4.mono (hH3).size)) (fun hH4 => ?_)
                      clear hK K_
                      try simp only [Act.put, List.getElem_toArray, List.getElem_cons_zero, List.getElem_cons_succ, List.setIfInBounds_toArray, List.set_cons_zero, List.set_cons_succ]
                      refine wpAnyH_ready (rs := [39]) (by kernel_rfl) (by simp) ?_
                      refine AllReadyH.cons rfl (fun K_ hK => ?_) ?_
                      · go_simp
                        refine (of_hash K _ 1 (tk) _ (HL0.out.below hH4) ⟨_, rfl, cb4⟩ (by omega)).mono ?_
                        rintro e W5 ⟨rfl, hb5⟩
                        have c32_5 := (hb5.cell (p := ⟨W1.heap.size, 0, none⟩) l32_4).trans c32_4
                        have l32_5 : (⟨W1.heap.size, 0, none⟩ : Addr).block < W5.heap.size := Nat.lt_of_lt_of_le l32_4 hb5.size
                        have c38_5 := (hb5.cell (p := ⟨W3.heap.size, 0, none⟩) hl4).trans cb4
                        have l38_5 : (⟨W3.heap.size, 0, none⟩ : Addr).block < W5.heap.size := Nat.lt_of_lt_of_le hl4 hb5.size
                        refine hK.out _ _ ((hH4).trans (hb5.mono (hH4).size)) (fun hH5 => ?_)
                        clear hK K_
                        try simp only [Act.put, List.getElem_toArray, List.getElem_cons_zero, List.getElem_cons_succ, List.setIfInBounds_toArray, List.set_cons_zero, List.set_cons_succ]
                        refine wpAnyH_take (i := 40) (v := ?_) rfl (by kernel_rfl) (by kernel_rfl) (by kernel_rfl) (fun _ _ _ h => h) (Or.inl ⟨by kernel_rfl, ?_⟩) hH5 ?_
                        rotate_left 1
                        · intro w hSw
                          go_simp
                          try with_reducible rfl
                        try simp only [Act.put, List.getElem_toArray, List.getElem_cons_zero, List.getElem_cons_succ, List.setIfInBounds_toArray, List.set_cons_zero, List.set_cons_succ]
                        refine wpAnyH_take (i := 41) (v := ?_) rfl (by kernel_rfl) (by kernel_rfl) (by kernel_rfl) (fun _ _ _ h => h) (Or.inl ⟨by kernel_rfl, ?_⟩) hH5 ?_
                        rotate_left 1
                        · intro w hSw
                          go_simp
                          try with_reducible rfl
                        try simp only [Act.put, List.getElem_toArray, List.getElem_cons_zero, List.getElem_cons_succ, List.setIfInBounds_toArray, List.set_cons_zero, List.set_cons_succ]
                        refine wpAnyH_take (i := 42) (v := ?_) rfl (by kernel_rfl) (by kernel_rfl) (by kernel_rfl) (fun _ _ _ h => h) (Or.inl ⟨by kernel_rfl, ?_⟩) hH5 ?_
                        rotate_left 1
                        · intro w hSw
                          go_simp
                          try with_reducible rfl
                        try simp only [Act.put, List.getElem_toArray, List.getElem_cons_zero, List.getElem_cons_succ, List.setIfInBounds_toArray, List.set_cons_zero, List.set_cons_succ]
                        refine wpAnyH_done (by kernel_rfl) ?_ _
                        have HH := Lib.hid hH5
                        clear hH5
                        go_wp2_with fail
                        go_roundw
                        case rel => exact ⟨k + 1, by omega, by go_num, HBk.out.trans (HH.out.mono HBk.out.size)⟩
                        case measure => simp [intOf]; omega
                      exact AllReadyH.nil
                    exact AllReadyH.nil
                  refine AllReadyH.cons rfl (fun K_ hK => ?_) ?_
                  · go_simp
                    have hb6 := (Below.refl W2.heap.size W2).alloc (Nat.le_refl _) (.cells #[.string ⟨(tk).toArray⟩] 9)
                    have cb6 : (W2.alloc (.cells #[.string ⟨(tk).toArray⟩] 9)).cell? ⟨W2.heap.size, 0, none⟩ = some (.string ⟨(tk).toArray⟩) := by rw [Lib.cell_of_heap (heap_alloc_new W2 _)]; rfl
                    obtain ⟨W6, hW6⟩ : ∃ W, W = W2.alloc (.cells #[.string ⟨(tk).toArray⟩] 9) := ⟨_, rfl⟩
                    have hl6 : W2.heap.size < W6.heap.size := by rw [hW6]; simp
                    rw [← hW6] at hb6 cb6 ⊢
                    clear hW6
                    have c32_6 := (hb6.cell (p := ⟨W1.heap.size, 0, none⟩) hl2).trans cb2
                    have l32_6 : (⟨W1.heap.size, 0, none⟩ : Addr).block < W6.heap.size := Nat.lt_of_lt_of_le hl2 hb6.size
                    refine hK.out _ _ ((hH2).trans (hb6.mono (hH2).size)) (fun hH6 => ?_)
                    clear hK K_
                    try simp only [Act.put, List.getElem_toArray, List.getElem_cons_zero, List.getElem_cons_succ, List.setIfInBounds_toArray, List.set_cons_zero, List.set_cons_succ]
                    refine wpAnyH_ready (rs := [33]) (by kernel_rfl) (by simp) ?_
                    refine AllReadyH.cons rfl (fun K_ hK => ?_) ?_
                    · go_simp
                      refine (of_hash K _ 1 (ti) _ (HL0.out.below hH6) ⟨_, rfl, c32_6⟩ (by omega)).mono ?_
                      rintro e W7 ⟨rfl, hb7⟩
                      have c32_7 := (hb7.cell (p := ⟨W1.heap.size, 0, none⟩) l32_6).trans c32_6
                      have l32_7 : (⟨W1.heap.size, 0, none⟩ : Addr).block < W7.heap.size := Nat.lt_of_lt_of_le l32_6 hb7.size
                      have c38_7 := (hb7.cell (p := ⟨W2.heap.size, 0, none⟩) hl6).trans cb6
                      have l38_7 : (⟨W2.heap.size, 0, none⟩ : Addr).block < W7.heap.size := Nat.lt_of_lt_of_le hl6 hb7.size
                      refine hK.out _ _ ((hH6).trans (hb7.mono (hH6).size)) (fun hH7 => ?_)
                      clear hK K_
                      try simp only [Act.put, List.getElem_toArray, List.getElem_cons_zero, List.getElem_cons_succ, List.setIfInBounds_toArray, List.set_cons_zero, List.set_cons_succ]
                      refine wpAnyH_ready (rs := [39]) (by kernel_rfl) (by simp) ?_
                      refine AllReadyH.cons rfl (fun K_ hK => ?_) ?_
                      · go_simp
                        refine (of_hash K _ 1 (tk) _ (HL0.out.below hH7) ⟨_, rfl, c38_7⟩ (by omega)).mono ?_
                        rintro e W8 ⟨rfl, hb8⟩
                        have c32_8 := (hb8.cell (p := ⟨W1.heap.size, 0, none⟩) l32_7).trans c32_7
                        have l32_8 : (⟨W1.heap.size, 0, none⟩ : Addr).block < W8.heap.size := Nat.lt_of_lt_of_le l32_7 hb8.size
                        have c38_8 := (hb8.cell (p := ⟨W2.heap.size, 0, none⟩) l38_7).trans c38_7
                        have l38_8 : (⟨W2.heap.size, 0, none⟩ : Addr).block < W8.heap.size := Nat.lt_of_lt_of_le l38_7 hb8.size
                        refine hK.out _ _ ((hH7).trans (hb8.mono (hH7).size)) (fun hH8 => ?_)
                        clear hK K_
                        try simp only [Act.put, List.getElem_toArray, List.getElem_cons_zero, List.getElem_cons_succ, List.setIfInBounds_toArray, List.set_cons_zero, List.set_cons_succ]
                        refine wpAnyH_take (i := 40) (v := ?_) rfl (by kernel_rfl) (by kernel_rfl) (by kernel_rfl) (fun _ _ _ h => h) (Or.inl ⟨by kernel_rfl, ?_⟩) hH8 ?_
                        rotate_left 1
                        · intro w hSw
                          go_simp
                          try with_reducible rfl
                        try simp only [Act.put, List.getElem_toArray, List.getElem_cons_zero, List.getElem_cons_succ, List.setIfInBounds_toArray, List.set_cons_zero, List.set_cons_succ]
                        refine wpAnyH_take (i := 41) (v := ?_) rfl (by kernel_rfl) (by kernel_rfl) (by kernel_rfl) (fun _ _ _ h => h) (Or.inl ⟨by kernel_rfl, ?_⟩) hH8 ?_
                        rotate_left 1
                        · intro w hSw
                          go_simp
                          try with_reducible rfl
                        try simp only [Act.put, List.getElem_toArray, List.getElem_cons_zero, List.getElem_cons_succ, List.setIfInBounds_toArray, List.set_cons_zero, List.set_cons_succ]
                        refine wpAnyH_take (i := 42) (v := ?_) rfl (by kernel_rfl) (by kernel_rfl) (by kernel_rfl) (fun _ _ _ h => h) (Or.inl ⟨by kernel_rfl, ?_⟩) hH8 ?_
                        rotate_left 1
                        · intro w hSw
                          go_simp
                          try with_reducible rfl
                        try simp only [Act.put, List.getElem_toArray, List.getElem_cons_zero, List.getElem_cons_succ, List.setIfInBounds_toArray, List.set_cons_zero, List.set_cons_succ]
                        refine wpAnyH_done (by kernel_rfl) ?_ _
                        have HH := Lib.hid hH8
                        clear hH8
                        go_wp2_with fail
                        go_roundw
                        case rel => exact ⟨k + 1, by omega, by go_num, HBk.out.trans (HH.out.mono HBk.out.size)⟩
                        case measure => simp [intOf]; omega
                      exact AllReadyH.nil
                    exact AllReadyH.nil
                  exact AllReadyH.nil
                refine AllReadyH.cons rfl (fun K_ hK => ?_) ?_
                · go_simp
                  have hb9 := (Below.refl W1.heap.size W1).alloc (Nat.le_refl _) (.cells #[.string ⟨(tk).toArray⟩] 9)
                  have cb9 : (W1.alloc (.cells #[.string ⟨(tk).toArray⟩] 9)).cell? ⟨W1.heap.size, 0, none⟩ = some (.string ⟨(tk).toArray⟩) := by rw [Lib.cell_of_heap (heap_alloc_new W1 _)]; rfl
                  obtain ⟨W9, hW9⟩ : ∃ W, W = W1.alloc (.cells #[.string ⟨(tk).toArray⟩] 9) := ⟨_, rfl⟩
                  have hl9 : W1.heap.size < W9.heap.size := by rw [hW9]; simp
                  rw [← hW9] at hb9 cb9 ⊢
                  clear hW9
                  refine hK.out _ _ ((hH1).trans (hb9.mono (hH1).size)) (fun hH9 => ?_)
                  clear hK K_
                  try simp only [Act.put, List.getElem_toArray, List.getElem_cons_zero, List.getElem_cons_succ, List.setIfInBounds_toArray, List.set_cons_zero, List.set_cons_succ]
                  refine wpAnyH_ready (rs := [32]) (by kernel_rfl) (by simp) ?_
                  refine AllReadyH.cons rfl (fun K_ hK => ?_) ?_
                  · go_simp
                    have hb10 := (Below.refl W9.heap.size W9).alloc (Nat.le_refl _) (.cells #[.string ⟨(ti).toArray⟩] 9)
                    have cb10 : (W9.alloc (.cells #[.string ⟨(ti).toArray⟩] 9)).cell? ⟨W9.heap.size, 0, none⟩ = some (.string ⟨(ti).toArray⟩) := by rw [Lib.cell_of_heap (heap_alloc_new W9 _)]; rfl
                    obtain ⟨W10, hW10⟩ : ∃ W, W = W9.alloc (.cells #[.string ⟨(ti).toArray⟩] 9) := ⟨_, rfl⟩
                    have hl10 : W9.heap.size < W10.heap.size := by rw [hW10]; simp
                    rw [← hW10] at hb10 cb10 ⊢
                    clear hW10
                    have c38_10 := (hb10.cell (p := ⟨W1.heap.size, 0, none⟩) hl9).trans cb9
                    have l38_10 : (⟨W1.heap.size, 0, none⟩ : Addr).block < W10.heap.size := Nat.lt_of_lt_of_le hl9 hb10.size
                    refine hK.out _ _ ((hH9).trans (hb10.mono (hH9).size)) (fun hH10 => ?_)
                    clear hK K_
                    try simp only [Act.put, List.getElem_toArray, List.getElem_cons_zero, List.getElem_cons_succ, List.setIfInBounds_toArray, List.set_cons_zero, List.set_cons_succ]
                    refine wpAnyH_ready (rs := [33]) (by kernel_rfl) (by simp) ?_
                    refine AllReadyH.cons rfl (fun K_ hK => ?_) ?_
                    · go_simp
                      refine (of_hash K _ 1 (ti) _ (HL0.out.below hH10) ⟨_, rfl, cb10⟩ (by omega)).mono ?_
                      rintro e W11 ⟨rfl, hb11⟩
                      have c38_11 := (hb11.cell (p := ⟨W1.heap.size, 0, none⟩) l38_10).trans c38_10
                      have l38_11 : (⟨W1.heap.size, 0, none⟩ : Addr).block < W11.heap.size := Nat.lt_of_lt_of_le l38_10 hb11.size
                      have c32_11 := (hb11.cell (p := ⟨W9.heap.size, 0, none⟩) hl10).trans cb10
                      have l32_11 : (⟨W9.heap.size, 0, none⟩ : Addr).block < W11.heap.size := Nat.lt_of_lt_of_le hl10 hb11.size
                      refine hK.out _ _ ((hH10).trans (hb11.mono (hH10).size)) (fun hH11 => ?_)
                      clear hK K_
                      try simp only [Act.put, List.getElem_toArray, List.getElem_cons_zero, List.getElem_cons_succ, List.setIfInBounds_toArray, List.set_cons_zero, List.set_cons_succ]
                      refine wpAnyH_ready (rs := [39]) (by kernel_rfl) (by simp) ?_
                      refine AllReadyH.cons rfl (fun K_ hK => ?_) ?_
                      · go_simp
                        refine (of_hash K _ 1 (tk) _ (HL0.out.below hH11) ⟨_, rfl, c38_11⟩ (by omega)).mono ?_
                        rintro e W12 ⟨rfl, hb12⟩
                        have c38_12 := (hb12.cell (p := ⟨W1.heap.size, 0, none⟩) l38_11).trans c38_11
                        have l38_12 : (⟨W1.heap.size, 0, none⟩ : Addr).block < W12.heap.size := Nat.lt_of_lt_of_le l38_11 hb12.size
                        have c32_12 := (hb12.cell (p := ⟨W9.heap.size, 0, none⟩) l32_11).trans c32_11
                        have l32_12 : (⟨W9.heap.size, 0, none⟩ : Addr).block < W12.heap.size := Nat.lt_of_lt_of_le l32_11 hb12.size
                        refine hK.out _ _ ((hH11).trans (hb12.mono (hH11).size)) (fun hH12 => ?_)
                        clear hK K_
                        try simp only [Act.put, List.getElem_toArray, List.getElem_cons_zero, List.getElem_cons_succ, List.setIfInBounds_toArray, List.set_cons_zero, List.set_cons_succ]
                        refine wpAnyH_take (i := 40) (v := ?_) rfl (by kernel_rfl) (by kernel_rfl) (by kernel_rfl) (fun _ _ _ h => h) (Or.inl ⟨by kernel_rfl, ?_⟩) hH12 ?_
                        rotate_left 1
                        · intro w hSw
                          go_simp
                          try with_reducible rfl
                        try simp only [Act.put, List.getElem_toArray, List.getElem_cons_zero, List.getElem_cons_succ, List.setIfInBounds_toArray, List.set_cons_zero, List.set_cons_succ]
                        refine wpAnyH_take (i := 41) (v := ?_) rfl (by kernel_rfl) (by kernel_rfl) (by kernel_rfl) (fun _ _ _ h => h) (Or.inl ⟨by kernel_rfl, ?_⟩) hH12 ?_
                        rotate_left 1
                        · intro w hSw
                          go_simp
                          try with_reducible rfl
                        try simp only [Act.put, List.getElem_toArray, List.getElem_cons_zero, List.getElem_cons_succ, List.setIfInBounds_toArray, List.set_cons_zero, List.set_cons_succ]
                        refine wpAnyH_take (i := 42) (v := ?_) rfl (by kernel_rfl) (by kernel_rfl) (by kernel_rfl) (fun _ _ _ h => h) (Or.inl ⟨by kernel_rfl, ?_⟩) hH12 ?_
                        rotate_left 1
                        · intro w hSw
                          go_simp
                          try with_reducible rfl
                        try simp only [Act.put, List.getElem_toArray, List.getElem_cons_zero, List.getElem_cons_succ, List.setIfInBounds_toArray, List.set_cons_zero, List.set_cons_succ]
                        refine wpAnyH_done (by kernel_rfl) ?_ _
                        have HH := Lib.hid hH12
                        clear hH12
                        go_wp2_with fail
                        go_roundw
                        case rel => exact ⟨k + 1, by omega, by go_num, HBk.out.trans (HH.out.mono HBk.out.size)⟩
                        case measure => simp [intOf]; omega
                      exact AllReadyH.nil
                    exact AllReadyH.nil
                  exact AllReadyH.nil
                exact AllReadyH.nil
              exact AllReadyH.nil
        · have hk : n = k := by omega
          subst hk
          have HBk := Lib.hid hBk
          clear hBk
          go_wp2_with fail
          go_roundw
          case rel => exact ⟨i + 1, by omega, by go_num, HBk.out⟩
          case measure => simp [intOf]; omega
    · have hi' : n = i := by omega
      subst hi'
      have HBi := Lib.hid hBi
      have HL7 := Lib.hid (HL6.out.below hBi)
      have Hm7 := Lib.hid ((Hm6.out.below hBi (Nat.le_refl _)).more hBi.size)
      have H7 := Lib.hid ((hBi.block p hp6).trans H6.out)
      have hp7 : p < wr.heap.size := Nat.lt_of_lt_of_le hp6 hBi.size
      have HB7 := Lib.hid (HB6.out.trans (hBi.mono HB6.out.size))
      clear hBi
      by_cases hl0 : l = []
      · have hem : l.isEmpty = true := by rw [hl0]; rfl
        have Hl0 := Lib.hid hl0
        clear hl0
        go_wp2_with fail
        go_ret
        exact ⟨rfl, HB7.out⟩
      · have hem : l.isEmpty = false := by simpa using hl0
        have hLpos : 0 < l.length := by
          rcases Nat.eq_zero_or_pos l.length with h | h
          · exact absurd (List.eq_nil_of_length_eq_zero h) hl0
          · exact h
        clear hl0
        obtain ⟨u, kk, hu, hub, hk, hkw, hkl⟩ := u64_modL a l.length hLpos h5 ⟨alo, ahi⟩
        have hLI : (l.length : Int) ≤ 512 := by omega
        have hL0 : (0 : Int) < (l.length : Int) := by omega
        have k0 : (0 : Int) ≤ (kk : Int) := by omega
        have kI : (kk : Int) < (l.length : Int) := by omega
        obtain ⟨xb, rfl⟩ : ∃ xb : Nat, x = (xb : Int) := ⟨x.toNat, by omega⟩
        obtain ⟨c, hc⟩ : ∃ c, c = l[kk] := ⟨_, rfl⟩
        obtain ⟨y, hy⟩ : ∃ y : UInt8, y = c ^^^ UInt8.ofNat xb := ⟨_, rfl⟩
        have hxb : xb < 256 := by omega
        have hxor : bits .xor .u8 ((c.toNat : Nat) : Int) (xb : Int) = ((y.toNat : Nat) : Int) := by
          rw [u8_xor_nat _ _ c.toNat_lt hxb, hy, UInt8.toNat_xor, UInt8.toNat_ofNat', Nat.mod_eq_of_lt hxb]
        obtain ⟨W8, bc, hconv, o8, hbag⟩ := bytes_bag l wr (by omega)
        obtain ⟨gb, hgb⟩ : ∃ gb, gb = wr.heap.size := ⟨_, rfl⟩
        rw [← hgb] at hconv hbag
        have lk : W8.cell? ⟨gb, kk, none⟩ = some (.int .u8 ((c.toNat : Nat) : Int)) := hbag.holds kk _ (by simp [byV, hkl, hc])
        have zk : W8.frozen? ⟨gb, kk, none⟩ = false := (hbag.there kk (by have := hbag.le; omega)).2
        have hstr := bag_set_str hbag hkl y
        have hset : y = c → l.set kk y = l := fun h => by rw [h, hc]; simp
        have hyc : y = c ↔ xb = 0 := by
          constructor
          · intro h
            have h1 : (c ^^^ UInt8.ofNat xb).toNat = c.toNat := by rw [← hy, h]
            rw [UInt8.toNat_xor, UInt8.toNat_ofNat', Nat.mod_eq_of_lt hxb] at h1
            have h2 : c.toNat ^^^ (c.toNat ^^^ xb) = c.toNat ^^^ c.toNat := by rw [h1]
            rw [← Nat.xor_assoc, Nat.xor_self, Nat.zero_xor] at h2
            exact h2
          · intro h
            rw [hy, h]
            apply UInt8.toNat_inj.1
            rw [UInt8.toNat_xor]
            simp
        obtain ⟨bl, hbl⟩ : ∃ bl, bl = l.set kk y := ⟨_, rfl⟩
        have hbll : bl.length = l.length := by rw [hbl]; simp
        have hblc : ∀ j, j ≠ kk / 64 → chunk bl j = chunk l j := fun j hj => by rw [hbl]; exact chunk_set_ne l kk j y hj
        have hbl0 : xb = 0 → bl = l := fun h => by rw [hbl]; exact hset (hyc.2 h)
        rw [← hbl] at hstr
        have hs8 := o8.size
        have b8 : Below wr.heap.size wr (W8.setCell ⟨gb, kk, none⟩ (.int .u8 ((y.toNat : Nat) : Int))) := (o8.mono (cs := [gb]) (by simp) |>.setCell (p := ⟨gb, kk, none⟩) (by simp) _).below (Nat.le_refl _) (by simp [hgb])
        have Hbll := Lib.hid hbll
        have Hblc := Lib.hid hblc
        have Hbl0 := Lib.hid hbl0
        have Hb8 := Lib.hid b8
        obtain ⟨jj, hjj⟩ : ∃ jj, jj = kk / 64 := ⟨_, rfl⟩
        have td : (kk : Int).tdiv 64 = (jj : Int) := by rw [hjj]; rfl
        have hjn : jj < n := by have := Hnl.out; omega
        have Hjj := Lib.hid hjj
        have HxE : Hid (xb = 0 ↔ y = c) := Lib.hid hyc.symm
        clear hbag hset hyc hbl hbll hblc hbl0 b8 o8 hgb hc hy hs8 hjj
        go_upto_region 24 with fail
        obtain ⟨w9, hw9⟩ : ∃ w9, w9 = W8.setCell ⟨gb, kk, none⟩ (.int .u8 ((y.toNat : Nat) : Int)) := ⟨_, rfl⟩
        rw [← hw9] at hstr Hb8 ⊢
        clear hw9 lk zk hxor hconv
        go_wp2_with fail
        refine (split_any bl w9 (by rw [Hbll.out]; omega)).mono ?_
        rintro e w10 ⟨v, rfl, hT, hB10⟩
        obtain ⟨A2, cap2, rfl, hcx2, hcap2⟩ := Bag0.shape hT
        have hn2 : (chunks bl).length = n := by rw [chunks_length, Hbll.out]; exact Hnl.out.symm
        rw [hn2] at hcap2
        have hS10 : Strs w10 w10.heap.size A2 (chunks bl) := by
          intro i hi
          obtain ⟨g2, e2, _, hl, hc⟩ := hT.cell i hi
          exact ⟨⟨g2, 0, none⟩, e2, hl, by rw [Addr.add_lit, Nat.zero_add]; exact hc⟩
        obtain ⟨g, rfl, hg, hgl, hci⟩ := HT6.out.cell jj (by rw [← Hn.out]; exact hjn)
        obtain ⟨g2, rfl, hg2, hgl2, hcb⟩ := hT.cell jj (by rw [hn2]; exact hjn)
        rw [chunks_get] at hci hcb
        rw [hn2]
        have hb710 : Below wr.heap.size wr w10 := Hb8.out.trans (hB10.mono Hb8.out.size)
        have hB610 : Below w6.heap.size w6 w10 := HBi.out.trans (hb710.mono HBi.out.size)
        obtain ⟨tb, htb⟩ : ∃ t, t = chunk bl jj := ⟨_, rfl⟩
        obtain ⟨tl, htl⟩ : ∃ t, t = chunk l jj := ⟨_, rfl⟩
        rw [← htl] at hci
        rw [← htb] at hcb
        have l0 := (hB610.cell (p := ⟨g, jj, none⟩) hgl).trans hci
        have l1 := hcb
        have hgr : g < w10.heap.size := Nat.lt_of_lt_of_le hgl hB610.size
        have HL10 := Lib.hid (HL7.out.below hb710)
        have Hm10 := Lib.hid ((Hm7.out.below hb710 (Nat.le_refl _)).more hb710.size)
        have H10 := Lib.hid ((hb710.block p hp7).trans H7.out)
        have hp10 : p < w10.heap.size := Nat.lt_of_lt_of_le hp7 hb710.size
        have HB10 := Lib.hid (HB7.out.trans (hb710.mono HB7.out.size))
        have HS10 := Lib.hid hS10
        have hfv := Hown.out.fits h5 jj (by rw [← Hn.out]; exact hjn) tb
        rw [← htl] at hfv
        have htbl : tb.length ≤ 64 := by rw [htb, chunk_length]; omega
        have htll : tl.length ≤ 64 := by rw [htl, chunk_length]; omega
        have j0 : (0 : Int) ≤ (jj : Int) := by omega
        have jI : (jj : Int) < (n : Int) := by omega
        have Htb := Lib.hid htb
        have Htl := Lib.hid htl
        have hwj : IntKind.i64.wrap (jj : Int) = (jj : Int) := IntWalk.i64_in _ (by omega)
        have Hn2 := Lib.hid hn2
        have Hfv := Lib.hid hfv
        clear hT hB10 hS10 hci hcb hb710 hB610 htb htl hn2 hfv HL6 Hm6 H6 HB6 HL7 Hm7 H7 HB7 Hb8 HT6 hstr
        by_cases hx0 : xb = 0
        · have hblE := Hbl0.out hx0
          have htE : tb = tl := by rw [Htb.out, Htl.out, hblE]
          subst hx0
          have hf : fitsS K m (jj : Int) tb = true := by rw [Hfv.out, htE]; simp
          have hjn_ : joinS K m (chunks bl) = (l, 0) := by rw [hblE]; exact Hown.out.join h5
          rw [show ((0 : Nat) : Int) = 0 from rfl]
          clear Hbl0 Hblc hblE htE
          go_upto_region 25 with fail
          refine wp_region_held_drew (S := fun w' => Below w10.heap.size w10 w') (by kernel_rfl) ((Below.refl _ _).drew) (fun hH0 => ?_)
          obtain ⟨W0, hW0⟩ : ∃ W, W = w10.drew := ⟨_, rfl⟩
          rw [← hW0] at hH0 ⊢
          clear hW0
          refine wpAnyH_take (i := 0) (v := ?_) rfl (by kernel_rfl) (by kernel_rfl) (by kernel_rfl) (fun _ _ _ h => h) (Or.inl ⟨by kernel_rfl, ?_⟩) hH0 ?_
          rotate_left 1
          · intro w hSw
            go_simp
            try with_reducible rfl
          try simp only [Act.put, List.getElem_toArray, List.getElem_cons_zero, List.getElem_cons_succ, List.setIfInBounds_toArray, List.set_cons_zero, List.set_cons_succ]
          refine wpAnyH_take (i := 1) (v := ?_) rfl (by kernel_rfl) (by kernel_rfl) (by kernel_rfl) (fun _ _ _ h => h) (Or.inl ⟨by kernel_rfl, ?_⟩) hH0 ?_
          rotate_left 1
          · intro w hSw
            go_simp
            try with_reducible rfl
          try simp only [Act.put, List.getElem_toArray, List.getElem_cons_zero, List.getElem_cons_succ, List.setIfInBounds_toArray, List.set_cons_zero, List.set_cons_succ]
          refine wpAnyH_take (i := 2) (v := ?_) rfl (by kernel_rfl) (by kernel_rfl) (by kernel_rfl) (fun _ _ _ h => h) (Or.inl ⟨by kernel_rfl, ?_⟩) hH0 ?_
          rotate_left 1
          · intro w hSw
            go_simp
            try with_reducible rfl
          try simp only [Act.put, List.getElem_toArray, List.getElem_cons_zero, List.getElem_cons_succ, List.setIfInBounds_toArray, List.set_cons_zero, List.set_cons_succ]
          refine wpAnyH_take (i := 3) (v := undef) rfl (by kernel_rfl) (by kernel_rfl) (by kernel_rfl) (fun _ _ _ h => h) (Or.inr ⟨by kernel_rfl, rfl⟩) hH0 ?_
          try simp only [Act.put, List.getElem_toArray, List.getElem_cons_zero, List.getElem_cons_succ, List.setIfInBounds_toArray, List.set_cons_zero, List.set_cons_succ]
          refine wpAnyH_take (i := 4) (v := undef) rfl (by kernel_rfl) (by kernel_rfl) (by kernel_rfl) (fun _ _ _ h => h) (Or.inr ⟨by kernel_rfl, rfl⟩) hH0 ?_
          try simp only [Act.put, List.getElem_toArray, List.getElem_cons_zero, List.getElem_cons_succ, List.setIfInBounds_toArray, List.set_cons_zero, List.set_cons_succ]
          refine wpAnyH_take (i := 5) (v := undef) rfl (by kernel_rfl) (by kernel_rfl) (by kernel_rfl) (fun _ _ _ h => h) (Or.inr ⟨by kernel_rfl, rfl⟩) hH0 ?_
          try simp only [Act.put, List.getElem_toArray, List.getElem_cons_zero, List.getElem_cons_succ, List.setIfInBounds_toArray, List.set_cons_zero, List.set_cons_succ]
          refine wpAnyH_take (i := 6) (v := undef) rfl (by kernel_rfl) (by kernel_rfl) (by kernel_rfl) (fun _ _ _ h => h) (Or.inr ⟨by kernel_rfl, rfl⟩) hH0 ?_
          try simp only [Act.put, List.getElem_toArray, List.getElem_cons_zero, List.getElem_cons_succ, List.setIfInBounds_toArray, List.set_cons_zero, List.set_cons_succ]
          refine wpAnyH_take (i := 7) (v := undef) rfl (by kernel_rfl) (by kernel_rfl) (by kernel_rfl) (fun _ _ _ h => h) (Or.inr ⟨by kernel_rfl, rfl⟩) hH0 ?_
          try simp only [Act.put, List.getElem_toArray, List.getElem_cons_zero, List.getElem_cons_succ, List.setIfInBounds_toArray, List.set_cons_zero, List.set_cons_succ]
          refine wpAnyH_take (i := 8) (v := undef) rfl (by kernel_rfl) (by kernel_rfl) (by kernel_rfl) (fun _ _ _ h => h) (Or.inr ⟨by kernel_rfl, rfl⟩) hH0 ?_
          try simp only [Act.put, List.getElem_toArray, List.getElem_cons_zero, List.getElem_cons_succ, List.setIfInBounds_toArray, List.set_cons_zero, List.set_cons_succ]
          refine wpAnyH_take (i := 9) (v := undef) rfl (by kernel_rfl) (by kernel_rfl) (by kernel_rfl) (fun _ _ _ h => h) (Or.inr ⟨by kernel_rfl, rfl⟩) hH0 ?_
          try simp only [Act.put, List.getElem_toArray, List.getElem_cons_zero, List.getElem_cons_succ, List.setIfInBounds_toArray, List.set_cons_zero, List.set_cons_succ]
          refine wpAnyH_take (i := 10) (v := undef) rfl (by kernel_rfl) (by kernel_rfl) (by kernel_rfl) (fun _ _ _ h => h) (Or.inr ⟨by kernel_rfl, rfl⟩) hH0 ?_
          try simp only [Act.put, List.getElem_toArray, List.getElem_cons_zero, List.getElem_cons_succ, List.setIfInBounds_toArray, List.set_cons_zero, List.set_cons_succ]
          refine wpAnyH_take (i := 11) (v := undef) rfl (by kernel_rfl) (by kernel_rfl) (by kernel_rfl) (fun _ _ _ h => h) (Or.inr ⟨by kernel_rfl, rfl⟩) hH0 ?_
          try simp only [Act.put, List.getElem_toArray, List.getElem_cons_zero, List.getElem_cons_succ, List.setIfInBounds_toArray, List.set_cons_zero, List.set_cons_succ]
          refine wpAnyH_take (i := 12) (v := undef) rfl (by kernel_rfl) (by kernel_rfl) (by kernel_rfl) (fun _ _ _ h => h) (Or.inr ⟨by kernel_rfl, rfl⟩) hH0 ?_
          try simp only [Act.put, List.getElem_toArray, List.getElem_cons_zero, List.getElem_cons_succ, List.setIfInBounds_toArray, List.set_cons_zero, List.set_cons_succ]
          refine wpAnyH_take (i := 13) (v := undef) rfl (by kernel_rfl) (by kernel_rfl) (by kernel_rfl) (fun _ _ _ h => h) (Or.inr ⟨by kernel_rfl, rfl⟩) hH0 ?_
          try simp only [Act.put, List.getElem_toArray, List.getElem_cons_zero, List.getElem_cons_succ, List.setIfInBounds_toArray, List.set_cons_zero, List.set_cons_succ]
          refine wpAnyH_take (i := 14) (v := undef) rfl (by kernel_rfl) (by kernel_rfl) (by kernel_rfl) (fun _ _ _ h => h) (Or.inr ⟨by kernel_rfl, rfl⟩) hH0 ?_
          try simp only [Act.put, List.getElem_toArray, List.getElem_cons_zero, List.getElem_cons_succ, List.setIfInBounds_toArray, List.set_cons_zero, List.set_cons_succ]
          refine wpAnyH_take (i := 15) (v := undef) rfl (by kernel_rfl) (by kernel_rfl) (by kernel_rfl) (fun _ _ _ h => h) (Or.inr ⟨by kernel_rfl, rfl⟩) hH0 ?_
          try simp only [Act.put, List.getElem_toArray, List.getElem_cons_zero, List.getElem_cons_succ, List.setIfInBounds_toArray, List.set_cons_zero, List.set_cons_succ]
          refine wpAnyH_take (i := 16) (v := undef) rfl (by kernel_rfl) (by kernel_rfl) (by kernel_rfl) (fun _ _ _ h => h) (Or.inr ⟨by kernel_rfl, rfl⟩) hH0 ?_
          try simp only [Act.put, List.getElem_toArray, List.getElem_cons_zero, List.getElem_cons_succ, List.setIfInBounds_toArray, List.set_cons_zero, List.set_cons_succ]
          refine wpAnyH_take (i := 17) (v := undef) rfl (by kernel_rfl) (by kernel_rfl) (by kernel_rfl) (fun _ _ _ h => h) (Or.inr ⟨by kernel_rfl, rfl⟩) hH0 ?_
          try simp only [Act.put, List.getElem_toArray, List.getElem_cons_zero, List.getElem_cons_succ, List.setIfInBounds_toArray, List.set_cons_zero, List.set_cons_succ]
          refine wpAnyH_take (i := 18) (v := ?_) rfl (by kernel_rfl) (by kernel_rfl) (by kernel_rfl) (fun _ _ _ h => h) (Or.inl ⟨by kernel_rfl, ?_⟩) hH0 ?_
          rotate_left 1
          · intro w hSw
            go_simp
            try with_reducible rfl
          try simp only [Act.put, List.getElem_toArray, List.getElem_cons_zero, List.getElem_cons_succ, List.setIfInBounds_toArray, List.set_cons_zero, List.set_cons_succ]
          refine wpAnyH_done (by kernel_rfl) ?_ _
          have hb11 := hH0
          have hj := join_any K m (some ⟨g2, 0, none⟩) cap2 (chunks bl) W0 (HL10.out.below hb11) ((Hm10.out.below hb11 (Nat.le_refl _)).more hb11.size) ((HS10.out.below hb11 (Nat.le_refl _)).more hb11.size) (by rw [Hn2.out]; exact hcap2) hcx2 (by rw [Hn2.out]; omega) (fun t ht => by have := chunks_le bl t ht; omega)
          rw [hjn_, Hn2.out] at hj
          have Hj := Lib.hid hj
          have hrow := Lib.hid ((hb11.block p hp10).trans H10.out)
          have Hb11 := Lib.hid hb11
          clear hj hb11 hH0
          go_wp2_with (refine wpList_load_row rfl 27 _ rfl p rfl 27 _ (0, 0) _ hrow.out Tryd.underlying27 rfl hinf ?_)
          refine Hj.out.mono ?_
          rintro e w12 ⟨rfl, hB12⟩
          have hb12 : Below w10.heap.size w10 w12 := Hb11.out.trans (hB12.mono Hb11.out.size)
          have l12 := (hb12.cell (p := ⟨g2, jj, none⟩) hgl2).trans l1
          have hg12 : g2 < w12.heap.size := Nat.lt_of_lt_of_le hgl2 hb12.size
          have hp12 : p < w12.heap.size := Nat.lt_of_lt_of_le hp10 hb12.size
          have hrow2 : w12.heap[p]? = some (.cells m.row 27 (0, 0)) := (hb12.block p hp10).trans H10.out
          have rm_ : w12.rangeAt p 0 m.cells := fun j v hv => by
            rw [Nat.zero_add, Lib.cell_of_heap hrow2]
            unfold ManiD.row
            rw [List.getElem?_toArray]
            exact hv
          have HL0 := Lib.hid (HL10.out.below hb12)
          have Hm0 := Lib.hid ((Hm10.out.below hb12 (Nat.le_refl _)).more hb12.size)
          have HB12 := Lib.hid (HB10.out.trans (hb12.mono HB10.out.size))
          clear hb12 hrow2 hB12 Hb11 Hj hrow
          go_upto_region 28 with fail
          refine wp_region_held_drew (S := fun w' => Below w12.heap.size w12 w') (by kernel_rfl) ((Below.refl _ _).drew) (fun hH0 => ?_)
          obtain ⟨W0, hW0⟩ : ∃ W, W = w12.drew := ⟨_, rfl⟩
          rw [← hW0] at hH0 ⊢
          clear hW0
          refine wpAnyH_take (i := 0) (v := ?_) rfl (by kernel_rfl) (by kernel_rfl) (by kernel_rfl) (fun _ _ _ h => h) (Or.inl ⟨by kernel_rfl, ?_⟩) hH0 ?_
          rotate_left 1
          · intro w hSw
            go_simp
            try with_reducible rfl
          try simp only [Act.put, List.getElem_toArray, List.getElem_cons_zero, List.getElem_cons_succ, List.setIfInBounds_toArray, List.set_cons_zero, List.set_cons_succ]
          refine wpAnyH_take (i := 1) (v := ?_) rfl (by kernel_rfl) (by kernel_rfl) (by kernel_rfl) (fun _ _ _ h => h) (Or.inl ⟨by kernel_rfl, ?_⟩) hH0 ?_
          rotate_left 1
          · intro w hSw
            go_simp
            try with_reducible rfl
          try simp only [Act.put, List.getElem_toArray, List.getElem_cons_zero, List.getElem_cons_succ, List.setIfInBounds_toArray, List.set_cons_zero, List.set_cons_succ]
          refine wpAnyH_take (i := 2) (v := ?_) rfl (by kernel_rfl) (by kernel_rfl) (by kernel_rfl) (fun _ _ _ h => h) (Or.inl ⟨by kernel_rfl, ?_⟩) hH0 ?_
          rotate_left 1
          · intro w hSw
            go_simp
            try with_reducible rfl
          try simp only [Act.put, List.getElem_toArray, List.getElem_cons_zero, List.getElem_cons_succ, List.setIfInBounds_toArray, List.set_cons_zero, List.set_cons_succ]
          refine wpAnyH_take (i := 3) (v := ?_) rfl (by kernel_rfl) (by kernel_rfl) (by kernel_rfl) (fun _ _ _ h => h) (Or.inl ⟨by kernel_rfl, ?_⟩) hH0 ?_
          rotate_left 1
          · intro w hSw
            go_simp
            try with_reducible rfl
          try simp only [Act.put, List.getElem_toArray, List.getElem_cons_zero, List.getElem_cons_succ, List.setIfInBounds_toArray, List.set_cons_zero, List.set_cons_succ]
          refine wpAnyH_take (i := 4) (v := ?_) rfl (by kernel_rfl) (by kernel_rfl) (by kernel_rfl) (fun _ _ _ h => h) (Or.inl ⟨by kernel_rfl, ?_⟩) hH0 ?_
          rotate_left 1
          · intro w hSw
            go_simp
            try with_reducible rfl
          try simp only [Act.put, List.getElem_toArray, List.getElem_cons_zero, List.getElem_cons_succ, List.setIfInBounds_toArray, List.set_cons_zero, List.set_cons_succ]
          refine wpAnyH_take (i := 5) (v := ?_) rfl (by kernel_rfl) (by kernel_rfl) (by kernel_rfl) (fun _ _ _ h => h) (Or.inl ⟨by kernel_rfl, ?_⟩) hH0 ?_
          rotate_left 1
          · intro w hSw
            go_simp
            try with_reducible rfl
          try simp only [Act.put, List.getElem_toArray, List.getElem_cons_zero, List.getElem_cons_succ, List.setIfInBounds_toArray, List.set_cons_zero, List.set_cons_succ]
          refine wpAnyH_take (i := 6) (v := _) rfl (by kernel_rfl) (by kernel_rfl) (by kernel_rfl) (fun _ _ _ h => h) (yieldsIf_load_mid (by kernel_rfl) _ _ rfl _ _ rfl m.cells _ (fun W hW => range_below rm_ hW hp12) mund rfl minfo) hH0 ?_
          try simp only [Act.put, List.getElem_toArray, List.getElem_cons_zero, List.getElem_cons_succ, List.setIfInBounds_toArray, List.set_cons_zero, List.set_cons_succ]
          refine wpAnyH_take (i := 7) (v := ?_) rfl (by kernel_rfl) (by kernel_rfl) (by kernel_rfl) (fun _ _ _ h => h) (Or.inl ⟨by kernel_rfl, ?_⟩) hH0 ?_
          rotate_left 1
          · intro w hSw
            go_simp
            try with_reducible rfl
          try simp only [Act.put, List.getElem_toArray, List.getElem_cons_zero, List.getElem_cons_succ, List.setIfInBounds_toArray, List.set_cons_zero, List.set_cons_succ]
          refine wpAnyH_take (i := 8) (v := ?_) rfl (by kernel_rfl) (by kernel_rfl) (by kernel_rfl) (fun _ _ _ h => h) (Or.inl ⟨by kernel_rfl, ?_⟩) hH0 ?_
          rotate_left 1
          · intro w hSw
            go_simp
            try with_reducible rfl
          try simp only [Act.put, List.getElem_toArray, List.getElem_cons_zero, List.getElem_cons_succ, List.setIfInBounds_toArray, List.set_cons_zero, List.set_cons_succ]
          refine wpAnyH_take (i := 9) (v := ?_) rfl (by kernel_rfl) (by kernel_rfl) (by kernel_rfl) (fun _ _ _ h => h) (Or.inl ⟨by kernel_rfl, ?_⟩) hH0 ?_
          rotate_left 1
          · intro w hSw
            go_simp
            try with_reducible rfl
          try simp only [Act.put, List.getElem_toArray, List.getElem_cons_zero, List.getElem_cons_succ, List.setIfInBounds_toArray, List.set_cons_zero, List.set_cons_succ]
          refine wpAnyH_take (i := 10) (v := ?_) rfl (by kernel_rfl) (by kernel_rfl) (by kernel_rfl) (fun _ _ _ h => h) (Or.inl ⟨by kernel_rfl, ?_⟩) hH0 ?_
          rotate_left 1
          · intro w hSw
            go_simp
            try with_reducible rfl
          try simp only [Act.put, List.getElem_toArray, List.getElem_cons_zero, List.getElem_cons_succ, List.setIfInBounds_toArray, List.set_cons_zero, List.set_cons_succ]
          refine wpAnyH_take (i := 11) (v := ?_) rfl (by kernel_rfl) (by kernel_rfl) (by kernel_rfl) (fun _ _ _ h => h) (Or.inl ⟨by kernel_rfl, ?_⟩) hH0 ?_
          rotate_left 1
          · intro w hSw
            go_simp
            try with_reducible rfl
          try simp only [Act.put, List.getElem_toArray, List.getElem_cons_zero, List.getElem_cons_succ, List.setIfInBounds_toArray, List.set_cons_zero, List.set_cons_succ]
          refine wpAnyH_take (i := 12) (v := ?_) rfl (by kernel_rfl) (by kernel_rfl) (by kernel_rfl) (fun _ _ _ h => h) (Or.inl ⟨by kernel_rfl, ?_⟩) hH0 ?_
          rotate_left 1
          · intro w hSw
            go_simp
            try with_reducible rfl
          try simp only [Act.put, List.getElem_toArray, List.getElem_cons_zero, List.getElem_cons_succ, List.setIfInBounds_toArray, List.set_cons_zero, List.set_cons_succ]
          refine wpAnyH_take (i := 13) (v := ?_) rfl (by kernel_rfl) (by kernel_rfl) (by kernel_rfl) (fun _ _ _ h => h) (Or.inl ⟨by kernel_rfl, ?_⟩) hH0 ?_
          rotate_left 1
          · intro w hSw
            have f0 := (hSw.cell (p := ⟨g2, jj, none⟩) hg12).trans l12
            go_simp
            try with_reducible rfl
          try simp only [Act.put, List.getElem_toArray, List.getElem_cons_zero, List.getElem_cons_succ, List.setIfInBounds_toArray, List.set_cons_zero, List.set_cons_succ]
          refine wpAnyH_take (i := 15) (v := ?_) rfl (by kernel_rfl) (by kernel_rfl) (by kernel_rfl) (fun _ _ _ h => h) (Or.inl ⟨by kernel_rfl, ?_⟩) hH0 ?_
          rotate_left 1
          · intro w hSw
            go_simp
            try with_reducible rfl
          try simp only [Act.put, List.getElem_toArray, List.getElem_cons_zero, List.getElem_cons_succ, List.setIfInBounds_toArray, List.set_cons_zero, List.set_cons_succ]
          refine wpAnyH_take (i := 16) (v := ?_) rfl (by kernel_rfl) (by kernel_rfl) (by kernel_rfl) (fun _ _ _ h => h) (Or.inl ⟨by kernel_rfl, ?_⟩) hH0 ?_
          rotate_left 1
          · intro w hSw
            go_simp
            try with_reducible rfl
          try simp only [Act.put, List.getElem_toArray, List.getElem_cons_zero, List.getElem_cons_succ, List.setIfInBounds_toArray, List.set_cons_zero, List.set_cons_succ]
          refine wpAnyH_ready (rs := [14]) (by kernel_rfl) (by simp) ?_
          refine AllReadyH.cons rfl (fun K_ hK => ?_) ?_
          · go_simp
            refine (fits_any K m (jj : Int) (tb) _ (HL0.out.below hH0) ((Hm0.out.below hH0 (Nat.le_refl _)).more (hH0).size) (by omega) (by omega) (by omega)).mono ?_
            rintro e W1 ⟨rfl, hb1⟩
            rw [hf]
            refine hK.out _ _ ((hH0).trans (hb1.mono (hH0).size)) (fun hH1 => ?_)
            clear hK K_
            try simp only [Act.put, List.getElem_toArray, List.getElem_cons_zero, List.getElem_cons_succ, List.setIfInBounds_toArray, List.set_cons_zero, List.set_cons_succ]
            refine wpAnyH_take (i := 17) (v := ?_) rfl (by kernel_rfl) (by kernel_rfl) (by kernel_rfl) (fun _ _ _ h => h) (Or.inl ⟨by kernel_rfl, ?_⟩) hH1 ?_
            rotate_left 1
            · intro w hSw
              go_simp
              try with_reducible rfl
            try simp only [Act.put, List.getElem_toArray, List.getElem_cons_zero, List.getElem_cons_succ, List.setIfInBounds_toArray, List.set_cons_zero, List.set_cons_succ]
            refine wpAnyH_take (i := 18) (v := ?_) rfl (by kernel_rfl) (by kernel_rfl) (by kernel_rfl) (fun _ _ _ h => h) (Or.inl ⟨by kernel_rfl, ?_⟩) hH1 ?_
            rotate_left 1
            · intro w hSw
              go_simp
              try with_reducible rfl
            try simp only [Act.put, List.getElem_toArray, List.getElem_cons_zero, List.getElem_cons_succ, List.setIfInBounds_toArray, List.set_cons_zero, List.set_cons_succ]
            refine wpAnyH_take (i := 19) (v := ?_) rfl (by kernel_rfl) (by kernel_rfl) (by kernel_rfl) (fun _ _ _ h => h) (Or.inl ⟨by kernel_rfl, ?_⟩) hH1 ?_
            rotate_left 1
            · intro w hSw
              go_simp
              try with_reducible rfl
            try simp only [Act.put, List.getElem_toArray, List.getElem_cons_zero, List.getElem_cons_succ, List.setIfInBounds_toArray, List.set_cons_zero, List.set_cons_succ]
            refine wpAnyH_done (by kernel_rfl) ?_ _
            have HH := Lib.hid hH1
            clear hH1
            go_wp2_with fail
            go_ret
            exact ⟨by simp, HB12.out.trans (HH.out.mono HB12.out.size)⟩
          exact AllReadyH.nil
        · have hxI : ¬ (xb : Int) = 0 := by omega
          have hxE : ((xb : Int) == 0) = false := by simpa using hxI
          have hxN : ((xb : Int) != 0) = true := by simpa using hxI
          have hh0 : (0 : Int) < (xb : Int) := by omega
          by_cases hhe : hashB K tb = hashB K tl
          · have heqd : ∀ W : World, (Op.equalIn 10000 24 (.agg (digV (hashB K tb))) (.agg (digV (hashB K tl)))).run Tryd.prog W = .ok true W := fun W => by
              have := eqIn_dig W (hashB K tb) (hashB K tl) (hashB_length K tb) (hashB_length K tl)
              rw [this, hhe]; simp
            have HL0 := HL10
            have Hm0 := Hm10
            clear hhe
            go_upto_region 25 with fail
            refine wp_region_held_drew (S := fun w' => Below w10.heap.size w10 w') (by kernel_rfl) ((Below.refl _ _).drew) (fun hH0 => ?_)
            obtain ⟨W0, hW0⟩ : ∃ W, W = w10.drew := ⟨_, rfl⟩
            rw [← hW0] at hH0 ⊢
            clear hW0
            refine wpAnyH_take (i := 0) (v := ?_) rfl (by kernel_rfl) (by kernel_rfl) (by kernel_rfl) (fun _ _ _ h => h) (Or.inl ⟨by kernel_rfl, ?_⟩) hH0 ?_
            rotate_left 1
            · intro w hSw
              go_simp
              try with_reducible rfl
            try simp only [Act.put, List.getElem_toArray, List.getElem_cons_zero, List.getElem_cons_succ, List.setIfInBounds_toArray, List.set_cons_zero, List.set_cons_succ]
            refine wpAnyH_take (i := 1) (v := ?_) rfl (by kernel_rfl) (by kernel_rfl) (by kernel_rfl) (fun _ _ _ h => h) (Or.inl ⟨by kernel_rfl, ?_⟩) hH0 ?_
            rotate_left 1
            · intro w hSw
              go_simp
              try with_reducible rfl
            try simp only [Act.put, List.getElem_toArray, List.getElem_cons_zero, List.getElem_cons_succ, List.setIfInBounds_toArray, List.set_cons_zero, List.set_cons_succ]
            refine wpAnyH_take (i := 2) (v := ?_) rfl (by kernel_rfl) (by kernel_rfl) (by kernel_rfl) (fun _ _ _ h => h) (Or.inl ⟨by kernel_rfl, ?_⟩) hH0 ?_
            rotate_left 1
            · intro w hSw
              go_simp
              try with_reducible rfl
            try simp only [Act.put, List.getElem_toArray, List.getElem_cons_zero, List.getElem_cons_succ, List.setIfInBounds_toArray, List.set_cons_zero, List.set_cons_succ]
            refine wpAnyH_take (i := 3) (v := ?_) rfl (by kernel_rfl) (by kernel_rfl) (by kernel_rfl) (fun _ _ _ h => h) (Or.inl ⟨by kernel_rfl, ?_⟩) hH0 ?_
            rotate_left 1
            · intro w hSw
              go_simp
              try with_reducible rfl
            try simp only [Act.put, List.getElem_toArray, List.getElem_cons_zero, List.getElem_cons_succ, List.setIfInBounds_toArray, List.set_cons_zero, List.set_cons_succ]
            refine wpAnyH_take (i := 4) (v := ?_) rfl (by kernel_rfl) (by kernel_rfl) (by kernel_rfl) (fun _ _ _ h => h) (Or.inl ⟨by kernel_rfl, ?_⟩) hH0 ?_
            rotate_left 1
            · intro w hSw
              go_simp
              try with_reducible rfl
            try simp only [Act.put, List.getElem_toArray, List.getElem_cons_zero, List.getElem_cons_succ, List.setIfInBounds_toArray, List.set_cons_zero, List.set_cons_succ]
            refine wpAnyH_take (i := 5) (v := ?_) rfl (by kernel_rfl) (by kernel_rfl) (by kernel_rfl) (fun _ _ _ h => h) (Or.inl ⟨by kernel_rfl, ?_⟩) hH0 ?_
            rotate_left 1
            · intro w hSw
              go_simp
              try with_reducible rfl
            try simp only [Act.put, List.getElem_toArray, List.getElem_cons_zero, List.getElem_cons_succ, List.setIfInBounds_toArray, List.set_cons_zero, List.set_cons_succ]
            refine wpAnyH_take (i := 6) (v := ?_) rfl (by kernel_rfl) (by kernel_rfl) (by kernel_rfl) (fun _ _ _ h => h) (Or.inl ⟨by kernel_rfl, ?_⟩) hH0 ?_
            rotate_left 1
            · intro w hSw
              go_simp
              try with_reducible rfl
            try simp only [Act.put, List.getElem_toArray, List.getElem_cons_zero, List.getElem_cons_succ, List.setIfInBounds_toArray, List.set_cons_zero, List.set_cons_succ]
            refine wpAnyH_take (i := 7) (v := ?_) rfl (by kernel_rfl) (by kernel_rfl) (by kernel_rfl) (fun _ _ _ h => h) (Or.inl ⟨by kernel_rfl, ?_⟩) hH0 ?_
            rotate_left 1
            · intro w hSw
              have f0 := (hSw.cell (p := ⟨g, jj, none⟩) hgr).trans l0
              have f1 := (hSw.cell (p := ⟨g2, jj, none⟩) hgl2).trans l1
              go_simp
              try with_reducible rfl
            try simp only [Act.put, List.getElem_toArray, List.getElem_cons_zero, List.getElem_cons_succ, List.setIfInBounds_toArray, List.set_cons_zero, List.set_cons_succ]
            refine wpAnyH_take (i := 10) (v := ?_) rfl (by kernel_rfl) (by kernel_rfl) (by kernel_rfl) (fun _ _ _ h => h) (Or.inl ⟨by kernel_rfl, ?_⟩) hH0 ?_
            rotate_left 1
            · intro w hSw
              go_simp
              try with_reducible rfl
            try simp only [Act.put, List.getElem_toArray, List.getElem_cons_zero, List.getElem_cons_succ, List.setIfInBounds_toArray, List.set_cons_zero, List.set_cons_succ]
            refine wpAnyH_take (i := 11) (v := ?_) rfl (by kernel_rfl) (by kernel_rfl) (by kernel_rfl) (fun _ _ _ h => h) (Or.inl ⟨by kernel_rfl, ?_⟩) hH0 ?_
            rotate_left 1
            · intro w hSw
              go_simp
              try with_reducible rfl
            try simp only [Act.put, List.getElem_toArray, List.getElem_cons_zero, List.getElem_cons_succ, List.setIfInBounds_toArray, List.set_cons_zero, List.set_cons_succ]
            refine wpAnyH_take (i := 12) (v := ?_) rfl (by kernel_rfl) (by kernel_rfl) (by kernel_rfl) (fun _ _ _ h => h) (Or.inl ⟨by kernel_rfl, ?_⟩) hH0 ?_
            rotate_left 1
            · intro w hSw
              go_simp
              try with_reducible rfl
            try simp only [Act.put, List.getElem_toArray, List.getElem_cons_zero, List.getElem_cons_succ, List.setIfInBounds_toArray, List.set_cons_zero, List.set_cons_succ]
            refine wpAnyH_take (i := 13) (v := ?_) rfl (by kernel_rfl) (by kernel_rfl) (by kernel_rfl) (fun _ _ _ h => h) (Or.inl ⟨by kernel_rfl, ?_⟩) hH0 ?_
            rotate_left 1
            · intro w hSw
              go_simp
              try with_reducible rfl
            try simp only [Act.put, List.getElem_toArray, List.getElem_cons_zero, List.getElem_cons_succ, List.setIfInBounds_toArray, List.set_cons_zero, List.set_cons_succ]
            refine wpAnyH_take (i := 14) (v := ?_) rfl (by kernel_rfl) (by kernel_rfl) (by kernel_rfl) (fun _ _ _ h => h) (Or.inl ⟨by kernel_rfl, ?_⟩) hH0 ?_
            rotate_left 1
            · intro w hSw
              have f0 := (hSw.cell (p := ⟨g, jj, none⟩) hgr).trans l0
              have f1 := (hSw.cell (p := ⟨g2, jj, none⟩) hgl2).trans l1
              go_simp
              try with_reducible rfl
            try simp only [Act.put, List.getElem_toArray, List.getElem_cons_zero, List.getElem_cons_succ, List.setIfInBounds_toArray, List.set_cons_zero, List.set_cons_succ]
            refine wpAnyH_ready (rs := [8, 15]) (by kernel_rfl) (by simp) ?_
            refine AllReadyH.cons rfl (fun K_ hK => ?_) ?_
            · go_simp
              have hb1 := (Below.refl W0.heap.size W0).alloc (Nat.le_refl _) (.cells #[.string ⟨(tb).toArray⟩] 9)
              have cb1 : (W0.alloc (.cells #[.string ⟨(tb).toArray⟩] 9)).cell? ⟨W0.heap.size, 0, none⟩ = some (.string ⟨(tb).toArray⟩) := by rw [Lib.cell_of_heap (heap_alloc_new W0 _)]; rfl
              obtain ⟨W1, hW1⟩ : ∃ W, W = W0.alloc (.cells #[.string ⟨(tb).toArray⟩] 9) := ⟨_, rfl⟩
              have hl1 : W0.heap.size < W1.heap.size := by rw [hW1]; simp
              rw [← hW1] at hb1 cb1 ⊢
              clear hW1
              refine hK.out _ _ ((hH0).trans (hb1.mono (hH0).size)) (fun hH1 => ?_)
              clear hK K_
              try simp only [Act.put, List.getElem_toArray, List.getElem_cons_zero, List.getElem_cons_succ, List.setIfInBounds_toArray, List.set_cons_zero, List.set_cons_succ]
              refine wpAnyH_ready (rs := [9, 15]) (by kernel_rfl) (by simp) ?_
              refine AllReadyH.cons rfl (fun K_ hK => ?_) ?_
              · go_simp
                refine (of_hash K _ 1 (tb) _ (HL0.out.below hH1) ⟨_, rfl, cb1⟩ (by omega)).mono ?_
                rintro e W2 ⟨rfl, hb2⟩
                have c8_2 := (hb2.cell (p := ⟨W0.heap.size, 0, none⟩) hl1).trans cb1
                have l8_2 : (⟨W0.heap.size, 0, none⟩ : Addr).block < W2.heap.size := Nat.lt_of_lt_of_le hl1 hb2.size
                refine hK.out _ _ ((hH1).trans (hb2.mono (hH1).size)) (fun hH2 => ?_)
                clear hK K_
                try simp only [Act.put, List.getElem_toArray, List.getElem_cons_zero, List.getElem_cons_succ, List.setIfInBounds_toArray, List.set_cons_zero, List.set_cons_succ]
                refine wpAnyH_ready (rs := [15]) (by kernel_rfl) (by simp) ?_
                refine AllReadyH.cons rfl (fun K_ hK => ?_) ?_
                · go_simp
                  have hb3 := (Below.refl W2.heap.size W2).alloc (Nat.le_refl _) (.cells #[.string ⟨(tl).toArray⟩] 9)
                  have cb3 : (W2.alloc (.cells #[.string ⟨(tl).toArray⟩] 9)).cell? ⟨W2.heap.size, 0, none⟩ = some (.string ⟨(tl).toArray⟩) := by rw [Lib.cell_of_heap (heap_alloc_new W2 _)]; rfl
                  obtain ⟨W3, hW3⟩ : ∃ W, W = W2.alloc (.cells #[.string ⟨(tl).toArray⟩] 9) := ⟨_, rfl⟩
                  have hl3 : W2.heap.size < W3.heap.size := by rw [hW3]; simp
                  rw [← hW3] at hb3 cb3 ⊢
                  clear hW3
                  have c8_3 := (hb3.cell (p := ⟨W0.heap.size, 0, none⟩) l8_2).trans c8_2
                  have l8_3 : (⟨W0.heap.size, 0, none⟩ : Addr).block < W3.heap.size := Nat.lt_of_lt_of_le l8_2 hb3.size
                  refine hK.out _ _ ((hH2).trans (hb3.mono (hH2).size)) (fun hH3 => ?_)
                  clear hK K_
                  try simp only [Act.put, List.getElem_toArray, List.getElem_cons_zero, List.getElem_cons_succ, List.setIfInBounds_toArray, List.set_cons_zero, List.set_cons_succ]
                  refine wpAnyH_ready (rs := [16]) (by kernel_rfl) (by simp) ?_
                  refine AllReadyH.cons rfl (fun K_ hK => ?_) ?_
                  · go_simp
                    refine (of_hash K _ 1 (tl) _ (HL0.out.below hH3) ⟨_, rfl, cb3⟩ (by omega)).mono ?_
                    rintro e W4 ⟨rfl, hb4⟩
                    have c8_4 := (hb4.cell (p := ⟨W0.heap.size, 0, none⟩) l8_3).trans c8_3
                    have l8_4 : (⟨W0.heap.size, 0, none⟩ : Addr).block < W4.heap.size := Nat.lt_of_lt_of_le l8_3 hb4.size
                    have c15_4 := (hb4.cell (p := ⟨W2.heap.size, 0, none⟩) hl3).trans cb3
                    have l15_4 : (⟨W2.heap.size, 0, none⟩ : Addr).block < W4.heap.size := Nat.lt_of_lt_of_le hl3 hb4.size
                    refine hK.out _ _ ((hH3).trans (hb4.mono (hH3).size)) (fun hH4 => ?_)
                    clear hK K_
                    try simp only [Act.put, List.getElem_toArray, List.getElem_cons_zero, List.getElem_cons_succ, List.setIfInBounds_toArray, List.set_cons_zero, List.set_cons_succ]
                    refine wpAnyH_take (i := 17) (v := ?_) rfl (by kernel_rfl) (by kernel_rfl) (by kernel_rfl) (fun _ _ _ h => h) (Or.inl ⟨by kernel_rfl, ?_⟩) hH4 ?_
                    rotate_left 1
                    · intro w hSw
                      go_simp
                      try with_reducible rfl
                    try simp only [Act.put, List.getElem_toArray, List.getElem_cons_zero, List.getElem_cons_succ, List.setIfInBounds_toArray, List.set_cons_zero, List.set_cons_succ]
                    refine wpAnyH_take (i := 18) (v := ?_) rfl (by kernel_rfl) (by kernel_rfl) (by kernel_rfl) (fun _ _ _ h => h) (Or.inl ⟨by kernel_rfl, ?_⟩) hH4 ?_
                    rotate_left 1
                    · intro w hSw
                      go_simp
                      try with_reducible rfl
                    try simp only [Act.put, List.getElem_toArray, List.getElem_cons_zero, List.getElem_cons_succ, List.setIfInBounds_toArray, List.set_cons_zero, List.set_cons_succ]
                    refine wpAnyH_done (by kernel_rfl) ?_ _
                    have HH := Lib.hid hH4
                    clear hH4
                    go_wp2_with fail
                    go_ret
                    exact ⟨rfl, HB10.out.trans (HH.out.mono HB10.out.size)⟩
                  exact AllReadyH.nil
                exact AllReadyH.nil
              refine AllReadyH.cons rfl (fun K_ hK => ?_) ?_
              · go_simp
                have hb5 := (Below.refl W1.heap.size W1).alloc (Nat.le_refl _) (.cells #[.string ⟨(tl).toArray⟩] 9)
                have cb5 : (W1.alloc (.cells #[.string ⟨(tl).toArray⟩] 9)).cell? ⟨W1.heap.size, 0, none⟩ = some (.string ⟨(tl).toArray⟩) := by rw [Lib.cell_of_heap (heap_alloc_new W1 _)]; rfl
                obtain ⟨W5, hW5⟩ : ∃ W, W = W1.alloc (.cells #[.string ⟨(tl).toArray⟩] 9) := ⟨_, rfl⟩
                have hl5 : W1.heap.size < W5.heap.size := by rw [hW5]; simp
                rw [← hW5] at hb5 cb5 ⊢
                clear hW5
                have c8_5 := (hb5.cell (p := ⟨W0.heap.size, 0, none⟩) hl1).trans cb1
                have l8_5 : (⟨W0.heap.size, 0, none⟩ : Addr).block < W5.heap.size := Nat.lt_of_lt_of_le hl1 hb5.size
                refine hK.out _ _ ((hH1).trans (hb5.mono (hH1).size)) (fun hH5 => ?_)
                clear hK K_
                try simp only [Act.put, List.getElem_toArray, List.getElem_cons_zero, List.getElem_cons_succ, List.setIfInBounds_toArray, List.set_cons_zero, List.set_cons_succ]
                refine wpAnyH_ready (rs := [9]) (by kernel_rfl) (by simp) ?_
                refine AllReadyH.cons rfl (fun K_ hK => ?_) ?_
                · go_simp
                  refine (of_hash K _ 1 (tb) _ (HL0.out.below hH5) ⟨_, rfl, c8_5⟩ (by omega)).mono ?_
                  rintro e W6 ⟨rfl, hb6⟩
                  have c8_6 := (hb6.cell (p := ⟨W0.heap.size, 0, none⟩) l8_5).trans c8_5
                  have l8_6 : (⟨W0.heap.size, 0, none⟩ : Addr).block < W6.heap.size := Nat.lt_of_lt_of_le l8_5 hb6.size
                  have c15_6 := (hb6.cell (p := ⟨W1.heap.size, 0, none⟩) hl5).trans cb5
                  have l15_6 : (⟨W1.heap.size, 0, none⟩ : Addr).block < W6.heap.size := Nat.lt_of_lt_of_le hl5 hb6.size
                  refine hK.out _ _ ((hH5).trans (hb6.mono (hH5).size)) (fun hH6 => ?_)
                  clear hK K_
                  try simp only [Act.put, List.getElem_toArray, List.getElem_cons_zero, List.getElem_cons_succ, List.setIfInBounds_toArray, List.set_cons_zero, List.set_cons_succ]
                  refine wpAnyH_ready (rs := [16]) (by kernel_rfl) (by simp) ?_
                  refine AllReadyH.cons rfl (fun K_ hK => ?_) ?_
                  · go_simp
                    refine (of_hash K _ 1 (tl) _ (HL0.out.below hH6) ⟨_, rfl, c15_6⟩ (by omega)).mono ?_
                    rintro e W7 ⟨rfl, hb7⟩
                    have c8_7 := (hb7.cell (p := ⟨W0.heap.size, 0, none⟩) l8_6).trans c8_6
                    have l8_7 : (⟨W0.heap.size, 0, none⟩ : Addr).block < W7.heap.size := Nat.lt_of_lt_of_le l8_6 hb7.size
                    have c15_7 := (hb7.cell (p := ⟨W1.heap.size, 0, none⟩) l15_6).trans c15_6
                    have l15_7 : (⟨W1.heap.size, 0, none⟩ : Addr).block < W7.heap.size := Nat.lt_of_lt_of_le l15_6 hb7.size
                    refine hK.out _ _ ((hH6).trans (hb7.mono (hH6).size)) (fun hH7 => ?_)
                    clear hK K_
                    try simp only [Act.put, List.getElem_toArray, List.getElem_cons_zero, List.getElem_cons_succ, List.setIfInBounds_toArray, List.set_cons_zero, List.set_cons_succ]
                    refine wpAnyH_take (i := 17) (v := ?_) rfl (by kernel_rfl) (by kernel_rfl) (by kernel_rfl) (fun _ _ _ h => h) (Or.inl ⟨by kernel_rfl, ?_⟩) hH7 ?_
                    rotate_left 1
                    · intro w hSw
                      go_simp
                      try with_reducible rfl
                    try simp only [Act.put, List.getElem_toArray, List.getElem_cons_zero, List.getElem_cons_succ, List.setIfInBounds_toArray, List.set_cons_zero, List.set_cons_succ]
                    refine wpAnyH_take (i := 18) (v := ?_) rfl (by kernel_rfl) (by kernel_rfl) (by kernel_rfl) (fun _ _ _ h => h) (Or.inl ⟨by kernel_rfl, ?_⟩) hH7 ?_
                    rotate_left 1
                    · intro w hSw
                      go_simp
                      try with_reducible rfl
                    try simp only [Act.put, List.getElem_toArray, List.getElem_cons_zero, List.getElem_cons_succ, List.setIfInBounds_toArray, List.set_cons_zero, List.set_cons_succ]
                    refine wpAnyH_done (by kernel_rfl) ?_ _
                    have HH := Lib.hid hH7
                    clear hH7
                    go_wp2_with fail
                    go_ret
                    exact ⟨rfl, HB10.out.trans (HH.out.mono HB10.out.size)⟩
                  exact AllReadyH.nil
                exact AllReadyH.nil
              exact AllReadyH.nil
            refine AllReadyH.cons rfl (fun K_ hK => ?_) ?_
            · go_simp
              have hb8 := (Below.refl W0.heap.size W0).alloc (Nat.le_refl _) (.cells #[.string ⟨(tl).toArray⟩] 9)
              have cb8 : (W0.alloc (.cells #[.string ⟨(tl).toArray⟩] 9)).cell? ⟨W0.heap.size, 0, none⟩ = some (.string ⟨(tl).toArray⟩) := by rw [Lib.cell_of_heap (heap_alloc_new W0 _)]; rfl
              obtain ⟨W8, hW8⟩ : ∃ W, W = W0.alloc (.cells #[.string ⟨(tl).toArray⟩] 9) := ⟨_, rfl⟩
              have hl8 : W0.heap.size < W8.heap.size := by rw [hW8]; simp
              rw [← hW8] at hb8 cb8 ⊢
              clear hW8
              refine hK.out _ _ ((hH0).trans (hb8.mono (hH0).size)) (fun hH8 => ?_)
              clear hK K_
              try simp only [Act.put, List.getElem_toArray, List.getElem_cons_zero, List.getElem_cons_succ, List.setIfInBounds_toArray, List.set_cons_zero, List.set_cons_succ]
              refine wpAnyH_ready (rs := [8]) (by kernel_rfl) (by simp) ?_
              refine AllReadyH.cons rfl (fun K_ hK => ?_) ?_
              · go_simp
                have hb9 := (Below.refl W8.heap.size W8).alloc (Nat.le_refl _) (.cells #[.string ⟨(tb).toArray⟩] 9)
                have cb9 : (W8.alloc (.cells #[.string ⟨(tb).toArray⟩] 9)).cell? ⟨W8.heap.size, 0, none⟩ = some (.string ⟨(tb).toArray⟩) := by rw [Lib.cell_of_heap (heap_alloc_new W8 _)]; rfl
                obtain ⟨W9, hW9⟩ : ∃ W, W = W8.alloc (.cells #[.string ⟨(tb).toArray⟩] 9) := ⟨_, rfl⟩
                have hl9 : W8.heap.size < W9.heap.size := by rw [hW9]; simp
                rw [← hW9] at hb9 cb9 ⊢
                clear hW9
                have c15_9 := (hb9.cell (p := ⟨W0.heap.size, 0, none⟩) hl8).trans cb8
                have l15_9 : (⟨W0.heap.size, 0, none⟩ : Addr).block < W9.heap.size := Nat.lt_of_lt_of_le hl8 hb9.size
                refine hK.out _ _ ((hH8).trans (hb9.mono (hH8).size)) (fun hH9 => ?_)
                clear hK K_
                try simp only [Act.put, List.getElem_toArray, List.getElem_cons_zero, List.getElem_cons_succ, List.setIfInBounds_toArray, List.set_cons_zero, List.set_cons_succ]
                refine wpAnyH_ready (rs := [9]) (by kernel_rfl) (by simp) ?_
                refine AllReadyH.cons rfl (fun K_ hK => ?_) ?_
                · go_simp
                  refine (of_hash K _ 1 (tb) _ (HL0.out.below hH9) ⟨_, rfl, cb9⟩ (by omega)).mono ?_
                  rintro e W10 ⟨rfl, hb10⟩
                  have c15_10 := (hb10.cell (p := ⟨W0.heap.size, 0, none⟩) l15_9).trans c15_9
                  have l15_10 : (⟨W0.heap.size, 0, none⟩ : Addr).block < W10.heap.size := Nat.lt_of_lt_of_le l15_9 hb10.size
                  have c8_10 := (hb10.cell (p := ⟨W8.heap.size, 0, none⟩) hl9).trans cb9
                  have l8_10 : (⟨W8.heap.size, 0, none⟩ : Addr).block < W10.heap.size := Nat.lt_of_lt_of_le hl9 hb10.size
                  refine hK.out _ _ ((hH9).trans (hb10.mono (hH9).size)) (fun hH10 => ?_)
                  clear hK K_
                  try simp only [Act.put, List.getElem_toArray, List.getElem_cons_zero, List.getElem_cons_succ, List.setIfInBounds_toArray, List.set_cons_zero, List.set_cons_succ]
                  refine wpAnyH_ready (rs := [16]) (by kernel_rfl) (by simp) ?_
                  refine AllReadyH.cons rfl (fun K_ hK => ?_) ?_
                  · go_simp
                    refine (of_hash K _ 1 (tl) _ (HL0.out.below hH10) ⟨_, rfl, c15_10⟩ (by omega)).mono ?_
                    rintro e W11 ⟨rfl, hb11⟩
                    have c15_11 := (hb11.cell (p := ⟨W0.heap.size, 0, none⟩) l15_10).trans c15_10
                    have l15_11 : (⟨W0.heap.size, 0, none⟩ : Addr).block < W11.heap.size := Nat.lt_of_lt_of_le l15_10 hb11.size
                    have c8_11 := (hb11.cell (p := ⟨W8.heap.size, 0, none⟩) l8_10).trans c8_10
                    have l8_11 : (⟨W8.heap.size, 0, none⟩ : Addr).block < W11.heap.size := Nat.lt_of_lt_of_le l8_10 hb11.size
                    refine hK.out _ _ ((hH10).trans (hb11.mono (hH10).size)) (fun hH11 => ?_)
                    clear hK K_
                    try simp only [Act.put, List.getElem_toArray, List.getElem_cons_zero, List.getElem_cons_succ, List.setIfInBounds_toArray, List.set_cons_zero, List.set_cons_succ]
                    refine wpAnyH_take (i := 17) (v := ?_) rfl (by kernel_rfl) (by kernel_rfl) (by kernel_rfl) (fun _ _ _ h => h) (Or.inl ⟨by kernel_rfl, ?_⟩) hH11 ?_
                    rotate_left 1
                    · intro w hSw
                      go_simp
                      try with_reducible rfl
                    try simp only [Act.put, List.getElem_toArray, List.getElem_cons_zero, List.getElem_cons_succ, List.setIfInBounds_toArray, List.set_cons_zero, List.set_cons_succ]
                    refine wpAnyH_take (i := 18) (v := ?_) rfl (by kernel_rfl) (by kernel_rfl) (by kernel_rfl) (fun _ _ _ h => h) (Or.inl ⟨by kernel_rfl, ?_⟩) hH11 ?_
                    rotate_left 1
                    · intro w hSw
                      go_simp
                      try with_reducible rfl
                    try simp only [Act.put, List.getElem_toArray, List.getElem_cons_zero, List.getElem_cons_succ, List.setIfInBounds_toArray, List.set_cons_zero, List.set_cons_succ]
                    refine wpAnyH_done (by kernel_rfl) ?_ _
                    have HH := Lib.hid hH11
                    clear hH11
                    go_wp2_with fail
                    go_ret
                    exact ⟨rfl, HB10.out.trans (HH.out.mono HB10.out.size)⟩
                  exact AllReadyH.nil
                exact AllReadyH.nil
              exact AllReadyH.nil
            exact AllReadyH.nil
          · have heqd : ∀ W : World, (Op.equalIn 10000 24 (.agg (digV (hashB K tb))) (.agg (digV (hashB K tl)))).run Tryd.prog W = .ok false W := fun W => by
              have := eqIn_dig W (hashB K tb) (hashB K tl) (hashB_length K tb) (hashB_length K tl)
              rw [this]; simp [hhe]
            have hf : fitsS K m (jj : Int) tb = false := by rw [Hfv.out]; simp [hhe]
            have hjne : (joinS K m (chunks bl)).2 ≠ 0 := by
              unfold joinS
              split
              · rw [if_neg]
                · decide
                · intro h
                  have h1 := List.all_eq_true.1 h jj (List.mem_range.2 (by rw [Hn2.out]; exact hjn))
                  rw [chunks_getD bl jj (by rw [Hn2.out]; exact hjn), ← Htb.out, hf] at h1
                  cases h1
              · decide
            obtain ⟨rt, re, hjn_⟩ : ∃ rt re, joinS K m (chunks bl) = (rt, re) := ⟨_, _, rfl⟩
            have hre : ¬ re = 0 := by rw [hjn_] at hjne; exact hjne
            have hreE : (re == 0) = false := by simpa using hre
            have HL0 := HL10
            have Hm0 := Hm10
            clear hhe hjne
            go_upto_region 25 with fail
            refine wp_region_held_drew (S := fun w' => Below w10.heap.size w10 w') (by kernel_rfl) ((Below.refl _ _).drew) (fun hH0 => ?_)
            obtain ⟨W0, hW0⟩ : ∃ W, W = w10.drew := ⟨_, rfl⟩
            rw [← hW0] at hH0 ⊢
            clear hW0
            refine wpAnyH_take (i := 0) (v := ?_) rfl (by kernel_rfl) (by kernel_rfl) (by kernel_rfl) (fun _ _ _ h => h) (Or.inl ⟨by kernel_rfl, ?_⟩) hH0 ?_
            rotate_left 1
            · intro w hSw
              go_simp
              try with_reducible rfl
            try simp only [Act.put, List.getElem_toArray, List.getElem_cons_zero, List.getElem_cons_succ, List.setIfInBounds_toArray, List.set_cons_zero, List.set_cons_succ]
            refine wpAnyH_take (i := 1) (v := ?_) rfl (by kernel_rfl) (by kernel_rfl) (by kernel_rfl) (fun _ _ _ h => h) (Or.inl ⟨by kernel_rfl, ?_⟩) hH0 ?_
            rotate_left 1
            · intro w hSw
              go_simp
              try with_reducible rfl
            try simp only [Act.put, List.getElem_toArray, List.getElem_cons_zero, List.getElem_cons_succ, List.setIfInBounds_toArray, List.set_cons_zero, List.set_cons_succ]
            refine wpAnyH_take (i := 2) (v := ?_) rfl (by kernel_rfl) (by kernel_rfl) (by kernel_rfl) (fun _ _ _ h => h) (Or.inl ⟨by kernel_rfl, ?_⟩) hH0 ?_
            rotate_left 1
            · intro w hSw
              go_simp
              try with_reducible rfl
            try simp only [Act.put, List.getElem_toArray, List.getElem_cons_zero, List.getElem_cons_succ, List.setIfInBounds_toArray, List.set_cons_zero, List.set_cons_succ]
            refine wpAnyH_take (i := 3) (v := ?_) rfl (by kernel_rfl) (by kernel_rfl) (by kernel_rfl) (fun _ _ _ h => h) (Or.inl ⟨by kernel_rfl, ?_⟩) hH0 ?_
            rotate_left 1
            · intro w hSw
              go_simp
              try with_reducible rfl
            try simp only [Act.put, List.getElem_toArray, List.getElem_cons_zero, List.getElem_cons_succ, List.setIfInBounds_toArray, List.set_cons_zero, List.set_cons_succ]
            refine wpAnyH_take (i := 4) (v := ?_) rfl (by kernel_rfl) (by kernel_rfl) (by kernel_rfl) (fun _ _ _ h => h) (Or.inl ⟨by kernel_rfl, ?_⟩) hH0 ?_
            rotate_left 1
            · intro w hSw
              go_simp
              try with_reducible rfl
            try simp only [Act.put, List.getElem_toArray, List.getElem_cons_zero, List.getElem_cons_succ, List.setIfInBounds_toArray, List.set_cons_zero, List.set_cons_succ]
            refine wpAnyH_take (i := 5) (v := ?_) rfl (by kernel_rfl) (by kernel_rfl) (by kernel_rfl) (fun _ _ _ h => h) (Or.inl ⟨by kernel_rfl, ?_⟩) hH0 ?_
            rotate_left 1
            · intro w hSw
              go_simp
              try with_reducible rfl
            try simp only [Act.put, List.getElem_toArray, List.getElem_cons_zero, List.getElem_cons_succ, List.setIfInBounds_toArray, List.set_cons_zero, List.set_cons_succ]
            refine wpAnyH_take (i := 6) (v := ?_) rfl (by kernel_rfl) (by kernel_rfl) (by kernel_rfl) (fun _ _ _ h => h) (Or.inl ⟨by kernel_rfl, ?_⟩) hH0 ?_
            rotate_left 1
            · intro w hSw
              go_simp
              try with_reducible rfl
            try simp only [Act.put, List.getElem_toArray, List.getElem_cons_zero, List.getElem_cons_succ, List.setIfInBounds_toArray, List.set_cons_zero, List.set_cons_succ]
            refine wpAnyH_take (i := 7) (v := ?_) rfl (by kernel_rfl) (by kernel_rfl) (by kernel_rfl) (fun _ _ _ h => h) (Or.inl ⟨by kernel_rfl, ?_⟩) hH0 ?_
            rotate_left 1
            · intro w hSw
              have f0 := (hSw.cell (p := ⟨g, jj, none⟩) hgr).trans l0
              have f1 := (hSw.cell (p := ⟨g2, jj, none⟩) hgl2).trans l1
              go_simp
              try with_reducible rfl
            try simp only [Act.put, List.getElem_toArray, List.getElem_cons_zero, List.getElem_cons_succ, List.setIfInBounds_toArray, List.set_cons_zero, List.set_cons_succ]
            refine wpAnyH_take (i := 10) (v := ?_) rfl (by kernel_rfl) (by kernel_rfl) (by kernel_rfl) (fun _ _ _ h => h) (Or.inl ⟨by kernel_rfl, ?_⟩) hH0 ?_
            rotate_left 1
            · intro w hSw
              go_simp
              try with_reducible rfl
            try simp only [Act.put, List.getElem_toArray, List.getElem_cons_zero, List.getElem_cons_succ, List.setIfInBounds_toArray, List.set_cons_zero, List.set_cons_succ]
            refine wpAnyH_take (i := 11) (v := ?_) rfl (by kernel_rfl) (by kernel_rfl) (by kernel_rfl) (fun _ _ _ h => h) (Or.inl ⟨by kernel_rfl, ?_⟩) hH0 ?_
            rotate_left 1
            · intro w hSw
              go_simp
              try with_reducible rfl
            try simp only [Act.put, List.getElem_toArray, List.getElem_cons_zero, List.getElem_cons_succ, List.setIfInBounds_toArray, List.set_cons_zero, List.set_cons_succ]
            refine wpAnyH_take (i := 12) (v := ?_) rfl (by kernel_rfl) (by kernel_rfl) (by kernel_rfl) (fun _ _ _ h => h) (Or.inl ⟨by kernel_rfl, ?_⟩) hH0 ?_
            rotate_left 1
            · intro w hSw
              go_simp
              try with_reducible rfl
            try simp only [Act.put, List.getElem_toArray, List.getElem_cons_zero, List.getElem_cons_succ, List.setIfInBounds_toArray, List.set_cons_zero, List.set_cons_succ]
            refine wpAnyH_take (i := 13) (v := ?_) rfl (by kernel_rfl) (by kernel_rfl) (by kernel_rfl) (fun _ _ _ h => h) (Or.inl ⟨by kernel_rfl, ?_⟩) hH0 ?_
            rotate_left 1
            · intro w hSw
              go_simp
              try with_reducible rfl
            try simp only [Act.put, List.getElem_toArray, List.getElem_cons_zero, List.getElem_cons_succ, List.setIfInBounds_toArray, List.set_cons_zero, List.set_cons_succ]
            refine wpAnyH_take (i := 14) (v := ?_) rfl (by kernel_rfl) (by kernel_rfl) (by kernel_rfl) (fun _ _ _ h => h) (Or.inl ⟨by kernel_rfl, ?_⟩) hH0 ?_
            rotate_left 1
            · intro w hSw
              have f0 := (hSw.cell (p := ⟨g, jj, none⟩) hgr).trans l0
              have f1 := (hSw.cell (p := ⟨g2, jj, none⟩) hgl2).trans l1
              go_simp
              try with_reducible rfl
            try simp only [Act.put, List.getElem_toArray, List.getElem_cons_zero, List.getElem_cons_succ, List.setIfInBounds_toArray, List.set_cons_zero, List.set_cons_succ]
            refine wpAnyH_ready (rs := [8, 15]) (by kernel_rfl) (by simp) ?_
            refine AllReadyH.cons rfl (fun K_ hK => ?_) ?_
            · go_simp
              have hb1 := (Below.refl W0.heap.size W0).alloc (Nat.le_refl _) (.cells #[.string ⟨(tb).toArray⟩] 9)
              have cb1 : (W0.alloc (.cells #[.string ⟨(tb).toArray⟩] 9)).cell? ⟨W0.heap.size, 0, none⟩ = some (.string ⟨(tb).toArray⟩) := by rw [Lib.cell_of_heap (heap_alloc_new W0 _)]; rfl
              obtain ⟨W1, hW1⟩ : ∃ W, W = W0.alloc (.cells #[.string ⟨(tb).toArray⟩] 9) := ⟨_, rfl⟩
              have hl1 : W0.heap.size < W1.heap.size := by rw [hW1]; simp
              rw [← hW1] at hb1 cb1 ⊢
              clear hW1
              refine hK.out _ _ ((hH0).trans (hb1.mono (hH0).size)) (fun hH1 => ?_)
              clear hK K_
              try simp only [Act.put, List.getElem_toArray, List.getElem_cons_zero, List.getElem_cons_succ, List.setIfInBounds_toArray, List.set_cons_zero, List.set_cons_succ]
              refine wpAnyH_ready (rs := [9, 15]) (by kernel_rfl) (by simp) ?_
              refine AllReadyH.cons rfl (fun K_ hK => ?_) ?_
              · go_simp
                refine (of_hash K _ 1 (tb) _ (HL0.out.below hH1) ⟨_, rfl, cb1⟩ (by omega)).mono ?_
                rintro e W2 ⟨rfl, hb2⟩
                have c8_2 := (hb2.cell (p := ⟨W0.heap.size, 0, none⟩) hl1).trans cb1
                have l8_2 : (⟨W0.heap.size, 0, none⟩ : Addr).block < W2.heap.size := Nat.lt_of_lt_of_le hl1 hb2.size
                refine hK.out _ _ ((hH1).trans (hb2.mono (hH1).size)) (fun hH2 => ?_)
                clear hK K_
                try simp only [Act.put, List.getElem_toArray, List.getElem_cons_zero, List.getElem_cons_succ, List.setIfInBounds_toArray, List.set_cons_zero, List.set_cons_succ]
                refine wpAnyH_ready (rs := [15]) (by kernel_rfl) (by simp) ?_
                refine AllReadyH.cons rfl (fun K_ hK => ?_) ?_
                · go_simp
                  have hb3 := (Below.refl W2.heap.size W2).alloc (Nat.le_refl _) (.cells #[.string ⟨(tl).toArray⟩] 9)
                  have cb3 : (W2.alloc (.cells #[.string ⟨(tl).toArray⟩] 9)).cell? ⟨W2.heap.size, 0, none⟩ = some (.string ⟨(tl).toArray⟩) := by rw [Lib.cell_of_heap (heap_alloc_new W2 _)]; rfl
                  obtain ⟨W3, hW3⟩ : ∃ W, W = W2.alloc (.cells #[.string ⟨(tl).toArray⟩] 9) := ⟨_, rfl⟩
                  have hl3 : W2.heap.size < W3.heap.size := by rw [hW3]; simp
                  rw [← hW3] at hb3 cb3 ⊢
                  clear hW3
                  have c8_3 := (hb3.cell (p := ⟨W0.heap.size, 0, none⟩) l8_2).trans c8_2
                  have l8_3 : (⟨W0.heap.size, 0, none⟩ : Addr).block < W3.heap.size := Nat.lt_of_lt_of_le l8_2 hb3.size
                  refine hK.out _ _ ((hH2).trans (hb3.mono (hH2).size)) (fun hH3 => ?_)
                  clear hK K_
                  try simp only [Act.put, List.getElem_toArray, List.getElem_cons_zero, List.getElem_cons_succ, List.setIfInBounds_toArray, List.set_cons_zero, List.set_cons_succ]
                  refine wpAnyH_ready (rs := [16]) (by kernel_rfl) (by simp) ?_
                  refine AllReadyH.cons rfl (fun K_ hK => ?_) ?_
                  · go_simp
                    refine (of_hash K _ 1 (tl) _ (HL0.out.below hH3) ⟨_, rfl, cb3⟩ (by omega)).mono ?_
                    rintro e W4 ⟨rfl, hb4⟩
                    have c8_4 := (hb4.cell (p := ⟨W0.heap.size, 0, none⟩) l8_3).trans c8_3
                    have l8_4 : (⟨W0.heap.size, 0, none⟩ : Addr).block < W4.heap.size := Nat.lt_of_lt_of_le l8_3 hb4.size
                    have c15_4 := (hb4.cell (p := ⟨W2.heap.size, 0, none⟩) hl3).trans cb3
                    have l15_4 : (⟨W2.heap.size, 0, none⟩ : Addr).block < W4.heap.size := Nat.lt_of_lt_of_le hl3 hb4.size
                    refine hK.out _ _ ((hH3).trans (hb4.mono (hH3).size)) (fun hH4 => ?_)
                    clear hK K_
                    try simp only [Act.put, List.getElem_toArray, List.getElem_cons_zero, List.getElem_cons_succ, List.setIfInBounds_toArray, List.set_cons_zero, List.set_cons_succ]
                    refine wpAnyH_take (i := 17) (v := ?_) rfl (by kernel_rfl) (by kernel_rfl) (by kernel_rfl) (fun _ _ _ h => h) (Or.inl ⟨by kernel_rfl, ?_⟩) hH4 ?_
                    rotate_left 1
                    · intro w hSw
                      go_simp
                      try with_reducible rfl
                    try simp only [Act.put, List.getElem_toArray, List.getElem_cons_zero, List.getElem_cons_succ, List.setIfInBounds_toArray, List.set_cons_zero, List.set_cons_succ]
                    refine wpAnyH_take (i := 18) (v := ?_) rfl (by kernel_rfl) (by kernel_rfl) (by kernel_rfl) (fun _ _ _ h => h) (Or.inl ⟨by kernel_rfl, ?_⟩) hH4 ?_
                    rotate_left 1
                    · intro w hSw
                      go_simp
                      try with_reducible rfl
                    try simp only [Act.put, List.getElem_toArray, List.getElem_cons_zero, List.getElem_cons_succ, List.setIfInBounds_toArray, List.set_cons_zero, List.set_cons_succ]
                    refine wpAnyH_done (by kernel_rfl) ?_ _
                    have hb11 := hH4
                    have hj := join_any K m (some ⟨g2, 0, none⟩) cap2 (chunks bl) W4 (HL10.out.below hb11) ((Hm10.out.below hb11 (Nat.le_refl _)).more hb11.size) ((HS10.out.below hb11 (Nat.le_refl _)).more hb11.size) (by rw [Hn2.out]; exact hcap2) hcx2 (by rw [Hn2.out]; omega) (fun t ht => by have := chunks_le bl t ht; omega)
                    rw [hjn_, Hn2.out] at hj
                    have Hj := Lib.hid hj
                    have hrow := Lib.hid ((hb11.block p hp10).trans H10.out)
                    have Hb11 := Lib.hid hb11
                    clear hj hb11 hH4
                    go_wp2_with (refine wpList_load_row rfl 27 _ rfl p rfl 27 _ (0, 0) _ hrow.out Tryd.underlying27 rfl hinf ?_)
                    refine Hj.out.mono ?_
                    rintro e w12 ⟨rfl, hB12⟩
                    have hb12 : Below w10.heap.size w10 w12 := Hb11.out.trans (hB12.mono Hb11.out.size)
                    have l12 := (hb12.cell (p := ⟨g2, jj, none⟩) hgl2).trans l1
                    have hg12 : g2 < w12.heap.size := Nat.lt_of_lt_of_le hgl2 hb12.size
                    have hp12 : p < w12.heap.size := Nat.lt_of_lt_of_le hp10 hb12.size
                    have hrow2 : w12.heap[p]? = some (.cells m.row 27 (0, 0)) := (hb12.block p hp10).trans H10.out
                    have rm_ : w12.rangeAt p 0 m.cells := fun j v hv => by
                      rw [Nat.zero_add, Lib.cell_of_heap hrow2]
                      unfold ManiD.row
                      rw [List.getElem?_toArray]
                      exact hv
                    have HL0 := Lib.hid (HL10.out.below hb12)
                    have Hm0 := Lib.hid ((Hm10.out.below hb12 (Nat.le_refl _)).more hb12.size)
                    have HB12 := Lib.hid (HB10.out.trans (hb12.mono HB10.out.size))
                    clear hb12 hrow2 hB12 Hb11 Hj hrow
                    go_upto_region 28 with fail
                    refine wp_region_held_drew (S := fun w' => Below w12.heap.size w12 w') (by kernel_rfl) ((Below.refl _ _).drew) (fun hH0 => ?_)
                    obtain ⟨W0, hW0⟩ : ∃ W, W = w12.drew := ⟨_, rfl⟩
                    rw [← hW0] at hH0 ⊢
                    clear hW0
                    refine wpAnyH_take (i := 0) (v := ?_) rfl (by kernel_rfl) (by kernel_rfl) (by kernel_rfl) (fun _ _ _ h => h) (Or.inl ⟨by kernel_rfl, ?_⟩) hH0 ?_
                    rotate_left 1
                    · intro w hSw
                      go_simp
                      try with_reducible rfl
                    try simp only [Act.put, List.getElem_toArray, List.getElem_cons_zero, List.getElem_cons_succ, List.setIfInBounds_toArray, List.set_cons_zero, List.set_cons_succ]
                    refine wpAnyH_take (i := 1) (v := ?_) rfl (by kernel_rfl) (by kernel_rfl) (by kernel_rfl) (fun _ _ _ h => h) (Or.inl ⟨by kernel_rfl, ?_⟩) hH0 ?_
                    rotate_left 1
                    · intro w hSw
                      go_simp
                      try with_reducible rfl
                    try simp only [Act.put, List.getElem_toArray, List.getElem_cons_zero, List.getElem_cons_succ, List.setIfInBounds_toArray, List.set_cons_zero, List.set_cons_succ]
                    refine wpAnyH_take (i := 2) (v := ?_) rfl (by kernel_rfl) (by kernel_rfl) (by kernel_rfl) (fun _ _ _ h => h) (Or.inl ⟨by kernel_rfl, ?_⟩) hH0 ?_
                    rotate_left 1
                    · intro w hSw
                      go_simp
                      try with_reducible rfl
                    try simp only [Act.put, List.getElem_toArray, List.getElem_cons_zero, List.getElem_cons_succ, List.setIfInBounds_toArray, List.set_cons_zero, List.set_cons_succ]
                    refine wpAnyH_take (i := 3) (v := ?_) rfl (by kernel_rfl) (by kernel_rfl) (by kernel_rfl) (fun _ _ _ h => h) (Or.inl ⟨by kernel_rfl, ?_⟩) hH0 ?_
                    rotate_left 1
                    · intro w hSw
                      go_simp
                      try with_reducible rfl
                    try simp only [Act.put, List.getElem_toArray, List.getElem_cons_zero, List.getElem_cons_succ, List.setIfInBounds_toArray, List.set_cons_zero, List.set_cons_succ]
                    refine wpAnyH_take (i := 4) (v := ?_) rfl (by kernel_rfl) (by kernel_rfl) (by kernel_rfl) (fun _ _ _ h => h) (Or.inl ⟨by kernel_rfl, ?_⟩) hH0 ?_
                    rotate_left 1
                    · intro w hSw
                      go_simp
                      try with_reducible rfl
                    try simp only [Act.put, List.getElem_toArray, List.getElem_cons_zero, List.getElem_cons_succ, List.setIfInBounds_toArray, List.set_cons_zero, List.set_cons_succ]
                    refine wpAnyH_take (i := 5) (v := ?_) rfl (by kernel_rfl) (by kernel_rfl) (by kernel_rfl) (fun _ _ _ h => h) (Or.inl ⟨by kernel_rfl, ?_⟩) hH0 ?_
                    rotate_left 1
                    · intro w hSw
                      go_simp
                      try with_reducible rfl
                    try simp only [Act.put, List.getElem_toArray, List.getElem_cons_zero, List.getElem_cons_succ, List.setIfInBounds_toArray, List.set_cons_zero, List.set_cons_succ]
                    refine wpAnyH_take (i := 6) (v := _) rfl (by kernel_rfl) (by kernel_rfl) (by kernel_rfl) (fun _ _ _ h => h) (yieldsIf_load_mid (by kernel_rfl) _ _ rfl _ _ rfl m.cells _ (fun W hW => range_below rm_ hW hp12) mund rfl minfo) hH0 ?_
                    try simp only [Act.put, List.getElem_toArray, List.getElem_cons_zero, List.getElem_cons_succ, List.setIfInBounds_toArray, List.set_cons_zero, List.set_cons_succ]
                    refine wpAnyH_take (i := 7) (v := ?_) rfl (by kernel_rfl) (by kernel_rfl) (by kernel_rfl) (fun _ _ _ h => h) (Or.inl ⟨by kernel_rfl, ?_⟩) hH0 ?_
                    rotate_left 1
                    · intro w hSw
                      go_simp
                      try with_reducible rfl
                    try simp only [Act.put, List.getElem_toArray, List.getElem_cons_zero, List.getElem_cons_succ, List.setIfInBounds_toArray, List.set_cons_zero, List.set_cons_succ]
                    refine wpAnyH_take (i := 8) (v := ?_) rfl (by kernel_rfl) (by kernel_rfl) (by kernel_rfl) (fun _ _ _ h => h) (Or.inl ⟨by kernel_rfl, ?_⟩) hH0 ?_
                    rotate_left 1
                    · intro w hSw
                      go_simp
                      try with_reducible rfl
                    try simp only [Act.put, List.getElem_toArray, List.getElem_cons_zero, List.getElem_cons_succ, List.setIfInBounds_toArray, List.set_cons_zero, List.set_cons_succ]
                    refine wpAnyH_take (i := 9) (v := ?_) rfl (by kernel_rfl) (by kernel_rfl) (by kernel_rfl) (fun _ _ _ h => h) (Or.inl ⟨by kernel_rfl, ?_⟩) hH0 ?_
                    rotate_left 1
                    · intro w hSw
                      go_simp
                      try with_reducible rfl
                    try simp only [Act.put, List.getElem_toArray, List.getElem_cons_zero, List.getElem_cons_succ, List.setIfInBounds_toArray, List.set_cons_zero, List.set_cons_succ]
                    refine wpAnyH_take (i := 10) (v := ?_) rfl (by kernel_rfl) (by kernel_rfl) (by kernel_rfl) (fun _ _ _ h => h) (Or.inl ⟨by kernel_rfl, ?_⟩) hH0 ?_
                    rotate_left 1
                    · intro w hSw
                      go_simp
                      try with_reducible rfl
                    try simp only [Act.put, List.getElem_toArray, List.getElem_cons_zero, List.getElem_cons_succ, List.setIfInBounds_toArray, List.set_cons_zero, List.set_cons_succ]
                    refine wpAnyH_take (i := 11) (v := ?_) rfl (by kernel_rfl) (by kernel_rfl) (by kernel_rfl) (fun _ _ _ h => h) (Or.inl ⟨by kernel_rfl, ?_⟩) hH0 ?_
                    rotate_left 1
                    · intro w hSw
                      go_simp
                      try with_reducible rfl
                    try simp only [Act.put, List.getElem_toArray, List.getElem_cons_zero, List.getElem_cons_succ, List.setIfInBounds_toArray, List.set_cons_zero, List.set_cons_succ]
                    refine wpAnyH_take (i := 12) (v := ?_) rfl (by kernel_rfl) (by kernel_rfl) (by kernel_rfl) (fun _ _ _ h => h) (Or.inl ⟨by kernel_rfl, ?_⟩) hH0 ?_
                    rotate_left 1
                    · intro w hSw
                      go_simp
                      try with_reducible rfl
                    try simp only [Act.put, List.getElem_toArray, List.getElem_cons_zero, List.getElem_cons_succ, List.setIfInBounds_toArray, List.set_cons_zero, List.set_cons_succ]
                    refine wpAnyH_take (i := 13) (v := ?_) rfl (by kernel_rfl) (by kernel_rfl) (by kernel_rfl) (fun _ _ _ h => h) (Or.inl ⟨by kernel_rfl, ?_⟩) hH0 ?_
                    rotate_left 1
                    · intro w hSw
                      have f0 := (hSw.cell (p := ⟨g2, jj, none⟩) hg12).trans l12
                      go_simp
                      try with_reducible rfl
                    try simp only [Act.put, List.getElem_toArray, List.getElem_cons_zero, List.getElem_cons_succ, List.setIfInBounds_toArray, List.set_cons_zero, List.set_cons_succ]
                    refine wpAnyH_take (i := 15) (v := ?_) rfl (by kernel_rfl) (by kernel_rfl) (by kernel_rfl) (fun _ _ _ h => h) (Or.inl ⟨by kernel_rfl, ?_⟩) hH0 ?_
                    rotate_left 1
                    · intro w hSw
                      go_simp
                      try with_reducible rfl
                    try simp only [Act.put, List.getElem_toArray, List.getElem_cons_zero, List.getElem_cons_succ, List.setIfInBounds_toArray, List.set_cons_zero, List.set_cons_succ]
                    refine wpAnyH_take (i := 16) (v := ?_) rfl (by kernel_rfl) (by kernel_rfl) (by kernel_rfl) (fun _ _ _ h => h) (Or.inl ⟨by kernel_rfl, ?_⟩) hH0 ?_
                    rotate_left 1
                    · intro w hSw
                      go_simp
                      try with_reducible rfl
                    try simp only [Act.put, List.getElem_toArray, List.getElem_cons_zero, List.getElem_cons_succ, List.setIfInBounds_toArray, List.set_cons_zero, List.set_cons_succ]
                    refine wpAnyH_ready (rs := [14]) (by kernel_rfl) (by simp) ?_
                    refine AllReadyH.cons rfl (fun K_ hK => ?_) ?_
                    · go_simp
                      refine (fits_any K m (jj : Int) (tb) _ (HL0.out.below hH0) ((Hm0.out.below hH0 (Nat.le_refl _)).more (hH0).size) (by omega) (by omega) (by omega)).mono ?_
                      rintro e W1 ⟨rfl, hb1⟩
                      rw [hf]
                      refine hK.out _ _ ((hH0).trans (hb1.mono (hH0).size)) (fun hH1 => ?_)
                      clear hK K_
                      try simp only [Act.put, List.getElem_toArray, List.getElem_cons_zero, List.getElem_cons_succ, List.setIfInBounds_toArray, List.set_cons_zero, List.set_cons_succ]
                      refine wpAnyH_take (i := 17) (v := ?_) rfl (by kernel_rfl) (by kernel_rfl) (by kernel_rfl) (fun _ _ _ h => h) (Or.inl ⟨by kernel_rfl, ?_⟩) hH1 ?_
                      rotate_left 1
                      · intro w hSw
                        go_simp
                        try with_reducible rfl
                      try simp only [Act.put, List.getElem_toArray, List.getElem_cons_zero, List.getElem_cons_succ, List.setIfInBounds_toArray, List.set_cons_zero, List.set_cons_succ]
                      refine wpAnyH_take (i := 18) (v := ?_) rfl (by kernel_rfl) (by kernel_rfl) (by kernel_rfl) (fun _ _ _ h => h) (Or.inl ⟨by kernel_rfl, ?_⟩) hH1 ?_
                      rotate_left 1
                      · intro w hSw
                        go_simp
                        try with_reducible rfl
                      try simp only [Act.put, List.getElem_toArray, List.getElem_cons_zero, List.getElem_cons_succ, List.setIfInBounds_toArray, List.set_cons_zero, List.set_cons_succ]
                      refine wpAnyH_take (i := 19) (v := ?_) rfl (by kernel_rfl) (by kernel_rfl) (by kernel_rfl) (fun _ _ _ h => h) (Or.inl ⟨by kernel_rfl, ?_⟩) hH1 ?_
                      rotate_left 1
                      · intro w hSw
                        go_simp
                        try with_reducible rfl
                      try simp only [Act.put, List.getElem_toArray, List.getElem_cons_zero, List.getElem_cons_succ, List.setIfInBounds_toArray, List.set_cons_zero, List.set_cons_succ]
                      refine wpAnyH_done (by kernel_rfl) ?_ _
                      have HH := Lib.hid hH1
                      clear hH1
                      go_wp2_with fail
                      go_ret
                      exact ⟨by simp, HB12.out.trans (HH.out.mono HB12.out.size)⟩
                    exact AllReadyH.nil
                  exact AllReadyH.nil
                exact AllReadyH.nil
              refine AllReadyH.cons rfl (fun K_ hK => ?_) ?_
              · go_simp
                have hb5 := (Below.refl W1.heap.size W1).alloc (Nat.le_refl _) (.cells #[.string ⟨(tl).toArray⟩] 9)
                have cb5 : (W1.alloc (.cells #[.string ⟨(tl).toArray⟩] 9)).cell? ⟨W1.heap.size, 0, none⟩ = some (.string ⟨(tl).toArray⟩) := by rw [Lib.cell_of_heap (heap_alloc_new W1 _)]; rfl
                obtain ⟨W5, hW5⟩ : ∃ W, W = W1.alloc (.cells #[.string ⟨(tl).toArray⟩] 9) := ⟨_, rfl⟩
                have hl5 : W1.heap.size < W5.heap.size := by rw [hW5]; simp
                rw [← hW5] at hb5 cb5 ⊢
                clear hW5
                have c8_5 := (hb5.cell (p := ⟨W0.heap.size, 0, none⟩) hl1).trans cb1
                have l8_5 : (⟨W0.heap.size, 0, none⟩ : Addr).block < W5.heap.size := Nat.lt_of_lt_of_le hl1 hb5.size
                refine hK.out _ _ ((hH1).trans (hb5.mono (hH1).size)) (fun hH5 => ?_)
                clear hK K_
                try simp only [Act.put, List.getElem_toArray, List.getElem_cons_zero, List.getElem_cons_succ, List.setIfInBounds_toArray, List.set_cons_zero, List.set_cons_succ]
                refine wpAnyH_ready (rs := [9]) (by kernel_rfl) (by simp) ?_
                refine AllReadyH.cons rfl (fun K_ hK => ?_) ?_
                · go_simp
                  refine (of_hash K _ 1 (tb) _ (HL0.out.below hH5) ⟨_, rfl, c8_5⟩ (by omega)).mono ?_
                  rintro e W6 ⟨rfl, hb6⟩
                  have c8_6 := (hb6.cell (p := ⟨W0.heap.size, 0, none⟩) l8_5).trans c8_5
                  have l8_6 : (⟨W0.heap.size, 0, none⟩ : Addr).block < W6.heap.size := Nat.lt_of_lt_of_le l8_5 hb6.size
                  have c15_6 := (hb6.cell (p := ⟨W1.heap.size, 0, none⟩) hl5).trans cb5
                  have l15_6 : (⟨W1.heap.size, 0, none⟩ : Addr).block < W6.heap.size := Nat.lt_of_lt_of_le hl5 hb6.size
                  refine hK.out _ _ ((hH5).trans (hb6.mono (hH5).size)) (fun hH6 => ?_)
                  clear hK K_
                  try simp only [Act.put, List.getElem_toArray, List.getElem_cons_zero, List.getElem_cons_succ, List.setIfInBounds_toArray, List.set_cons_zero, List.set_cons_succ]
                  refine wpAnyH_ready (rs := [16]) (by kernel_rfl) (by simp) ?_
                  refine AllReadyH.cons rfl (fun K_ hK => ?_) ?_
                  · go_simp
                    refine (of_hash K _ 1 (tl) _ (HL0.out.below hH6) ⟨_, rfl, c15_6⟩ (by omega)).mono ?_
                    rintro e W7 ⟨rfl, hb7⟩
                    have c8_7 := (hb7.cell (p := ⟨W0.heap.size, 0, none⟩) l8_6).trans c8_6
                    have l8_7 : (⟨W0.heap.size, 0, none⟩ : Addr).block < W7.heap.size := Nat.lt_of_lt_of_le l8_6 hb7.size
                    have c15_7 := (hb7.cell (p := ⟨W1.heap.size, 0, none⟩) l15_6).trans c15_6
                    have l15_7 : (⟨W1.heap.size, 0, none⟩ : Addr).block < W7.heap.size := Nat.lt_of_lt_of_le l15_6 hb7.size
                    refine hK.out _ _ ((hH6).trans (hb7.mono (hH6).size)) (fun hH7 => ?_)
                    clear hK K_
                    try simp only [Act.put, List.getElem_toArray, List.getElem_cons_zero, List.getElem_cons_succ, List.setIfInBounds_toArray, List.set_cons_zero, List.set_cons_succ]
                    refine wpAnyH_take (i := 17) (v := ?_) rfl (by kernel_rfl) (by kernel_rfl) (by kernel_rfl) (fun _ _ _ h => h) (Or.inl ⟨by kernel_rfl, ?_⟩) hH7 ?_
                    rotate_left 1
                    · intro w hSw
                      go_simp
                      try with_reducible rfl
                    try simp only [Act.put, List.getElem_toArray, List.getElem_cons_zero, List.getElem_cons_succ, List.setIfInBounds_toArray, List.set_cons_zero, List.set_cons_succ]
                    refine wpAnyH_take (i := 18) (v := ?_) rfl (by kernel_rfl) (by kernel_rfl) (by kernel_rfl) (fun _ _ _ h => h) (Or.inl ⟨by kernel_rfl, ?_⟩) hH7 ?_
                    rotate_left 1
                    · intro w hSw
                      go_simp
                      try with_reducible rfl
                    try simp only [Act.put, List.getElem_toArray, List.getElem_cons_zero, List.getElem_cons_succ, List.setIfInBounds_toArray, List.set_cons_zero, List.set_cons_succ]
                    refine wpAnyH_done (by kernel_rfl) ?_ _
                    have hb11 := hH7
                    have hj := join_any K m (some ⟨g2, 0, none⟩) cap2 (chunks bl) W7 (HL10.out.below hb11) ((Hm10.out.below hb11 (Nat.le_refl _)).more hb11.size) ((HS10.out.below hb11 (Nat.le_refl _)).more hb11.size) (by rw [Hn2.out]; exact hcap2) hcx2 (by rw [Hn2.out]; omega) (fun t ht => by have := chunks_le bl t ht; omega)
                    rw [hjn_, Hn2.out] at hj
                    have Hj := Lib.hid hj
                    have hrow := Lib.hid ((hb11.block p hp10).trans H10.out)
                    have Hb11 := Lib.hid hb11
                    clear hj hb11 hH7
                    go_wp2_with (refine wpList_load_row rfl 27 _ rfl p rfl 27 _ (0, 0) _ hrow.out Tryd.underlying27 rfl hinf ?_)
                    refine Hj.out.mono ?_
                    rintro e w12 ⟨rfl, hB12⟩
                    have hb12 : Below w10.heap.size w10 w12 := Hb11.out.trans (hB12.mono Hb11.out.size)
                    have l12 := (hb12.cell (p := ⟨g2, jj, none⟩) hgl2).trans l1
                    have hg12 : g2 < w12.heap.size := Nat.lt_of_lt_of_le hgl2 hb12.size
                    have hp12 : p < w12.heap.size := Nat.lt_of_lt_of_le hp10 hb12.size
                    have hrow2 : w12.heap[p]? = some (.cells m.row 27 (0, 0)) := (hb12.block p hp10).trans H10.out
                    have rm_ : w12.rangeAt p 0 m.cells := fun j v hv => by
                      rw [Nat.zero_add, Lib.cell_of_heap hrow2]
                      unfold ManiD.row
                      rw [List.getElem?_toArray]
                      exact hv
                    have HL0 := Lib.hid (HL10.out.below hb12)
                    have Hm0 := Lib.hid ((Hm10.out.below hb12 (Nat.le_refl _)).more hb12.size)
                    have HB12 := Lib.hid (HB10.out.trans (hb12.mono HB10.out.size))
                    clear hb12 hrow2 hB12 Hb11 Hj hrow
                    go_upto_region 28 with fail
                    refine wp_region_held_drew (S := fun w' => Below w12.heap.size w12 w') (by kernel_rfl) ((Below.refl _ _).drew) (fun hH0 => ?_)
                    obtain ⟨W0, hW0⟩ : ∃ W, W = w12.drew := ⟨_, rfl⟩
                    rw [← hW0] at hH0 ⊢
                    clear hW0
                    refine wpAnyH_take (i := 0) (v := ?_) rfl (by kernel_rfl) (by kernel_rfl) (by kernel_rfl) (fun _ _ _ h => h) (Or.inl ⟨by kernel_rfl, ?_⟩) hH0 ?_
                    rotate_left 1
                    · intro w hSw
                      go_simp
                      try with_reducible rfl
                    try simp only [Act.put, List.getElem_toArray, List.getElem_cons_zero, List.getElem_cons_succ, List.setIfInBounds_toArray, List.set_cons_zero, List.set_cons_succ]
                    refine wpAnyH_take (i := 1) (v := ?_) rfl (by kernel_rfl) (by kernel_rfl) (by kernel_rfl) (fun _ _ _ h => h) (Or.inl ⟨by kernel_rfl, ?_⟩) hH0 ?_
                    rotate_left 1
                    · intro w hSw
                      go_simp
                      try with_reducible rfl
                    try simp only [Act.put, List.getElem_toArray, List.getElem_cons_zero, List.getElem_cons_succ, List.setIfInBounds_toArray, List.set_cons_zero, List.set_cons_succ]
                    refine wpAnyH_take (i := 2) (v := ?_) rfl (by kernel_rfl) (by kernel_rfl) (by kernel_rfl) (fun _ _ _ h => h) (Or.inl ⟨by kernel_rfl, ?_⟩) hH0 ?_
                    rotate_left 1
                    · intro w hSw
                      go_simp
                      try with_reducible rfl
                    try simp only [Act.put, List.getElem_toArray, List.getElem_cons_zero, List.getElem_cons_succ, List.setIfInBounds_toArray, List.set_cons_zero, List.set_cons_succ]
                    refine wpAnyH_take (i := 3) (v := ?_) rfl (by kernel_rfl) (by kernel_rfl) (by kernel_rfl) (fun _ _ _ h => h) (Or.inl ⟨by kernel_rfl, ?_⟩) hH0 ?_
                    rotate_left 1
                    · intro w hSw
                      go_simp
                      try with_reducible rfl
                    try simp only [Act.put, List.getElem_toArray, List.getElem_cons_zero, List.getElem_cons_succ, List.setIfInBounds_toArray, List.set_cons_zero, List.set_cons_succ]
                    refine wpAnyH_take (i := 4) (v := ?_) rfl (by kernel_rfl) (by kernel_rfl) (by kernel_rfl) (fun _ _ _ h => h) (Or.inl ⟨by kernel_rfl, ?_⟩) hH0 ?_
                    rotate_left 1
                    · intro w hSw
                      go_simp
                      try with_reducible rfl
                    try simp only [Act.put, List.getElem_toArray, List.getElem_cons_zero, List.getElem_cons_succ, List.setIfInBounds_toArray, List.set_cons_zero, List.set_cons_succ]
                    refine wpAnyH_take (i := 5) (v := ?_) rfl (by kernel_rfl) (by kernel_rfl) (by kernel_rfl) (fun _ _ _ h => h) (Or.inl ⟨by kernel_rfl, ?_⟩) hH0 ?_
                    rotate_left 1
                    · intro w hSw
                      go_simp
                      try with_reducible rfl
                    try simp only [Act.put, List.getElem_toArray, List.getElem_cons_zero, List.getElem_cons_succ, List.setIfInBounds_toArray, List.set_cons_zero, List.set_cons_succ]
                    refine wpAnyH_take (i := 6) (v := _) rfl (by kernel_rfl) (by kernel_rfl) (by kernel_rfl) (fun _ _ _ h => h) (yieldsIf_load_mid (by kernel_rfl) _ _ rfl _ _ rfl m.cells _ (fun W hW => range_below rm_ hW hp12) mund rfl minfo) hH0 ?_
                    try simp only [Act.put, List.getElem_toArray, List.getElem_cons_zero, List.getElem_cons_succ, List.setIfInBounds_toArray, List.set_cons_zero, List.set_cons_succ]
                    refine wpAnyH_take (i := 7) (v := ?_) rfl (by kernel_rfl) (by kernel_rfl) (by kernel_rfl) (fun _ _ _ h => h) (Or.inl ⟨by kernel_rfl, ?_⟩) hH0 ?_
                    rotate_left 1
                    · intro w hSw
                      go_simp
                      try with_reducible rfl
                    try simp only [Act.put, List.getElem_toArray, List.getElem_cons_zero, List.getElem_cons_succ, List.setIfInBounds_toArray, List.set_cons_zero, List.set_cons_succ]
                    refine wpAnyH_take (i := 8) (v := ?_) rfl (by kernel_rfl) (by kernel_rfl) (by kernel_rfl) (fun _ _ _ h => h) (Or.inl ⟨by kernel_rfl, ?_⟩) hH0 ?_
                    rotate_left 1
                    · intro w hSw
                      go_simp
                      try with_reducible rfl
                    try simp only [Act.put, List.getElem_toArray, List.getElem_cons_zero, List.getElem_cons_succ, List.setIfInBounds_toArray, List.set_cons_zero, List.set_cons_succ]
                    refine wpAnyH_take (i := 9) (v := ?_) rfl (by kernel_rfl) (by kernel_rfl) (by kernel_rfl) (fun _ _ _ h => h) (Or.inl ⟨by kernel_rfl, ?_⟩) hH0 ?_
                    rotate_left 1
                    · intro w hSw
                      go_simp
                      try with_reducible rfl
                    try simp only [Act.put, List.getElem_toArray, List.getElem_cons_zero, List.getElem_cons_succ, List.setIfInBounds_toArray, List.set_cons_zero, List.set_cons_succ]
                    refine wpAnyH_take (i := 10) (v := ?_) rfl (by kernel_rfl) (by kernel_rfl) (by kernel_rfl) (fun _ _ _ h => h) (Or.inl ⟨by kernel_rfl, ?_⟩) hH0 ?_
                    rotate_left 1
                    · intro w hSw
                      go_simp
                      try with_reducible rfl
                    try simp only [Act.put, List.getElem_toArray, List.getElem_cons_zero, List.getElem_cons_succ, List.setIfInBounds_toArray, List.set_cons_zero, List.set_cons_succ]
                    refine wpAnyH_take (i := 11) (v := ?_) rfl (by kernel_rfl) (by kernel_rfl) (by kernel_rfl) (fun _ _ _ h => h) (Or.inl ⟨by kernel_rfl, ?_⟩) hH0 ?_
                    rotate_left 1
                    · intro w hSw
                      go_simp
                      try with_reducible rfl
                    try simp only [Act.put, List.getElem_toArray, List.getElem_cons_zero, List.getElem_cons_succ, List.setIfInBounds_toArray, List.set_cons_zero, List.set_cons_succ]
                    refine wpAnyH_take (i := 12) (v := ?_) rfl (by kernel_rfl) (by kernel_rfl) (by kernel_rfl) (fun _ _ _ h => h) (Or.inl ⟨by kernel_rfl, ?_⟩) hH0 ?_
                    rotate_left 1
                    · intro w hSw
                      go_simp
                      try with_reducible rfl
                    try simp only [Act.put, List.getElem_toArray, List.getElem_cons_zero, List.getElem_cons_succ, List.setIfInBounds_toArray, List.set_cons_zero, List.set_cons_succ]
                    refine wpAnyH_take (i := 13) (v := ?_) rfl (by kernel_rfl) (by kernel_rfl) (by kernel_rfl) (fun _ _ _ h => h) (Or.inl ⟨by kernel_rfl, ?_⟩) hH0 ?_
                    rotate_left 1
                    · intro w hSw
                      have f0 := (hSw.cell (p := ⟨g2, jj, none⟩) hg12).trans l12
                      go_simp
                      try with_reducible rfl
                    try simp only [Act.put, List.getElem_toArray, List.getElem_cons_zero, List.getElem_cons_succ, List.setIfInBounds_toArray, List.set_cons_zero, List.set_cons_succ]
                    refine wpAnyH_take (i := 15) (v := ?_) rfl (by kernel_rfl) (by kernel_rfl) (by kernel_rfl) (fun _ _ _ h => h) (Or.inl ⟨by kernel_rfl, ?_⟩) hH0 ?_
                    rotate_left 1
                    · intro w hSw
                      go_simp
                      try with_reducible rfl
                    try simp only [Act.put, List.getElem_toArray, List.getElem_cons_zero, List.getElem_cons_succ, List.setIfInBounds_toArray, List.set_cons_zero, List.set_cons_succ]
                    refine wpAnyH_take (i := 16) (v := ?_) rfl (by kernel_rfl) (by kernel_rfl) (by kernel_rfl) (fun _ _ _ h => h) (Or.inl ⟨by kernel_rfl, ?_⟩) hH0 ?_
                    rotate_left 1
                    · intro w hSw
                      go_simp
                      try with_reducible rfl
                    try simp only [Act.put, List.getElem_toArray, List.getElem_cons_zero, List.getElem_cons_succ, List.setIfInBounds_toArray, List.set_cons_zero, List.set_cons_succ]
                    refine wpAnyH_ready (rs := [14]) (by kernel_rfl) (by simp) ?_
                    refine AllReadyH.cons rfl (fun K_ hK => ?_) ?_
                    · go_simp
                      refine (fits_any K m (jj : Int) (tb) _ (HL0.out.below hH0) ((Hm0.out.below hH0 (Nat.le_refl _)).more (hH0).size) (by omega) (by omega) (by omega)).mono ?_
                      rintro e W1 ⟨rfl, hb1⟩
                      rw [hf]
                      refine hK.out _ _ ((hH0).trans (hb1.mono (hH0).size)) (fun hH1 => ?_)
                      clear hK K_
                      try simp only [Act.put, List.getElem_toArray, List.getElem_cons_zero, List.getElem_cons_succ, List.setIfInBounds_toArray, List.set_cons_zero, List.set_cons_succ]
                      refine wpAnyH_take (i := 17) (v := ?_) rfl (by kernel_rfl) (by kernel_rfl) (by kernel_rfl) (fun _ _ _ h => h) (Or.inl ⟨by kernel_rfl, ?_⟩) hH1 ?_
                      rotate_left 1
                      · intro w hSw
                        go_simp
                        try with_reducible rfl
                      try simp only [Act.put, List.getElem_toArray, List.getElem_cons_zero, List.getElem_cons_succ, List.setIfInBounds_toArray, List.set_cons_zero, List.set_cons_succ]
                      refine wpAnyH_take (i := 18) (v := ?_) rfl (by kernel_rfl) (by kernel_rfl) (by kernel_rfl) (fun _ _ _ h => h) (Or.inl ⟨by kernel_rfl, ?_⟩) hH1 ?_
                      rotate_left 1
                      · intro w hSw
                        go_simp
                        try with_reducible rfl
                      try simp only [Act.put, List.getElem_toArray, List.getElem_cons_zero, List.getElem_cons_succ, List.setIfInBounds_toArray, List.set_cons_zero, List.set_cons_succ]
                      refine wpAnyH_take (i := 19) (v := ?_) rfl (by kernel_rfl) (by kernel_rfl) (by kernel_rfl) (fun _ _ _ h => h) (Or.inl ⟨by kernel_rfl, ?_⟩) hH1 ?_
                      rotate_left 1
                      · intro w hSw
                        go_simp
                        try with_reducible rfl
                      try simp only [Act.put, List.getElem_toArray, List.getElem_cons_zero, List.getElem_cons_succ, List.setIfInBounds_toArray, List.set_cons_zero, List.set_cons_succ]
                      refine wpAnyH_done (by kernel_rfl) ?_ _
                      have HH := Lib.hid hH1
                      clear hH1
                      go_wp2_with fail
                      go_ret
                      exact ⟨by simp, HB12.out.trans (HH.out.mono HB12.out.size)⟩
                    exact AllReadyH.nil
                  exact AllReadyH.nil
                exact AllReadyH.nil
              exact AllReadyH.nil
            refine AllReadyH.cons rfl (fun K_ hK => ?_) ?_
            · go_simp
              have hb8 := (Below.refl W0.heap.size W0).alloc (Nat.le_refl _) (.cells #[.string ⟨(tl).toArray⟩] 9)
              have cb8 : (W0.alloc (.cells #[.string ⟨(tl).toArray⟩] 9)).cell? ⟨W0.heap.size, 0, none⟩ = some (.string ⟨(tl).toArray⟩) := by rw [Lib.cell_of_heap (heap_alloc_new W0 _)]; rfl
              obtain ⟨W8, hW8⟩ : ∃ W, W = W0.alloc (.cells #[.string ⟨(tl).toArray⟩] 9) := ⟨_, rfl⟩
              have hl8 : W0.heap.size < W8.heap.size := by rw [hW8]; simp
              rw [← hW8] at hb8 cb8 ⊢
              clear hW8
              refine hK.out _ _ ((hH0).trans (hb8.mono (hH0).size)) (fun hH8 => ?_)
              clear hK K_
              try simp only [Act.put, List.getElem_toArray, List.getElem_cons_zero, List.getElem_cons_succ, List.setIfInBounds_toArray, List.set_cons_zero, List.set_cons_succ]
              refine wpAnyH_ready (rs := [8]) (by kernel_rfl) (by simp) ?_
              refine AllReadyH.cons rfl (fun K_ hK => ?_) ?_
              · go_simp
                have hb9 := (Below.refl W8.heap.size W8).alloc (Nat.le_refl _) (.cells #[.string ⟨(tb).toArray⟩] 9)
                have cb9 : (W8.alloc (.cells #[.string ⟨(tb).toArray⟩] 9)).cell? ⟨W8.heap.size, 0, none⟩ = some (.string ⟨(tb).toArray⟩) := by rw [Lib.cell_of_heap (heap_alloc_new W8 _)]; rfl
                obtain ⟨W9, hW9⟩ : ∃ W, W = W8.alloc (.cells #[.string ⟨(tb).toArray⟩] 9) := ⟨_, rfl⟩
                have hl9 : W8.heap.size < W9.heap.size := by rw [hW9]; simp
                rw [← hW9] at hb9 cb9 ⊢
                clear hW9
                have c15_9 := (hb9.cell (p := ⟨W0.heap.size, 0, none⟩) hl8).trans cb8
                have l15_9 : (⟨W0.heap.size, 0, none⟩ : Addr).block < W9.heap.size := Nat.lt_of_lt_of_le hl8 hb9.size
                refine hK.out _ _ ((hH8).trans (hb9.mono (hH8).size)) (fun hH9 => ?_)
                clear hK K_
                try simp only [Act.put, List.getElem_toArray, List.getElem_cons_zero, List.getElem_cons_succ, List.setIfInBounds_toArray, List.set_cons_zero, List.set_cons_succ]
                refine wpAnyH_ready (rs := [9]) (by kernel_rfl) (by simp) ?_
                refine AllReadyH.cons rfl (fun K_ hK => ?_) ?_
                · go_simp
                  refine (of_hash K _ 1 (tb) _ (HL0.out.below hH9) ⟨_, rfl, cb9⟩ (by omega)).mono ?_
                  rintro e W10 ⟨rfl, hb10⟩
                  have c15_10 := (hb10.cell (p := ⟨W0.heap.size, 0, none⟩) l15_9).trans c15_9
                  have l15_10 : (⟨W0.heap.size, 0, none⟩ : Addr).block < W10.heap.size := Nat.lt_of_lt_of_le l15_9 hb10.size
                  have c8_10 := (hb10.cell (p := ⟨W8.heap.size, 0, none⟩) hl9).trans cb9
                  have l8_10 : (⟨W8.heap.size, 0, none⟩ : Addr).block < W10.heap.size := Nat.lt_of_lt_of_le hl9 hb10.size
                  refine hK.out _ _ ((hH9).trans (hb10.mono (hH9).size)) (fun hH10 => ?_)
                  clear hK K_
                  try simp only [Act.put, List.getElem_toArray, List.getElem_cons_zero, List.getElem_cons_succ, List.setIfInBounds_toArray, List.set_cons_zero, List.set_cons_succ]
                  refine wpAnyH_ready (rs := [16]) (by kernel_rfl) (by simp) ?_
                  refine AllReadyH.cons rfl (fun K_ hK => ?_) ?_
                  · go_simp
                    refine (of_hash K _ 1 (tl) _ (HL0.out.below hH10) ⟨_, rfl, c15_10⟩ (by omega)).mono ?_
                    rintro e W11 ⟨rfl, hb11⟩
                    have c15_11 := (hb11.cell (p := ⟨W0.heap.size, 0, none⟩) l15_10).trans c15_10
                    have l15_11 : (⟨W0.heap.size, 0, none⟩ : Addr).block < W11.heap.size := Nat.lt_of_lt_of_le l15_10 hb11.size
                    have c8_11 := (hb11.cell (p := ⟨W8.heap.size, 0, none⟩) l8_10).trans c8_10
                    have l8_11 : (⟨W8.heap.size, 0, none⟩ : Addr).block < W11.heap.size := Nat.lt_of_lt_of_le l8_10 hb11.size
                    refine hK.out _ _ ((hH10).trans (hb11.mono (hH10).size)) (fun hH11 => ?_)
                    clear hK K_
                    try simp only [Act.put, List.getElem_toArray, List.getElem_cons_zero, List.getElem_cons_succ, List.setIfInBounds_toArray, List.set_cons_zero, List.set_cons_succ]
                    refine wpAnyH_take (i := 17) (v := ?_) rfl (by kernel_rfl) (by kernel_rfl) (by kernel_rfl) (fun _ _ _ h => h) (Or.inl ⟨by kernel_rfl, ?_⟩) hH11 ?_
                    rotate_left 1
                    · intro w hSw
                      go_simp
                      try with_reducible rfl
                    try simp only [Act.put, List.getElem_toArray, List.getElem_cons_zero, List.getElem_cons_succ, List.setIfInBounds_toArray, List.set_cons_zero, List.set_cons_succ]
                    refine wpAnyH_take (i := 18) (v := ?_) rfl (by kernel_rfl) (by kernel_rfl) (by kernel_rfl) (fun _ _ _ h => h) (Or.inl ⟨by kernel_rfl, ?_⟩) hH11 ?_
                    rotate_left 1
                    · intro w hSw
                      go_simp
                      try with_reducible rfl
                    try simp only [Act.put, List.getElem_toArray, List.getElem_cons_zero, List.getElem_cons_succ, List.setIfInBounds_toArray, List.set_cons_zero, List.set_cons_succ]
                    refine wpAnyH_done (by kernel_rfl) ?_ _
                    have hb11 := hH11
                    have hj := join_any K m (some ⟨g2, 0, none⟩) cap2 (chunks bl) W11 (HL10.out.below hb11) ((Hm10.out.below hb11 (Nat.le_refl _)).more hb11.size) ((HS10.out.below hb11 (Nat.le_refl _)).more hb11.size) (by rw [Hn2.out]; exact hcap2) hcx2 (by rw [Hn2.out]; omega) (fun t ht => by have := chunks_le bl t ht; omega)
                    rw [hjn_, Hn2.out] at hj
                    have Hj := Lib.hid hj
                    have hrow := Lib.hid ((hb11.block p hp10).trans H10.out)
                    have Hb11 := Lib.hid hb11
                    clear hj hb11 hH11
                    go_wp2_with (refine wpList_load_row rfl 27 _ rfl p rfl 27 _ (0, 0) _ hrow.out Tryd.underlying27 rfl hinf ?_)
                    refine Hj.out.mono ?_
                    rintro e w12 ⟨rfl, hB12⟩
                    have hb12 : Below w10.heap.size w10 w12 := Hb11.out.trans (hB12.mono Hb11.out.size)
                    have l12 := (hb12.cell (p := ⟨g2, jj, none⟩) hgl2).trans l1
                    have hg12 : g2 < w12.heap.size := Nat.lt_of_lt_of_le hgl2 hb12.size
                    have hp12 : p < w12.heap.size := Nat.lt_of_lt_of_le hp10 hb12.size
                    have hrow2 : w12.heap[p]? = some (.cells m.row 27 (0, 0)) := (hb12.block p hp10).trans H10.out
                    have rm_ : w12.rangeAt p 0 m.cells := fun j v hv => by
                      rw [Nat.zero_add, Lib.cell_of_heap hrow2]
                      unfold ManiD.row
                      rw [List.getElem?_toArray]
                      exact hv
                    have HL0 := Lib.hid (HL10.out.below hb12)
                    have Hm0 := Lib.hid ((Hm10.out.below hb12 (Nat.le_refl _)).more hb12.size)
                    have HB12 := Lib.hid (HB10.out.trans (hb12.mono HB10.out.size))
                    clear hb12 hrow2 hB12 Hb11 Hj hrow
                    go_upto_region 28 with fail
                    refine wp_region_held_drew (S := fun w' => Below w12.heap.size w12 w') (by kernel_rfl) ((Below.refl _ _).drew) (fun hH0 => ?_)
                    obtain ⟨W0, hW0⟩ : ∃ W, W = w12.drew := ⟨_, rfl⟩
                    rw [← hW0] at hH0 ⊢
                    clear hW0
                    refine wpAnyH_take (i := 0) (v := ?_) rfl (by kernel_rfl) (by kernel_rfl) (by kernel_rfl) (fun _ _ _ h => h) (Or.inl ⟨by kernel_rfl, ?_⟩) hH0 ?_
                    rotate_left 1
                    · intro w hSw
                      go_simp
                      try with_reducible rfl
                    try simp only [Act.put, List.getElem_toArray, List.getElem_cons_zero, List.getElem_cons_succ, List.setIfInBounds_toArray, List.set_cons_zero, List.set_cons_succ]
                    refine wpAnyH_take (i := 1) (v := ?_) rfl (by kernel_rfl) (by kernel_rfl) (by kernel_rfl) (fun _ _ _ h => h) (Or.inl ⟨by kernel_rfl, ?_⟩) hH0 ?_
                    rotate_left 1
                    · intro w hSw
                      go_simp
                      try with_reducible rfl
                    try simp only [Act.put, List.getElem_toArray, List.getElem_cons_zero, List.getElem_cons_succ, List.setIfInBounds_toArray, List.set_cons_zero, List.set_cons_succ]
                    refine wpAnyH_take (i := 2) (v := ?_) rfl (by kernel_rfl) (by kernel_rfl) (by kernel_rfl) (fun _ _ _ h => h) (Or.inl ⟨by kernel_rfl, ?_⟩) hH0 ?_
                    rotate_left 1
                    · intro w hSw
                      go_simp
                      try with_reducible rfl
                    try simp only [Act.put, List.getElem_toArray, List.getElem_cons_zero, List.getElem_cons_succ, List.setIfInBounds_toArray, List.set_cons_zero, List.set_cons_succ]
                    refine wpAnyH_take (i := 3) (v := ?_) rfl (by kernel_rfl) (by kernel_rfl) (by kernel_rfl) (fun _ _ _ h => h) (Or.inl ⟨by kernel_rfl, ?_⟩) hH0 ?_
                    rotate_left 1
                    · intro w hSw
                      go_simp
                      try with_reducible rfl
                    try simp only [Act.put, List.getElem_toArray, List.getElem_cons_zero, List.getElem_cons_succ, List.setIfInBounds_toArray, List.set_cons_zero, List.set_cons_succ]
                    refine wpAnyH_take (i := 4) (v := ?_) rfl (by kernel_rfl) (by kernel_rfl) (by kernel_rfl) (fun _ _ _ h => h) (Or.inl ⟨by kernel_rfl, ?_⟩) hH0 ?_
                    rotate_left 1
                    · intro w hSw
                      go_simp
                      try with_reducible rfl
                    try simp only [Act.put, List.getElem_toArray, List.getElem_cons_zero, List.getElem_cons_succ, List.setIfInBounds_toArray, List.set_cons_zero, List.set_cons_succ]
                    refine wpAnyH_take (i := 5) (v := ?_) rfl (by kernel_rfl) (by kernel_rfl) (by kernel_rfl) (fun _ _ _ h => h) (Or.inl ⟨by kernel_rfl, ?_⟩) hH0 ?_
                    rotate_left 1
                    · intro w hSw
                      go_simp
                      try with_reducible rfl
                    try simp only [Act.put, List.getElem_toArray, List.getElem_cons_zero, List.getElem_cons_succ, List.setIfInBounds_toArray, List.set_cons_zero, List.set_cons_succ]
                    refine wpAnyH_take (i := 6) (v := _) rfl (by kernel_rfl) (by kernel_rfl) (by kernel_rfl) (fun _ _ _ h => h) (yieldsIf_load_mid (by kernel_rfl) _ _ rfl _ _ rfl m.cells _ (fun W hW => range_below rm_ hW hp12) mund rfl minfo) hH0 ?_
                    try simp only [Act.put, List.getElem_toArray, List.getElem_cons_zero, List.getElem_cons_succ, List.setIfInBounds_toArray, List.set_cons_zero, List.set_cons_succ]
                    refine wpAnyH_take (i := 7) (v := ?_) rfl (by kernel_rfl) (by kernel_rfl) (by kernel_rfl) (fun _ _ _ h => h) (Or.inl ⟨by kernel_rfl, ?_⟩) hH0 ?_
                    rotate_left 1
                    · intro w hSw
                      go_simp
                      try with_reducible rfl
                    try simp only [Act.put, List.getElem_toArray, List.getElem_cons_zero, List.getElem_cons_succ, List.setIfInBounds_toArray, List.set_cons_zero, List.set_cons_succ]
                    refine wpAnyH_take (i := 8) (v := ?_) rfl (by kernel_rfl) (by kernel_rfl) (by kernel_rfl) (fun _ _ _ h => h) (Or.inl ⟨by kernel_rfl, ?_⟩) hH0 ?_
                    rotate_left 1
                    · intro w hSw
                      go_simp
                      try with_reducible rfl
                    try simp only [Act.put, List.getElem_toArray, List.getElem_cons_zero, List.getElem_cons_succ, List.setIfInBounds_toArray, List.set_cons_zero, List.set_cons_succ]
                    refine wpAnyH_take (i := 9) (v := ?_) rfl (by kernel_rfl) (by kernel_rfl) (by kernel_rfl) (fun _ _ _ h => h) (Or.inl ⟨by kernel_rfl, ?_⟩) hH0 ?_
                    rotate_left 1
                    · intro w hSw
                      go_simp
                      try with_reducible rfl
                    try simp only [Act.put, List.getElem_toArray, List.getElem_cons_zero, List.getElem_cons_succ, List.setIfInBounds_toArray, List.set_cons_zero, List.set_cons_succ]
                    refine wpAnyH_take (i := 10) (v := ?_) rfl (by kernel_rfl) (by kernel_rfl) (by kernel_rfl) (fun _ _ _ h => h) (Or.inl ⟨by kernel_rfl, ?_⟩) hH0 ?_
                    rotate_left 1
                    · intro w hSw
                      go_simp
                      try with_reducible rfl
                    try simp only [Act.put, List.getElem_toArray, List.getElem_cons_zero, List.getElem_cons_succ, List.setIfInBounds_toArray, List.set_cons_zero, List.set_cons_succ]
                    refine wpAnyH_take (i := 11) (v := ?_) rfl (by kernel_rfl) (by kernel_rfl) (by kernel_rfl) (fun _ _ _ h => h) (Or.inl ⟨by kernel_rfl, ?_⟩) hH0 ?_
                    rotate_left 1
                    · intro w hSw
                      go_simp
                      try with_reducible rfl
                    try simp only [Act.put, List.getElem_toArray, List.getElem_cons_zero, List.getElem_cons_succ, List.setIfInBounds_toArray, List.set_cons_zero, List.set_cons_succ]
                    refine wpAnyH_take (i := 12) (v := ?_) rfl (by kernel_rfl) (by kernel_rfl) (by kernel_rfl) (fun _ _ _ h => h) (Or.inl ⟨by kernel_rfl, ?_⟩) hH0 ?_
                    rotate_left 1
                    · intro w hSw
                      go_simp
                      try with_reducible rfl
                    try simp only [Act.put, List.getElem_toArray, List.getElem_cons_zero, List.getElem_cons_succ, List.setIfInBounds_toArray, List.set_cons_zero, List.set_cons_succ]
                    refine wpAnyH_take (i := 13) (v := ?_) rfl (by kernel_rfl) (by kernel_rfl) (by kernel_rfl) (fun _ _ _ h => h) (Or.inl ⟨by kernel_rfl, ?_⟩) hH0 ?_
                    rotate_left 1
                    · intro w hSw
                      have f0 := (hSw.cell (p := ⟨g2, jj, none⟩) hg12).trans l12
                      go_simp
                      try with_reducible rfl
                    try simp only [Act.put, List.getElem_toArray, List.getElem_cons_zero, List.getElem_cons_succ, List.setIfInBounds_toArray, List.set_cons_zero, List.set_cons_succ]
                    refine wpAnyH_take (i := 15) (v := ?_) rfl (by kernel_rfl) (by kernel_rfl) (by kernel_rfl) (fun _ _ _ h => h) (Or.inl ⟨by kernel_rfl, ?_⟩) hH0 ?_
                    rotate_left 1
                    · intro w hSw
                      go_simp
                      try with_reducible rfl
                    try simp only [Act.put, List.getElem_toArray, List.getElem_cons_zero, List.getElem_cons_succ, List.setIfInBounds_toArray, List.set_cons_zero, List.set_cons_succ]
                    refine wpAnyH_take (i := 16) (v := ?_) rfl (by kernel_rfl) (by kernel_rfl) (by kernel_rfl) (fun _ _ _ h => h) (Or.inl ⟨by kernel_rfl, ?_⟩) hH0 ?_
                    rotate_left 1
                    · intro w hSw
                      go_simp
                      try with_reducible rfl
                    try simp only [Act.put, List.getElem_toArray, List.getElem_cons_zero, List.getElem_cons_succ, List.setIfInBounds_toArray, List.set_cons_zero, List.set_cons_succ]
                    refine wpAnyH_ready (rs := [14]) (by kernel_rfl) (by simp) ?_
                    refine AllReadyH.cons rfl (fun K_ hK => ?_) ?_
                    · go_simp
                      refine (fits_any K m (jj : Int) (tb) _ (HL0.out.below hH0) ((Hm0.out.below hH0 (Nat.le_refl _)).more (hH0).size) (by omega) (by omega) (by omega)).mono ?_
                      rintro e W1 ⟨rfl, hb1⟩
                      rw [hf]
                      refine hK.out _ _ ((hH0).trans (hb1.mono (hH0).size)) (fun hH1 => ?_)
                      clear hK K_
                      try simp only [Act.put, List.getElem_toArray, List.getElem_cons_zero, List.getElem_cons_succ, List.setIfInBounds_toArray, List.set_cons_zero, List.set_cons_succ]
                      refine wpAnyH_take (i := 17) (v := ?_) rfl (by kernel_rfl) (by kernel_rfl) (by kernel_rfl) (fun _ _ _ h => h) (Or.inl ⟨by kernel_rfl, ?_⟩) hH1 ?_
                      rotate_left 1
                      · intro w hSw
                        go_simp
                        try with_reducible rfl
                      try simp only [Act.put, List.getElem_toArray, List.getElem_cons_zero, List.getElem_cons_succ, List.setIfInBounds_toArray, List.set_cons_zero, List.set_cons_succ]
                      refine wpAnyH_take (i := 18) (v := ?_) rfl (by kernel_rfl) (by kernel_rfl) (by kernel_rfl) (fun _ _ _ h => h) (Or.inl ⟨by kernel_rfl, ?_⟩) hH1 ?_
                      rotate_left 1
                      · intro w hSw
                        go_simp
                        try with_reducible rfl
                      try simp only [Act.put, List.getElem_toArray, List.getElem_cons_zero, List.getElem_cons_succ, List.setIfInBounds_toArray, List.set_cons_zero, List.set_cons_succ]
                      refine wpAnyH_take (i := 19) (v := ?_) rfl (by kernel_rfl) (by kernel_rfl) (by kernel_rfl) (fun _ _ _ h => h) (Or.inl ⟨by kernel_rfl, ?_⟩) hH1 ?_
                      rotate_left 1
                      · intro w hSw
                        go_simp
                        try with_reducible rfl
                      try simp only [Act.put, List.getElem_toArray, List.getElem_cons_zero, List.getElem_cons_succ, List.setIfInBounds_toArray, List.set_cons_zero, List.set_cons_succ]
                      refine wpAnyH_done (by kernel_rfl) ?_ _
                      have HH := Lib.hid hH1
                      clear hH1
                      go_wp2_with fail
                      go_ret
                      exact ⟨by simp, HB12.out.trans (HH.out.mono HB12.out.size)⟩
                    exact AllReadyH.nil
                  exact AllReadyH.nil
                exact AllReadyH.nil
              exact AllReadyH.nil
            exact AllReadyH.nil

theorem combBack_core (l : List UInt8) (a x : Int) (w : World) (hL : Laid KK w) (hl : l.length ≤ 140737488351232) (alo : -9223372036854775808 ≤ a) (ahi : a ≤ 9223372036854775807) (xlo : 0 ≤ x) (xhi : x < 256) :
    Calls Tryd.prog 5 #[.string ⟨l.toArray⟩, .int .i64 a, .int .u8 x] w fun e w' => e = .returned (.bool true) ∧ Below w.heap.size w w' := by
  by_cases h : l.length ≤ 512
  · exact combBack_small l a x w hL h alo ahi xlo xhi
  · exact combBack_big l a x w hL hl (by omega)

theorem wf_u8 {n : Int} (h : (Lit.int .u8 n).wf = true) : 0 ≤ n ∧ n < 256 := by
  simp only [Lit.wf, Bool.and_eq_true, decide_eq_true_eq] at h
  have h1 := h.1
  have h2 := h.2
  simp [IntKind.min, IntKind.max, IntKind.bits, IntKind.signed] at h1 h2
  omega

namespace CombBackLaw
open Go.ChangeShapes Go.WideShapes Go.ChangeAt
open Go.ChangeMaps (open_string shut_string)
set_option maxRecDepth 100000 in
theorem contract (H : Type) (enc : TypeId × Value → H) (W : World) (base : Nat) (args : Array Value) (ds gs : List (DataW H)) (before : List MemPlace)
    (hval : ∀ (j : Nat) t v, Tryd.f5.params[j]? = some t → args[j]? = some v → Value.okWide Tryd.prog W .any base t v)
    (hW : DataW.Whole enc Tryd.prog Tryd.f5.params.toList Rows.combBackSpec.vars false W args.toList ds gs before) (hsz0 : (DataW.weightsEach Tryd.prog (Tryd.f5.params.toList ++ Rows.combBackSpec.plain.varTypes Tryd.prog) (ds ++ gs)).all (· ≤ reachBytes) = true) (hLd : laidMetH Tryd.prog laid1 W) :
    Calls Tryd.prog 5 args W fun e W' => ∃ v, e = .returned v ∧ Rows.combBackSpec.post enc Tryd.prog Tryd.f5 false true false false W args v W' := by
  have hW' := hW
  obtain ⟨p, q, hA0, hV, rfl, hfz, hnd⟩ := hW
  have hA : DataW.TrodAll enc Tryd.prog W 0 (fun _ => true) true Tryd.f5.params.toList args.toList ds p := hA0
  rw [Tryd.params5] at hA hval
  obtain ⟨v0, vs0, d0, ds0, p0, q0, hargs, rfl, rfl, h0, r0⟩ := trodAll_cons hA
  obtain ⟨v1, vs1, d1, ds1, p1, q1, rfl, rfl, rfl, h1, r1⟩ := trodAll_cons r0
  obtain ⟨v2, vs2, d2, ds2, p2, q2, rfl, rfl, rfl, h2, r2⟩ := trodAll_cons r1
  obtain ⟨rfl, rfl, rfl⟩ := trodAll_nil r2
  obtain rfl : args = #[v0, v1, v2] := by cases args; simp_all
  obtain ⟨rfl, rfl⟩ := trodVars_none hV
  obtain ⟨s0, rfl, hd0, _, hs0⟩ := open_string Tryd.underlying9 (hval 0 9 v0 rfl rfl) h0
  obtain ⟨x0, rfl, hx0, hy0⟩ := as_list s0
  have z0 : x0.length ≤ 140737488351232 := by
    have := sized_string hsz0 (j := 0) (t := 9) (bytes := x0) (by simp [Tryd.params5]) (by rw [hd0, hx0]; rfl)
    simpa [reachBytes] using this
  obtain ⟨x1, rfl, hd1, _, w1⟩ := open_int Tryd.underlying3 (hval 1 3 v1 rfl rfl) h1
  obtain ⟨x2, rfl, hd2, _, w2⟩ := open_int Tryd.underlying5 (hval 2 5 v2 rfl rfl) h2
  refine (combBack_core x0 x1 x2 W (of_laid hLd) z0 (wf_bounds w1).1 (wf_bounds w1).2 (wf_u8 w2).1 (wf_u8 w2).2).mono fun e W' ⟨he, hg⟩ => ?_
  subst he
  exact ⟨_, rfl, law_post (tb := 4) laidOut_ (of_decide_eq_true (by kernel_rfl)) Tryd.underlying4 (by kernel_rfl) rfl rfl hW' hg⟩

theorem door_met (os : Os) (args : Array Value) : laidMetH Tryd.prog laid1 ((World.doorLaid Tryd.prog 400 os).forCall (fun _ _ => 0) ⟨#[], args, []⟩).memory :=
  laidMetH_of_parts3 (fuel := 8) (laidMet_of_run' 8 (by kernel_rfl) (by kernel_rfl)) (by kernel_rfl) (by kernel_rfl)

set_option maxRecDepth 100000 in
theorem lifted (os : Os) (started : os.Started) (H : Type) (enc : TypeId × Value → H) :
    ReturnsInHanded {} Tryd.checked os 5 .any (fun w args => (Rows.combBackSpec.pre enc Tryd.prog Tryd.f5 [] false w args ∧ laidMetH Tryd.prog laid1 w) ∧ sizedMet enc Tryd.prog Tryd.f5 (OpenSpec.ofChange Rows.combBackSpec) false w args)
      (Rows.combBackSpec.post enc Tryd.prog Tryd.f5 false true false false) := by
  refine returnsInHanded_of_change_and (C := Tryd.checked) (X := fun w _ => laidMetH Tryd.prog laid1 w) (fun _ _ _ hh h => h.of_heap hh) ownKnob_ started (by kernel_rfl) Tryd.func5
    (ChangeSpec.witness_shaped (enc := enc) (C := Tryd.checked) (os := os) (X := fun w _ => laidMetH Tryd.prog laid1 w) false (World.doorLaid Tryd.prog 400 os) #[.string .empty, .int .i64 0, .int .u8 0] 8 rfl (World.shaped_of_RefB (by kernel_rfl) (by kernel_rfl)) (by kernel_rfl) (by kernel_rfl) (by kernel_rfl) (door_met os _)) ?_
  intro W base args ds gs before hval hW _ hsz hLd _
  exact contract H enc W base args ds gs before hval hW hsz hLd

theorem said : Rows.CombBackSaid :=
  OpenClaim.holds_of_wide 5 Tryd.f5 rfl rfl rfl rfl rfl rfl rfl ⟨rfl, rfl, rfl, rfl, rfl⟩ rfl rfl rfl rfl rfl (by kernel_rfl) Tryd.func5 (by kernel_rfl)
    (of_decide_eq_true (by kernel_rfl)) (by unfold Func.isWrapper; first | (rw [if_pos (by decide +kernel)]; kernel_rfl) | (rw [if_neg (by decide +kernel)]; exact ⟨rfl, rfl⟩))
    (fun os started H enc _ => lifted os started H enc)

theorem proved : Rows.CombBackCardSaid :=
  Claim7.holds_tied_plain_at .later [] [.data] true Rows.combBackCard.stood.harness false
    said (fun _ h => by cases h) (by kernel_rfl) (fun _ h => by cases h) combBack_row_tie rfl ⟨rfl, rfl⟩ (by kernel_rfl) rfl
    (fun f fn hf hfn => by
      obtain rfl : f = 5 := Option.some.inj ((show Tryd.prog.funcNamed "apiary/apiarylaw03.CombBack" = some 5 by kernel_rfl).symm.trans hf) |>.symm
      obtain rfl : fn = Tryd.f5 := (Option.some.inj (Tryd.func5.symm.trans hfn)).symm
      exact ⟨by kernel_rfl, fun j t ht => by
        rw [Tryd.params5] at ht
        have hm : t ∈ [9, 3, 5] := by simpa using Array.mem_of_getElem? ht
        have hall : ([9, 3, 5].all fun u => !Tryd.prog.wantsStandIn u) = true := by kernel_rfl
        exact (show Tryd.prog.wantsStandIn t = false by simpa using List.all_eq_true.1 hall t hm)⟩)
    (by kernel_rfl)
end CombBackLaw

end Go.Proofs.YtokdnfhglckpkaaDoor
