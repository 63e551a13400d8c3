/-
  Layer 19 (wing): the reading of a row: the words of a text. Layer 19 (wing): the reading of a row: members, ranges, records. Layer 19 (wing): the reading of a row: its texts, one behind the other. Layer 19 (wing): the reading of a row: a number, a digest, a summary; things in a list.
-/
import Derived.Test.YthcmlbbbbcinkaaDoorWiL
import Derived.Lib.BufferWrite
import Derived.Lib.SlBuf
set_option linter.unusedVariables false
set_option linter.unusedSimpArgs false
namespace Go.Proofs.YthcmlbbbbcinkaaDoor
open Go.RowKit Pl
attribute [local go_sem] Lb.ba_get Lb.ba_cut Lb.ba_add Lb.ba_size Lb.take_rest
namespace Wi

/-- a text that is read: the block's first two cells; the third stays -/
def TxAt (w : World) (q : Nat) (s : Bs) (b : Bool) (v : Value) : Prop := w.heap[q]? = some (.cells #[.string ⟨s.toArray⟩, .bool b, v] 74 (0, 0))
theorem TxAt.c0 {w : World} {q : Nat} {s : Bs} {b : Bool} {v : Value} (h : TxAt w q s b v) : w.cell? ⟨q, 0, none⟩ = some (.string ⟨s.toArray⟩) := by rw [Lib.cell_of_heap h]; rfl
theorem TxAt.c1 {w : World} {q : Nat} {s : Bs} {b : Bool} {v : Value} (h : TxAt w q s b v) : w.cell? ⟨q, 1, none⟩ = some (.bool b) := by rw [Lib.cell_of_heap h]; rfl
theorem TxAt.c2 {w : World} {q : Nat} {s : Bs} {b : Bool} {v : Value} (h : TxAt w q s b v) : w.cell? ⟨q, 2, none⟩ = some v := by rw [Lib.cell_of_heap h]; rfl
theorem TxAt.z {w : World} {q : Nat} {s : Bs} {b : Bool} {v : Value} (h : TxAt w q s b v) (i : Nat) : w.frozen? ⟨q, i, none⟩ = false := Lib.frozen_of_heap h i
theorem TxAt.put0 {w : World} {q : Nat} {s : Bs} {b : Bool} {v : Value} (h : TxAt w q s b v) (t : Bs) : TxAt (w.setCell ⟨q, 0, none⟩ (.string ⟨t.toArray⟩)) q t b v := heap_setCell_same w q 0 _ _ _ h
theorem TxAt.put1 {w : World} {q : Nat} {s : Bs} {b : Bool} {v : Value} (h : TxAt w q s b v) (c : Bool) : TxAt (w.setCell ⟨q, 1, none⟩ (.bool c)) q s c v := heap_setCell_same w q 1 _ _ _ h
theorem TxAt.put2 {w : World} {q : Nat} {s : Bs} {b : Bool} {v : Value} (h : TxAt w q s b v) (u : Value) : TxAt (w.setCell ⟨q, 2, none⟩ u) q s b u := heap_setCell_same w q 2 _ _ _ h
theorem TxAt.keep {w w' : World} {q : Nat} {s : Bs} {b : Bool} {v : Value} {bs : List Nat} (h : TxAt w q s b v) (ho : Only bs w w') (hq : q ∉ bs) : TxAt w' q s b v := ho.keep h hq
theorem TxAt.below {w w' : World} {q : Nat} {s : Bs} {b : Bool} {v : Value} (h : TxAt w q s b v) (hb : Below w.heap.size w w') : TxAt w' q s b v := below_keep hb h
theorem numS_of {p : St} {n : Int} {r : Bs} {ok : Bool} (h : GotNum p.s n r ok) : numS p = (n, ⟨r, p.bad || !ok, p.rest⟩) := by
  unfold numS
  rcases h with ⟨rfl, h⟩ | ⟨rfl, h, rfl, rfl⟩
  · simp only [h]; simp
  · simp only [h]; simp
theorem number_any (q : Nat) (p : St) (v : Value) (w : World) (h : TxAt w q p.s p.bad v) (hs : p.s.length ≤ 5000) : Calls Tryd.prog 58 #[.pointer (some ⟨q, 0, none⟩)] w fun e w' => e = .returned (.int .i64 (numS p).1) ∧ TxAt w' q (numS p).2.s (numS p).2.bad v ∧ Only [q] w w' := by
  have c0 := h.c0
  have hl := heap_lt h
  have Hn := Lib.hid (fun W => readNum_c p.s (by omega) W)
  obtain ⟨s, b, rest⟩ := p
  simp only at c0 Hn h
  have H := Lib.hid h
  obtain ⟨Z, hZ⟩ : ∃ Z, Z = numS ⟨s, b, rest⟩ := ⟨_, rfl⟩
  rw [← hZ]
  have HZ := Lib.hid hZ
  clear h hs hZ
  go_enter Tryd.func58, Tryd.ntmps58
  go_wp2_with fail
  refine (Hn.out _).mono ?_
  rintro e w1 ⟨n, r, ok, rfl, hg, hB⟩
  have HD := Lib.hid (HZ.out.trans (numS_of (p := ⟨s, b, rest⟩) hg))
  have h1 := H.out.below hB
  have c0' := h1.c0
  have c1 := h1.c1
  have z0 := h1.z 0
  have z1 := h1.z 1
  have HB := Lib.hid hB
  have H1 := Lib.hid h1
  clear hB h1 c0 hg Hn H HZ
  cases b with
  | true =>
    go_wp2_with fail
    go_ret
    rw [HD.out]
    exact ⟨rfl, (H1.out.put0 r).put1 true, ((Only.of_below HB.out).setCell (p := ⟨q, 0, none⟩) (by simp) _).setCell (p := ⟨q, 1, none⟩) (by simp) _⟩
  | false =>
    go_wp2_with fail
    go_ret
    rw [HD.out]
    exact ⟨rfl, by simpa using (H1.out.put0 r).put1 (!ok), ((Only.of_below HB.out).setCell (p := ⟨q, 0, none⟩) (by simp) _).setCell (p := ⟨q, 1, none⟩) (by simp) _⟩
theorem u8_info1 : (Tryd.prog.info? 5).map (·.size) = some 1 := by kernel_rfl
theorem run_copy_strP {P : Program} (w : World) (dT sT ty elem : TypeId) (g n c : Nat) (l old : List UInt8) (T : TypeId) (hu : P.underlying dT = some (.slice elem)) (hs : (P.info? elem).map (·.size) = some 1) (hg : w.heap[g]? = some (.cells (byV old).toArray T (0, 0))) (hn : old.length = n) :
    (Builtin.copy_ #[dT, sT] ty #[.slice (some ⟨g, 0, none⟩) n c, .string ⟨l.toArray⟩]).run P w = .ok (goInt (Nat.min l.length n)) (w.setRow g (byV (l.take n ++ old.drop l.length)).toArray) := by
  have hst := run_storeCells_at P g 0 T (byV (l.take n)) 0 (byV old).toArray w hg (by simp [byV_length]; omega) (fun v hv => by
    simp only [byV, List.mem_map] at hv
    obtain ⟨x, _, rfl⟩ := hv
    rfl)
  have e : ((byV old).toArray.toList.take (0 + 0) ++ byV (l.take n) ++ (byV old).toArray.toList.drop (0 + 0 + (byV (l.take n)).length)) = byV (l.take n ++ old.drop l.length) := by
    rw [byV_length]
    unfold byV
    simp only [List.map_append, Nat.add_zero, List.take_zero, List.nil_append, Nat.zero_add, List.length_take, List.map_drop]
    by_cases h : n ≤ l.length
    · rw [Nat.min_eq_left h, List.drop_eq_nil_of_le (by simp; omega), List.drop_eq_nil_of_le (by simp; omega)]
    · rw [Nat.min_eq_right (by omega)]
  rw [e] at hst
  cases hq : P.info? elem with
  | none => simp [hq] at hs
  | some i =>
    simp only [hq, Option.map_some, Option.some.injEq] at hs
    have htk : List.take (Nat.min l.length n) (List.map (fun b : UInt8 => Value.int IntKind.u8 (b.toNat : Int)) l) = byV (l.take n) := by
      unfold byV
      rw [← List.map_take]
      congr 1
      by_cases h : n ≤ l.length
      · rw [show Nat.min l.length n = n from Nat.min_eq_right h]
      · rw [show Nat.min l.length n = l.length from Nat.min_eq_left (by omega), List.take_of_length_le (by omega), List.take_of_length_le (by omega)]
    have hsz : (⟨l.toArray⟩ : ByteArray).size = l.length := Lb.ba_size l
    simp [Builtin.copy_, run_underlying hu, Builtin.lenOf, Builtin.firstCells, sizeOf, typeInfo, hq, hs, hsz]
    rw [htk, hst]
    simp [Result.andThen]
theorem dig_infoL {d : Bs} (h : d.length = 32) : (Tryd.prog.info? 23).map (·.size) = some (digV d).size := by rw [dig_info, digV, List.size_toArray, byV_length, h]
theorem digV_one (d : Bs) : (digV d).all (·.oneCell') = true := by
  have := byV_all d
  rw [digV, List.all_toArray]; exact this
theorem digV_size (d : Bs) : (digV d).size = d.length := by rw [digV, List.size_toArray, byV_length]
set_option maxHeartbeats 4000000 in
set_option maxRecDepth 100000 in
theorem digest_any (q : Nat) (p : St) (v : Value) (w : World) (h : TxAt w q p.s p.bad v) (hs : p.s.length ≤ 5000) : Calls Tryd.prog 80 #[.pointer (some ⟨q, 0, none⟩)] w fun e w' => e = .returned (.agg (digV (digS p).1)) ∧ TxAt w' q (digS p).2.s (digS p).2.bad v ∧ Only [q] w w' := by
  have hl := heap_lt h
  obtain ⟨s, b, rest⟩ := p
  simp only at h hs
  obtain ⟨Z, hZ⟩ : ∃ Z, Z = digS ⟨s, b, rest⟩ := ⟨_, rfl⟩
  rw [← hZ]
  have HZ := Lib.hid hZ
  have hn := heap_alloc_new w (.cells (digV z32) 23)
  have hb0 := (Below.refl w.heap.size w).alloc (Nat.le_refl _) (.cells (digV z32) 23)
  have h1 := h.below hb0
  obtain ⟨w1, hw1⟩ : ∃ y, y = w.alloc (.cells (digV z32) 23) := ⟨_, rfl⟩
  obtain ⟨g, hg⟩ : ∃ g, g = w.heap.size := ⟨_, rfl⟩
  rw [← hw1] at hn hb0 h1
  rw [← hg] at hn
  have c0 := h1.c0
  have c1 := h1.c1
  have z0 := h1.z 0
  have z1 := h1.z 1
  have gq : g ≠ q := by omega
  have Hw1 := Lib.hid hw1
  have Hg := Lib.hid hg
  have Hn := Lib.hid hn
  have HB := Lib.hid (Only.of_below (bs := [q]) hb0)
  have H1 := Lib.hid h1
  have dund := Tryd.underlying23
  have di := dig_infoL (d := z32) rfl
  clear h hZ hn hb0 h1 hw1 hg hl
  by_cases hlen : s.length < 32
  · have i32 : ((s.length : Int) < 32) := by omega
    have HE := Lib.hid (HZ.out.trans (by unfold digS; rw [if_pos hlen] : digS ⟨s, b, rest⟩ = (z32, ⟨[], true, rest⟩)))
    go_enter Tryd.func80, Tryd.ntmps80
    go_upto_region 1 with fail
    show Code.wp _ _ _ _ (w.alloc (.cells (digV z32) 23))
    rw [← Hw1.out, ← Hg.out]
    go_upto_region 3 with fail
    have h3 := (H1.out.put0 []).put1 true
    have o3 := (HB.out.setCell (p := ⟨q, 0, none⟩) (by simp) (.string ⟨[].toArray⟩)).setCell (p := ⟨q, 1, none⟩) (by simp) (.bool true)
    have hg3 := Only.keep (bs := [q]) (((Only.refl [q] w1).setCell (p := ⟨q, 0, none⟩) (by simp) (.string ⟨[].toArray⟩)).setCell (p := ⟨q, 1, none⟩) (by simp) (.bool true)) Hn.out (by simpa using gq)
    show Code.wp _ _ _ _ ((w1.setCell ⟨q, 0, none⟩ (.string ⟨[].toArray⟩)).setCell ⟨q, 1, none⟩ (.bool true))
    obtain ⟨w3, hw3⟩ : ∃ y, y = (w1.setCell ⟨q, 0, none⟩ (.string ⟨[].toArray⟩)).setCell ⟨q, 1, none⟩ (.bool true) := ⟨_, rfl⟩
    rw [← hw3] at h3 o3 hg3 ⊢
    have H3 := Lib.hid h3
    have O3 := Lib.hid o3
    have HG3 := Lib.hid hg3
    clear hw3 h3 o3 hg3 c0 c1 z0 z1
    go_wp2_with (first
      | (refine wpList_load_row rfl 23 _ rfl g rfl 23 (digV z32) (0, 0) _ HG3.out dund rfl di ?_)
      | (refine wpList_store_row rfl 23 _ _ rfl g (digV z32) rfl rfl 23 (digV z32) HG3.out di rfl (digV_one z32) ?_))
    have HG4 := Lib.hid (setRow_heap _ g _ (digV z32) _ _ HG3.out)
    (try simp only [Exit.inBlock, Exit.then])
    refine bodyPost_ret (results_cell_row rfl _ _ g 23 (digV z32) (0, 0) _ rfl HG4.out dund rfl di) rfl ?_
    rw [HE.out]
    exact ⟨rfl, H3.out.keep (Only.setRow (Only.refl [g] _) (by simp) _) (by simpa using gq.symm), O3.out.above (Only.setRow (Only.refl [g] _) (by simp) _) (by simp; rw [Hg.out]; exact Nat.le_refl _)⟩
  · have i32 : ¬ ((s.length : Int) < 32) := by omega
    have HE := Lib.hid (HZ.out.trans (by unfold digS; rw [if_neg hlen] : digS ⟨s, b, rest⟩ = (s.take 32, ⟨s.drop 32, b, rest⟩)))
    have hl32 : (s.take 32).length = 32 := by simp; omega
    go_enter Tryd.func80, Tryd.ntmps80
    go_upto_region 1 with fail
    show Code.wp _ _ _ _ (w.alloc (.cells (digV z32) 23))
    rw [← Hw1.out, ← Hg.out]
    go_upto_region 4 with fail
    have lq : q < w1.heap.size := heap_lt H1.out
    have hqn : q ∉ [g] := by simpa using gq.symm
    have hdr : z32.drop s.length = [] := List.drop_eq_nil_of_le (by simp [z32]; omega)
    have hds : (digV (s.take 32)).size = 32 := by rw [digV_size, hl32]
    have dj := dig_infoL hl32
    refine wp_region_held_drew (S := Only [g] w1) (by kernel_rfl) ((Only.refl [g] w1).drew) (fun hH0 => ?_)
    obtain ⟨W0, hW0⟩ : ∃ W, W = w1.drew := ⟨_, rfl⟩
    have HG0 := Lib.hid (show W0.heap[g]? = some (.cells (byV z32).toArray 23 (0, 0)) from by rw [hW0]; exact Hn.out)
    rw [← hW0] at hH0 ⊢
    clear hW0
    refine wpAnyH_take (i := 0) (v := ?_) rfl (by kernel_rfl) (by kernel_rfl) (by kernel_rfl) (fun _ _ _ h => h) (Or.inl ⟨by kernel_rfl, ?_⟩) hH0 ?_
    rotate_left 1
    · intro w hSw
      go_simp
      try with_reducible rfl
    try simp only [Act.put, List.getElem_toArray, List.getElem_cons_zero, List.getElem_cons_succ, List.setIfInBounds_toArray, List.set_cons_zero, List.set_cons_succ]
    refine wpAnyH_take (i := 1) (v := ?_) rfl (by kernel_rfl) (by kernel_rfl) (by kernel_rfl) (fun _ _ _ h => h) (Or.inl ⟨by kernel_rfl, ?_⟩) hH0 ?_
    rotate_left 1
    · intro w hSw
      go_simp
      try with_reducible rfl
    try simp only [Act.put, List.getElem_toArray, List.getElem_cons_zero, List.getElem_cons_succ, List.setIfInBounds_toArray, List.set_cons_zero, List.set_cons_succ]
    refine wpAnyH_take (i := 2) (v := ?_) rfl (by kernel_rfl) (by kernel_rfl) (by kernel_rfl) (fun _ _ _ h => h) (Or.inl ⟨by kernel_rfl, ?_⟩) hH0 ?_
    rotate_left 1
    · intro w hSw
      go_simp
      try with_reducible rfl
    try simp only [Act.put, List.getElem_toArray, List.getElem_cons_zero, List.getElem_cons_succ, List.setIfInBounds_toArray, List.set_cons_zero, List.set_cons_succ]
    refine wpAnyH_take (i := 3) (v := ?_) rfl (by kernel_rfl) (by kernel_rfl) (by kernel_rfl) (fun _ _ _ h => h) (Or.inl ⟨by kernel_rfl, ?_⟩) hH0 ?_
    rotate_left 1
    · intro w hSw
      go_simp
      try with_reducible rfl
    try simp only [Act.put, List.getElem_toArray, List.getElem_cons_zero, List.getElem_cons_succ, List.setIfInBounds_toArray, List.set_cons_zero, List.set_cons_succ]
    refine wpAnyH_take (i := 4) (v := ?_) rfl (by kernel_rfl) (by kernel_rfl) (by kernel_rfl) (fun _ _ _ h => h) (Or.inl ⟨by kernel_rfl, ?_⟩) hH0 ?_
    rotate_left 1
    · intro w hSw
      have f0 := (hSw.cell (p := ⟨q, 0, none⟩) lq hqn).trans c0
      go_simp
      try with_reducible rfl
    try simp only [Act.put, List.getElem_toArray, List.getElem_cons_zero, List.getElem_cons_succ, List.setIfInBounds_toArray, List.set_cons_zero, List.set_cons_succ]
    refine wpAnyH_ready (rs := [5]) (by kernel_rfl) (by simp) ?_
    refine AllReadyH.cons rfl (fun K_ hK => ?_) ?_
    · rw [if_pos (by rfl)]
      refine Lib.wp_copy_run _ _ _ _ _ rfl _ _ rfl rfl (run_copy_strP _ _ _ _ 5 g 32 32 s z32 23 Tryd.underlying45 u8_info1 HG0.out rfl) ?_
      rw [hdr, List.append_nil]
      have HG1 := Lib.hid (setRow_heap _ g _ (byV (s.take 32)).toArray _ _ HG0.out)
      have H1o := Lib.hid ((hH0).setRow (g := g) (by simp) (byV (s.take 32)).toArray)
      obtain ⟨w5, hw5⟩ : ∃ y, y = W0.setRow g (byV (s.take 32)).toArray := ⟨_, rfl⟩
      rw [← hw5] at HG1 H1o ⊢
      clear hw5 HG0
      refine hK.out _ _ H1o.out (fun hH1 => ?_)
      clear hK K_
      try simp only [Act.put, List.getElem_toArray, List.getElem_cons_zero, List.getElem_cons_succ, List.setIfInBounds_toArray, List.set_cons_zero, List.set_cons_succ]
      refine wpAnyH_done (by kernel_rfl) ?_ _
      clear hH1 c0 c1 z0 z1
      have h5 := H1.out.keep H1o.out hqn
      have c0 := h5.c0
      have z0 := h5.z 0
      have H5 := Lib.hid h5
      clear h5
      go_upto_region 6 with fail
      have h6 := H5.out.put0 (s.drop 32)
      have o6 := (HB.out.above H1o.out (by simp; rw [Hg.out]; exact Nat.le_refl _)).setCell (p := ⟨q, 0, none⟩) (by simp) (.string ⟨(s.drop 32).toArray⟩)
      have hg6 := Only.keep (bs := [q]) ((Only.refl [q] w5).setCell (p := ⟨q, 0, none⟩) (by simp) (.string ⟨(s.drop 32).toArray⟩)) HG1.out (by simpa using gq)
      obtain ⟨w6, hw6⟩ : ∃ y, y = w5.setCell ⟨q, 0, none⟩ (.string ⟨(s.drop 32).toArray⟩) := ⟨_, rfl⟩
      rw [← hw6] at h6 o6 hg6 ⊢
      have H6 := Lib.hid h6
      have O6 := Lib.hid o6
      have HG6 : Hid (w6.heap[g]? = some (.cells (digV (s.take 32)) 23 (0, 0))) := Lib.hid hg6
      clear hw6 h6 o6 hg6 c0 z0
      obtain ⟨D, hD⟩ : ∃ D, D = digV (s.take 32) := ⟨_, rfl⟩
      have hd1 : D.all (·.oneCell') = true := by rw [hD]; exact digV_one _
      rw [← hD] at HG6 dj hds
      have HD := Lib.hid hD
      clear hD
      go_wp2_with (first
        | (refine wpList_load_row rfl 23 _ rfl g rfl 23 D (0, 0) _ HG6.out dund rfl dj ?_)
        | (refine wpList_store_row rfl 23 _ _ rfl g D rfl rfl 23 D HG6.out dj rfl hd1 ?_))
      have HG7 := Lib.hid (setRow_heap _ g _ D _ _ HG6.out)
      (try simp only [Exit.inBlock, Exit.then])
      refine bodyPost_ret (results_cell_row rfl _ _ g 23 D (0, 0) _ rfl HG7.out dund rfl dj) rfl ?_
      rw [HE.out, HD.out]
      exact ⟨rfl, H6.out.keep (Only.setRow (Only.refl [g] _) (by simp) _) (by simpa using gq.symm), O6.out.above (Only.setRow (Only.refl [g] _) (by simp) _) (by simp; rw [Hg.out]; exact Nat.le_refl _)⟩
    exact AllReadyH.nil
end Wi
end Go.Proofs.YthcmlbbbbcinkaaDoor

set_option linter.unusedVariables false
set_option linter.unusedSimpArgs false
namespace Go.Proofs.YthcmlbbbbcinkaaDoor
open Go.RowKit Pl
attribute [local go_sem] Lb.ba_get Lb.ba_cut Lb.ba_add Lb.ba_size Lb.take_rest
namespace Wi

theorem numS_len (p : St) : (numS p).2.s.length ≤ p.s.length := by
  unfold numS
  cases h : rdNum p.s with
  | none => simp
  | some x => obtain ⟨n, r⟩ := x; exact Nat.le_of_lt (rdNum_bounds h).2.2
theorem numS_i64 (p : St) : I64 (numS p).1 := by
  unfold numS
  cases h : rdNum p.s with
  | none => unfold I64; simp
  | some x => obtain ⟨n, r⟩ := x; exact ⟨(rdNum_bounds h).1, (rdNum_bounds h).2.1⟩
theorem digS_len (p : St) : (digS p).2.s.length ≤ p.s.length ∧ (digS p).1.length = 32 := by
  unfold digS
  by_cases h : p.s.length < 32
  · rw [if_pos h]; exact ⟨Nat.zero_le _, rfl⟩
  · rw [if_neg h]; simp; omega
theorem numS_rest (p : St) : (numS p).2.rest = p.rest := by
  unfold numS
  cases rdNum p.s <;> rfl
theorem digS_rest (p : St) : (digS p).2.rest = p.rest := by
  unfold digS; split <;> rfl
theorem only_fresh {bs : List Nat} {a b : World} {g : Nat} (h : Only bs a b) (hg : a.heap.size ≤ g) (cs : Array Value) : Only bs a (b.setRow g cs) := h.above (Only.setRow (Only.refl [g] _) (by simp) _) (by simpa using hg)
theorem only_freshC {bs : List Nat} {a b : World} {g o : Nat} (h : Only bs a b) (hg : a.heap.size ≤ g) (v : Value) : Only bs a (b.setCell ⟨g, o, none⟩ v) := h.above (Only.setCell (Only.refl [g] _) (p := ⟨g, o, none⟩) (by simp) _) (by simpa using hg)
theorem wpList_build1 {P : Program} {ops : Array Oper} {rest : List Oper} {o : Oper} {a : Act} {w : World} {Q : Exit → Act → World → Prop} (hg : o.guard = none) (t : TypeId) (i : Nat) (x : Operand) (ho : o.op = .build t #[(i, x)])
    (u : Value) (hx : a.eval x = u) (C : Array Value) (hB : P.built t [(i, u)] = some C)
    (h : wpList P ops Q rest (a.put o.dst (.agg C)) w) : wpList P ops Q (o :: rest) a w := by
  have e : ((#[(i, x)] : Array (Nat × Operand)).map fun (i, x) => (i, a.eval x)).toList = [(i, u)] := by simp [hx]
  refine wpList_build hg t _ ho ?_ ?_
  · rw [e, hB]; rfl
  · rw [e, hB]; exact h
theorem mb_zeroP : (Tryd.prog.info? 52).map (·.zero) = some (some (.agg ([Value.int .i64 0, Value.int .i64 0, Value.int .i64 0] : List Value).toArray)) := by kernel_rfl
theorem built_mb (x : Int) : Tryd.prog.built 52 [(0, Value.int .i64 x)] = some ([Value.int .i64 x, Value.int .i64 0, Value.int .i64 0] : List Value).toArray := by
  obtain ⟨it, hit, hz⟩ := Option.map_eq_some_iff.1 mb_zeroP
  have hp : ∀ fs, Tryd.prog.underlying 52 = some (.struct fs) → fs.toList.mapM (fun f => (Tryd.prog.info? f.type).map fun i => (f.offset, i.size)) = some [(0, 1), (1, 1), (2, 1)] := by
    intro fs h
    obtain rfl := (TypeDesc.struct.inj (Option.some.inj (Tryd.underlying52.symm.trans h)))
    kernel_rfl
  unfold Program.built
  rw [hit]
  simp only [Tryd.underlying52]
  rw [hz, hp _ Tryd.underlying52]
  have h1 := fill_part (place := ([(0, 1), (1, 1), (2, 1)].toArray[·]?)) (i := 0) (v := Value.int .i64 x) (rest := []) (pre := []) (old := [Value.int .i64 0]) (vs := [Value.int .i64 x]) (off := 0) (size := 1) (post := [Value.int .i64 0, Value.int .i64 0]) rfl (cells_v_int _ _) (rfl) rfl rfl
  exact h1.trans (fill_none _ _)
theorem rg_zeroP : (Tryd.prog.info? 65).map (·.zero) = some (some (.agg ([Value.int .i64 0, Value.int .i64 0, Value.int .i64 0] ++ byV z32 : List Value).toArray)) := by kernel_rfl
theorem built_rg (x : Int) : Tryd.prog.built 65 [(0, Value.int .i64 x)] = some ([Value.int .i64 x, Value.int .i64 0, Value.int .i64 0] ++ byV z32 : List Value).toArray := by
  obtain ⟨it, hit, hz⟩ := Option.map_eq_some_iff.1 rg_zeroP
  have hp : ∀ fs, Tryd.prog.underlying 65 = some (.struct fs) → fs.toList.mapM (fun f => (Tryd.prog.info? f.type).map fun i => (f.offset, i.size)) = some [(0, 1), (1, 1), (2, 1), (3, 32)] := by
    intro fs h
    obtain rfl := (TypeDesc.struct.inj (Option.some.inj (Tryd.underlying65.symm.trans h)))
    kernel_rfl
  unfold Program.built
  rw [hit]
  simp only [Tryd.underlying65]
  rw [hz, hp _ Tryd.underlying65]
  have h1 := fill_part (place := ([(0, 1), (1, 1), (2, 1), (3, 32)].toArray[·]?)) (i := 0) (v := Value.int .i64 x) (rest := []) (pre := []) (old := [Value.int .i64 0]) (vs := [Value.int .i64 x]) (off := 0) (size := 1) (post := [Value.int .i64 0, Value.int .i64 0] ++ byV z32) rfl (cells_v_int _ _) (rfl) rfl rfl
  exact h1.trans (fill_none _ _)
theorem rc_zeroP : (Tryd.prog.info? 26).map (·.zero) = some (some (.agg (byV z32 ++ (Value.int .i64 0 :: byV z32) : List Value).toArray)) := by kernel_rfl
theorem built_rc (x : Bs) (hd : x.length = 32) : Tryd.prog.built 26 [(0, .agg (digV x))] = some (byV x ++ (Value.int .i64 0 :: byV z32) : List Value).toArray := by
  obtain ⟨it, hit, hz⟩ := Option.map_eq_some_iff.1 rc_zeroP
  have hp : ∀ fs, Tryd.prog.underlying 26 = some (.struct fs) → fs.toList.mapM (fun f => (Tryd.prog.info? f.type).map fun i => (f.offset, i.size)) = some [(0, 32), (32, 1), (33, 32)] := by
    intro fs h
    obtain rfl := (TypeDesc.struct.inj (Option.some.inj (Tryd.underlying26.symm.trans h)))
    kernel_rfl
  unfold Program.built
  rw [hit]
  simp only [Tryd.underlying26]
  rw [hz, hp _ Tryd.underlying26]
  have h1 := fill_part (place := ([(0, 32), (32, 1), (33, 32)].toArray[·]?)) (i := 0) (v := .agg (digV x)) (rest := []) (pre := []) (old := byV z32) (vs := byV x) (off := 0) (size := 32) (post := Value.int .i64 0 :: byV z32) rfl (cells_v_agg _) (by rw [byV_length, hd]) rfl rfl
  exact h1.trans (fill_none _ _)
theorem zero_rcR : Tryd.zeroCells26 = (byV z32 ++ (Value.int .i64 0 :: byV z32)).toArray := by kernel_rfl
theorem mb_infoS : (Tryd.prog.info? 52).map (·.size) = some 3 := by kernel_rfl
theorem rg_infoS : (Tryd.prog.info? 65).map (·.size) = some 35 := by kernel_rfl
theorem rc_infoS : (Tryd.prog.info? 26).map (·.size) = some 65 := by kernel_rfl
def MemR (w : World) (q : Nat) (p : St) (v : Value) (e : Ending) (w' : World) : Prop := e = .returned (.agg ((memS p).1.cells).toArray) ∧ TxAt w' q (memS p).2.s (memS p).2.bad v ∧ Only [q] w w'
def RngR (w : World) (q : Nat) (p : St) (v : Value) (e : Ending) (w' : World) : Prop := e = .returned (.agg ((rngS p).1.cells).toArray) ∧ TxAt w' q (rngS p).2.s (rngS p).2.bad v ∧ Only [q] w w'
def RecR (w : World) (q : Nat) (p : St) (v : Value) (e : Ending) (w' : World) : Prop := e = .returned (.agg ((recS p).1.cells).toArray) ∧ TxAt w' q (recS p).2.s (recS p).2.bad v ∧ Only [q] w w'
set_option maxHeartbeats 4000000 in
set_option maxRecDepth 100000 in
theorem member_any (q : Nat) (p : St) (v : Value) (w : World) (h : TxAt w q p.s p.bad v) (hs : p.s.length ≤ 5000) : Calls Tryd.prog 31 #[.pointer (some ⟨q, 0, none⟩)] w (MemR w q p v) := by
  have hl := heap_lt h
  obtain ⟨p1, hp1⟩ : ∃ x, x = numS p := ⟨_, rfl⟩
  obtain ⟨p2, hp2⟩ : ∃ x, x = numS p1.2 := ⟨_, rfl⟩
  obtain ⟨p3, hp3⟩ : ∃ x, x = numS p2.2 := ⟨_, rfl⟩
  have hs0 := hs
  have hs1 : p1.2.s.length ≤ 5000 := Nat.le_trans (by rw [hp1]; exact numS_len p) hs0
  have hs2 : p2.2.s.length ≤ 5000 := Nat.le_trans (by rw [hp2]; exact numS_len p1.2) hs1
  have hs3 : p3.2.s.length ≤ 5000 := Nat.le_trans (by rw [hp3]; exact numS_len p2.2) hs2
  have HR := Lib.hid (show memS p = (⟨p1.1, p2.1, p3.1⟩, p3.2) by rw [hp3, hp2, hp1]; rfl)
  have H1 := Lib.hid (fun W (hW : TxAt W q p.s p.bad v) => number_any q p v W hW hs0)
  rw [← hp1] at H1
  have H2 := Lib.hid (fun W (hW : TxAt W q p1.2.s p1.2.bad v) => number_any q p1.2 v W hW hs1)
  rw [← hp2] at H2
  have H3 := Lib.hid (fun W (hW : TxAt W q p2.2.s p2.2.bad v) => number_any q p2.2 v W hW hs2)
  rw [← hp3] at H3
  obtain ⟨x1, hx1⟩ : ∃ x, x = p1.1 := ⟨_, rfl⟩
  rw [← hx1] at H1 HR
  obtain ⟨x2, hx2⟩ : ∃ x, x = p2.1 := ⟨_, rfl⟩
  rw [← hx2] at H2 HR
  obtain ⟨x3, hx3⟩ : ∃ x, x = p3.1 := ⟨_, rfl⟩
  rw [← hx3] at H3 HR
  have hn1 := heap_alloc_new w (.cells ([Value.int .i64 0, Value.int .i64 0, Value.int .i64 0]).toArray 52)
  have hb1 := (Below.refl w.heap.size w).alloc (Nat.le_refl _) (.cells ([Value.int .i64 0, Value.int .i64 0, Value.int .i64 0]).toArray 52)
  have t1 := h.below hb1
  obtain ⟨w1, hw1⟩ : ∃ y, y = w.alloc (.cells ([Value.int .i64 0, Value.int .i64 0, Value.int .i64 0]).toArray 52) := ⟨_, rfl⟩
  obtain ⟨g1, hg1⟩ : ∃ g, g = w.heap.size := ⟨_, rfl⟩
  rw [← hw1] at hn1 hb1 t1
  rw [← hg1] at hn1
  have q1 : g1 ≠ q := by omega
  have Hw1 := Lib.hid hw1
  have Hg1 := Lib.hid hg1
  have HN := Lib.hid hn1
  have T1 := Lib.hid t1
  have O1 := Lib.hid (Only.of_below (bs := [q]) hb1)
  have und := Tryd.underlying52
  clear hp1 hp2 hp3 hs hs0 hs1 hs2 hs3 h hl hn1 hb1 t1 hw1 hg1 hx1 hx2 hx3
  go_enter Tryd.func31, Tryd.ntmps31
  go_upto_region 1 with fail
  show Code.wp _ _ _ _ (w.alloc (.cells ([Value.int .i64 0, Value.int .i64 0, Value.int .i64 0]).toArray 52))
  rw [← Hw1.out, ← Hg1.out]
  go_wp2_with fail
  refine (H1.out _ T1.out).mono ?_
  rintro e w2 ⟨rfl, t2, o2⟩
  have hbd := built_mb x1
  have hn2 := heap_alloc_new w2 (.cells ([Value.int .i64 0, Value.int .i64 0, Value.int .i64 0]).toArray 52)
  have hsz : ([Value.int .i64 0, Value.int .i64 0, Value.int .i64 0] : List Value).toArray.size = ([Value.int .i64 x1, Value.int .i64 0, Value.int .i64 0] : List Value).toArray.size := by simp [byV_length, z32]
  have hi1 : (Tryd.prog.info? 52).map (·.size) = some ([Value.int .i64 x1, Value.int .i64 0, Value.int .i64 0] : List Value).toArray.size := by rw [mb_infoS]; simp [byV_length, z32]
  have ho1 : ([Value.int .i64 x1, Value.int .i64 0, Value.int .i64 0] : List Value).toArray.all (·.oneCell') = true := by rw [List.all_toArray]; simp only [List.all_append, List.all_cons, List.all_nil, byV_all, Bool.and_true, Bool.true_and]; try rfl
  have hq2 : q < w2.heap.size := heap_lt t2
  have hg2 : g1 < w2.heap.size := Nat.lt_of_lt_of_le (heap_lt HN.out) o2.size
  have T2 := Lib.hid t2
  have O2 := Lib.hid (O1.out.trans o2)
  have N2 := Lib.hid (o2.keep HN.out (by simpa using q1))
  clear t2 o2 HN T1 O1
  clear hsz hi1 ho1 hbd hn2
  go_upto_region 2 with fail
  have l3 := heap_alloc_new w2 (.cells ([Value.int .i64 x1, Value.int .i64 0, Value.int .i64 0] : List Value).toArray 52)
  show Code.wp _ _ _ _ (w2.alloc (.cells ([Value.int .i64 x1, Value.int .i64 0, Value.int .i64 0] : List Value).toArray 52))
  obtain ⟨w3, hw3⟩ : ∃ y, y = w2.alloc (.cells ([Value.int .i64 x1, Value.int .i64 0, Value.int .i64 0] : List Value).toArray 52) := ⟨_, rfl⟩
  obtain ⟨g2, hg2'⟩ : ∃ g, g = w2.heap.size := ⟨_, rfl⟩
  have o3 := (Only.refl [g2] w2).alloc (.cells ([Value.int .i64 x1, Value.int .i64 0, Value.int .i64 0] : List Value).toArray 52)
  rw [← hg2'] at l3 ⊢
  rw [← hw3] at l3 o3 ⊢
  have q2 : g2 ≠ q := by omega
  have q3 : g2 ≠ g1 := by omega
  have T3 := Lib.hid (T2.out.keep o3 (by simpa using q2.symm))
  have N3 := Lib.hid (o3.keep N2.out (by simpa using q3.symm))
  have O3 := Lib.hid (O2.out.above o3 (by simp; rw [hg2']; exact O2.out.size))
  have L3 : Hid (w3.heap[g2]? = some (.cells ([Value.int .i64 x1, Value.int .i64 0, Value.int .i64 0] : List Value).toArray 52 (0, 0))) := Lib.hid l3
  have LE : w.heap.size ≤ g2 := by rw [hg2']; exact O2.out.size
  clear hw3 hg2' l3 o3 T2 N2 O2 hq2 hg2
  go_wp2_with fail
  refine (H2.out _ T3.out).mono ?_
  rintro e w4 ⟨rfl, t, o⟩
  have l := o.keep L3.out (by simpa using q2)
  have T4 := Lib.hid t
  have N4 := Lib.hid (o.keep N3.out (by simpa using q1))
  have O4 := Lib.hid (O3.out.trans o)
  have hpl : ([Value.int .i64 x1] : List Value).length = 1 := by simp [byV_length, z32]
  have l2 := heap_setCells_seg g2 52 ([Value.int .i64 x2]) ([Value.int .i64 x1]) ([Value.int .i64 0]) ([Value.int .i64 0]) w4 (by simpa using l) (by simp [byV_length, z32])
  rw [hpl] at l2
  have o2 := only_setCells (bs := [g2]) (a := w4) (p := g2) (by simp) ([Value.int .i64 x2]) 1 w4 (Only.refl _ _)
  have c : w4.cell? ⟨g2, 1, none⟩ = some (Value.int .i64 0) := by rw [Lib.cell_of_heap l, List.getElem?_toArray]; simp [byV_length, z32]
  have z : w4.frozen? ⟨g2, 1, none⟩ = false := Lib.frozen_of_heap l _
  clear t o l T3 N3 O3 L3
  go_upto_region 3 with fail
  show Code.wp _ _ _ _ (w4.setCells g2 1 ([Value.int .i64 x2]))
  obtain ⟨w5, hw⟩ : ∃ y, y = w4.setCells g2 1 ([Value.int .i64 x2]) := ⟨_, rfl⟩
  rw [← hw] at l2 o2 ⊢
  have T5 := Lib.hid (T4.out.keep o2 (by simpa using q2.symm))
  have N5 := Lib.hid (o2.keep N4.out (by simpa using q3.symm))
  have O5 := Lib.hid (O4.out.above o2 (by simp; exact LE))
  have L5 : Hid (w5.heap[g2]? = some (.cells ([Value.int .i64 x1, Value.int .i64 x2, Value.int .i64 0] : List Value).toArray 52 (0, 0))) := Lib.hid (by rw [l2]; simp)
  clear hw l2 o2 T4 N4 O4 hpl c z
  go_wp2_with fail
  refine (H3.out _ T5.out).mono ?_
  rintro e w6 ⟨rfl, t, o⟩
  have l := o.keep L5.out (by simpa using q2)
  have T6 := Lib.hid t
  have N6 := Lib.hid (o.keep N5.out (by simpa using q1))
  have O6 := Lib.hid (O5.out.trans o)
  have hpl : ([Value.int .i64 x1, Value.int .i64 x2] : List Value).length = 2 := by simp [byV_length, z32]
  have l2 := heap_setCells_seg g2 52 ([Value.int .i64 x3]) ([Value.int .i64 x1, Value.int .i64 x2]) ([Value.int .i64 0]) ([]) w6 (by simpa using l) (by simp [byV_length, z32])
  rw [hpl] at l2
  have o2 := only_setCells (bs := [g2]) (a := w6) (p := g2) (by simp) ([Value.int .i64 x3]) 2 w6 (Only.refl _ _)
  have c : w6.cell? ⟨g2, 2, none⟩ = some (Value.int .i64 0) := by rw [Lib.cell_of_heap l, List.getElem?_toArray]; simp [byV_length, z32]
  have z : w6.frozen? ⟨g2, 2, none⟩ = false := Lib.frozen_of_heap l _
  clear t o l T5 N5 O5 L5
  go_upto_region 4 with fail
  show Code.wp _ _ _ _ (w6.setCells g2 2 ([Value.int .i64 x3]))
  obtain ⟨w7, hw⟩ : ∃ y, y = w6.setCells g2 2 ([Value.int .i64 x3]) := ⟨_, rfl⟩
  rw [← hw] at l2 o2 ⊢
  have T7 := Lib.hid (T6.out.keep o2 (by simpa using q2.symm))
  have N7 := Lib.hid (o2.keep N6.out (by simpa using q3.symm))
  have O7 := Lib.hid (O6.out.above o2 (by simp; exact LE))
  have L7 : Hid (w7.heap[g2]? = some (.cells ([Value.int .i64 x1, Value.int .i64 x2, Value.int .i64 x3] : List Value).toArray 52 (0, 0))) := Lib.hid (by rw [l2]; simp)
  clear hw l2 o2 T6 N6 O6 hpl c z
  obtain ⟨D, hD⟩ : ∃ D, D = ([Value.int .i64 x1, Value.int .i64 x2, Value.int .i64 x3] : List Value).toArray := ⟨_, rfl⟩
  have hi : (Tryd.prog.info? 52).map (·.size) = some D.size := by rw [hD, mb_infoS]; simp [byV_length, z32]
  have hsz : ([Value.int .i64 0, Value.int .i64 0, Value.int .i64 0] : List Value).toArray.size = D.size := by rw [hD]; simp [byV_length, z32]
  have ho : D.all (·.oneCell') = true := by rw [hD, List.all_toArray]; simp only [List.all_append, List.all_cons, List.all_nil, byV_all, Bool.and_true, Bool.true_and]; try rfl
  rw [← hD] at L7
  have HD := Lib.hid hD
  clear hD
  go_wp2_with (first
    | (refine wpList_load_row rfl 52 _ rfl g2 rfl 52 D (0, 0) _ L7.out und rfl hi ?_)
    | (refine wpList_store_row rfl 52 _ _ rfl g1 D rfl rfl 52 _ N7.out hi hsz ho ?_))
  have HG := Lib.hid (setRow_heap _ g1 _ D _ _ N7.out)
  (try simp only [Exit.inBlock, Exit.then])
  refine bodyPost_ret (results_cell_row rfl _ _ g1 52 D (0, 0) _ rfl HG.out und rfl hi) rfl ?_
  unfold MemR
  rw [HR.out, HD.out]
  exact ⟨by rfl, T7.out.keep (Only.setRow (Only.refl [g1] _) (by simp) _) (by simpa using q1.symm), only_fresh O7.out (by rw [Hg1.out]; exact Nat.le_refl _) _⟩
set_option maxHeartbeats 4000000 in
set_option maxRecDepth 100000 in
theorem span_any (q : Nat) (p : St) (v : Value) (w : World) (h : TxAt w q p.s p.bad v) (hs : p.s.length ≤ 5000) : Calls Tryd.prog 67 #[.pointer (some ⟨q, 0, none⟩)] w (RngR w q p v) := by
  have hl := heap_lt h
  obtain ⟨p1, hp1⟩ : ∃ x, x = numS p := ⟨_, rfl⟩
  obtain ⟨p2, hp2⟩ : ∃ x, x = numS p1.2 := ⟨_, rfl⟩
  obtain ⟨p3, hp3⟩ : ∃ x, x = numS p2.2 := ⟨_, rfl⟩
  obtain ⟨p4, hp4⟩ : ∃ x, x = digS p3.2 := ⟨_, rfl⟩
  have hs0 := hs
  have hs1 : p1.2.s.length ≤ 5000 := Nat.le_trans (by rw [hp1]; exact numS_len p) hs0
  have hs2 : p2.2.s.length ≤ 5000 := Nat.le_trans (by rw [hp2]; exact numS_len p1.2) hs1
  have hs3 : p3.2.s.length ≤ 5000 := Nat.le_trans (by rw [hp3]; exact numS_len p2.2) hs2
  have hs4 : p4.2.s.length ≤ 5000 := Nat.le_trans (by rw [hp4]; exact (digS_len p3.2).1) hs3
  have HR := Lib.hid (show rngS p = (⟨p1.1, p2.1, p3.1, p4.1⟩, p4.2) by rw [hp4, hp3, hp2, hp1]; rfl)
  have H1 := Lib.hid (fun W (hW : TxAt W q p.s p.bad v) => number_any q p v W hW hs0)
  rw [← hp1] at H1
  have H2 := Lib.hid (fun W (hW : TxAt W q p1.2.s p1.2.bad v) => number_any q p1.2 v W hW hs1)
  rw [← hp2] at H2
  have H3 := Lib.hid (fun W (hW : TxAt W q p2.2.s p2.2.bad v) => number_any q p2.2 v W hW hs2)
  rw [← hp3] at H3
  have H4 := Lib.hid (fun W (hW : TxAt W q p3.2.s p3.2.bad v) => digest_any q p3.2 v W hW hs3)
  rw [← hp4] at H4
  have hd4 : p4.1.length = 32 := by rw [hp4]; exact (digS_len p3.2).2
  obtain ⟨x1, hx1⟩ : ∃ x, x = p1.1 := ⟨_, rfl⟩
  rw [← hx1] at H1 HR
  obtain ⟨x2, hx2⟩ : ∃ x, x = p2.1 := ⟨_, rfl⟩
  rw [← hx2] at H2 HR
  obtain ⟨x3, hx3⟩ : ∃ x, x = p3.1 := ⟨_, rfl⟩
  rw [← hx3] at H3 HR
  obtain ⟨x4, hx4⟩ : ∃ x, x = p4.1 := ⟨_, rfl⟩
  rw [← hx4] at H4 HR hd4
  have hn1 := heap_alloc_new w (.cells ([Value.int .i64 0, Value.int .i64 0, Value.int .i64 0] ++ byV z32).toArray 65)
  have hb1 := (Below.refl w.heap.size w).alloc (Nat.le_refl _) (.cells ([Value.int .i64 0, Value.int .i64 0, Value.int .i64 0] ++ byV z32).toArray 65)
  have t1 := h.below hb1
  obtain ⟨w1, hw1⟩ : ∃ y, y = w.alloc (.cells ([Value.int .i64 0, Value.int .i64 0, Value.int .i64 0] ++ byV z32).toArray 65) := ⟨_, rfl⟩
  obtain ⟨g1, hg1⟩ : ∃ g, g = w.heap.size := ⟨_, rfl⟩
  rw [← hw1] at hn1 hb1 t1
  rw [← hg1] at hn1
  have q1 : g1 ≠ q := by omega
  have Hw1 := Lib.hid hw1
  have Hg1 := Lib.hid hg1
  have HN := Lib.hid hn1
  have T1 := Lib.hid t1
  have O1 := Lib.hid (Only.of_below (bs := [q]) hb1)
  have und := Tryd.underlying65
  clear hp1 hp2 hp3 hp4 hs hs0 hs1 hs2 hs3 hs4 h hl hn1 hb1 t1 hw1 hg1 hx1 hx2 hx3 hx4
  go_enter Tryd.func67, Tryd.ntmps67
  go_upto_region 1 with fail
  show Code.wp _ _ _ _ (w.alloc (.cells ([Value.int .i64 0, Value.int .i64 0, Value.int .i64 0] ++ byV z32).toArray 65))
  rw [← Hw1.out, ← Hg1.out]
  go_wp2_with fail
  refine (H1.out _ T1.out).mono ?_
  rintro e w2 ⟨rfl, t2, o2⟩
  have hbd := built_rg x1
  have hn2 := heap_alloc_new w2 (.cells ([Value.int .i64 0, Value.int .i64 0, Value.int .i64 0] ++ byV z32).toArray 65)
  have hsz : ([Value.int .i64 0, Value.int .i64 0, Value.int .i64 0] ++ byV z32 : List Value).toArray.size = ([Value.int .i64 x1, Value.int .i64 0, Value.int .i64 0] ++ byV z32 : List Value).toArray.size := by simp [byV_length, z32]
  have hi1 : (Tryd.prog.info? 65).map (·.size) = some ([Value.int .i64 x1, Value.int .i64 0, Value.int .i64 0] ++ byV z32 : List Value).toArray.size := by rw [rg_infoS]; simp [byV_length, z32]
  have ho1 : ([Value.int .i64 x1, Value.int .i64 0, Value.int .i64 0] ++ byV z32 : List Value).toArray.all (·.oneCell') = true := by rw [List.all_toArray]; simp only [List.all_append, List.all_cons, List.all_nil, byV_all, Bool.and_true, Bool.true_and]; try rfl
  have hq2 : q < w2.heap.size := heap_lt t2
  have hg2 : g1 < w2.heap.size := Nat.lt_of_lt_of_le (heap_lt HN.out) o2.size
  have T2 := Lib.hid t2
  have O2 := Lib.hid (O1.out.trans o2)
  have N2 := Lib.hid (o2.keep HN.out (by simpa using q1))
  clear t2 o2 HN T1 O1
  obtain ⟨C1, hC1⟩ : ∃ L, L = ([Value.int .i64 x1, Value.int .i64 0, Value.int .i64 0] ++ byV z32 : List Value).toArray := ⟨_, rfl⟩
  rw [← hC1] at hbd hi1 ho1 hsz
  have HC1 := Lib.hid hC1
  clear hC1
  go_upto_region 2 with (first
    | (refine wpList_build1 rfl 65 _ _ rfl _ rfl _ hbd ?_)
    | (refine wpList_store_row rfl 65 _ _ rfl w2.heap.size C1 rfl rfl 65 _ hn2 hi1 hsz ho1 ?_))
  show Code.wp _ _ _ _ ((w2.alloc (.cells ([Value.int .i64 0, Value.int .i64 0, Value.int .i64 0] ++ byV z32).toArray 65)).setRow w2.heap.size C1)
  obtain ⟨w3, hw3⟩ : ∃ y, y = (w2.alloc (.cells ([Value.int .i64 0, Value.int .i64 0, Value.int .i64 0] ++ byV z32).toArray 65)).setRow w2.heap.size C1 := ⟨_, rfl⟩
  obtain ⟨g2, hg2'⟩ : ∃ g, g = w2.heap.size := ⟨_, rfl⟩
  have l3 := setRow_heap _ _ _ C1 _ _ hn2
  have o3 := ((Only.refl [g2] w2).alloc (.cells ([Value.int .i64 0, Value.int .i64 0, Value.int .i64 0] ++ byV z32).toArray 65)).setRow (g := g2) (by simp) C1
  clear hn2 hsz hi1 ho1 hbd
  rw [← hg2'] at hw3 l3 ⊢
  rw [← hw3] at l3 o3 ⊢
  have q2 : g2 ≠ q := by omega
  have q3 : g2 ≠ g1 := by omega
  have T3 := Lib.hid (T2.out.keep o3 (by simpa using q2.symm))
  have N3 := Lib.hid (o3.keep N2.out (by simpa using q3.symm))
  have O3 := Lib.hid (O2.out.above o3 (by simp; rw [hg2']; exact O2.out.size))
  have L3 : Hid (w3.heap[g2]? = some (.cells ([Value.int .i64 x1, Value.int .i64 0, Value.int .i64 0] ++ byV z32 : List Value).toArray 65 (0, 0))) := Lib.hid (by rw [l3, HC1.out])
  have LE : w.heap.size ≤ g2 := by rw [hg2']; exact O2.out.size
  clear hw3 hg2' l3 o3 T2 N2 O2 hq2 hg2 HC1
  go_wp2_with fail
  refine (H2.out _ T3.out).mono ?_
  rintro e w4 ⟨rfl, t, o⟩
  have l := o.keep L3.out (by simpa using q2)
  have T4 := Lib.hid t
  have N4 := Lib.hid (o.keep N3.out (by simpa using q1))
  have O4 := Lib.hid (O3.out.trans o)
  have hpl : ([Value.int .i64 x1] : List Value).length = 1 := by simp [byV_length, hd4, z32]
  have l2 := heap_setCells_seg g2 65 ([Value.int .i64 x2]) ([Value.int .i64 x1]) ([Value.int .i64 0]) ([Value.int .i64 0] ++ byV z32) w4 (by simpa using l) (by simp [byV_length, hd4, z32])
  rw [hpl] at l2
  have o2 := only_setCells (bs := [g2]) (a := w4) (p := g2) (by simp) ([Value.int .i64 x2]) 1 w4 (Only.refl _ _)
  have c : w4.cell? ⟨g2, 1, none⟩ = some (Value.int .i64 0) := by rw [Lib.cell_of_heap l, List.getElem?_toArray]; simp [byV_length, hd4, z32]
  have z : w4.frozen? ⟨g2, 1, none⟩ = false := Lib.frozen_of_heap l _
  clear t o l T3 N3 O3 L3
  go_upto_region 3 with fail
  show Code.wp _ _ _ _ (w4.setCells g2 1 ([Value.int .i64 x2]))
  obtain ⟨w5, hw⟩ : ∃ y, y = w4.setCells g2 1 ([Value.int .i64 x2]) := ⟨_, rfl⟩
  rw [← hw] at l2 o2 ⊢
  have T5 := Lib.hid (T4.out.keep o2 (by simpa using q2.symm))
  have N5 := Lib.hid (o2.keep N4.out (by simpa using q3.symm))
  have O5 := Lib.hid (O4.out.above o2 (by simp; exact LE))
  have L5 : Hid (w5.heap[g2]? = some (.cells ([Value.int .i64 x1, Value.int .i64 x2, Value.int .i64 0] ++ byV z32 : List Value).toArray 65 (0, 0))) := Lib.hid (by rw [l2]; simp)
  clear hw l2 o2 T4 N4 O4 hpl c z
  go_wp2_with fail
  refine (H3.out _ T5.out).mono ?_
  rintro e w6 ⟨rfl, t, o⟩
  have l := o.keep L5.out (by simpa using q2)
  have T6 := Lib.hid t
  have N6 := Lib.hid (o.keep N5.out (by simpa using q1))
  have O6 := Lib.hid (O5.out.trans o)
  have hpl : ([Value.int .i64 x1, Value.int .i64 x2] : List Value).length = 2 := by simp [byV_length, hd4, z32]
  have l2 := heap_setCells_seg g2 65 ([Value.int .i64 x3]) ([Value.int .i64 x1, Value.int .i64 x2]) ([Value.int .i64 0]) (byV z32) w6 (by simpa using l) (by simp [byV_length, hd4, z32])
  rw [hpl] at l2
  have o2 := only_setCells (bs := [g2]) (a := w6) (p := g2) (by simp) ([Value.int .i64 x3]) 2 w6 (Only.refl _ _)
  have c : w6.cell? ⟨g2, 2, none⟩ = some (Value.int .i64 0) := by rw [Lib.cell_of_heap l, List.getElem?_toArray]; simp [byV_length, hd4, z32]
  have z : w6.frozen? ⟨g2, 2, none⟩ = false := Lib.frozen_of_heap l _
  clear t o l T5 N5 O5 L5
  go_upto_region 4 with fail
  show Code.wp _ _ _ _ (w6.setCells g2 2 ([Value.int .i64 x3]))
  obtain ⟨w7, hw⟩ : ∃ y, y = w6.setCells g2 2 ([Value.int .i64 x3]) := ⟨_, rfl⟩
  rw [← hw] at l2 o2 ⊢
  have T7 := Lib.hid (T6.out.keep o2 (by simpa using q2.symm))
  have N7 := Lib.hid (o2.keep N6.out (by simpa using q3.symm))
  have O7 := Lib.hid (O6.out.above o2 (by simp; exact LE))
  have L7 : Hid (w7.heap[g2]? = some (.cells ([Value.int .i64 x1, Value.int .i64 x2, Value.int .i64 x3] ++ byV z32 : List Value).toArray 65 (0, 0))) := Lib.hid (by rw [l2]; simp)
  clear hw l2 o2 T6 N6 O6 hpl c z
  go_wp2_with fail
  refine (H4.out _ T7.out).mono ?_
  rintro e w8 ⟨rfl, t, o⟩
  have l := o.keep L7.out (by simpa using q2)
  have T8 := Lib.hid t
  have N8 := Lib.hid (o.keep N7.out (by simpa using q1))
  have O8 := Lib.hid (O7.out.trans o)
  have hpl : ([Value.int .i64 x1, Value.int .i64 x2, Value.int .i64 x3] : List Value).length = 3 := by simp [byV_length, hd4, z32]
  have l2 := heap_setCells_seg g2 65 (byV x4) ([Value.int .i64 x1, Value.int .i64 x2, Value.int .i64 x3]) (byV z32) ([]) w8 (by simpa using l) (by simp [byV_length, hd4, z32])
  rw [hpl] at l2
  have o2 := only_setCells (bs := [g2]) (a := w8) (p := g2) (by simp) (byV x4) 3 w8 (Only.refl _ _)
  have th := there_of l (o := 3) (n := 32) (by simp [byV_length, hd4, z32])
  have hds : (digV x4).size = 32 := by rw [digV_size, hd4]
  have hdi := dig_infoL hd4
  have hdo := digV_one x4
  rw [← hds] at th
  have hdl : (digV x4).toList = byV x4 := rfl
  rw [← hdl] at l2 o2
  clear t o l hds hdl T7 N7 O7 L7
  obtain ⟨D, hD⟩ : ∃ D, D = digV x4 := ⟨_, rfl⟩
  rw [← hD] at th hdi hdo l2 o2 ⊢
  have HD3 := Lib.hid hD
  clear hD
  go_upto_region 5 with (refine wpList_store_mid rfl 23 _ _ rfl g2 3 D rfl rfl th hdi hdo ?_)
  rw [HD3.out] at l2 o2 ⊢
  obtain ⟨w9, hw⟩ : ∃ y, y = w8.setCells g2 3 ((digV x4).toList) := ⟨_, rfl⟩
  rw [← hw] at l2 o2 ⊢
  have T9 := Lib.hid (T8.out.keep o2 (by simpa using q2.symm))
  have N9 := Lib.hid (o2.keep N8.out (by simpa using q3.symm))
  have O9 := Lib.hid (O8.out.above o2 (by simp; exact LE))
  have L9 : Hid (w9.heap[g2]? = some (.cells ([Value.int .i64 x1, Value.int .i64 x2, Value.int .i64 x3] ++ byV x4 : List Value).toArray 65 (0, 0))) := Lib.hid (by rw [l2]; simp [digV])
  clear hw l2 o2 T8 N8 O8 hpl th hdi hdo
  obtain ⟨D, hD⟩ : ∃ D, D = ([Value.int .i64 x1, Value.int .i64 x2, Value.int .i64 x3] ++ byV x4 : List Value).toArray := ⟨_, rfl⟩
  have hi : (Tryd.prog.info? 65).map (·.size) = some D.size := by rw [hD, rg_infoS]; simp [byV_length, hd4, z32]
  have hsz : ([Value.int .i64 0, Value.int .i64 0, Value.int .i64 0] ++ byV z32 : List Value).toArray.size = D.size := by rw [hD]; simp [byV_length, hd4, z32]
  have ho : D.all (·.oneCell') = true := by rw [hD, List.all_toArray]; simp only [List.all_append, List.all_cons, List.all_nil, byV_all, Bool.and_true, Bool.true_and]; try rfl
  rw [← hD] at L9
  have HD := Lib.hid hD
  clear hD
  go_wp2_with (first
    | (refine wpList_load_row rfl 65 _ rfl g2 rfl 65 D (0, 0) _ L9.out und rfl hi ?_)
    | (refine wpList_store_row rfl 65 _ _ rfl g1 D rfl rfl 65 _ N9.out hi hsz ho ?_))
  have HG := Lib.hid (setRow_heap _ g1 _ D _ _ N9.out)
  (try simp only [Exit.inBlock, Exit.then])
  refine bodyPost_ret (results_cell_row rfl _ _ g1 65 D (0, 0) _ rfl HG.out und rfl hi) rfl ?_
  unfold RngR
  rw [HR.out, HD.out]
  exact ⟨by rfl, T9.out.keep (Only.setRow (Only.refl [g1] _) (by simp) _) (by simpa using q1.symm), only_fresh O9.out (by rw [Hg1.out]; exact Nat.le_refl _) _⟩
set_option maxHeartbeats 4000000 in
set_option maxRecDepth 100000 in
theorem record_any (q : Nat) (p : St) (v : Value) (w : World) (h : TxAt w q p.s p.bad v) (hs : p.s.length ≤ 5000) : Calls Tryd.prog 63 #[.pointer (some ⟨q, 0, none⟩)] w (RecR w q p v) := by
  have hl := heap_lt h
  obtain ⟨p1, hp1⟩ : ∃ x, x = digS p := ⟨_, rfl⟩
  obtain ⟨p2, hp2⟩ : ∃ x, x = numS p1.2 := ⟨_, rfl⟩
  obtain ⟨p3, hp3⟩ : ∃ x, x = digS p2.2 := ⟨_, rfl⟩
  have hs0 := hs
  have hs1 : p1.2.s.length ≤ 5000 := Nat.le_trans (by rw [hp1]; exact (digS_len p).1) hs0
  have hs2 : p2.2.s.length ≤ 5000 := Nat.le_trans (by rw [hp2]; exact numS_len p1.2) hs1
  have hs3 : p3.2.s.length ≤ 5000 := Nat.le_trans (by rw [hp3]; exact (digS_len p2.2).1) hs2
  have HR := Lib.hid (show recS p = (⟨p1.1, p2.1, p3.1⟩, p3.2) by rw [hp3, hp2, hp1]; rfl)
  have H1 := Lib.hid (fun W (hW : TxAt W q p.s p.bad v) => digest_any q p v W hW hs0)
  rw [← hp1] at H1
  have hd1 : p1.1.length = 32 := by rw [hp1]; exact (digS_len p).2
  have H2 := Lib.hid (fun W (hW : TxAt W q p1.2.s p1.2.bad v) => number_any q p1.2 v W hW hs1)
  rw [← hp2] at H2
  have H3 := Lib.hid (fun W (hW : TxAt W q p2.2.s p2.2.bad v) => digest_any q p2.2 v W hW hs2)
  rw [← hp3] at H3
  have hd3 : p3.1.length = 32 := by rw [hp3]; exact (digS_len p2.2).2
  obtain ⟨x1, hx1⟩ : ∃ x, x = p1.1 := ⟨_, rfl⟩
  rw [← hx1] at H1 HR hd1
  obtain ⟨x2, hx2⟩ : ∃ x, x = p2.1 := ⟨_, rfl⟩
  rw [← hx2] at H2 HR
  obtain ⟨x3, hx3⟩ : ∃ x, x = p3.1 := ⟨_, rfl⟩
  rw [← hx3] at H3 HR hd3
  have hn1 := heap_alloc_new w (.cells (byV z32 ++ (Value.int .i64 0 :: byV z32)).toArray 26)
  have hb1 := (Below.refl w.heap.size w).alloc (Nat.le_refl _) (.cells (byV z32 ++ (Value.int .i64 0 :: byV z32)).toArray 26)
  have t1 := h.below hb1
  obtain ⟨w1, hw1⟩ : ∃ y, y = w.alloc (.cells (byV z32 ++ (Value.int .i64 0 :: byV z32)).toArray 26) := ⟨_, rfl⟩
  obtain ⟨g1, hg1⟩ : ∃ g, g = w.heap.size := ⟨_, rfl⟩
  rw [← hw1] at hn1 hb1 t1
  rw [← hg1] at hn1
  have q1 : g1 ≠ q := by omega
  have Hw1 := Lib.hid hw1
  have Hg1 := Lib.hid hg1
  have HN := Lib.hid hn1
  have T1 := Lib.hid t1
  have O1 := Lib.hid (Only.of_below (bs := [q]) hb1)
  have und := Tryd.underlying26
  clear hp1 hp2 hp3 hs hs0 hs1 hs2 hs3 h hl hn1 hb1 t1 hw1 hg1 hx1 hx2 hx3
  go_enter Tryd.func63, Tryd.ntmps63
  go_upto_region 1 with fail
  rw [zero_rcR]
  rw [← Hw1.out, ← Hg1.out]
  go_wp2_with fail
  refine (H1.out _ T1.out).mono ?_
  rintro e w2 ⟨rfl, t2, o2⟩
  have hbd := built_rc x1 hd1
  have hn2 := heap_alloc_new w2 (.cells (byV z32 ++ (Value.int .i64 0 :: byV z32)).toArray 26)
  have hsz : (byV z32 ++ (Value.int .i64 0 :: byV z32) : List Value).toArray.size = (byV x1 ++ (Value.int .i64 0 :: byV z32) : List Value).toArray.size := by simp [byV_length, hd1, z32]
  have hi1 : (Tryd.prog.info? 26).map (·.size) = some (byV x1 ++ (Value.int .i64 0 :: byV z32) : List Value).toArray.size := by rw [rc_infoS]; simp [byV_length, hd1, z32]
  have ho1 : (byV x1 ++ (Value.int .i64 0 :: byV z32) : List Value).toArray.all (·.oneCell') = true := by rw [List.all_toArray]; simp only [List.all_append, List.all_cons, List.all_nil, byV_all, Bool.and_true, Bool.true_and]; try rfl
  have hq2 : q < w2.heap.size := heap_lt t2
  have hg2 : g1 < w2.heap.size := Nat.lt_of_lt_of_le (heap_lt HN.out) o2.size
  have T2 := Lib.hid t2
  have O2 := Lib.hid (O1.out.trans o2)
  have N2 := Lib.hid (o2.keep HN.out (by simpa using q1))
  clear t2 o2 HN T1 O1
  obtain ⟨C1, hC1⟩ : ∃ L, L = (byV x1 ++ (Value.int .i64 0 :: byV z32) : List Value).toArray := ⟨_, rfl⟩
  rw [← hC1] at hbd hi1 ho1 hsz
  have HC1 := Lib.hid hC1
  clear hC1
  go_upto_region 2 with (first
    | (refine wpList_build1 rfl 26 _ _ rfl _ rfl _ hbd ?_)
    | (refine wpList_store_row rfl 26 _ _ rfl w2.heap.size C1 rfl rfl 26 _ hn2 hi1 hsz ho1 ?_))
  try rw [zero_rcR]
  show Code.wp _ _ _ _ ((w2.alloc (.cells (byV z32 ++ (Value.int .i64 0 :: byV z32)).toArray 26)).setRow w2.heap.size C1)
  obtain ⟨w3, hw3⟩ : ∃ y, y = (w2.alloc (.cells (byV z32 ++ (Value.int .i64 0 :: byV z32)).toArray 26)).setRow w2.heap.size C1 := ⟨_, rfl⟩
  obtain ⟨g2, hg2'⟩ : ∃ g, g = w2.heap.size := ⟨_, rfl⟩
  have l3 := setRow_heap _ _ _ C1 _ _ hn2
  have o3 := ((Only.refl [g2] w2).alloc (.cells (byV z32 ++ (Value.int .i64 0 :: byV z32)).toArray 26)).setRow (g := g2) (by simp) C1
  clear hn2 hsz hi1 ho1 hbd
  rw [← hg2'] at hw3 l3 ⊢
  rw [← hw3] at l3 o3 ⊢
  have q2 : g2 ≠ q := by omega
  have q3 : g2 ≠ g1 := by omega
  have T3 := Lib.hid (T2.out.keep o3 (by simpa using q2.symm))
  have N3 := Lib.hid (o3.keep N2.out (by simpa using q3.symm))
  have O3 := Lib.hid (O2.out.above o3 (by simp; rw [hg2']; exact O2.out.size))
  have L3 : Hid (w3.heap[g2]? = some (.cells (byV x1 ++ (Value.int .i64 0 :: byV z32) : List Value).toArray 26 (0, 0))) := Lib.hid (by rw [l3, HC1.out])
  have LE : w.heap.size ≤ g2 := by rw [hg2']; exact O2.out.size
  clear hw3 hg2' l3 o3 T2 N2 O2 hq2 hg2 HC1
  go_wp2_with fail
  refine (H2.out _ T3.out).mono ?_
  rintro e w4 ⟨rfl, t, o⟩
  have l := o.keep L3.out (by simpa using q2)
  have T4 := Lib.hid t
  have N4 := Lib.hid (o.keep N3.out (by simpa using q1))
  have O4 := Lib.hid (O3.out.trans o)
  have hpl : (byV x1 : List Value).length = 32 := by simp [byV_length, hd1, hd3, z32]
  have l2 := heap_setCells_seg g2 26 ([Value.int .i64 x2]) (byV x1) ([Value.int .i64 0]) (byV z32) w4 (by simpa using l) (by simp [byV_length, hd1, hd3, z32])
  rw [hpl] at l2
  have o2 := only_setCells (bs := [g2]) (a := w4) (p := g2) (by simp) ([Value.int .i64 x2]) 32 w4 (Only.refl _ _)
  have c : w4.cell? ⟨g2, 32, none⟩ = some (Value.int .i64 0) := by rw [Lib.cell_of_heap l, List.getElem?_toArray]; simp [byV_length, hd1, hd3, z32]
  have z : w4.frozen? ⟨g2, 32, none⟩ = false := Lib.frozen_of_heap l _
  clear t o l T3 N3 O3 L3
  go_upto_region 3 with fail
  show Code.wp _ _ _ _ (w4.setCells g2 32 ([Value.int .i64 x2]))
  obtain ⟨w5, hw⟩ : ∃ y, y = w4.setCells g2 32 ([Value.int .i64 x2]) := ⟨_, rfl⟩
  rw [← hw] at l2 o2 ⊢
  have T5 := Lib.hid (T4.out.keep o2 (by simpa using q2.symm))
  have N5 := Lib.hid (o2.keep N4.out (by simpa using q3.symm))
  have O5 := Lib.hid (O4.out.above o2 (by simp; exact LE))
  have L5 : Hid (w5.heap[g2]? = some (.cells (byV x1 ++ (Value.int .i64 x2 :: byV z32) : List Value).toArray 26 (0, 0))) := Lib.hid (by rw [l2]; simp)
  clear hw l2 o2 T4 N4 O4 hpl c z
  go_wp2_with fail
  refine (H3.out _ T5.out).mono ?_
  rintro e w6 ⟨rfl, t, o⟩
  have l := o.keep L5.out (by simpa using q2)
  have T6 := Lib.hid t
  have N6 := Lib.hid (o.keep N5.out (by simpa using q1))
  have O6 := Lib.hid (O5.out.trans o)
  have hpl : (byV x1 ++ [Value.int .i64 x2] : List Value).length = 33 := by simp [byV_length, hd1, hd3, z32]
  have l2 := heap_setCells_seg g2 26 (byV x3) (byV x1 ++ [Value.int .i64 x2]) (byV z32) ([]) w6 (by simpa using l) (by simp [byV_length, hd1, hd3, z32])
  rw [hpl] at l2
  have o2 := only_setCells (bs := [g2]) (a := w6) (p := g2) (by simp) (byV x3) 33 w6 (Only.refl _ _)
  have th := there_of l (o := 33) (n := 32) (by simp [byV_length, hd1, hd3, z32])
  have hds : (digV x3).size = 32 := by rw [digV_size, hd3]
  have hdi := dig_infoL hd3
  have hdo := digV_one x3
  rw [← hds] at th
  have hdl : (digV x3).toList = byV x3 := rfl
  rw [← hdl] at l2 o2
  clear t o l hds hdl T5 N5 O5 L5
  obtain ⟨D, hD⟩ : ∃ D, D = digV x3 := ⟨_, rfl⟩
  rw [← hD] at th hdi hdo l2 o2 ⊢
  have HD2 := Lib.hid hD
  clear hD
  go_upto_region 4 with (refine wpList_store_mid rfl 23 _ _ rfl g2 33 D rfl rfl th hdi hdo ?_)
  rw [HD2.out] at l2 o2 ⊢
  obtain ⟨w7, hw⟩ : ∃ y, y = w6.setCells g2 33 ((digV x3).toList) := ⟨_, rfl⟩
  rw [← hw] at l2 o2 ⊢
  have T7 := Lib.hid (T6.out.keep o2 (by simpa using q2.symm))
  have N7 := Lib.hid (o2.keep N6.out (by simpa using q3.symm))
  have O7 := Lib.hid (O6.out.above o2 (by simp; exact LE))
  have L7 : Hid (w7.heap[g2]? = some (.cells (byV x1 ++ (Value.int .i64 x2 :: byV x3) : List Value).toArray 26 (0, 0))) := Lib.hid (by rw [l2]; simp [digV])
  clear hw l2 o2 T6 N6 O6 hpl th hdi hdo
  obtain ⟨D, hD⟩ : ∃ D, D = (byV x1 ++ (Value.int .i64 x2 :: byV x3) : List Value).toArray := ⟨_, rfl⟩
  have hi : (Tryd.prog.info? 26).map (·.size) = some D.size := by rw [hD, rc_infoS]; simp [byV_length, hd1, hd3, z32]
  have hsz : (byV z32 ++ (Value.int .i64 0 :: byV z32) : List Value).toArray.size = D.size := by rw [hD]; simp [byV_length, hd1, hd3, z32]
  have ho : D.all (·.oneCell') = true := by rw [hD, List.all_toArray]; simp only [List.all_append, List.all_cons, List.all_nil, byV_all, Bool.and_true, Bool.true_and]; try rfl
  rw [← hD] at L7
  have HD := Lib.hid hD
  clear hD
  go_wp2_with (first
    | (refine wpList_load_row rfl 26 _ rfl g2 rfl 26 D (0, 0) _ L7.out und rfl hi ?_)
    | (refine wpList_store_row rfl 26 _ _ rfl g1 D rfl rfl 26 _ N7.out hi hsz ho ?_))
  have HG := Lib.hid (setRow_heap _ g1 _ D _ _ N7.out)
  (try simp only [Exit.inBlock, Exit.then])
  refine bodyPost_ret (results_cell_row rfl _ _ g1 26 D (0, 0) _ rfl HG.out und rfl hi) rfl ?_
  unfold RecR
  rw [HR.out, HD.out]
  exact ⟨by rfl, T7.out.keep (Only.setRow (Only.refl [g1] _) (by simp) _) (by simpa using q1.symm), only_fresh O7.out (by rw [Hg1.out]; exact Nat.le_refl _) _⟩
end Wi
end Go.Proofs.YthcmlbbbbcinkaaDoor

set_option linter.unusedVariables false
set_option linter.unusedSimpArgs false
namespace Go.Proofs.YthcmlbbbbcinkaaDoor
open Go.RowKit Pl
attribute [local go_sem] Lb.ba_get Lb.ba_cut Lb.ba_add Lb.ba_size Lb.take_rest
namespace Wi

structure RestAt (w : World) (B q : Nat) (A : Option Addr) (c : Nat) (L : List Bs) : Prop where
  at_ : L = [] ∨ ∃ g o, A = some ⟨g, o, none⟩ ∧ g ≠ q ∧ g < B ∧ ∀ (i : Nat) (h : i < L.length), w.cell? ⟨g, o + i, none⟩ = some (.string ⟨(L[i]).toArray⟩)
  cap : L.length ≤ c
  top : c ≤ maxLen
  each : ∀ t ∈ L, t.length ≤ 5000
  bw : B ≤ w.heap.size
  qB : q < B
theorem RestAt.keep {w w' : World} {B q : Nat} {A : Option Addr} {c : Nat} {L : List Bs} (h : RestAt w B q A c L) (ho : Only [q] w w') : RestAt w' B q A c L :=
  ⟨h.at_.imp id fun ⟨g, o, e, hg, hl, hc⟩ => ⟨g, o, e, hg, hl, fun i hi => (ho.cell (p := ⟨g, o + i, none⟩) (Nat.lt_of_lt_of_le hl h.bw) (by simpa using hg)).trans (hc i hi)⟩, h.cap, h.top, h.each, Nat.le_trans h.bw ho.size, h.qB⟩
theorem RestAt.below {w w' : World} {B q : Nat} {A : Option Addr} {c : Nat} {L : List Bs} (h : RestAt w B q A c L) (hb : Below B w w') : RestAt w' B q A c L :=
  ⟨h.at_.imp id fun ⟨g, o, e, hg, hl, hc⟩ => ⟨g, o, e, hg, hl, fun i hi => (hb.cell (p := ⟨g, o + i, none⟩) hl).trans (hc i hi)⟩, h.cap, h.top, h.each, Nat.le_trans h.bw hb.size, h.qB⟩
structure RwAt (w : World) (B q : Nat) (p : St) : Prop where
  ex : ∃ A c, TxAt w q p.s p.bad (.slice A p.rest.length c) ∧ RestAt w B q A c p.rest
  len : p.s.length ≤ 5000
theorem RwAt.lt {w : World} {B q : Nat} {p : St} (h : RwAt w B q p) : q < w.heap.size := by obtain ⟨A, c, ht, -⟩ := h.ex; exact heap_lt ht
theorem RwAt.qB {w : World} {B q : Nat} {p : St} (h : RwAt w B q p) : q < B := by obtain ⟨A, c, -, hr⟩ := h.ex; exact hr.qB
theorem RwAt.bw {w : World} {B q : Nat} {p : St} (h : RwAt w B q p) : B ≤ w.heap.size := by obtain ⟨A, c, -, hr⟩ := h.ex; exact hr.bw
theorem RwAt.below {w w' : World} {B q : Nat} {p : St} (h : RwAt w B q p) (hb : Below B w w') : RwAt w' B q p := by
  obtain ⟨A, c, ht, hr⟩ := h.ex
  exact ⟨⟨A, c, (hb.block q hr.qB).trans ht, hr.below hb⟩, h.len⟩
/-- what a word of a text leaves -/
theorem RwAt.word {w w' : World} {B q : Nat} {p p' : St} {A : Option Addr} {c : Nat} (hr : RestAt w B q A c p.rest) (ho : Only [q] w w') (ht : TxAt w' q p'.s p'.bad (.slice A p.rest.length c)) (hl : p'.s.length ≤ 5000) (he : p'.rest = p.rest) : RwAt w' B q p' := by
  refine ⟨⟨A, c, ?_, ?_⟩, hl⟩
  · rw [he]; exact ht
  · rw [he]; exact hr.keep ho
theorem str_infoZ : (Tryd.prog.info? 9).map (·.size) = some 1 := by kernel_rfl
theorem bool_infoZ : (Tryd.prog.info? 4).map (·.size) = some 1 := by kernel_rfl
theorem strs_infoZ : (Tryd.prog.info? 54).map (·.size) = some 1 := by kernel_rfl
theorem wp_tx0 {op : Oper} {a : Act} {w : World} {K : Act → World → Prop} {Q : Exit → Act → World → Prop} {q : Nat} {s : Bs} {b : Bool} {v : Value} (h : TxAt w q s b v) (x y : Operand) (ho : op.op = .store 9 x y) (hx : a.eval x = .pointer (some ⟨q, 0, none⟩)) (t : Bs) (hy : a.eval y = .string ⟨t.toArray⟩)
    (hK : ∀ w', TxAt w' q t b v → Only [q] w w' → K (a.put op.dst undef) w') : op.wp Tryd.prog a w K Q :=
  wp_store_seg 9 x y ho q 0 hx _ [.string ⟨t.toArray⟩] hy (cells_v_str _) _ _ h (by simp) str_infoZ rfl (hK _ (h.put0 t) ((Only.refl [q] w).setCell (p := ⟨q, 0, none⟩) (by simp) _))
theorem wp_tx1 {op : Oper} {a : Act} {w : World} {K : Act → World → Prop} {Q : Exit → Act → World → Prop} {q : Nat} {s : Bs} {b : Bool} {v : Value} (h : TxAt w q s b v) (x y : Operand) (ho : op.op = .store 4 x y) (hx : a.eval x = .pointer (some ⟨q, 1, none⟩)) (t : Bool) (hy : a.eval y = .bool t)
    (hK : ∀ w', TxAt w' q s t v → Only [q] w w' → K (a.put op.dst undef) w') : op.wp Tryd.prog a w K Q :=
  wp_store_seg 4 x y ho q 1 hx _ [.bool t] hy (cells_v_bool _) _ _ h (by simp) bool_infoZ rfl (hK _ (h.put1 t) ((Only.refl [q] w).setCell (p := ⟨q, 1, none⟩) (by simp) _))
theorem wp_tx2 {op : Oper} {a : Act} {w : World} {K : Act → World → Prop} {Q : Exit → Act → World → Prop} {q : Nat} {s : Bs} {b : Bool} {v : Value} (h : TxAt w q s b v) (x y : Operand) (ho : op.op = .store 54 x y) (hx : a.eval x = .pointer (some ⟨q, 2, none⟩)) (A : Option Addr) (n c : Nat) (hy : a.eval y = .slice A n c)
    (hK : ∀ w', TxAt w' q s b (.slice A n c) → Only [q] w w' → K (a.put op.dst undef) w') : op.wp Tryd.prog a w K Q :=
  wp_store_seg 54 x y ho q 2 hx _ [.slice A n c] hy (cells_v_slice _ _ _) _ _ h (by simp) strs_infoZ rfl (hK _ (h.put2 _) ((Only.refl [q] w).setCell (p := ⟨q, 2, none⟩) (by simp) _))
theorem rest_tail {w : World} {B q g o c : Nat} {t : Bs} {L : List Bs} (h : RestAt w B q (some ⟨g, o, none⟩) c (t :: L)) : RestAt w B q (if c = 1 then some { block := g, off := o } else some { block := g, off := o + 1 }) (c - 1) L := by
  have hc := h.cap
  have ht := h.top
  simp only [List.length_cons] at hc
  obtain ⟨g', o', e, h1, h2, h3⟩ := h.at_.resolve_left (by simp)
  obtain ⟨rfl, rfl⟩ : g = g' ∧ o = o' := by cases e; exact ⟨rfl, rfl⟩
  refine ⟨?_, by omega, by omega, fun x hx => h.each x (List.mem_cons_of_mem _ hx), h.bw, h.qB⟩
  by_cases k : c = 1
  · exact .inl (List.eq_nil_of_length_eq_zero (by omega))
  · refine .inr ⟨g, o + 1, by rw [if_neg k], h1, h2, fun i hi => ?_⟩
    have := h3 (i + 1) (by simp; omega)
    rw [show o + 1 + i = o + (i + 1) by omega]
    exact this
def NextR (w : World) (B q : Nat) (p : St) (e : Ending) (w' : World) : Prop := e = .returned (.tuple #[]) ∧ RwAt w' B q (nextS p) ∧ Only [q] w w'
set_option maxHeartbeats 4000000 in
set_option maxRecDepth 100000 in
theorem next_any {B : Nat} (q : Nat) (p : St) (w : World) (h : RwAt w B q p) : Calls Tryd.prog 57 #[.pointer (some ⟨q, 0, none⟩)] w (NextR w B q p) := by
  obtain ⟨A, c, ht, hr⟩ := h.ex
  obtain ⟨s, b, L⟩ := p
  simp only at ht hr
  have c0 := ht.c0
  have c1 := ht.c1
  have c2 := ht.c2
  have z0 := ht.z 0
  have z1 := ht.z 1
  have z2 := ht.z 2
  have hl := heap_lt ht
  have HT := Lib.hid ht
  cases L with
  | nil =>
    clear h ht
    have HR := Lib.hid hr
    clear hr
    simp only [List.length_nil] at c2
    go_enter Tryd.func57, Tryd.ntmps57
    go_wp2_with fail
    (try simp only [Exit.inBlock, Exit.then])
    refine bodyPost_ret (results_none rfl _ _ _) rfl ?_
    exact ⟨rfl, ⟨⟨A, c, (HT.out.put0 []).put1 true, HR.out.keep (((Only.refl [q] w).setCell (p := ⟨q, 0, none⟩) (by simp) _).setCell (p := ⟨q, 1, none⟩) (by simp) _)⟩, Nat.zero_le _⟩, ((Only.refl [q] w).setCell (p := ⟨q, 0, none⟩) (by simp) _).setCell (p := ⟨q, 1, none⟩) (by simp) _⟩
  | cons t L =>
    obtain ⟨g, o, rfl, gq, gB, hc⟩ := hr.at_.resolve_left (by simp)
    have ct := hc 0 (by simp)
    simp only [List.length_cons] at c2
    have hcap := hr.cap
    have htop := hr.top
    simp only [List.length_cons] at hcap
    have HR := Lib.hid hr
    have HC := Lib.hid hc
    have ne : (((L.length + 1 : Nat) : Int) == 0) = false := by simp; omega
    have gl : g < w.heap.size := Nat.lt_of_lt_of_le gB hr.bw
    clear h ht hr hc
    go_enter Tryd.func57, Tryd.ntmps57
    go_upto_region 2 with fail
    have hqn : q ∉ [q] ∨ True := .inr trivial
    have ct' : w.cell? ⟨g, o, none⟩ = some (.string ⟨t.toArray⟩) := ct
    have gqn : g ∉ [q] := by simpa using gq
    have i1 : (1 : Int) ≤ (L.length : Int) + 1 := by omega
    clear ct
    have HTd : Hid (TxAt w.drew q s b (.slice (some ⟨g, o, none⟩) (L.length + 1) c)) := Lib.hid HT.out
    refine wp_region_any (by kernel_rfl) ?_
    try change wpAny _ _ _ _ _ _ _ (World.drew _)
    try simp only [Act.put, List.getElem_toArray, List.getElem_cons_zero, List.getElem_cons_succ, List.setIfInBounds_toArray, List.set_cons_zero, List.set_cons_succ]
    refine wpAny_take (i := 0) (v := ?_) rfl (by kernel_rfl) (by kernel_rfl) (by kernel_rfl) (fun _ _ _ h => h) (Or.inl ⟨by rfl, ?_⟩) ?_
    rotate_left 1
    · intro w
      go_simp
      try with_reducible rfl
    try simp only [Act.put, List.getElem_toArray, List.getElem_cons_zero, List.getElem_cons_succ, List.setIfInBounds_toArray, List.set_cons_zero, List.set_cons_succ]
    refine wpAny_take (i := 1) (v := ?_) rfl (by kernel_rfl) (by kernel_rfl) (by kernel_rfl) (fun _ _ _ h => h) (Or.inl ⟨by rfl, ?_⟩) ?_
    rotate_left 1
    · intro w
      go_simp
      try with_reducible rfl
    try simp only [Act.put, List.getElem_toArray, List.getElem_cons_zero, List.getElem_cons_succ, List.setIfInBounds_toArray, List.set_cons_zero, List.set_cons_succ]
    refine wpAny_take (i := 2) (v := ?_) rfl (by kernel_rfl) (by kernel_rfl) (by kernel_rfl) (fun _ _ _ h => h) (Or.inl ⟨by rfl, ?_⟩) ?_
    rotate_left 1
    · intro w
      go_simp
      try with_reducible rfl
    try simp only [Act.put, List.getElem_toArray, List.getElem_cons_zero, List.getElem_cons_succ, List.setIfInBounds_toArray, List.set_cons_zero, List.set_cons_succ]
    refine wpAny_take (i := 3) (v := ?_) rfl (by kernel_rfl) (by kernel_rfl) (by kernel_rfl) (fun _ _ _ h => h) (Or.inl ⟨by rfl, ?_⟩) ?_
    rotate_left 1
    · intro w
      go_simp
      try with_reducible rfl
    try simp only [Act.put, List.getElem_toArray, List.getElem_cons_zero, List.getElem_cons_succ, List.setIfInBounds_toArray, List.set_cons_zero, List.set_cons_succ]
    refine wpAny_take (i := 4) (v := ?_) rfl (by kernel_rfl) (by kernel_rfl) (by kernel_rfl) (fun _ _ _ h => h) (Or.inl ⟨by rfl, ?_⟩) ?_
    rotate_left 1
    · intro w
      go_simp
      try with_reducible rfl
    try simp only [Act.put, List.getElem_toArray, List.getElem_cons_zero, List.getElem_cons_succ, List.setIfInBounds_toArray, List.set_cons_zero, List.set_cons_succ]
    refine wpAny_take (i := 8) (v := ?_) rfl (by kernel_rfl) (by kernel_rfl) (by kernel_rfl) (fun _ _ _ h => h) (Or.inl ⟨by rfl, ?_⟩) ?_
    rotate_left 1
    · intro w
      go_simp
      try with_reducible rfl
    try simp only [Act.put, List.getElem_toArray, List.getElem_cons_zero, List.getElem_cons_succ, List.setIfInBounds_toArray, List.set_cons_zero, List.set_cons_succ]
    refine wpAny_take (i := 9) (v := ?_) rfl (by kernel_rfl) (by kernel_rfl) (by kernel_rfl) (fun _ _ _ h => h) (Or.inl ⟨by rfl, ?_⟩) ?_
    rotate_left 1
    · intro w
      go_simp
      try with_reducible rfl
    try simp only [Act.put, List.getElem_toArray, List.getElem_cons_zero, List.getElem_cons_succ, List.setIfInBounds_toArray, List.set_cons_zero, List.set_cons_succ]
    refine wpAny_take (i := 10) (v := ?_) rfl (by kernel_rfl) (by kernel_rfl) (by kernel_rfl) (fun _ _ _ h => h) (Or.inl ⟨by rfl, ?_⟩) ?_
    rotate_left 1
    · intro w
      go_simp
      try with_reducible rfl
    try simp only [Act.put, List.getElem_toArray, List.getElem_cons_zero, List.getElem_cons_succ, List.setIfInBounds_toArray, List.set_cons_zero, List.set_cons_succ]
    refine wpAny_ready (rs := [5, 11]) (by kernel_rfl) (by simp) ?_
    refine AllReady.cons rfl (fun K hK => ?_) ?_
    · go_simp
      refine hK _ _ ?_
      clear hK K
      try simp only [Act.put, List.getElem_toArray, List.getElem_cons_zero, List.getElem_cons_succ, List.setIfInBounds_toArray, List.set_cons_zero, List.set_cons_succ]
      refine wpAny_take (i := 6) (v := ?_) rfl (by kernel_rfl) (by kernel_rfl) (by kernel_rfl) (fun _ _ _ h => h) (Or.inl ⟨by rfl, ?_⟩) ?_
      rotate_left 1
      · intro w
        go_simp
        try with_reducible rfl
      try simp only [Act.put, List.getElem_toArray, List.getElem_cons_zero, List.getElem_cons_succ, List.setIfInBounds_toArray, List.set_cons_zero, List.set_cons_succ]
      refine wpAny_ready (rs := [7, 11]) (by kernel_rfl) (by simp) ?_
      refine AllReady.cons rfl (fun K hK => ?_) ?_
      · go_simp
        refine hK _ _ ?_
        clear hK K
        try simp only [Act.put, List.getElem_toArray, List.getElem_cons_zero, List.getElem_cons_succ, List.setIfInBounds_toArray, List.set_cons_zero, List.set_cons_succ]
        refine wpAny_ready (rs := [11]) (by kernel_rfl) (by simp) ?_
        refine AllReady.cons rfl (fun K hK => ?_) ?_
        · go_simp
          refine hK _ _ ?_
          clear hK K
          try simp only [Act.put, List.getElem_toArray, List.getElem_cons_zero, List.getElem_cons_succ, List.setIfInBounds_toArray, List.set_cons_zero, List.set_cons_succ]
          refine wpAny_take (i := 12) (v := ?_) rfl (by kernel_rfl) (by kernel_rfl) (by kernel_rfl) (fun _ _ _ h => h) (Or.inl ⟨by rfl, ?_⟩) ?_
          rotate_left 1
          · intro w
            go_simp
            try with_reducible rfl
          try simp only [Act.put, List.getElem_toArray, List.getElem_cons_zero, List.getElem_cons_succ, List.setIfInBounds_toArray, List.set_cons_zero, List.set_cons_succ]
          refine wpAny_take (i := 13) (v := ?_) rfl (by kernel_rfl) (by kernel_rfl) (by kernel_rfl) (fun _ _ _ h => h) (Or.inl ⟨by rfl, ?_⟩) ?_
          rotate_left 1
          · intro w
            go_simp
            try with_reducible rfl
          try simp only [Act.put, List.getElem_toArray, List.getElem_cons_zero, List.getElem_cons_succ, List.setIfInBounds_toArray, List.set_cons_zero, List.set_cons_succ]
          refine wpAny_take (i := 14) (v := ?_) rfl (by kernel_rfl) (by kernel_rfl) (by kernel_rfl) (fun _ _ _ h => h) (Or.inl ⟨by rfl, ?_⟩) ?_
          rotate_left 1
          · intro w
            go_simp
            try with_reducible rfl
          try simp only [Act.put, List.getElem_toArray, List.getElem_cons_zero, List.getElem_cons_succ, List.setIfInBounds_toArray, List.set_cons_zero, List.set_cons_succ]
          refine wpAny_take (i := 15) (v := ?_) rfl (by kernel_rfl) (by kernel_rfl) (by kernel_rfl) (fun _ _ _ h => h) (Or.inl ⟨by rfl, ?_⟩) ?_
          rotate_left 1
          · intro w
            go_simp
            try with_reducible rfl
          try simp only [Act.put, List.getElem_toArray, List.getElem_cons_zero, List.getElem_cons_succ, List.setIfInBounds_toArray, List.set_cons_zero, List.set_cons_succ]
          refine wpAny_ready (rs := [16]) (by kernel_rfl) (by simp) ?_
          refine AllReady.cons rfl (fun K hK => ?_) ?_
          · rw [if_pos (by rfl)]
            refine wp_tx0 HTd.out _ _ rfl rfl t rfl (fun w3 t3 o3 => ?_)
            have T3 := Lib.hid t3
            clear t3
            refine hK _ _ ?_
            clear hK K
            try simp only [Act.put, List.getElem_toArray, List.getElem_cons_zero, List.getElem_cons_succ, List.setIfInBounds_toArray, List.set_cons_zero, List.set_cons_succ]
            refine wpAny_take (i := 17) (v := ?_) rfl (by kernel_rfl) (by kernel_rfl) (by kernel_rfl) (fun _ _ _ h => h) (Or.inl ⟨by rfl, ?_⟩) ?_
            rotate_left 1
            · intro w
              go_simp
              try with_reducible rfl
            try simp only [Act.put, List.getElem_toArray, List.getElem_cons_zero, List.getElem_cons_succ, List.setIfInBounds_toArray, List.set_cons_zero, List.set_cons_succ]
            refine wpAny_take (i := 18) (v := ?_) rfl (by kernel_rfl) (by kernel_rfl) (by kernel_rfl) (fun _ _ _ h => h) (Or.inl ⟨by rfl, ?_⟩) ?_
            rotate_left 1
            · intro w
              go_simp
              try with_reducible rfl
            try simp only [Act.put, List.getElem_toArray, List.getElem_cons_zero, List.getElem_cons_succ, List.setIfInBounds_toArray, List.set_cons_zero, List.set_cons_succ]
            refine wpAny_ready (rs := [19]) (by kernel_rfl) (by simp) ?_
            refine AllReady.cons rfl (fun K hK => ?_) ?_
            · rw [if_pos (by rfl)]
              refine wp_tx2 T3.out _ _ rfl rfl _ _ _ rfl (fun w4 t4 o4 => ?_)
              have T4 := Lib.hid t4
              clear t4
              refine hK _ _ ?_
              clear hK K
              refine wpAny_done (by kernel_rfl) ?_ _
              have hO : Only [q] w w4 := (((Only.refl [q] w).drew).trans o3).trans o4
              have HO := Lib.hid hO
              clear o3 o4 hO T3
              obtain ⟨A2, hA2⟩ : ∃ A : Option Addr, A = (if c = 1 then some { block := g, off := o } else some { block := g, off := o + 1 }) := ⟨_, rfl⟩
              rw [← hA2] at T4 ⊢
              have HA2 := Lib.hid hA2
              clear hA2
              go_wp2_with fail
              go_end0
              have hrest := RestAt.keep (rest_tail HR.out) HO.out
              rw [← HA2.out] at hrest
              exact ⟨rfl, ⟨⟨A2, c - 1, T4.out, hrest⟩, HR.out.each t (by simp)⟩, HO.out⟩
            exact AllReady.nil
          exact AllReady.nil
        exact AllReady.nil
      refine AllReady.cons rfl (fun K hK => ?_) ?_
      · go_simp
        refine hK _ _ ?_
        clear hK K
        try simp only [Act.put, List.getElem_toArray, List.getElem_cons_zero, List.getElem_cons_succ, List.setIfInBounds_toArray, List.set_cons_zero, List.set_cons_succ]
        refine wpAny_take (i := 12) (v := ?_) rfl (by kernel_rfl) (by kernel_rfl) (by kernel_rfl) (fun _ _ _ h => h) (Or.inl ⟨by rfl, ?_⟩) ?_
        rotate_left 1
        · intro w
          go_simp
          try with_reducible rfl
        try simp only [Act.put, List.getElem_toArray, List.getElem_cons_zero, List.getElem_cons_succ, List.setIfInBounds_toArray, List.set_cons_zero, List.set_cons_succ]
        refine wpAny_ready (rs := [7]) (by kernel_rfl) (by simp) ?_
        refine AllReady.cons rfl (fun K hK => ?_) ?_
        · go_simp
          refine hK _ _ ?_
          clear hK K
          try simp only [Act.put, List.getElem_toArray, List.getElem_cons_zero, List.getElem_cons_succ, List.setIfInBounds_toArray, List.set_cons_zero, List.set_cons_succ]
          refine wpAny_take (i := 13) (v := ?_) rfl (by kernel_rfl) (by kernel_rfl) (by kernel_rfl) (fun _ _ _ h => h) (Or.inl ⟨by rfl, ?_⟩) ?_
          rotate_left 1
          · intro w
            go_simp
            try with_reducible rfl
          try simp only [Act.put, List.getElem_toArray, List.getElem_cons_zero, List.getElem_cons_succ, List.setIfInBounds_toArray, List.set_cons_zero, List.set_cons_succ]
          refine wpAny_take (i := 14) (v := ?_) rfl (by kernel_rfl) (by kernel_rfl) (by kernel_rfl) (fun _ _ _ h => h) (Or.inl ⟨by rfl, ?_⟩) ?_
          rotate_left 1
          · intro w
            go_simp
            try with_reducible rfl
          try simp only [Act.put, List.getElem_toArray, List.getElem_cons_zero, List.getElem_cons_succ, List.setIfInBounds_toArray, List.set_cons_zero, List.set_cons_succ]
          refine wpAny_take (i := 15) (v := ?_) rfl (by kernel_rfl) (by kernel_rfl) (by kernel_rfl) (fun _ _ _ h => h) (Or.inl ⟨by rfl, ?_⟩) ?_
          rotate_left 1
          · intro w
            go_simp
            try with_reducible rfl
          try simp only [Act.put, List.getElem_toArray, List.getElem_cons_zero, List.getElem_cons_succ, List.setIfInBounds_toArray, List.set_cons_zero, List.set_cons_succ]
          refine wpAny_ready (rs := [16]) (by kernel_rfl) (by simp) ?_
          refine AllReady.cons rfl (fun K hK => ?_) ?_
          · rw [if_pos (by rfl)]
            refine wp_tx0 HTd.out _ _ rfl rfl t rfl (fun w3 t3 o3 => ?_)
            have T3 := Lib.hid t3
            clear t3
            refine hK _ _ ?_
            clear hK K
            try simp only [Act.put, List.getElem_toArray, List.getElem_cons_zero, List.getElem_cons_succ, List.setIfInBounds_toArray, List.set_cons_zero, List.set_cons_succ]
            refine wpAny_take (i := 17) (v := ?_) rfl (by kernel_rfl) (by kernel_rfl) (by kernel_rfl) (fun _ _ _ h => h) (Or.inl ⟨by rfl, ?_⟩) ?_
            rotate_left 1
            · intro w
              go_simp
              try with_reducible rfl
            try simp only [Act.put, List.getElem_toArray, List.getElem_cons_zero, List.getElem_cons_succ, List.setIfInBounds_toArray, List.set_cons_zero, List.set_cons_succ]
            refine wpAny_take (i := 18) (v := ?_) rfl (by kernel_rfl) (by kernel_rfl) (by kernel_rfl) (fun _ _ _ h => h) (Or.inl ⟨by rfl, ?_⟩) ?_
            rotate_left 1
            · intro w
              go_simp
              try with_reducible rfl
            try simp only [Act.put, List.getElem_toArray, List.getElem_cons_zero, List.getElem_cons_succ, List.setIfInBounds_toArray, List.set_cons_zero, List.set_cons_succ]
            refine wpAny_ready (rs := [19]) (by kernel_rfl) (by simp) ?_
            refine AllReady.cons rfl (fun K hK => ?_) ?_
            · rw [if_pos (by rfl)]
              refine wp_tx2 T3.out _ _ rfl rfl _ _ _ rfl (fun w4 t4 o4 => ?_)
              have T4 := Lib.hid t4
              clear t4
              refine hK _ _ ?_
              clear hK K
              refine wpAny_done (by kernel_rfl) ?_ _
              have hO : Only [q] w w4 := (((Only.refl [q] w).drew).trans o3).trans o4
              have HO := Lib.hid hO
              clear o3 o4 hO T3
              obtain ⟨A2, hA2⟩ : ∃ A : Option Addr, A = (if c = 1 then some { block := g, off := o } else some { block := g, off := o + 1 }) := ⟨_, rfl⟩
              rw [← hA2] at T4 ⊢
              have HA2 := Lib.hid hA2
              clear hA2
              go_wp2_with fail
              go_end0
              have hrest := RestAt.keep (rest_tail HR.out) HO.out
              rw [← HA2.out] at hrest
              exact ⟨rfl, ⟨⟨A2, c - 1, T4.out, hrest⟩, HR.out.each t (by simp)⟩, HO.out⟩
            exact AllReady.nil
          exact AllReady.nil
        exact AllReady.nil
      exact AllReady.nil
    refine AllReady.cons rfl (fun K hK => ?_) ?_
    · go_simp
      refine hK _ _ ?_
      clear hK K
      try simp only [Act.put, List.getElem_toArray, List.getElem_cons_zero, List.getElem_cons_succ, List.setIfInBounds_toArray, List.set_cons_zero, List.set_cons_succ]
      refine wpAny_take (i := 12) (v := ?_) rfl (by kernel_rfl) (by kernel_rfl) (by kernel_rfl) (fun _ _ _ h => h) (Or.inl ⟨by rfl, ?_⟩) ?_
      rotate_left 1
      · intro w
        go_simp
        try with_reducible rfl
      try simp only [Act.put, List.getElem_toArray, List.getElem_cons_zero, List.getElem_cons_succ, List.setIfInBounds_toArray, List.set_cons_zero, List.set_cons_succ]
      refine wpAny_ready (rs := [5]) (by kernel_rfl) (by simp) ?_
      refine AllReady.cons rfl (fun K hK => ?_) ?_
      · go_simp
        refine hK _ _ ?_
        clear hK K
        try simp only [Act.put, List.getElem_toArray, List.getElem_cons_zero, List.getElem_cons_succ, List.setIfInBounds_toArray, List.set_cons_zero, List.set_cons_succ]
        refine wpAny_take (i := 6) (v := ?_) rfl (by kernel_rfl) (by kernel_rfl) (by kernel_rfl) (fun _ _ _ h => h) (Or.inl ⟨by rfl, ?_⟩) ?_
        rotate_left 1
        · intro w
          go_simp
          try with_reducible rfl
        try simp only [Act.put, List.getElem_toArray, List.getElem_cons_zero, List.getElem_cons_succ, List.setIfInBounds_toArray, List.set_cons_zero, List.set_cons_succ]
        refine wpAny_ready (rs := [7]) (by kernel_rfl) (by simp) ?_
        refine AllReady.cons rfl (fun K hK => ?_) ?_
        · go_simp
          refine hK _ _ ?_
          clear hK K
          try simp only [Act.put, List.getElem_toArray, List.getElem_cons_zero, List.getElem_cons_succ, List.setIfInBounds_toArray, List.set_cons_zero, List.set_cons_succ]
          refine wpAny_take (i := 13) (v := ?_) rfl (by kernel_rfl) (by kernel_rfl) (by kernel_rfl) (fun _ _ _ h => h) (Or.inl ⟨by rfl, ?_⟩) ?_
          rotate_left 1
          · intro w
            go_simp
            try with_reducible rfl
          try simp only [Act.put, List.getElem_toArray, List.getElem_cons_zero, List.getElem_cons_succ, List.setIfInBounds_toArray, List.set_cons_zero, List.set_cons_succ]
          refine wpAny_take (i := 14) (v := ?_) rfl (by kernel_rfl) (by kernel_rfl) (by kernel_rfl) (fun _ _ _ h => h) (Or.inl ⟨by rfl, ?_⟩) ?_
          rotate_left 1
          · intro w
            go_simp
            try with_reducible rfl
          try simp only [Act.put, List.getElem_toArray, List.getElem_cons_zero, List.getElem_cons_succ, List.setIfInBounds_toArray, List.set_cons_zero, List.set_cons_succ]
          refine wpAny_take (i := 15) (v := ?_) rfl (by kernel_rfl) (by kernel_rfl) (by kernel_rfl) (fun _ _ _ h => h) (Or.inl ⟨by rfl, ?_⟩) ?_
          rotate_left 1
          · intro w
            go_simp
            try with_reducible rfl
          try simp only [Act.put, List.getElem_toArray, List.getElem_cons_zero, List.getElem_cons_succ, List.setIfInBounds_toArray, List.set_cons_zero, List.set_cons_succ]
          refine wpAny_ready (rs := [16]) (by kernel_rfl) (by simp) ?_
          refine AllReady.cons rfl (fun K hK => ?_) ?_
          · rw [if_pos (by rfl)]
            refine wp_tx0 HTd.out _ _ rfl rfl t rfl (fun w3 t3 o3 => ?_)
            have T3 := Lib.hid t3
            clear t3
            refine hK _ _ ?_
            clear hK K
            try simp only [Act.put, List.getElem_toArray, List.getElem_cons_zero, List.getElem_cons_succ, List.setIfInBounds_toArray, List.set_cons_zero, List.set_cons_succ]
            refine wpAny_take (i := 17) (v := ?_) rfl (by kernel_rfl) (by kernel_rfl) (by kernel_rfl) (fun _ _ _ h => h) (Or.inl ⟨by rfl, ?_⟩) ?_
            rotate_left 1
            · intro w
              go_simp
              try with_reducible rfl
            try simp only [Act.put, List.getElem_toArray, List.getElem_cons_zero, List.getElem_cons_succ, List.setIfInBounds_toArray, List.set_cons_zero, List.set_cons_succ]
            refine wpAny_take (i := 18) (v := ?_) rfl (by kernel_rfl) (by kernel_rfl) (by kernel_rfl) (fun _ _ _ h => h) (Or.inl ⟨by rfl, ?_⟩) ?_
            rotate_left 1
            · intro w
              go_simp
              try with_reducible rfl
            try simp only [Act.put, List.getElem_toArray, List.getElem_cons_zero, List.getElem_cons_succ, List.setIfInBounds_toArray, List.set_cons_zero, List.set_cons_succ]
            refine wpAny_ready (rs := [19]) (by kernel_rfl) (by simp) ?_
            refine AllReady.cons rfl (fun K hK => ?_) ?_
            · rw [if_pos (by rfl)]
              refine wp_tx2 T3.out _ _ rfl rfl _ _ _ rfl (fun w4 t4 o4 => ?_)
              have T4 := Lib.hid t4
              clear t4
              refine hK _ _ ?_
              clear hK K
              refine wpAny_done (by kernel_rfl) ?_ _
              have hO : Only [q] w w4 := (((Only.refl [q] w).drew).trans o3).trans o4
              have HO := Lib.hid hO
              clear o3 o4 hO T3
              obtain ⟨A2, hA2⟩ : ∃ A : Option Addr, A = (if c = 1 then some { block := g, off := o } else some { block := g, off := o + 1 }) := ⟨_, rfl⟩
              rw [← hA2] at T4 ⊢
              have HA2 := Lib.hid hA2
              clear hA2
              go_wp2_with fail
              go_end0
              have hrest := RestAt.keep (rest_tail HR.out) HO.out
              rw [← HA2.out] at hrest
              exact ⟨rfl, ⟨⟨A2, c - 1, T4.out, hrest⟩, HR.out.each t (by simp)⟩, HO.out⟩
            exact AllReady.nil
          exact AllReady.nil
        exact AllReady.nil
      exact AllReady.nil
    exact AllReady.nil
end Wi
end Go.Proofs.YthcmlbbbbcinkaaDoor

set_option linter.unusedVariables false
set_option linter.unusedSimpArgs false
namespace Go.Proofs.YthcmlbbbbcinkaaDoor
open Go.RowKit Pl
attribute [local go_sem] Lb.ba_get Lb.ba_cut Lb.ba_add Lb.ba_size Lb.take_rest
namespace Wi

def WordR (v : Value) (p' : St) (B q : Nat) (w : World) (e : Ending) (w' : World) : Prop := e = .returned v ∧ RwAt w' B q p' ∧ Only [q] w w'
theorem number_rw {B : Nat} (q : Nat) (p : St) (w : World) (h : RwAt w B q p) : Calls Tryd.prog 58 #[.pointer (some ⟨q, 0, none⟩)] w (WordR (.int .i64 (numS p).1) (numS p).2 B q w) := by
  obtain ⟨A, c, ht, hr⟩ := h.ex
  exact (number_any q p _ w ht h.len).mono fun e w' ⟨h1, h2, h3⟩ => ⟨h1, RwAt.word hr h3 h2 (Nat.le_trans (numS_len p) h.len) (numS_rest p), h3⟩
theorem digest_rw {B : Nat} (q : Nat) (p : St) (w : World) (h : RwAt w B q p) : Calls Tryd.prog 80 #[.pointer (some ⟨q, 0, none⟩)] w (WordR (.agg (digV (digS p).1)) (digS p).2 B q w) := by
  obtain ⟨A, c, ht, hr⟩ := h.ex
  exact (digest_any q p _ w ht h.len).mono fun e w' ⟨h1, h2, h3⟩ => ⟨h1, RwAt.word hr h3 h2 (Nat.le_trans (digS_len p).1 h.len) (digS_rest p), h3⟩
theorem memS_s (p : St) : (memS p).2.s.length ≤ p.s.length ∧ (memS p).2.rest = p.rest := ⟨Nat.le_trans (numS_len _) (Nat.le_trans (numS_len _) (numS_len _)), (numS_rest _).trans ((numS_rest _).trans (numS_rest _))⟩
theorem rngS_s (p : St) : (rngS p).2.s.length ≤ p.s.length ∧ (rngS p).2.rest = p.rest := ⟨Nat.le_trans (digS_len _).1 (Nat.le_trans (numS_len _) (Nat.le_trans (numS_len _) (numS_len _))), (digS_rest _).trans ((numS_rest _).trans ((numS_rest _).trans (numS_rest _)))⟩
theorem recS_s (p : St) : (recS p).2.s.length ≤ p.s.length ∧ (recS p).2.rest = p.rest := ⟨Nat.le_trans (digS_len _).1 (Nat.le_trans (numS_len _) (digS_len _).1), (digS_rest _).trans ((numS_rest _).trans (digS_rest _))⟩
theorem memS_wf (p : St) : (memS p).1.Wf := ⟨numS_i64 _, numS_i64 _, numS_i64 _⟩
theorem rngS_wf (p : St) : (rngS p).1.Wf := ⟨numS_i64 _, numS_i64 _, numS_i64 _, (digS_len _).2⟩
theorem recS_wf (p : St) : (recS p).1.Wf := ⟨(digS_len _).2, (digS_len _).2, numS_i64 _⟩
theorem member_rw {B : Nat} (q : Nat) (p : St) (w : World) (h : RwAt w B q p) : Calls Tryd.prog 31 #[.pointer (some ⟨q, 0, none⟩)] w (WordR (.agg (memS p).1.cells.toArray) (memS p).2 B q w) := by
  obtain ⟨A, c, ht, hr⟩ := h.ex
  exact (member_any q p _ w ht h.len).mono fun e w' ⟨h1, h2, h3⟩ => ⟨h1, RwAt.word hr h3 h2 (Nat.le_trans (memS_s p).1 h.len) (memS_s p).2, h3⟩
theorem span_rw {B : Nat} (q : Nat) (p : St) (w : World) (h : RwAt w B q p) : Calls Tryd.prog 67 #[.pointer (some ⟨q, 0, none⟩)] w (WordR (.agg (rngS p).1.cells.toArray) (rngS p).2 B q w) := by
  obtain ⟨A, c, ht, hr⟩ := h.ex
  exact (span_any q p _ w ht h.len).mono fun e w' ⟨h1, h2, h3⟩ => ⟨h1, RwAt.word hr h3 h2 (Nat.le_trans (rngS_s p).1 h.len) (rngS_s p).2, h3⟩
theorem record_rw {B : Nat} (q : Nat) (p : St) (w : World) (h : RwAt w B q p) : Calls Tryd.prog 63 #[.pointer (some ⟨q, 0, none⟩)] w (WordR (.agg (recS p).1.cells.toArray) (recS p).2 B q w) := by
  obtain ⟨A, c, ht, hr⟩ := h.ex
  exact (record_any q p _ w ht h.len).mono fun e w' ⟨h1, h2, h3⟩ => ⟨h1, RwAt.word hr h3 h2 (Nat.le_trans (recS_s p).1 h.len) (recS_s p).2, h3⟩
theorem end_any {B : Nat} (q : Nat) (p : St) (w : World) (h : RwAt w B q p) : Calls Tryd.prog 59 #[.pointer (some ⟨q, 0, none⟩)] w (WordR (.tuple #[]) (endS p) B q w) := by
  obtain ⟨A, c, ht, hr⟩ := h.ex
  have hlen := h.len
  obtain ⟨s, b, L⟩ := p
  simp only at ht hr hlen
  have c0 := ht.c0
  have c1 := ht.c1
  have z1 := ht.z 1
  have HT := Lib.hid ht
  have HR := Lib.hid hr
  clear h ht hr
  have fin : ∀ b', b' = (b || decide (s ≠ [])) → WordR (.tuple #[]) (endS ⟨s, b, L⟩) B q w (.returned (.tuple #[])) (w.setCell ⟨q, 1, none⟩ (.bool b')) := fun b' hb => ⟨rfl, ⟨⟨A, c, by subst hb; exact HT.out.put1 _, HR.out.keep ((Only.refl [q] w).setCell (p := ⟨q, 1, none⟩) (by simp) _)⟩, hlen⟩, (Only.refl [q] w).setCell (p := ⟨q, 1, none⟩) (by simp) _⟩
  have Fin := Lib.hid fin
  clear fin
  cases b with
  | true =>
    go_enter Tryd.func59, Tryd.ntmps59
    go_wp2_with fail
    go_end0
    exact Fin.out true (by simp)
  | false =>
    go_enter Tryd.func59, Tryd.ntmps59
    go_wp2_with fail
    go_end0
    exact Fin.out (!List.isEmpty s) (by cases s <;> simp)
theorem one_any {B : Nat} (q : Nat) (p : St) (w : World) (h : RwAt w B q p) : Calls Tryd.prog 29 #[.pointer (some ⟨q, 0, none⟩)] w (WordR (.int .i64 (oneS p).1) (oneS p).2 B q w) := by
  have H1 := Lib.hid (next_any q p w h)
  have H2 := Lib.hid (fun W (hW : RwAt W B q (nextS p)) => number_rw q (nextS p) W hW)
  have H3 := Lib.hid (fun W (hW : RwAt W B q (numS (nextS p)).2) => end_any q (numS (nextS p)).2 W hW)
  have e1 : (oneS p).1 = (numS (nextS p)).1 := rfl
  have e2 : (oneS p).2 = endS (numS (nextS p)).2 := rfl
  rw [e1, e2]
  obtain ⟨n, hn⟩ : ∃ n, n = (numS (nextS p)).1 := ⟨_, rfl⟩
  obtain ⟨p2, hp2⟩ : ∃ n, n = (numS (nextS p)).2 := ⟨_, rfl⟩
  obtain ⟨p3, hp3⟩ : ∃ n, n = endS p2 := ⟨_, rfl⟩
  rw [← hn, ← hp2] at H2
  rw [← hp2] at H3
  rw [← hn, ← hp2]
  rw [← hp3] at H3 ⊢
  clear hn hp2 hp3 e1 e2 h
  go_enter Tryd.func29, Tryd.ntmps29
  go_wp2_with fail
  refine H1.out.mono ?_
  rintro e w1 ⟨rfl, h1, o1⟩
  have K1 := Lib.hid h1
  have O1 := Lib.hid o1
  clear h1 o1
  go_wp2_with fail
  refine (H2.out _ K1.out).mono ?_
  rintro e w2 ⟨rfl, h1, o1⟩
  have K2 := Lib.hid h1
  have O2 := Lib.hid (O1.out.trans o1)
  clear h1 o1
  go_wp2_with fail
  refine (H3.out _ K2.out).mono ?_
  rintro e w3 ⟨rfl, h1, o1⟩
  have K3 := Lib.hid h1
  have O3 := Lib.hid (O2.out.trans o1)
  clear h1 o1
  go_wp2_with fail
  go_ret
  exact ⟨rfl, K3.out, O3.out⟩
end Wi
end Go.Proofs.YthcmlbbbbcinkaaDoor
