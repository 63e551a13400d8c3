/-
  Layer 19 (wing): the frame of bytes.
-/
import Derived.Test.YthcmlbbbbcinkaaDoorWkC
import Derived.Test.YthcmlbbbbcinkaaDoorWiW
set_option linter.unusedVariables false
set_option linter.unusedSimpArgs false
namespace Go.Proofs.YthcmlbbbbcinkaaDoor
open Go.RowKit Pl
attribute [local go_sem] Lb.ba_get Lb.ba_cut Lb.ba_add Lb.ba_size Lb.take_rest
namespace Wi

def DecR (K : List Int) (s : Bs) (w : World) (e : Ending) (w' : World) : Prop :=
  ∃ (f : Fm) (x : Adr) (y : Int), e = .returned (.tuple #[.agg (f.cells x).toArray, .int .i64 y]) ∧ DecAns K s f y ∧ FmOk w' w'.heap.size f x ∧ Below w.heap.size w w'
theorem zFm_ok (w : World) (B : Nat) (x : Adr) : FmOk w B zFm x := ⟨zFm_wf, digs_none _ _ _, rows_nil _ _ _, rows_nil _ _ _, rows_nil _ _ _⟩
theorem wpList_load_rowX {P : Program} {ops : Array Oper} {rest : List Oper} {o : Oper} {a : Act} {w : World} {Q : Exit → Act → World → Prop} (hw : Region.wanted o (yielded ops a.tmps) = true) (ty : TypeId) (x : Operand) (ho : o.op = .load ty x)
    (g : Nat) (hx : a.eval x = .pointer (some ⟨g, 0, none⟩)) (t : TypeId) (cs : Array Value) (fr : Nat × Nat) (d : TypeDesc) (hg : w.heap[g]? = some (.cells cs t fr))
    (hu : P.underlying ty = some d) (hd : (match d with | .struct _ | .array _ _ => true | _ => false) = true) (hi : (P.info? ty).map (·.size) = some cs.size)
    (h : wpList P ops Q rest (a.put o.dst (.agg cs)) w) : wpList P ops Q (o :: rest) a w :=
  BigFrame.wpList_want hw fun _ hK => wp_load_row ty x ho g hx t cs fr d hg hu hd hi (hK _ _ h)
theorem built_two (k n : Int) : Tryd.prog.built 36 [(0, .int .i64 k), (1, .int .i64 n)] = some ((({ zFm with kind := k, from_ := n } : Fm).cells Adr.zero).toArray) := by rw [built_fm, fm_fill0, fm_fill1, fill_none]
theorem built_zFm : Tryd.prog.built 36 [] = some (zFm.cells Adr.zero).toArray := by rw [built_fm, fill_none]
theorem mem_textsB : ∀ {ts : List Bs} {t : Bs}, t ∈ ts → t.length ≤ (textsB ts).length
  | [], _, h => by cases h
  | u :: ts, t, h => by
    have e : textsB (u :: ts) = textB u ++ textsB ts := by unfold textsB; simp
    rw [e, List.length_append]
    rcases List.mem_cons.1 h with rfl | h
    · unfold textB; rw [List.length_append]; omega
    · have := mem_textsB h; omega
theorem row_each {l : Bs} {ts : List Bs} {most : Int} (h : rdRow l most = some (ts, [])) : ∀ t ∈ ts, t.length ≤ l.length := fun t ht => by
  have e := row_of_rd h
  rw [List.append_nil] at e
  rw [← e]
  unfold srow
  rw [List.length_append]
  have := mem_textsB ht
  omega
theorem row_count {l : Bs} {ts : List Bs} {most : Int} (h : rdRow l most = some (ts, [])) : ts.length ≤ l.length := by
  have e := row_of_rd h
  rw [List.append_nil] at e
  rw [← e]
  unfold srow
  rw [List.length_append]
  have := textsB_ge ts
  omega
theorem heap_lt_of_cell {w : World} {b o : Nat} {v : Value} (h : w.cell? ⟨b, o, none⟩ = some v) : b < w.heap.size := by
  obtain ⟨cs, T, f, he⟩ := cells_of_cell h
  exact heap_lt he
theorem rest_own {w : World} {base n c q : Nat} {A : Option Addr} {ts : List Bs} (h : w.ownsRow base 9 1 (.slice A n c) n (rowV ts)) (he : ∀ t ∈ ts, t.length ≤ 5000) (o : Obj) (hq : q = w.heap.size) : RestAt (w.alloc o) (w.alloc o).heap.size q A c ts := by
  obtain ⟨h1, h2⟩ := h
  have hl : (rowV ts).length = ts.length := by unfold rowV; simp
  rcases h2 with ⟨hv, h0⟩ | ⟨g, cap, cur, hv, hb, hg, hle, hmx, hcs, hx⟩
  · obtain ⟨rfl, -, rfl⟩ := Value.slice.inj hv
    have : ts.length = 0 := by omega
    exact ⟨.inl (List.eq_nil_of_length_eq_zero this), by omega, by unfold maxLen; omega, he, Nat.le_refl _, by rw [hq]; simp⟩
  · obtain ⟨rfl, -, rfl⟩ := Value.slice.inj hv
    have hgl := heap_lt hg
    refine ⟨.inr ⟨g, 0, rfl, by omega, by simp; omega, fun i hi => ?_⟩, by omega, hmx, he, Nat.le_refl _, by rw [hq]; simp⟩
    have hg2 : (w.alloc o).heap[g]? = some (.cells cur 9 (0, 0)) := (((Below.refl w.heap.size w).alloc (Nat.le_refl _) o).block g hgl).trans hg
    rw [Lib.cell_of_heap hg2, Nat.zero_add, ← Array.getElem?_toList]
    have e : (rowV ts)[i]? = some (.string ⟨(ts[i]).toArray⟩) := by unfold rowV strV; rw [List.getElem?_map, List.getElem?_eq_getElem hi]; rfl
    rw [← hx, List.getElem?_take_of_lt (by omega)] at e
    exact e
set_option maxHeartbeats 16000000 in
set_option maxRecDepth 100000 in
theorem wdecode_any (K : List Int) (s : Bs) (w : World) (hL : Laid K w) (hs : s.length ≤ 140737488351232) : Calls Tryd.prog 11 #[.string ⟨s.toArray⟩] w (DecR K s w) := by
  have hn1 := heap_alloc_new w (.cells (zFm.cells Adr.zero).toArray 36)
  have hb1 := (Below.refl w.heap.size w).alloc (Nat.le_refl _) (.cells (zFm.cells Adr.zero).toArray 36)
  have hL1 := hL.below hb1
  have hiZ := fm_infoR zFm_wf Adr.zero
  have hoZ : (zFm.cells Adr.zero).toArray.all (·.oneCell') = true := by rw [List.all_toArray]; exact Fm.one _ _
  have hbz := built_zFm
  obtain ⟨ZC, hZC⟩ : ∃ Z, Z = (zFm.cells Adr.zero).toArray := ⟨_, rfl⟩
  have hzf := zero_fm
  rw [← hZC] at hzf hn1 hb1 hL1 hiZ hoZ hbz
  obtain ⟨w1, hw1⟩ : ∃ y, y = w.alloc (.cells ZC 36) := ⟨_, rfl⟩
  obtain ⟨g2, hg2⟩ : ∃ q, q = w.heap.size := ⟨_, rfl⟩
  rw [← hw1] at hn1 hb1 hL1
  rw [← hg2] at hn1
  have fund := Tryd.underlying36
  have hzx : ∀ (W : World) (y : Int), Below w.heap.size w W → DecAns K s zFm y → DecR K s w (.returned (.tuple #[.agg ZC, .int .i64 y])) (W.setRow g2 ZC) := fun W y hW hy =>
    ⟨zFm, Adr.zero, y, by rw [hZC], hy, zFm_ok _ _ _, hW.trans (((Only.refl [g2] W).setRow (g := g2) (by simp) ZC).below hW.size (by simp; omega))⟩
  have HZX := Lib.hid hzx
  have Hn1 := Lib.hid hn1
  have HB1 := Lib.hid hb1
  have HL1 := Lib.hid hL1
  have Hw1 := Lib.hid hw1
  have Hg2 := Lib.hid hg2
  have Hzf := Lib.hid hzf
  have HZC := Lib.hid hZC
  clear hn1 hb1 hL1 hw1 hg2 hzf hL hzx hZC
  go_enter Tryd.func11, Tryd.ntmps11
  go_upto_region 1 with fail
  rw [Hzf.out, ← Hw1.out, ← Hg2.out]
  by_cases h4 : 4096 < s.length
  · have i4 : (4096 : Int) < (s.length : Int) := by omega
    go_wp2_with (first
      | (refine wpList_build0G (by kernel_rfl) 36 rfl ZC hbz ?_)
      | (refine wpList_store_row rfl 36 _ _ rfl g2 ZC rfl rfl 36 ZC Hn1.out hiZ rfl hoZ ?_))
    (try simp only [Exit.inBlock, Exit.then])
    refine bodyPost_ret (results_cell_row2 rfl _ _ g2 36 ZC (0, 0) _ rfl (setRow_heap _ _ _ _ _ _ Hn1.out) fund rfl hiZ) rfl ?_
    exact HZX.out _ 4 (HB1.out) (by unfold DecAns; rw [if_pos h4]; exact ⟨rfl, rfl⟩)
  have i4 : ¬ (4096 : Int) < (s.length : Int) := by omega
  by_cases h32 : s.length < 32
  · have i32 : (s.length : Int) < 32 := by omega
    have Hans := Lib.hid (show DecAns K s zFm 5 by unfold DecAns; rw [if_neg h4, if_pos (.inl h32)]; exact ⟨rfl, rfl⟩)
    go_upto_region 3 with fail
    refine wp_region_held_drew (S := fun w' => Below w1.heap.size w1 w') (by kernel_rfl) ((Below.refl _ _).drew) (fun hH0 => ?_)
    obtain ⟨W0, hW0⟩ : ∃ W, W = w1.drew := ⟨_, rfl⟩
    rw [← hW0] at hH0 ⊢
    clear hW0
    refine wpAnyH_take (i := 0) (v := ?_) rfl (by kernel_rfl) (by kernel_rfl) (by kernel_rfl) (fun _ _ _ h => h) (Or.inl ⟨by kernel_rfl, ?_⟩) hH0 ?_
    rotate_left 1
    · intro w hSw
      go_simp
      try with_reducible rfl
    try simp only [Act.put, List.getElem_toArray, List.getElem_cons_zero, List.getElem_cons_succ, List.setIfInBounds_toArray, List.set_cons_zero, List.set_cons_succ]
    refine wpAnyH_take (i := 1) (v := ?_) rfl (by kernel_rfl) (by kernel_rfl) (by kernel_rfl) (fun _ _ _ h => h) (Or.inl ⟨by kernel_rfl, ?_⟩) hH0 ?_
    rotate_left 1
    · intro w hSw
      go_simp
      try with_reducible rfl
    try simp only [Act.put, List.getElem_toArray, List.getElem_cons_zero, List.getElem_cons_succ, List.setIfInBounds_toArray, List.set_cons_zero, List.set_cons_succ]
    refine wpAnyH_take (i := 2) (v := ?_) rfl (by kernel_rfl) (by kernel_rfl) (by kernel_rfl) (fun _ _ _ h => h) (Or.inl ⟨by kernel_rfl, ?_⟩) hH0 ?_
    rotate_left 1
    · intro w hSw
      go_simp
      try with_reducible rfl
    try simp only [Act.put, List.getElem_toArray, List.getElem_cons_zero, List.getElem_cons_succ, List.setIfInBounds_toArray, List.set_cons_zero, List.set_cons_succ]
    refine wpAnyH_take (i := 3) (v := ?_) rfl (by kernel_rfl) (by kernel_rfl) (by kernel_rfl) (fun _ _ _ h => h) (Or.inl ⟨by kernel_rfl, ?_⟩) hH0 ?_
    rotate_left 1
    · intro w hSw
      go_simp
      try with_reducible rfl
    try simp only [Act.put, List.getElem_toArray, List.getElem_cons_zero, List.getElem_cons_succ, List.setIfInBounds_toArray, List.set_cons_zero, List.set_cons_succ]
    refine wpAnyH_take (i := 4) (v := undef) rfl (by kernel_rfl) (by kernel_rfl) (by kernel_rfl) (fun _ _ _ h => h) (Or.inr ⟨by kernel_rfl, rfl⟩) hH0 ?_
    try simp only [Act.put, List.getElem_toArray, List.getElem_cons_zero, List.getElem_cons_succ, List.setIfInBounds_toArray, List.set_cons_zero, List.set_cons_succ]
    refine wpAnyH_take (i := 5) (v := undef) rfl (by kernel_rfl) (by kernel_rfl) (by kernel_rfl) (fun _ _ _ h => h) (Or.inr ⟨by kernel_rfl, rfl⟩) hH0 ?_
    try simp only [Act.put, List.getElem_toArray, List.getElem_cons_zero, List.getElem_cons_succ, List.setIfInBounds_toArray, List.set_cons_zero, List.set_cons_succ]
    refine wpAnyH_take (i := 6) (v := undef) rfl (by kernel_rfl) (by kernel_rfl) (by kernel_rfl) (fun _ _ _ h => h) (Or.inr ⟨by kernel_rfl, rfl⟩) hH0 ?_
    try simp only [Act.put, List.getElem_toArray, List.getElem_cons_zero, List.getElem_cons_succ, List.setIfInBounds_toArray, List.set_cons_zero, List.set_cons_succ]
    refine wpAnyH_take (i := 7) (v := undef) rfl (by kernel_rfl) (by kernel_rfl) (by kernel_rfl) (fun _ _ _ h => h) (Or.inr ⟨by kernel_rfl, rfl⟩) hH0 ?_
    try simp only [Act.put, List.getElem_toArray, List.getElem_cons_zero, List.getElem_cons_succ, List.setIfInBounds_toArray, List.set_cons_zero, List.set_cons_succ]
    refine wpAnyH_take (i := 8) (v := undef) rfl (by kernel_rfl) (by kernel_rfl) (by kernel_rfl) (fun _ _ _ h => h) (Or.inr ⟨by kernel_rfl, rfl⟩) hH0 ?_
    try simp only [Act.put, List.getElem_toArray, List.getElem_cons_zero, List.getElem_cons_succ, List.setIfInBounds_toArray, List.set_cons_zero, List.set_cons_succ]
    refine wpAnyH_take (i := 9) (v := undef) rfl (by kernel_rfl) (by kernel_rfl) (by kernel_rfl) (fun _ _ _ h => h) (Or.inr ⟨by kernel_rfl, rfl⟩) hH0 ?_
    try simp only [Act.put, List.getElem_toArray, List.getElem_cons_zero, List.getElem_cons_succ, List.setIfInBounds_toArray, List.set_cons_zero, List.set_cons_succ]
    refine wpAnyH_take (i := 10) (v := undef) rfl (by kernel_rfl) (by kernel_rfl) (by kernel_rfl) (fun _ _ _ h => h) (Or.inr ⟨by kernel_rfl, rfl⟩) hH0 ?_
    try simp only [Act.put, List.getElem_toArray, List.getElem_cons_zero, List.getElem_cons_succ, List.setIfInBounds_toArray, List.set_cons_zero, List.set_cons_succ]
    refine wpAnyH_take (i := 11) (v := undef) rfl (by kernel_rfl) (by kernel_rfl) (by kernel_rfl) (fun _ _ _ h => h) (Or.inr ⟨by kernel_rfl, rfl⟩) hH0 ?_
    try simp only [Act.put, List.getElem_toArray, List.getElem_cons_zero, List.getElem_cons_succ, List.setIfInBounds_toArray, List.set_cons_zero, List.set_cons_succ]
    refine wpAnyH_take (i := 12) (v := undef) rfl (by kernel_rfl) (by kernel_rfl) (by kernel_rfl) (fun _ _ _ h => h) (Or.inr ⟨by kernel_rfl, rfl⟩) hH0 ?_
    try simp only [Act.put, List.getElem_toArray, List.getElem_cons_zero, List.getElem_cons_succ, List.setIfInBounds_toArray, List.set_cons_zero, List.set_cons_succ]
    refine wpAnyH_take (i := 13) (v := undef) rfl (by kernel_rfl) (by kernel_rfl) (by kernel_rfl) (fun _ _ _ h => h) (Or.inr ⟨by kernel_rfl, rfl⟩) hH0 ?_
    try simp only [Act.put, List.getElem_toArray, List.getElem_cons_zero, List.getElem_cons_succ, List.setIfInBounds_toArray, List.set_cons_zero, List.set_cons_succ]
    refine wpAnyH_take (i := 14) (v := ?_) rfl (by kernel_rfl) (by kernel_rfl) (by kernel_rfl) (fun _ _ _ h => h) (Or.inl ⟨by kernel_rfl, ?_⟩) hH0 ?_
    rotate_left 1
    · intro w hSw
      go_simp
      try with_reducible rfl
    try simp only [Act.put, List.getElem_toArray, List.getElem_cons_zero, List.getElem_cons_succ, List.setIfInBounds_toArray, List.set_cons_zero, List.set_cons_succ]
    refine wpAnyH_done (by kernel_rfl) ?_ _
    have HH := Lib.hid (HB1.out.trans ((hH0).mono HB1.out.size))
    have HGz := Lib.hid (below_keep hH0 Hn1.out)
    clear hH0 h4 h32
    go_wp2_with (first
      | (refine wpList_build0G (by kernel_rfl) 36 rfl ZC hbz ?_)
      | (refine wpList_store_row rfl 36 _ _ rfl g2 ZC rfl rfl 36 ZC HGz.out hiZ rfl hoZ ?_))
    (try simp only [Exit.inBlock, Exit.then])
    refine bodyPost_ret (results_cell_row2 rfl _ _ g2 36 ZC (0, 0) _ rfl (setRow_heap _ _ _ _ _ _ HGz.out) fund rfl hiZ) rfl ?_
    exact HZX.out _ 5 (HH.out) (Hans.out)
  have i32 : ¬ (s.length : Int) < 32 := by omega
  have hsl : s.length = 32 + (s.drop 32).length := by simp; omega
  have htk : (s.take 32).length = 32 := by simp; omega
  have hra : rdRow (s.drop 32) 7 = rdRow (s.drop 32) 7 := rfl
  obtain ⟨t, ht⟩ : ∃ t, t = s.drop 32 := ⟨_, rfl⟩
  obtain ⟨td, htd⟩ : ∃ t, t = s.take 32 := ⟨_, rfl⟩
  have hda : DecAns K s = DecAns K s := rfl
  have Ht := Lib.hid ht
  have Htd := Lib.hid htd
  rw [← ht] at hsl
  rw [← htd] at htk
  have hstd : s = td ++ t := by rw [htd, ht, List.take_append_drop]
  have hhl := hashB_length K t
  obtain ⟨hd, hhd⟩ : ∃ h, h = hashB K t := ⟨_, rfl⟩
  rw [← hhd] at hhl
  have Hhd := Lib.hid hhd
  have hne : ∀ W : World, (Op.equalIn 10000 23 (.agg (digV hd)) (.agg (byV td).toArray)).run Tryd.prog W = .ok (hd == td) W := fun W => eqIn_dig W hd td hhl htk
  have hdt : (Tryd.prog.info? 23).map (·.size) = some (byV td).length := by rw [dig_info, byV_length, htk]
  have dund := Tryd.underlying23
  have htl : t.length ≤ 4096 := by omega
  have i32a : (32 : Int) ≤ (s.length : Int) := by omega
  have i33 : (32 : Int) ≤ 32 + (t.length : Int) := by omega
  have d33 : decide ((32 : Int) + (t.length : Int) < 32) = false := by simp; omega
  obtain ⟨eq, heq⟩ : ∃ b, b = (hd == td) := ⟨_, rfl⟩
  rw [← heq] at hne
  have Heq := Lib.hid heq
  have H4 := Lib.hid h4
  have H32 := Lib.hid h32
  have hcut1 : s.drop 32 = t := ht.symm
  have hcut2 : s.take 32 = td := htd.symm
  have hcv0 := bytes_bag td
  have HCV := Lib.hid hcv0
  have hdw : (digV td) = (byV td).toArray := rfl
  clear hra ht htd hda hhd heq h4 h32 hstd hcv0
  go_upto_region 3 with fail
  go_cut [27] from 13 to 27 (fun v wz => v = .bool (!eq) ∧ Below w1.heap.size w1 wz)
  case first =>
    refine wp_region_any (by kernel_rfl) ?_
    try change wpAny _ _ _ _ _ _ _ (World.drew _)
    obtain ⟨Wc, hWc⟩ : ∃ W, W = w1.drew := ⟨_, rfl⟩
    have HLc : Hid (Laid K Wc) := Lib.hid (by rw [hWc]; exact HL1.out.below ((Below.refl _ _).drew))
    have HBc : Hid (Below w1.heap.size w1 Wc) := Lib.hid (by rw [hWc]; exact (Below.refl _ _).drew)
    rw [← hWc]
    clear hWc
    try simp only [Act.put, List.getElem_toArray, List.getElem_cons_zero, List.getElem_cons_succ, List.setIfInBounds_toArray, List.set_cons_zero, List.set_cons_succ]
    refine wpAny_take (i := 0) (v := ?_) rfl (by kernel_rfl) (by kernel_rfl) (by kernel_rfl) (fun _ _ _ h => h) (Or.inl ⟨by kernel_rfl, ?_⟩) ?_
    rotate_left 1
    · intro w
      go_simp
      try with_reducible rfl
    try simp only [Act.put, List.getElem_toArray, List.getElem_cons_zero, List.getElem_cons_succ, List.setIfInBounds_toArray, List.set_cons_zero, List.set_cons_succ]
    refine wpAny_take (i := 1) (v := ?_) rfl (by kernel_rfl) (by kernel_rfl) (by kernel_rfl) (fun _ _ _ h => h) (Or.inl ⟨by kernel_rfl, ?_⟩) ?_
    rotate_left 1
    · intro w
      go_simp
      try with_reducible rfl
    try simp only [Act.put, List.getElem_toArray, List.getElem_cons_zero, List.getElem_cons_succ, List.setIfInBounds_toArray, List.set_cons_zero, List.set_cons_succ]
    refine wpAny_take (i := 2) (v := ?_) rfl (by kernel_rfl) (by kernel_rfl) (by kernel_rfl) (fun _ _ _ h => h) (Or.inl ⟨by kernel_rfl, ?_⟩) ?_
    rotate_left 1
    · intro w
      go_simp
      try with_reducible rfl
    try simp only [Act.put, List.getElem_toArray, List.getElem_cons_zero, List.getElem_cons_succ, List.setIfInBounds_toArray, List.set_cons_zero, List.set_cons_succ]
    refine wpAny_take (i := 3) (v := ?_) rfl (by kernel_rfl) (by kernel_rfl) (by kernel_rfl) (fun _ _ _ h => h) (Or.inl ⟨by kernel_rfl, ?_⟩) ?_
    rotate_left 1
    · intro w
      go_simp
      try with_reducible rfl
    try simp only [Act.put, List.getElem_toArray, List.getElem_cons_zero, List.getElem_cons_succ, List.setIfInBounds_toArray, List.set_cons_zero, List.set_cons_succ]
    refine wpAny_take (i := 4) (v := ?_) rfl (by kernel_rfl) (by kernel_rfl) (by kernel_rfl) (fun _ _ _ h => h) (Or.inl ⟨by kernel_rfl, ?_⟩) ?_
    rotate_left 1
    · intro w
      go_simp
      try with_reducible rfl
    try simp only [Act.put, List.getElem_toArray, List.getElem_cons_zero, List.getElem_cons_succ, List.setIfInBounds_toArray, List.set_cons_zero, List.set_cons_succ]
    refine wpAny_take (i := 5) (v := ?_) rfl (by kernel_rfl) (by kernel_rfl) (by kernel_rfl) (fun _ _ _ h => h) (Or.inl ⟨by kernel_rfl, ?_⟩) ?_
    rotate_left 1
    · intro w
      go_simp
      try with_reducible rfl
    try simp only [Act.put, List.getElem_toArray, List.getElem_cons_zero, List.getElem_cons_succ, List.setIfInBounds_toArray, List.set_cons_zero, List.set_cons_succ]
    refine wpAny_take (i := 8) (v := ?_) rfl (by kernel_rfl) (by kernel_rfl) (by kernel_rfl) (fun _ _ _ h => h) (Or.inl ⟨by kernel_rfl, ?_⟩) ?_
    rotate_left 1
    · intro w
      go_simp
      try with_reducible rfl
    try simp only [Act.put, List.getElem_toArray, List.getElem_cons_zero, List.getElem_cons_succ, List.setIfInBounds_toArray, List.set_cons_zero, List.set_cons_succ]
    refine wpAny_take (i := 9) (v := ?_) rfl (by kernel_rfl) (by kernel_rfl) (by kernel_rfl) (fun _ _ _ h => h) (Or.inl ⟨by kernel_rfl, ?_⟩) ?_
    rotate_left 1
    · intro w
      go_simp
      try with_reducible rfl
    try simp only [Act.put, List.getElem_toArray, List.getElem_cons_zero, List.getElem_cons_succ, List.setIfInBounds_toArray, List.set_cons_zero, List.set_cons_succ]
    refine wpAny_ready (rs := [6, 10]) (by kernel_rfl) (by simp) ?_
    refine AllReady.cons rfl (fun K_ hK => ?_) ?_
    · go_simp
      have hbn := (Below.refl Wc.heap.size Wc).alloc (Nat.le_refl _) (.cells #[.string ⟨t.toArray⟩] 9)
      have hc6 : (Wc.alloc (.cells #[.string ⟨t.toArray⟩] 9)).cell? ⟨Wc.heap.size, 0, none⟩ = some (.string ⟨t.toArray⟩) := by rw [Lib.cell_of_heap (heap_alloc_new Wc _)]; rfl
      obtain ⟨g6, hg6⟩ : ∃ g, g = Wc.heap.size := ⟨_, rfl⟩
      obtain ⟨Wd, hWd⟩ : ∃ W, W = Wc.alloc (.cells #[.string ⟨t.toArray⟩] 9) := ⟨_, rfl⟩
      rw [← hg6] at hc6 ⊢
      rw [← hWd] at hbn hc6 ⊢
      have HLc := Lib.hid (HLc.out.below hbn)
      have HBc := Lib.hid (HBc.out.trans (hbn.mono HBc.out.size))
      try have r10 := Lib.hid (range_below r10.out hbn l10)
      try have l10 := Nat.lt_of_lt_of_le l10 hbn.size
      have H6 := Lib.hid hc6
      clear hWd hg6 hbn hc6
      obtain ⟨Wc, hWc⟩ : ∃ W, W = Wd := ⟨_, rfl⟩
      subst hWc
      refine hK _ _ ?_
      clear hK K_
      try simp only [Act.put, List.getElem_toArray, List.getElem_cons_zero, List.getElem_cons_succ, List.setIfInBounds_toArray, List.set_cons_zero, List.set_cons_succ]
      refine wpAny_ready (rs := [7, 10]) (by kernel_rfl) (by simp) ?_
      refine AllReady.cons rfl (fun K_ hK => ?_) ?_
      · go_simp
        refine (of_hash K _ 1 t _ HLc.out ⟨_, rfl, H6.out⟩ (by omega)).mono ?_
        rintro e Wd ⟨rfl, hbn⟩
        rw [← Hhd.out]
        have HLc := Lib.hid (HLc.out.below hbn)
        have HBc := Lib.hid (HBc.out.trans (hbn.mono HBc.out.size))
        try have r10 := Lib.hid (range_below r10.out hbn l10)
        try have l10 := Nat.lt_of_lt_of_le l10 hbn.size
        clear hbn
        obtain ⟨Wc, hWc⟩ : ∃ W, W = Wd := ⟨_, rfl⟩
        subst hWc
        refine hK _ _ ?_
        clear hK K_
        try simp only [Act.put, List.getElem_toArray, List.getElem_cons_zero, List.getElem_cons_succ, List.setIfInBounds_toArray, List.set_cons_zero, List.set_cons_succ]
        refine wpAny_ready (rs := [10]) (by kernel_rfl) (by simp) ?_
        refine AllReady.cons rfl (fun K_ hK => ?_) ?_
        · obtain ⟨Wd, cap10, hcv, ho10, hbg10⟩ := HCV.out Wc (by omega)
          rw [htk] at hcv
          go_simp
          try rw [hcv]
          try simp only [Result.andThen_ok]
          have hbn : Below Wc.heap.size Wc Wd := ho10.below (Nat.le_refl _) (by simp)
          have r10 := Lib.hid (bag_range hbg10)
          have l10 := hbg10.lt
          have hat := arr_at (some ⟨Wc.heap.size, 0, none⟩) cap10
          obtain ⟨g10, hg10⟩ : ∃ g, g = Wc.heap.size := ⟨_, rfl⟩
          rw [← hg10] at r10 l10 hat ⊢
          have HLc := Lib.hid (HLc.out.below hbn)
          have HBc := Lib.hid (HBc.out.trans (hbn.mono HBc.out.size))
          try have H6 := Lib.hid ((hbn.cell (p := ⟨g6, 0, none⟩) (heap_lt_of_cell H6.out)).trans H6.out)
          clear hcv ho10 hbg10 hg10 hbn
          obtain ⟨Wc, hWc⟩ : ∃ W, W = Wd := ⟨_, rfl⟩
          subst hWc
          refine hK _ _ ?_
          clear hK K_
          try simp only [Act.put, List.getElem_toArray, List.getElem_cons_zero, List.getElem_cons_succ, List.setIfInBounds_toArray, List.set_cons_zero, List.set_cons_succ]
          refine wpAny_take (i := 11) (v := ?_) rfl (by kernel_rfl) (by kernel_rfl) (by kernel_rfl) (fun _ _ _ h => h) (Or.inl ⟨by kernel_rfl, ?_⟩) ?_
          rotate_left 1
          · intro w
            go_simp
            try with_reducible rfl
          try simp only [Act.put, List.getElem_toArray, List.getElem_cons_zero, List.getElem_cons_succ, List.setIfInBounds_toArray, List.set_cons_zero, List.set_cons_succ]
          refine wpAny_ready (rs := [12]) (by kernel_rfl) (by simp) ?_
          refine AllReady.cons rfl (fun K_ hK => ?_) ?_
          · rw [if_pos (by kernel_rfl)]
            refine wp_load_mid 23 _ rfl g10 0 rfl (byV td) _ r10.out dund rfl hdt ?_
            refine hK _ _ ?_
            clear hK K_
            try simp only [Act.put, List.getElem_toArray, List.getElem_cons_zero, List.getElem_cons_succ, List.setIfInBounds_toArray, List.set_cons_zero, List.set_cons_succ]
            refine wpAny_take (i := 13) (v := ?_) rfl (by kernel_rfl) (by kernel_rfl) (by kernel_rfl) (fun _ _ _ h => h) (Or.inl ⟨by kernel_rfl, ?_⟩) ?_
            rotate_left 1
            · intro w
              go_simp
              try with_reducible rfl
            try simp only [Act.put, List.getElem_toArray, List.getElem_cons_zero, List.getElem_cons_succ, List.setIfInBounds_toArray, List.set_cons_zero, List.set_cons_succ]
            refine wpAny_take (i := 14) (v := ?_) rfl (by kernel_rfl) (by kernel_rfl) (by kernel_rfl) (fun _ _ _ h => h) (Or.inl ⟨by kernel_rfl, ?_⟩) ?_
            rotate_left 1
            · intro w
              go_simp
              try with_reducible rfl
            refine wpAny_done (by kernel_rfl) ?_ _
            go_wp2_with fail
            go_meet
            case rel => exact ⟨rfl, HBc.out⟩
          exact AllReady.nil
        exact AllReady.nil
      refine AllReady.cons rfl (fun K_ hK => ?_) ?_
      · obtain ⟨Wd, cap10, hcv, ho10, hbg10⟩ := HCV.out Wc (by omega)
        rw [htk] at hcv
        go_simp
        try rw [hcv]
        try simp only [Result.andThen_ok]
        have hbn : Below Wc.heap.size Wc Wd := ho10.below (Nat.le_refl _) (by simp)
        have r10 := Lib.hid (bag_range hbg10)
        have l10 := hbg10.lt
        have hat := arr_at (some ⟨Wc.heap.size, 0, none⟩) cap10
        obtain ⟨g10, hg10⟩ : ∃ g, g = Wc.heap.size := ⟨_, rfl⟩
        rw [← hg10] at r10 l10 hat ⊢
        have HLc := Lib.hid (HLc.out.below hbn)
        have HBc := Lib.hid (HBc.out.trans (hbn.mono HBc.out.size))
        try have H6 := Lib.hid ((hbn.cell (p := ⟨g6, 0, none⟩) (heap_lt_of_cell H6.out)).trans H6.out)
        clear hcv ho10 hbg10 hg10 hbn
        obtain ⟨Wc, hWc⟩ : ∃ W, W = Wd := ⟨_, rfl⟩
        subst hWc
        refine hK _ _ ?_
        clear hK K_
        try simp only [Act.put, List.getElem_toArray, List.getElem_cons_zero, List.getElem_cons_succ, List.setIfInBounds_toArray, List.set_cons_zero, List.set_cons_succ]
        refine wpAny_take (i := 11) (v := ?_) rfl (by kernel_rfl) (by kernel_rfl) (by kernel_rfl) (fun _ _ _ h => h) (Or.inl ⟨by kernel_rfl, ?_⟩) ?_
        rotate_left 1
        · intro w
          go_simp
          try with_reducible rfl
        try simp only [Act.put, List.getElem_toArray, List.getElem_cons_zero, List.getElem_cons_succ, List.setIfInBounds_toArray, List.set_cons_zero, List.set_cons_succ]
        refine wpAny_ready (rs := [7, 12]) (by kernel_rfl) (by simp) ?_
        refine AllReady.cons rfl (fun K_ hK => ?_) ?_
        · go_simp
          refine (of_hash K _ 1 t _ HLc.out ⟨_, rfl, H6.out⟩ (by omega)).mono ?_
          rintro e Wd ⟨rfl, hbn⟩
          rw [← Hhd.out]
          have HLc := Lib.hid (HLc.out.below hbn)
          have HBc := Lib.hid (HBc.out.trans (hbn.mono HBc.out.size))
          try have r10 := Lib.hid (range_below r10.out hbn l10)
          try have l10 := Nat.lt_of_lt_of_le l10 hbn.size
          clear hbn
          obtain ⟨Wc, hWc⟩ : ∃ W, W = Wd := ⟨_, rfl⟩
          subst hWc
          refine hK _ _ ?_
          clear hK K_
          try simp only [Act.put, List.getElem_toArray, List.getElem_cons_zero, List.getElem_cons_succ, List.setIfInBounds_toArray, List.set_cons_zero, List.set_cons_succ]
          refine wpAny_ready (rs := [12]) (by kernel_rfl) (by simp) ?_
          refine AllReady.cons rfl (fun K_ hK => ?_) ?_
          · rw [if_pos (by kernel_rfl)]
            refine wp_load_mid 23 _ rfl g10 0 rfl (byV td) _ r10.out dund rfl hdt ?_
            refine hK _ _ ?_
            clear hK K_
            try simp only [Act.put, List.getElem_toArray, List.getElem_cons_zero, List.getElem_cons_succ, List.setIfInBounds_toArray, List.set_cons_zero, List.set_cons_succ]
            refine wpAny_take (i := 13) (v := ?_) rfl (by kernel_rfl) (by kernel_rfl) (by kernel_rfl) (fun _ _ _ h => h) (Or.inl ⟨by kernel_rfl, ?_⟩) ?_
            rotate_left 1
            · intro w
              go_simp
              try with_reducible rfl
            try simp only [Act.put, List.getElem_toArray, List.getElem_cons_zero, List.getElem_cons_succ, List.setIfInBounds_toArray, List.set_cons_zero, List.set_cons_succ]
            refine wpAny_take (i := 14) (v := ?_) rfl (by kernel_rfl) (by kernel_rfl) (by kernel_rfl) (fun _ _ _ h => h) (Or.inl ⟨by kernel_rfl, ?_⟩) ?_
            rotate_left 1
            · intro w
              go_simp
              try with_reducible rfl
            refine wpAny_done (by kernel_rfl) ?_ _
            go_wp2_with fail
            go_meet
            case rel => exact ⟨rfl, HBc.out⟩
          exact AllReady.nil
        refine AllReady.cons rfl (fun K_ hK => ?_) ?_
        · rw [if_pos (by kernel_rfl)]
          refine wp_load_mid 23 _ rfl g10 0 rfl (byV td) _ r10.out dund rfl hdt ?_
          refine hK _ _ ?_
          clear hK K_
          try simp only [Act.put, List.getElem_toArray, List.getElem_cons_zero, List.getElem_cons_succ, List.setIfInBounds_toArray, List.set_cons_zero, List.set_cons_succ]
          refine wpAny_ready (rs := [7]) (by kernel_rfl) (by simp) ?_
          refine AllReady.cons rfl (fun K_ hK => ?_) ?_
          · go_simp
            refine (of_hash K _ 1 t _ HLc.out ⟨_, rfl, H6.out⟩ (by omega)).mono ?_
            rintro e Wd ⟨rfl, hbn⟩
            rw [← Hhd.out]
            have HLc := Lib.hid (HLc.out.below hbn)
            have HBc := Lib.hid (HBc.out.trans (hbn.mono HBc.out.size))
            try have r10 := Lib.hid (range_below r10.out hbn l10)
            try have l10 := Nat.lt_of_lt_of_le l10 hbn.size
            clear hbn
            obtain ⟨Wc, hWc⟩ : ∃ W, W = Wd := ⟨_, rfl⟩
            subst hWc
            refine hK _ _ ?_
            clear hK K_
            try simp only [Act.put, List.getElem_toArray, List.getElem_cons_zero, List.getElem_cons_succ, List.setIfInBounds_toArray, List.set_cons_zero, List.set_cons_succ]
            refine wpAny_take (i := 13) (v := ?_) rfl (by kernel_rfl) (by kernel_rfl) (by kernel_rfl) (fun _ _ _ h => h) (Or.inl ⟨by kernel_rfl, ?_⟩) ?_
            rotate_left 1
            · intro w
              go_simp
              try with_reducible rfl
            try simp only [Act.put, List.getElem_toArray, List.getElem_cons_zero, List.getElem_cons_succ, List.setIfInBounds_toArray, List.set_cons_zero, List.set_cons_succ]
            refine wpAny_take (i := 14) (v := ?_) rfl (by kernel_rfl) (by kernel_rfl) (by kernel_rfl) (fun _ _ _ h => h) (Or.inl ⟨by kernel_rfl, ?_⟩) ?_
            rotate_left 1
            · intro w
              go_simp
              try with_reducible rfl
            refine wpAny_done (by kernel_rfl) ?_ _
            go_wp2_with fail
            go_meet
            case rel => exact ⟨rfl, HBc.out⟩
          exact AllReady.nil
        exact AllReady.nil
      exact AllReady.nil
    refine AllReady.cons rfl (fun K_ hK => ?_) ?_
    · obtain ⟨Wd, cap10, hcv, ho10, hbg10⟩ := HCV.out Wc (by omega)
      rw [htk] at hcv
      go_simp
      try rw [hcv]
      try simp only [Result.andThen_ok]
      have hbn : Below Wc.heap.size Wc Wd := ho10.below (Nat.le_refl _) (by simp)
      have r10 := Lib.hid (bag_range hbg10)
      have l10 := hbg10.lt
      have hat := arr_at (some ⟨Wc.heap.size, 0, none⟩) cap10
      obtain ⟨g10, hg10⟩ : ∃ g, g = Wc.heap.size := ⟨_, rfl⟩
      rw [← hg10] at r10 l10 hat ⊢
      have HLc := Lib.hid (HLc.out.below hbn)
      have HBc := Lib.hid (HBc.out.trans (hbn.mono HBc.out.size))
      try have H6 := Lib.hid ((hbn.cell (p := ⟨g6, 0, none⟩) (heap_lt_of_cell H6.out)).trans H6.out)
      clear hcv ho10 hbg10 hg10 hbn
      obtain ⟨Wc, hWc⟩ : ∃ W, W = Wd := ⟨_, rfl⟩
      subst hWc
      refine hK _ _ ?_
      clear hK K_
      try simp only [Act.put, List.getElem_toArray, List.getElem_cons_zero, List.getElem_cons_succ, List.setIfInBounds_toArray, List.set_cons_zero, List.set_cons_succ]
      refine wpAny_take (i := 11) (v := ?_) rfl (by kernel_rfl) (by kernel_rfl) (by kernel_rfl) (fun _ _ _ h => h) (Or.inl ⟨by kernel_rfl, ?_⟩) ?_
      rotate_left 1
      · intro w
        go_simp
        try with_reducible rfl
      try simp only [Act.put, List.getElem_toArray, List.getElem_cons_zero, List.getElem_cons_succ, List.setIfInBounds_toArray, List.set_cons_zero, List.set_cons_succ]
      refine wpAny_ready (rs := [6, 12]) (by kernel_rfl) (by simp) ?_
      refine AllReady.cons rfl (fun K_ hK => ?_) ?_
      · go_simp
        have hbn := (Below.refl Wc.heap.size Wc).alloc (Nat.le_refl _) (.cells #[.string ⟨t.toArray⟩] 9)
        have hc6 : (Wc.alloc (.cells #[.string ⟨t.toArray⟩] 9)).cell? ⟨Wc.heap.size, 0, none⟩ = some (.string ⟨t.toArray⟩) := by rw [Lib.cell_of_heap (heap_alloc_new Wc _)]; rfl
        obtain ⟨g6, hg6⟩ : ∃ g, g = Wc.heap.size := ⟨_, rfl⟩
        obtain ⟨Wd, hWd⟩ : ∃ W, W = Wc.alloc (.cells #[.string ⟨t.toArray⟩] 9) := ⟨_, rfl⟩
        rw [← hg6] at hc6 ⊢
        rw [← hWd] at hbn hc6 ⊢
        have HLc := Lib.hid (HLc.out.below hbn)
        have HBc := Lib.hid (HBc.out.trans (hbn.mono HBc.out.size))
        try have r10 := Lib.hid (range_below r10.out hbn l10)
        try have l10 := Nat.lt_of_lt_of_le l10 hbn.size
        have H6 := Lib.hid hc6
        clear hWd hg6 hbn hc6
        obtain ⟨Wc, hWc⟩ : ∃ W, W = Wd := ⟨_, rfl⟩
        subst hWc
        refine hK _ _ ?_
        clear hK K_
        try simp only [Act.put, List.getElem_toArray, List.getElem_cons_zero, List.getElem_cons_succ, List.setIfInBounds_toArray, List.set_cons_zero, List.set_cons_succ]
        refine wpAny_ready (rs := [7, 12]) (by kernel_rfl) (by simp) ?_
        refine AllReady.cons rfl (fun K_ hK => ?_) ?_
        · go_simp
          refine (of_hash K _ 1 t _ HLc.out ⟨_, rfl, H6.out⟩ (by omega)).mono ?_
          rintro e Wd ⟨rfl, hbn⟩
          rw [← Hhd.out]
          have HLc := Lib.hid (HLc.out.below hbn)
          have HBc := Lib.hid (HBc.out.trans (hbn.mono HBc.out.size))
          try have r10 := Lib.hid (range_below r10.out hbn l10)
          try have l10 := Nat.lt_of_lt_of_le l10 hbn.size
          clear hbn
          obtain ⟨Wc, hWc⟩ : ∃ W, W = Wd := ⟨_, rfl⟩
          subst hWc
          refine hK _ _ ?_
          clear hK K_
          try simp only [Act.put, List.getElem_toArray, List.getElem_cons_zero, List.getElem_cons_succ, List.setIfInBounds_toArray, List.set_cons_zero, List.set_cons_succ]
          refine wpAny_ready (rs := [12]) (by kernel_rfl) (by simp) ?_
          refine AllReady.cons rfl (fun K_ hK => ?_) ?_
          · rw [if_pos (by kernel_rfl)]
            refine wp_load_mid 23 _ rfl g10 0 rfl (byV td) _ r10.out dund rfl hdt ?_
            refine hK _ _ ?_
            clear hK K_
            try simp only [Act.put, List.getElem_toArray, List.getElem_cons_zero, List.getElem_cons_succ, List.setIfInBounds_toArray, List.set_cons_zero, List.set_cons_succ]
            refine wpAny_take (i := 13) (v := ?_) rfl (by kernel_rfl) (by kernel_rfl) (by kernel_rfl) (fun _ _ _ h => h) (Or.inl ⟨by kernel_rfl, ?_⟩) ?_
            rotate_left 1
            · intro w
              go_simp
              try with_reducible rfl
            try simp only [Act.put, List.getElem_toArray, List.getElem_cons_zero, List.getElem_cons_succ, List.setIfInBounds_toArray, List.set_cons_zero, List.set_cons_succ]
            refine wpAny_take (i := 14) (v := ?_) rfl (by kernel_rfl) (by kernel_rfl) (by kernel_rfl) (fun _ _ _ h => h) (Or.inl ⟨by kernel_rfl, ?_⟩) ?_
            rotate_left 1
            · intro w
              go_simp
              try with_reducible rfl
            refine wpAny_done (by kernel_rfl) ?_ _
            go_wp2_with fail
            go_meet
            case rel => exact ⟨rfl, HBc.out⟩
          exact AllReady.nil
        refine AllReady.cons rfl (fun K_ hK => ?_) ?_
        · rw [if_pos (by kernel_rfl)]
          refine wp_load_mid 23 _ rfl g10 0 rfl (byV td) _ r10.out dund rfl hdt ?_
          refine hK _ _ ?_
          clear hK K_
          try simp only [Act.put, List.getElem_toArray, List.getElem_cons_zero, List.getElem_cons_succ, List.setIfInBounds_toArray, List.set_cons_zero, List.set_cons_succ]
          refine wpAny_ready (rs := [7]) (by kernel_rfl) (by simp) ?_
          refine AllReady.cons rfl (fun K_ hK => ?_) ?_
          · go_simp
            refine (of_hash K _ 1 t _ HLc.out ⟨_, rfl, H6.out⟩ (by omega)).mono ?_
            rintro e Wd ⟨rfl, hbn⟩
            rw [← Hhd.out]
            have HLc := Lib.hid (HLc.out.below hbn)
            have HBc := Lib.hid (HBc.out.trans (hbn.mono HBc.out.size))
            try have r10 := Lib.hid (range_below r10.out hbn l10)
            try have l10 := Nat.lt_of_lt_of_le l10 hbn.size
            clear hbn
            obtain ⟨Wc, hWc⟩ : ∃ W, W = Wd := ⟨_, rfl⟩
            subst hWc
            refine hK _ _ ?_
            clear hK K_
            try simp only [Act.put, List.getElem_toArray, List.getElem_cons_zero, List.getElem_cons_succ, List.setIfInBounds_toArray, List.set_cons_zero, List.set_cons_succ]
            refine wpAny_take (i := 13) (v := ?_) rfl (by kernel_rfl) (by kernel_rfl) (by kernel_rfl) (fun _ _ _ h => h) (Or.inl ⟨by kernel_rfl, ?_⟩) ?_
            rotate_left 1
            · intro w
              go_simp
              try with_reducible rfl
            try simp only [Act.put, List.getElem_toArray, List.getElem_cons_zero, List.getElem_cons_succ, List.setIfInBounds_toArray, List.set_cons_zero, List.set_cons_succ]
            refine wpAny_take (i := 14) (v := ?_) rfl (by kernel_rfl) (by kernel_rfl) (by kernel_rfl) (fun _ _ _ h => h) (Or.inl ⟨by kernel_rfl, ?_⟩) ?_
            rotate_left 1
            · intro w
              go_simp
              try with_reducible rfl
            refine wpAny_done (by kernel_rfl) ?_ _
            go_wp2_with fail
            go_meet
            case rel => exact ⟨rfl, HBc.out⟩
          exact AllReady.nil
        exact AllReady.nil
      refine AllReady.cons rfl (fun K_ hK => ?_) ?_
      · rw [if_pos (by kernel_rfl)]
        refine wp_load_mid 23 _ rfl g10 0 rfl (byV td) _ r10.out dund rfl hdt ?_
        refine hK _ _ ?_
        clear hK K_
        try simp only [Act.put, List.getElem_toArray, List.getElem_cons_zero, List.getElem_cons_succ, List.setIfInBounds_toArray, List.set_cons_zero, List.set_cons_succ]
        refine wpAny_ready (rs := [6]) (by kernel_rfl) (by simp) ?_
        refine AllReady.cons rfl (fun K_ hK => ?_) ?_
        · go_simp
          have hbn := (Below.refl Wc.heap.size Wc).alloc (Nat.le_refl _) (.cells #[.string ⟨t.toArray⟩] 9)
          have hc6 : (Wc.alloc (.cells #[.string ⟨t.toArray⟩] 9)).cell? ⟨Wc.heap.size, 0, none⟩ = some (.string ⟨t.toArray⟩) := by rw [Lib.cell_of_heap (heap_alloc_new Wc _)]; rfl
          obtain ⟨g6, hg6⟩ : ∃ g, g = Wc.heap.size := ⟨_, rfl⟩
          obtain ⟨Wd, hWd⟩ : ∃ W, W = Wc.alloc (.cells #[.string ⟨t.toArray⟩] 9) := ⟨_, rfl⟩
          rw [← hg6] at hc6 ⊢
          rw [← hWd] at hbn hc6 ⊢
          have HLc := Lib.hid (HLc.out.below hbn)
          have HBc := Lib.hid (HBc.out.trans (hbn.mono HBc.out.size))
          try have r10 := Lib.hid (range_below r10.out hbn l10)
          try have l10 := Nat.lt_of_lt_of_le l10 hbn.size
          have H6 := Lib.hid hc6
          clear hWd hg6 hbn hc6
          obtain ⟨Wc, hWc⟩ : ∃ W, W = Wd := ⟨_, rfl⟩
          subst hWc
          refine hK _ _ ?_
          clear hK K_
          try simp only [Act.put, List.getElem_toArray, List.getElem_cons_zero, List.getElem_cons_succ, List.setIfInBounds_toArray, List.set_cons_zero, List.set_cons_succ]
          refine wpAny_ready (rs := [7]) (by kernel_rfl) (by simp) ?_
          refine AllReady.cons rfl (fun K_ hK => ?_) ?_
          · go_simp
            refine (of_hash K _ 1 t _ HLc.out ⟨_, rfl, H6.out⟩ (by omega)).mono ?_
            rintro e Wd ⟨rfl, hbn⟩
            rw [← Hhd.out]
            have HLc := Lib.hid (HLc.out.below hbn)
            have HBc := Lib.hid (HBc.out.trans (hbn.mono HBc.out.size))
            try have r10 := Lib.hid (range_below r10.out hbn l10)
            try have l10 := Nat.lt_of_lt_of_le l10 hbn.size
            clear hbn
            obtain ⟨Wc, hWc⟩ : ∃ W, W = Wd := ⟨_, rfl⟩
            subst hWc
            refine hK _ _ ?_
            clear hK K_
            try simp only [Act.put, List.getElem_toArray, List.getElem_cons_zero, List.getElem_cons_succ, List.setIfInBounds_toArray, List.set_cons_zero, List.set_cons_succ]
            refine wpAny_take (i := 13) (v := ?_) rfl (by kernel_rfl) (by kernel_rfl) (by kernel_rfl) (fun _ _ _ h => h) (Or.inl ⟨by kernel_rfl, ?_⟩) ?_
            rotate_left 1
            · intro w
              go_simp
              try with_reducible rfl
            try simp only [Act.put, List.getElem_toArray, List.getElem_cons_zero, List.getElem_cons_succ, List.setIfInBounds_toArray, List.set_cons_zero, List.set_cons_succ]
            refine wpAny_take (i := 14) (v := ?_) rfl (by kernel_rfl) (by kernel_rfl) (by kernel_rfl) (fun _ _ _ h => h) (Or.inl ⟨by kernel_rfl, ?_⟩) ?_
            rotate_left 1
            · intro w
              go_simp
              try with_reducible rfl
            refine wpAny_done (by kernel_rfl) ?_ _
            go_wp2_with fail
            go_meet
            case rel => exact ⟨rfl, HBc.out⟩
          exact AllReady.nil
        exact AllReady.nil
      exact AllReady.nil
    exact AllReady.nil
  obtain ⟨rfl, hbc⟩ := hcut
  have HBc := Lib.hid (HB1.out.trans (hbc.mono HB1.out.size))
  have HLc := Lib.hid (HL1.out.below hbc)
  have HGc := Lib.hid (below_keep hbc Hn1.out)
  clear hbc hne HB1 HL1 Hn1 HCV
  cases eq with
  | false =>
    have Hans := Lib.hid (show DecAns K s zFm 5 by
      unfold DecAns
      rw [if_neg H4.out, if_pos (.inr (by
        rw [← Ht.out, ← Htd.out, ← Hhd.out]
        intro h
        have := Heq.out
        rw [h] at this
        simp at this))]
      exact ⟨rfl, rfl⟩)
    go_wp2_with (first
      | (refine wpList_build0G (by kernel_rfl) 36 rfl ZC hbz ?_)
      | (refine wpList_store_row rfl 36 _ _ rfl g2 ZC rfl rfl 36 ZC HGc.out hiZ rfl hoZ ?_))
    (try simp only [Exit.inBlock, Exit.then])
    refine bodyPost_ret (results_cell_row2 rfl _ _ g2 36 ZC (0, 0) _ rfl (setRow_heap _ _ _ _ _ _ HGc.out) fund rfl hiZ) rfl ?_
    exact HZX.out _ 5 (HBc.out) (Hans.out)
  | true =>
  have hsum : hashB K (s.drop 32) = s.take 32 := by
    have := Heq.out
    rw [← Ht.out, ← Htd.out, ← Hhd.out]
    simpa using this.symm
  have Hsum := Lib.hid hsum
  clear hsum Heq
  cases hrd : rdRow t 7 with
  | none =>
    have Hans := Lib.hid (show DecAns K s zFm 3 from ans_no H4.out (by have := H32.out; omega) Hsum.out (fun l h => by rw [← Ht.out, hrd] at h; cases h))
    have HRR := Lib.hid (readRow_none hrd (.inl (by omega)) wc (by omega))
    clear hrd
    go_wp2_with fail
    refine HRR.out.mono ?_
    rintro e w3 ⟨rfl, hB3⟩
    have HB3 := Lib.hid (HBc.out.trans (hB3.mono HBc.out.size))
    have HG3 := Lib.hid (below_keep hB3 HGc.out)
    clear hB3 HBc HGc HLc
    go_wp2_with (first
      | (refine wpList_build0G (by kernel_rfl) 36 rfl ZC hbz ?_)
      | (refine wpList_store_row rfl 36 _ _ rfl g2 ZC rfl rfl 36 ZC HG3.out hiZ rfl hoZ ?_))
    (try simp only [Exit.inBlock, Exit.then])
    refine bodyPost_ret (results_cell_row2 rfl _ _ g2 36 ZC (0, 0) _ rfl (setRow_heap _ _ _ _ _ _ HG3.out) fund rfl hiZ) rfl ?_
    exact HZX.out _ 3 (HB3.out) (Hans.out)
  | some pr =>
  obtain ⟨ts, r⟩ := pr
  cases r with
  | cons y r =>
    have Hans := Lib.hid (show DecAns K s zFm 3 from ans_no H4.out (by have := H32.out; omega) Hsum.out (fun l h => by rw [← Ht.out, hrd] at h; cases h))
    have HRR := Lib.hid (readRow_some hrd (.inl (by omega)) wc (by omega))
    clear hrd
    go_wp2_with fail
    refine HRR.out.mono ?_
    rintro e w3 ⟨A, cap, rfl, hown, hB3⟩
    have HB3 := Lib.hid (HBc.out.trans (hB3.mono HBc.out.size))
    have HG3 := Lib.hid (below_keep hB3 HGc.out)
    clear hB3 hown HBc HGc HLc
    go_wp2_with (first
      | (refine wpList_build0G (by kernel_rfl) 36 rfl ZC hbz ?_)
      | (refine wpList_store_row rfl 36 _ _ rfl g2 ZC rfl rfl 36 ZC HG3.out hiZ rfl hoZ ?_))
    (try simp only [Exit.inBlock, Exit.then])
    refine bodyPost_ret (results_cell_row2 rfl _ _ g2 36 ZC (0, 0) _ rfl (setRow_heap _ _ _ _ _ _ HG3.out) fund rfl hiZ) rfl ?_
    exact HZX.out _ 3 (HB3.out) (Hans.out)
  | nil =>
  have heach : ∀ u ∈ ts, u.length ≤ 5000 := fun u hu => by have := row_each hrd u hu; omega
  have hcnt := row_count hrd
  have HRR := Lib.hid (readRow_some hrd (.inl (by omega)) wc (by omega))
  have Hrd := Lib.hid hrd
  have Heach := Lib.hid heach
  clear hrd heach
  go_wp2_with fail
  refine HRR.out.mono ?_
  rintro e w3 ⟨A, cap, rfl, hown, hB3⟩
  have HB3 := Lib.hid (HBc.out.trans (hB3.mono HBc.out.size))
  have HG3 := Lib.hid (below_keep hB3 HGc.out)
  have Hown := Lib.hid hown
  clear hB3 hown HBc HGc HLc
  go_upto_region 9 with fail
  obtain ⟨q, hq⟩ : ∃ q, q = w3.heap.size := ⟨_, rfl⟩
  obtain ⟨w4, hw4⟩ : ∃ y, y = w3.alloc (.cells #[.string ⟨[].toArray⟩, .bool false, .slice A ts.length cap] 74) := ⟨_, rfl⟩
  have ht4 : TxAt w4 q [] false (.slice A ts.length cap) := by unfold TxAt; rw [hw4, hq]; exact heap_alloc_new w3 _
  have hr4 : RestAt w4 w4.heap.size q A cap ts := by rw [hw4]; exact rest_own Hown.out Heach.out _ hq
  have hb4 : Below w3.heap.size w3 w4 := by rw [hw4]; exact (Below.refl _ _).alloc (Nat.le_refl _) _
  show Code.wp _ _ _ _ (w3.alloc (.cells #[.string ⟨[].toArray⟩, .bool false, .slice A ts.length cap] 74))
  rw [← hw4, ← hq]
  obtain ⟨B, hB⟩ : ∃ B, B = w4.heap.size := ⟨_, rfl⟩
  have hq4 := heap_lt ht4
  have K4 : Hid (RwAt w4 B q ⟨[], false, ts⟩) := Lib.hid ⟨⟨A, cap, ht4, by rw [hB]; exact hr4⟩, by simp⟩
  have HB4 := Lib.hid (HB3.out.trans (hb4.mono HB3.out.size))
  have HG4 := Lib.hid (below_keep hb4 HG3.out)
  have LQ : w.heap.size ≤ q := by rw [hq]; exact HB3.out.size
  have LB : B ≤ w4.heap.size := by omega
  have gq : g2 < q := by have := heap_lt HG3.out; omega
  clear ht4 hr4 hb4 HB3 HG3 Hown hw4 hq Hzf hq4
  have C5 := Lib.hid (one_any q ⟨[], false, ts⟩ w4 K4.out)
  obtain ⟨n1, hn1⟩ : ∃ v, v = (oneS ⟨[], false, ts⟩).1 := ⟨_, rfl⟩
  obtain ⟨p1, hp1⟩ : ∃ v, v = (oneS ⟨[], false, ts⟩).2 := ⟨_, rfl⟩
  have in1 : I64 n1 := by rw [hn1]; exact numS_i64 _
  rw [← hn1, ← hp1] at C5
  have En1 := Lib.hid hn1
  have Ep1 := Lib.hid hp1
  clear hn1 hp1
  go_wp2_with fail
  refine C5.out.mono ?_
  rintro e w5 ⟨rfl, h, o⟩
  have K5 := Lib.hid h
  have HB5 := Lib.hid (HB4.out.trans (o.below HB4.out.size (by simpa using LQ)))
  have HG5 := Lib.hid (o.keep HG4.out (by simp; omega))
  have S5 := o.size
  clear h o C5 K4 HB4 HG4
  have C6 := Lib.hid (one_any q p1 w5 K5.out)
  obtain ⟨n2, hn2⟩ : ∃ v, v = (oneS p1).1 := ⟨_, rfl⟩
  obtain ⟨p2, hp2⟩ : ∃ v, v = (oneS p1).2 := ⟨_, rfl⟩
  have in2 : I64 n2 := by rw [hn2]; exact numS_i64 _
  rw [← hn2, ← hp2] at C6
  have En2 := Lib.hid hn2
  have Ep2 := Lib.hid hp2
  clear hn2 hp2
  go_wp2_with fail
  refine C6.out.mono ?_
  rintro e w6 ⟨rfl, h, o⟩
  have K6 := Lib.hid h
  have HB6 := Lib.hid (HB5.out.trans (o.below HB5.out.size (by simpa using LQ)))
  have HG6 := Lib.hid (o.keep HG5.out (by simp; omega))
  have S6 := o.size
  clear h o C6 K5 HB5 HG5
  have hbd := built_two n1 n2
  have hF0 : Fm.Wf { zFm with kind := n1, from_ := n2 } := zFm_wf.put_head in1 in2
  have hi0 := fm_infoR hF0 Adr.zero
  have ho0 : ((({ zFm with kind := n1, from_ := n2 } : Fm).cells Adr.zero).toArray).all (·.oneCell') = true := by rw [List.all_toArray]; exact Fm.one _ _
  have hz0 : Tryd.zeroCells36.size = ((({ zFm with kind := n1, from_ := n2 } : Fm).cells Adr.zero).toArray).size := by rw [zero_fm, List.size_toArray, List.size_toArray, Fm.len zFm_wf, Fm.len hF0]
  have hn6 := heap_alloc_new w6 (.cells Tryd.zeroCells36 36)
  obtain ⟨C0, hC0⟩ : ∃ C, C = ((({ zFm with kind := n1, from_ := n2 } : Fm).cells Adr.zero).toArray) := ⟨_, rfl⟩
  rw [← hC0] at hbd hi0 ho0 hz0
  have HC0 := Lib.hid hC0
  have HF0 := Lib.hid hF0
  clear hC0 hF0
  go_upto_region 10 with (first
    | (refine wpList_build2 rfl 36 _ _ _ _ rfl _ _ rfl rfl _ hbd ?_)
    | (refine wpList_store_row rfl 36 _ _ rfl w6.heap.size C0 rfl rfl 36 _ hn6 hi0 hz0 ho0 ?_))
  try simp only [Act.put]
  show Code.wp _ _ _ _ ((w6.alloc (.cells Tryd.zeroCells36 36)).setRow w6.heap.size C0)
  obtain ⟨w7, hw7⟩ : ∃ y, y = (w6.alloc (.cells Tryd.zeroCells36 36)).setRow w6.heap.size C0 := ⟨_, rfl⟩
  obtain ⟨qf, hqf⟩ : ∃ g, g = w6.heap.size := ⟨_, rfl⟩
  have l7 := setRow_heap _ _ _ C0 _ _ hn6
  have o7 := ((Only.refl [qf] w6).alloc (.cells Tryd.zeroCells36 36)).setRow (g := qf) (by simp) C0
  rw [← hqf] at hw7 l7 ⊢
  rw [← hw7] at l7 o7 ⊢
  have b7 : Below w6.heap.size w6 w7 := o7.below (Nat.le_refl _) (by simp; omega)
  have hBqf : B ≤ qf := by omega
  have hqq : qf ≠ q := by have := K6.out.lt; omega
  have LQF : w.heap.size ≤ qf := by rw [hqf]; exact HB6.out.size
  have gqf : g2 < qf := by rw [hqf]; exact heap_lt HG6.out
  have K7 := Lib.hid (K6.out.below (b7.mono K6.out.bw))
  have HB7 := Lib.hid (HB6.out.trans (b7.mono HB6.out.size))
  have HG7 := Lib.hid (below_keep b7 HG6.out)
  have I7 : Hid (FmIn w7 q qf ({ zFm with kind := n1, from_ := n2 } : Fm) Adr.zero) := Lib.hid ⟨by unfold FrAt; rw [l7, HC0.out], ⟨HF0.out, digs_none _ _ _, rows_nil _ _ _, rows_nil _ _ _, rows_nil _ _ _⟩, (fun a h => by cases h), (fun a h => by cases h), (fun a h => by cases h), (fun a h => by cases h)⟩
  clear hw7 l7 o7 b7 hn6 hbd hi0 ho0 hz0 HC0 K6 HB6 HG6 hqf
  have lq := K7.out.lt
  have lf := heap_lt I7.out.fr
  have C8 := Lib.hid (listMb_any q 6 p2 w7 K7.out (by omega))
  obtain ⟨l, hl⟩ : ∃ v, v = (listS memS 6 p2).1 := ⟨_, rfl⟩
  obtain ⟨p3, hp3⟩ : ∃ v, v = (listS memS 6 p2).2 := ⟨_, rfl⟩
  have wl : ∀ r ∈ l, r.Wf := by rw [hl]; exact listS_wf (one := memS) (fun p => memS_wf p) _ _ _ (fun y hy => by cases hy)
  have ml : l.length ≤ maxLen := by have := loopS_len (one := memS) (6 + 1) [] (nextS p2); rw [hl]; unfold listS; simp only [List.length_nil, Nat.zero_add] at this; unfold maxLen; omega
  unfold ListR at C8
  rw [← hl, ← hp3] at C8
  have El := Lib.hid hl
  have Ep3 := Lib.hid hp3
  clear hl hp3
  go_wp2_with fail
  refine C8.out.mono ?_
  rintro e w8 ⟨v, rfl, hbag, h, o⟩
  obtain ⟨A1, c1, rfl, -, -⟩ := hbag.shape
  obtain ⟨hrows, hap⟩ := bag_rows hbag (fun y hy => Mb.len y)
  have hapart : ∀ a, A1 = some a → a.block ≠ q ∧ qf < a.block := fun a ha => by have := hap a ha; constructor <;> omega
  have K8 := Lib.hid h
  have I8 := Lib.hid (I7.out.word o hqq)
  have HB8 := Lib.hid (HB7.out.trans (o.below HB7.out.size (by simpa using LQ)))
  have HG8 := Lib.hid (o.keep HG7.out (by simp; omega))
  have Hrows := Lib.hid hrows
  have Hap := Lib.hid hapart
  clear h o C8 K7 I7 HB7 HG7 hbag hrows hap hapart lq lf
  go_upto_region 11 with (refine wpList_fr_mems rfl HF0.out I8.out.fr _ _ rfl rfl l A1 c1 rfl (fun w9 hf o => ?_))
  have I9 := Lib.hid (I8.out.put_mems hf o wl ml Hrows.out Hap.out)
  have K9 := Lib.hid (K8.out.put o hBqf)
  have HB9 := Lib.hid (HB8.out.trans (o.below HB8.out.size (by simpa using LQF)))
  have HG9 := Lib.hid (o.keep HG8.out (by simp; omega))
  clear hf o K8 I8 HB8 HG8 Hrows Hap
  have C10 := Lib.hid (body_any q qf _ _ p3 w9 K9.out I9.out hBqf)
  have hdec : decS ts = bodyS ({ zFm with kind := n1, from_ := n2, mems := l } : Fm) p3 := by rw [En1.out, En2.out, El.out, Ep3.out, Ep2.out, Ep1.out]; rfl
  obtain ⟨F, hF⟩ : ∃ F, F = (decS ts).1 := ⟨_, rfl⟩
  obtain ⟨p4, hp4⟩ : ∃ F, F = (decS ts).2 := ⟨_, rfl⟩
  have hC10 : Calls Tryd.prog 32 #[.pointer (some ⟨q, 0, none⟩), .pointer (some ⟨qf, 0, none⟩)] w9 fun e w' => ∃ x, e = .returned (.tuple #[]) ∧ FmIn w' q qf F x ∧ RwAt w' B q p4 ∧ Only [q, qf] w9 w' := C10.out.mono (fun e w' ⟨x, h1, h2, h3, h4⟩ => ⟨x, h1, by rw [hF, hdec]; exact h2, by rw [hp4, hdec]; exact h3, h4⟩)
  have HC10 := Lib.hid hC10
  have HF := Lib.hid hF
  have Hp4 := Lib.hid hp4
  clear C10 hC10 hdec hF hp4 En1 En2 El Ep1 Ep2 Ep3
  go_wp2_with fail
  refine HC10.out.mono ?_
  rintro e w10 ⟨x, rfl, hI, hK, o⟩
  have o2 : Below w9.heap.size w9 w9 := Below.refl _ _
  have HB10 := Lib.hid (HB9.out.trans (o.below HB9.out.size (by intro k hk; simp only [List.mem_cons, List.not_mem_nil, or_false] at hk; rcases hk with rfl | rfl <;> assumption)))
  have HG10 := Lib.hid (o.keep HG9.out (by simp; omega))
  have HI := Lib.hid hI
  have HK := Lib.hid hK
  clear o o2 hI hK K9 I9 HB9 HG9 HC10
  obtain ⟨A9, c9, ht, hr⟩ := HK.out.ex
  have d1 := ht.c1
  have d2 := ht.c2
  have hwF := HI.out.ok.wf
  have HAns := Lib.hid (ans_of H4.out (by have := H32.out; omega) Hsum.out (by rw [← Ht.out]; exact Hrd.out) (by rw [← HF.out]; exact hwF))
  rw [← HF.out, ← Hp4.out] at HAns
  have HGd := Lib.hid (wgood_any F x w10 HI.out.ok)
  have hiF := fm_infoR hwF x
  have hoF : (F.cells x).toArray.all (·.oneCell') = true := by rw [List.all_toArray]; exact Fm.one _ _
  have hzF : ZC.size = (F.cells x).toArray.size := by rw [HZC.out, List.size_toArray, List.size_toArray, Fm.len zFm_wf, Fm.len hwF]
  have lFr := HI.out.fr
  unfold FrAt at lFr
  have hfin : ∀ (W : World), Below w10.heap.size w10 W → DecAns K s F 0 → DecR K s w (.returned (.tuple #[.agg (F.cells x).toArray, .int .i64 0])) (W.setRow g2 (F.cells x).toArray) := fun W hW ha => by
    have hW2 := HB10.out.trans (hW.mono HB10.out.size)
    refine ⟨F, x, 0, rfl, ha, ?_, hW2.trans (((Only.refl [g2] W).setRow (g := g2) (by simp) _).below hW2.size (by simp; rw [Hg2.out]; exact Nat.le_refl _))⟩
    have h1 := (HI.out.ok.below hW (Nat.le_refl _)).more hW.size
    have h2 := (Only.refl [g2] W).setRow (g := g2) (by simp) (F.cells x).toArray
    exact ⟨h1.wf, digs_only h1.digs h2 (fun a e => by have := (HI.out.pa a e).2; simp; omega), h1.rngs.only h2 (fun a e => by have := (HI.out.ra a e).2; simp; omega), h1.items.only h2 (fun a e => by have := (HI.out.ia a e).2; simp; omega), h1.mems.only h2 (fun a e => by have := (HI.out.ma a e).2; simp; omega)⟩
  have HFin := Lib.hid hfin
  obtain ⟨R, hR⟩ : ∃ R, R = (F.cells x).toArray := ⟨_, rfl⟩
  rw [← hR] at HGd hiF hoF hzF lFr HFin
  have LFr := Lib.hid lFr
  obtain ⟨gd, hgd⟩ : ∃ g, g = good F := ⟨_, rfl⟩
  rw [← hgd] at HGd HAns
  obtain ⟨pb, hpb⟩ : ∃ b, b = p4.bad := ⟨_, rfl⟩
  obtain ⟨pr, hpr⟩ : ∃ b, b = p4.rest := ⟨_, rfl⟩
  rw [← hpb] at d1 HAns
  rw [← hpr] at d2 HAns
  clear ht hr hwF hfin lFr hR hgd hpb hpr HI HK Hrd Hsum
  cases pb with
  | true =>
    have Hans := Lib.hid (HAns.out.2 (by simp))
    go_wp2_with (first
      | (refine wpList_build0G (by kernel_rfl) 36 rfl ZC hbz ?_)
      | (refine wpList_store_row rfl 36 _ _ rfl g2 ZC rfl rfl 36 ZC HG10.out hiZ rfl hoZ ?_))
    (try simp only [Exit.inBlock, Exit.then])
    refine bodyPost_ret (results_cell_row2 rfl _ _ g2 36 ZC (0, 0) _ rfl (setRow_heap _ _ _ _ _ _ HG10.out) fund rfl hiZ) rfl ?_
    exact HZX.out _ 3 (HB10.out) (Hans.out)
  | false =>
  cases pr with
  | cons y pr =>
    have Hans := Lib.hid (HAns.out.2 (by simp))
    simp only [List.length_cons] at d2
    go_wp2_with (first
      | (refine wpList_build0G (by kernel_rfl) 36 rfl ZC hbz ?_)
      | (refine wpList_store_row rfl 36 _ _ rfl g2 ZC rfl rfl 36 ZC HG10.out hiZ rfl hoZ ?_))
    (try simp only [Exit.inBlock, Exit.then])
    refine bodyPost_ret (results_cell_row2 rfl _ _ g2 36 ZC (0, 0) _ rfl (setRow_heap _ _ _ _ _ _ HG10.out) fund rfl hiZ) rfl ?_
    exact HZX.out _ 3 (HB10.out) (Hans.out)
  | nil =>
  simp only [List.length_nil] at d2
  go_wp2_with (refine wpList_load_rowX (by kernel_rfl) 36 _ rfl qf rfl 36 R (0, 0) _ LFr.out fund rfl hiF ?_)
  refine HGd.out.mono ?_
  rintro e w11 ⟨rfl, hb⟩
  have HB11 := Lib.hid (HB10.out.trans (hb.mono HB10.out.size))
  have HG11 := Lib.hid (below_keep hb HG10.out)
  have LF11 := Lib.hid (below_keep hb LFr.out)
  have Hb := Lib.hid hb
  clear hb HGd d1 d2
  cases gd with
  | false =>
    have Hans := Lib.hid (HAns.out.2 (by simp))
    go_wp2_with (first
      | (refine wpList_build0G (by kernel_rfl) 36 rfl ZC hbz ?_)
      | (refine wpList_store_row rfl 36 _ _ rfl g2 ZC rfl rfl 36 ZC HG11.out hiZ rfl hoZ ?_))
    (try simp only [Exit.inBlock, Exit.then])
    refine bodyPost_ret (results_cell_row2 rfl _ _ g2 36 ZC (0, 0) _ rfl (setRow_heap _ _ _ _ _ _ HG11.out) fund rfl hiZ) rfl ?_
    exact HZX.out _ 3 (HB11.out) (Hans.out)
  | true =>
  have Hans := Lib.hid (HAns.out.1 (by simp))
  go_wp2_with (first
    | (refine wpList_load_row rfl 36 _ rfl qf rfl 36 R (0, 0) _ LF11.out fund rfl hiF ?_)
    | (refine wpList_store_row rfl 36 _ _ rfl g2 R rfl rfl 36 ZC HG11.out hiF hzF hoF ?_))
  (try simp only [Exit.inBlock, Exit.then])
  refine bodyPost_ret (results_cell_row2 rfl _ _ g2 36 R (0, 0) _ rfl (setRow_heap _ _ _ _ _ _ HG11.out) fund rfl hiF) rfl ?_
  exact HFin.out _ Hb.out Hans.out
end Wi
end Go.Proofs.YthcmlbbbbcinkaaDoor
