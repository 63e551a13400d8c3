/-
  CombWrites: of every manifest, raw ones too, the bytes are what the document says; of all bytes the manifest. No condition: every input.
-/
import Derived.Test.YtokdnfhglckpkaaDoorFmH
import Derived.Test.YtokdnfhglckpkaaDoorFmF
import Derived.Test.YtokdnfhglckpkaaDoorRcG
import Derived.Test.YtokdnfhglckpkaaDoorCoG
import Derived.Test.YtokdnfhglckpkaaDoorLwSt
import Derived.Test.YtokdnfhglckpkaaDoorCards
import Derived.Test.YtokdnfhglckpkaaDoorTie
set_option linter.unusedVariables false
set_option linter.unusedSimpArgs false
namespace Go.Proofs.YtokdnfhglckpkaaDoor
open Go.RowKit Pl
attribute [local go_sem] Lb.ba_get Lb.ba_cut Lb.ba_add Lb.ba_size Lb.take_rest

set_option maxHeartbeats 4000000 in
set_option maxRecDepth 100000 in
theorem combWrites_core (m n : ManiD) (s : List UInt8) (w : World) (hL : Laid KK w) (hm : m.Ok w w.heap.size) (hn : n.Ok w w.heap.size) (hs : s.length ≤ 140737488351232) :
    Calls Tryd.prog 7 #[.agg m.row, .agg n.row, .string ⟨s.toArray⟩] w fun e w' => e = .returned (.bool true) ∧ Below w.heap.size w w' := by
  have hmw := hm.whole
  have hnw := hn.whole
  have minf := mani_infoR m hmw
  have ninf := mani_infoR n hnw
  have mc := mani_infoC m hmw
  have nc := mani_infoC n hnw
  have mund := Tryd.underlying27
  have hst := lw_start m n w hL hm hn
  have HDec : Hid (∀ W : World, Calls Tryd.prog 31 #[.string ⟨s.toArray⟩] W (DecPost s W)) := Lib.hid (fun W => decode_any s W hs)
  have HRdc : Hid (∀ W : World, Calls Tryd.prog 32 #[.string ⟨s.toArray⟩] W (DecPost s W)) := Lib.hid (fun W => rdecode_any s W hs)
  clear hL hm hn hs
  go_enter Tryd.func7, Tryd.ntmps7
  go_upto_region 1 with fail
  obtain ⟨q, hq⟩ : ∃ q, q = w.heap.size := ⟨_, rfl⟩
  obtain ⟨p, hp⟩ : ∃ p, p = w.heap.size + 1 := ⟨_, rfl⟩
  obtain ⟨w1, hw1⟩ : ∃ w1, w1 = ((w.alloc (.cells m.row 27)).alloc (.cells n.row 27)) := ⟨_, rfl⟩
  rw [← hw1] at hst ⊢
  rw [← hp, ← hq] at hst
  rw [← hp, ← hq]
  have S1 := Lib.hid hst
  clear hw1 hst hq hp
  go_wp2_with fail
  refine (awake_any KK w1 S1.out.laid).mono ?_
  rintro e w2 ⟨rfl, hB⟩
  have S2 := Lib.hid (S1.out.step hB)
  clear hB S1
  have G2 := Lib.hid (great_any m none 0 [] w2 S2.out.om (strs_nil _ _) (by simp) (by simp))
  go_wp2_with (refine wpList_load_row rfl 27 _ rfl q rfl 27 _ (0, 0) _ S2.out.hq Tryd.underlying27 rfl minf ?_)
  refine G2.out.mono ?_
  rintro e w3 ⟨hor, hB⟩
  have S3 := Lib.hid (S2.out.step hB)
  clear hB S2 G2
  rcases hor with rfl | ⟨rfl, h40, -, -⟩
  · go_wp2_with fail
    go_ret
    exact ⟨rfl, S3.out.below⟩

  have G3 := Lib.hid (great_any n none 0 [] w3 S3.out.on (strs_nil _ _) (by simp) (by simp))
  go_wp2_with (refine wpList_load_rowG (by rfl) 27 _ rfl p rfl 27 _ (0, 0) _ S3.out.hp Tryd.underlying27 rfl ninf ?_)
  refine G3.out.mono ?_
  rintro e w4 ⟨hor, hB⟩
  have S4 := Lib.hid (S3.out.step hB)
  clear hB S3 G3
  rcases hor with rfl | ⟨rfl, h40, -, -⟩
  · go_wp2_with fail
    go_ret
    exact ⟨rfl, S4.out.below⟩
  have HE := Lib.hid (encode_any m w4 S4.out.om)
  have HRE := Lib.hid (fun W h => rencode_any m W h)
  obtain ⟨a, ha⟩ : ∃ a, a = (encS m).1 := ⟨_, rfl⟩
  obtain ⟨e1, he1⟩ : ∃ x, x = (encS m).2 := ⟨_, rfl⟩
  rw [← ha, ← he1] at HE HRE
  clear ha he1
  go_wp2_with (refine wpList_load_row rfl 27 _ rfl q rfl 27 _ (0, 0) _ S4.out.hq Tryd.underlying27 rfl minf ?_)
  refine (HE.out).mono ?_
  rintro e w5 ⟨rfl, hB⟩
  have S5 := Lib.hid (S4.out.step hB)
  clear hB S4
  go_wp2_with (refine wpList_load_row rfl 27 _ rfl q rfl 27 _ (0, 0) _ S5.out.hq Tryd.underlying27 rfl minf ?_)
  refine (HRE.out w5 S5.out.om).mono ?_
  rintro e w6 ⟨rfl, hB⟩
  have S6 := Lib.hid (S5.out.step hB)
  clear hB S5
  go_wp2_with fail
  refine (HDec.out w6).mono ?_
  rintro e w7 ⟨x, g, rfl, hdx, hox, hB⟩
  have S7 := Lib.hid (S6.out.step hB)
  have hxw := hox.whole
  have xinf := mani_infoR x hxw
  have xc := mani_infoC x hxw
  have hx1 := x.row_one
  have hxs := x.row_size hxw
  have Hox := Lib.hid hox
  have Hdx := Lib.hid hdx
  clear hB S6 hox hdx HE HRE HDec
  go_upto_region 8 with (refine wpList_store_row rfl 27 _ _ rfl w7.heap.size x.row rfl rfl 27 _ (heap_alloc_new w7 _) xinf (by rw [hxs]; rfl) hx1 ?_)
  show Code.wp _ _ _ _ ((w7.alloc (.cells zeroMani.row 27)).setRow w7.heap.size x.row)
  have hput := lw_put S7.out x hxw
  obtain ⟨u, hu⟩ : ∃ u, u = w7.heap.size := ⟨_, rfl⟩
  obtain ⟨w8, hw8⟩ : ∃ w8, w8 = ((w7.alloc (.cells zeroMani.row 27)).setRow w7.heap.size x.row) := ⟨_, rfl⟩
  rw [← hw8] at hput ⊢
  rw [← hu] at hput ⊢
  have S8 := Lib.hid (S7.out.step (by rw [← hu]; exact hput.1))
  have Hox8 := Lib.hid (ok_step Hox.out (by rw [← hu]; exact hput.1))
  have Hx8 := Lib.hid hput.2
  clear hput hw8 hu S7 Hox hx1 hxs
  go_wp2_with fail
  refine (HRdc.out w8).mono ?_
  rintro e w9 ⟨y, h, rfl, hdy, hoy, hB⟩
  obtain ⟨hsame, rfl⟩ := Hdx.out.same hdy
  have S9 := Lib.hid (S8.out.step hB)
  have Hox9 := Lib.hid (ok_step Hox8.out hB)
  have Hx9 := Lib.hid (below_keep hB Hx8.out)
  have hyw := hoy.whole
  have yinf := mani_infoR y hyw
  have yc := mani_infoC y hyw
  have hx1 := y.row_one
  have hxs := y.row_size hyw
  have Hoy := Lib.hid hoy
  clear hB S8 hoy hdy Hdx Hox8 Hx8 HRdc
  go_upto_region 9 with (refine wpList_store_row rfl 27 _ _ rfl w9.heap.size y.row rfl rfl 27 _ (heap_alloc_new w9 _) yinf (by rw [hxs]; rfl) hx1 ?_)
  show Code.wp _ _ _ _ ((w9.alloc (.cells zeroMani.row 27)).setRow w9.heap.size y.row)
  have hput := lw_put S9.out y hyw
  obtain ⟨v, hv⟩ : ∃ v, v = w9.heap.size := ⟨_, rfl⟩
  obtain ⟨w10, hw10⟩ : ∃ w10, w10 = ((w9.alloc (.cells zeroMani.row 27)).setRow w9.heap.size y.row) := ⟨_, rfl⟩
  rw [← hw10] at hput ⊢
  rw [← hv] at hput ⊢
  have hB9 : Below w9.heap.size w9 w10 := by rw [← hv]; exact hput.1
  have S10 := Lib.hid (S9.out.step hB9)
  have Hox10 := Lib.hid (ok_step Hox9.out hB9)
  have Hoy10 := Lib.hid (ok_step Hoy.out hB9)
  have Rx := Lib.hid (range_mani (below_keep hB9 Hx9.out))
  have Ry := Lib.hid (range_mani hput.2)
  have hu10 : u < w10.heap.size := heap_lt (below_keep hB9 Hx9.out)
  have hv10 : v < w10.heap.size := heap_lt hput.2
  have Rm := Lib.hid (range_mani S10.out.hq)
  have Rn := Lib.hid (range_mani S10.out.hp)
  have hq10 : q < w10.heap.size := heap_lt S10.out.hq
  have hp10 : p < w10.heap.size := heap_lt S10.out.hp
  have HS1 : Hid (∀ W : World, Below w10.heap.size w10 W → Calls Tryd.prog 20 #[.agg x.row, .agg y.row] W fun e w' => e = .returned (.bool true) ∧ Below W.heap.size W w') := Lib.hid (fun W hW => by
    rw [← hsame]; exact rmsame_any x y W (ok_step Hox10.out hW) (ok_step Hoy10.out hW))
  obtain ⟨b, hb⟩ : ∃ b, b = sameM m n := ⟨_, rfl⟩
  have HS2 : Hid (∀ W : World, Below w10.heap.size w10 W → Calls Tryd.prog 20 #[.agg m.row, .agg n.row] W fun e w' => e = .returned (.bool b) ∧ Below W.heap.size W w') := Lib.hid (fun W hW => by
    rw [hb]; exact rmsame_any m n W (ok_step S10.out.om hW) (ok_step S10.out.on hW))
  have HS3 : Hid (∀ W : World, Below w10.heap.size w10 W → Calls Tryd.prog 33 #[.agg m.row, .agg n.row] W fun e w' => e = .returned (.bool b) ∧ Below W.heap.size W w') := Lib.hid (fun W hW => by
    rw [hb]; exact msame_any m n W (ok_step S10.out.om hW) (ok_step S10.out.on hW))
  have hb1 : (b == b) = true := by simp
  have ha1 : (a == a) = true := by simp
  have he1 : (e1 == e1) = true := by simp
  have hg1 : (g == g) = true := by simp
  clear hput hw10 hv S9 Hox9 Hx9 Hoy hsame hb hB9 hx1 hxs
  refine wp_region_held_drew (S := fun w' => Below w10.heap.size w10 w') (by kernel_rfl) ((Below.refl _ _).drew) (fun hH0 => ?_)
  obtain ⟨W0, hW0⟩ : ∃ W, W = w10.drew := ⟨_, rfl⟩
  rw [← hW0] at hH0 ⊢
  clear hW0
  refine wpAnyH_take (i := 0) (v := ?_) rfl (by kernel_rfl) (by kernel_rfl) (by kernel_rfl) (fun _ _ _ h => h) (Or.inl ⟨by kernel_rfl, ?_⟩) hH0 ?_
  rotate_left 1
  · intro w hSw
    go_simp
    try with_reducible rfl
  try simp only [Act.put, List.getElem_toArray, List.getElem_cons_zero, List.getElem_cons_succ, List.setIfInBounds_toArray, List.set_cons_zero, List.set_cons_succ]
  refine wpAnyH_take (i := 1) (v := ?_) rfl (by kernel_rfl) (by kernel_rfl) (by kernel_rfl) (fun _ _ _ h => h) (Or.inl ⟨by kernel_rfl, ?_⟩) hH0 ?_
  rotate_left 1
  · intro w hSw
    go_simp
    try with_reducible rfl
  try simp only [Act.put, List.getElem_toArray, List.getElem_cons_zero, List.getElem_cons_succ, List.setIfInBounds_toArray, List.set_cons_zero, List.set_cons_succ]
  refine wpAnyH_take (i := 2) (v := ?_) rfl (by kernel_rfl) (by kernel_rfl) (by kernel_rfl) (fun _ _ _ h => h) (Or.inl ⟨by kernel_rfl, ?_⟩) hH0 ?_
  rotate_left 1
  · intro w hSw
    go_simp
    try with_reducible rfl
  try simp only [Act.put, List.getElem_toArray, List.getElem_cons_zero, List.getElem_cons_succ, List.setIfInBounds_toArray, List.set_cons_zero, List.set_cons_succ]
  refine wpAnyH_take (i := 3) (v := ?_) rfl (by kernel_rfl) (by kernel_rfl) (by kernel_rfl) (fun _ _ _ h => h) (Or.inl ⟨by kernel_rfl, ?_⟩) hH0 ?_
  rotate_left 1
  · intro w hSw
    go_simp
    try with_reducible rfl
  try simp only [Act.put, List.getElem_toArray, List.getElem_cons_zero, List.getElem_cons_succ, List.setIfInBounds_toArray, List.set_cons_zero, List.set_cons_succ]
  refine wpAnyH_take (i := 4) (v := ?_) rfl (by kernel_rfl) (by kernel_rfl) (by kernel_rfl) (fun _ _ _ h => h) (Or.inl ⟨by kernel_rfl, ?_⟩) hH0 ?_
  rotate_left 1
  · intro w hSw
    go_simp
    try with_reducible rfl
  try simp only [Act.put, List.getElem_toArray, List.getElem_cons_zero, List.getElem_cons_succ, List.setIfInBounds_toArray, List.set_cons_zero, List.set_cons_succ]
  refine wpAnyH_take (i := 5) (v := ?_) rfl (by kernel_rfl) (by kernel_rfl) (by kernel_rfl) (fun _ _ _ h => h) (Or.inl ⟨by kernel_rfl, ?_⟩) hH0 ?_
  rotate_left 1
  · intro w hSw
    go_simp
    try with_reducible rfl
  try simp only [Act.put, List.getElem_toArray, List.getElem_cons_zero, List.getElem_cons_succ, List.setIfInBounds_toArray, List.set_cons_zero, List.set_cons_succ]
  refine wpAnyH_take (i := 6) (v := ?_) rfl (by kernel_rfl) (by kernel_rfl) (by kernel_rfl) (fun _ _ _ h => h) (Or.inl ⟨by kernel_rfl, ?_⟩) hH0 ?_
  rotate_left 1
  · intro w hSw
    go_simp
    try with_reducible rfl
  try simp only [Act.put, List.getElem_toArray, List.getElem_cons_zero, List.getElem_cons_succ, List.setIfInBounds_toArray, List.set_cons_zero, List.set_cons_succ]
  refine wpAnyH_take (i := 7) (v := ?_) rfl (by kernel_rfl) (by kernel_rfl) (by kernel_rfl) (fun _ _ _ h => h) (Or.inl ⟨by kernel_rfl, ?_⟩) hH0 ?_
  rotate_left 1
  · intro w hSw
    go_simp
    try with_reducible rfl
  try simp only [Act.put, List.getElem_toArray, List.getElem_cons_zero, List.getElem_cons_succ, List.setIfInBounds_toArray, List.set_cons_zero, List.set_cons_succ]
  refine wpAnyH_take (i := 8) (v := ?_) rfl (by kernel_rfl) (by kernel_rfl) (by kernel_rfl) (fun _ _ _ h => h) (Or.inl ⟨by kernel_rfl, ?_⟩) hH0 ?_
  rotate_left 1
  · intro w hSw
    go_simp
    try with_reducible rfl
  try simp only [Act.put, List.getElem_toArray, List.getElem_cons_zero, List.getElem_cons_succ, List.setIfInBounds_toArray, List.set_cons_zero, List.set_cons_succ]
  refine wpAnyH_take (i := 9) (v := _) rfl (by kernel_rfl) (by kernel_rfl) (by kernel_rfl) (fun _ _ _ h => h) (yieldsIf_load_mid (by kernel_rfl) _ _ rfl _ _ rfl x.cells _ (fun W hW => range_below Rx.out hW hu10) mund rfl xc) hH0 ?_
  try simp only [Act.put, List.getElem_toArray, List.getElem_cons_zero, List.getElem_cons_succ, List.setIfInBounds_toArray, List.set_cons_zero, List.set_cons_succ]
  refine wpAnyH_take (i := 10) (v := _) rfl (by kernel_rfl) (by kernel_rfl) (by kernel_rfl) (fun _ _ _ h => h) (yieldsIf_load_mid (by kernel_rfl) _ _ rfl _ _ rfl y.cells _ (fun W hW => range_below Ry.out hW hv10) mund rfl yc) hH0 ?_
  try simp only [Act.put, List.getElem_toArray, List.getElem_cons_zero, List.getElem_cons_succ, List.setIfInBounds_toArray, List.set_cons_zero, List.set_cons_succ]
  refine wpAnyH_ready (rs := [11]) (by kernel_rfl) (by simp) ?_
  refine AllReadyH.cons rfl (fun K_ hK => ?_) ?_
  · go_simp
    refine (HS1.out _ hH0).mono ?_
    rintro e W1 ⟨rfl, hb1⟩
    refine hK.out _ _ ((hH0).trans (hb1.mono (hH0).size)) (fun hH1 => ?_)
    clear hK K_
    try simp only [Act.put, List.getElem_toArray, List.getElem_cons_zero, List.getElem_cons_succ, List.setIfInBounds_toArray, List.set_cons_zero, List.set_cons_succ]
    refine wpAnyH_take (i := 12) (v := ?_) rfl (by kernel_rfl) (by kernel_rfl) (by kernel_rfl) (fun _ _ _ h => h) (Or.inl ⟨by kernel_rfl, ?_⟩) hH1 ?_
    rotate_left 1
    · intro w hSw
      go_simp
      try with_reducible rfl
    try simp only [Act.put, List.getElem_toArray, List.getElem_cons_zero, List.getElem_cons_succ, List.setIfInBounds_toArray, List.set_cons_zero, List.set_cons_succ]
    refine wpAnyH_take (i := 13) (v := ?_) rfl (by kernel_rfl) (by kernel_rfl) (by kernel_rfl) (fun _ _ _ h => h) (Or.inl ⟨by kernel_rfl, ?_⟩) hH1 ?_
    rotate_left 1
    · intro w hSw
      go_simp
      try with_reducible rfl
    try simp only [Act.put, List.getElem_toArray, List.getElem_cons_zero, List.getElem_cons_succ, List.setIfInBounds_toArray, List.set_cons_zero, List.set_cons_succ]
    refine wpAnyH_take (i := 14) (v := ?_) rfl (by kernel_rfl) (by kernel_rfl) (by kernel_rfl) (fun _ _ _ h => h) (Or.inl ⟨by kernel_rfl, ?_⟩) hH1 ?_
    rotate_left 1
    · intro w hSw
      go_simp
      try with_reducible rfl
    try simp only [Act.put, List.getElem_toArray, List.getElem_cons_zero, List.getElem_cons_succ, List.setIfInBounds_toArray, List.set_cons_zero, List.set_cons_succ]
    refine wpAnyH_take (i := 15) (v := ?_) rfl (by kernel_rfl) (by kernel_rfl) (by kernel_rfl) (fun _ _ _ h => h) (Or.inl ⟨by kernel_rfl, ?_⟩) hH1 ?_
    rotate_left 1
    · intro w hSw
      go_simp
      try with_reducible rfl
    try simp only [Act.put, List.getElem_toArray, List.getElem_cons_zero, List.getElem_cons_succ, List.setIfInBounds_toArray, List.set_cons_zero, List.set_cons_succ]
    refine wpAnyH_take (i := 16) (v := ?_) rfl (by kernel_rfl) (by kernel_rfl) (by kernel_rfl) (fun _ _ _ h => h) (Or.inl ⟨by kernel_rfl, ?_⟩) hH1 ?_
    rotate_left 1
    · intro w hSw
      go_simp
      try with_reducible rfl
    try simp only [Act.put, List.getElem_toArray, List.getElem_cons_zero, List.getElem_cons_succ, List.setIfInBounds_toArray, List.set_cons_zero, List.set_cons_succ]
    refine wpAnyH_take (i := 17) (v := ?_) rfl (by kernel_rfl) (by kernel_rfl) (by kernel_rfl) (fun _ _ _ h => h) (Or.inl ⟨by kernel_rfl, ?_⟩) hH1 ?_
    rotate_left 1
    · intro w hSw
      go_simp
      try with_reducible rfl
    try simp only [Act.put, List.getElem_toArray, List.getElem_cons_zero, List.getElem_cons_succ, List.setIfInBounds_toArray, List.set_cons_zero, List.set_cons_succ]
    refine wpAnyH_take (i := 18) (v := ?_) rfl (by kernel_rfl) (by kernel_rfl) (by kernel_rfl) (fun _ _ _ h => h) (Or.inl ⟨by kernel_rfl, ?_⟩) hH1 ?_
    rotate_left 1
    · intro w hSw
      go_simp
      try with_reducible rfl
    try simp only [Act.put, List.getElem_toArray, List.getElem_cons_zero, List.getElem_cons_succ, List.setIfInBounds_toArray, List.set_cons_zero, List.set_cons_succ]
    refine wpAnyH_take (i := 19) (v := _) rfl (by kernel_rfl) (by kernel_rfl) (by kernel_rfl) (fun _ _ _ h => h) (yieldsIf_load_mid (by kernel_rfl) _ _ rfl _ _ rfl m.cells _ (fun W hW => range_below Rm.out hW hq10) mund rfl mc) hH1 ?_
    try simp only [Act.put, List.getElem_toArray, List.getElem_cons_zero, List.getElem_cons_succ, List.setIfInBounds_toArray, List.set_cons_zero, List.set_cons_succ]
    refine wpAnyH_take (i := 20) (v := _) rfl (by kernel_rfl) (by kernel_rfl) (by kernel_rfl) (fun _ _ _ h => h) (yieldsIf_load_mid (by kernel_rfl) _ _ rfl _ _ rfl n.cells _ (fun W hW => range_below Rn.out hW hp10) mund rfl nc) hH1 ?_
    try simp only [Act.put, List.getElem_toArray, List.getElem_cons_zero, List.getElem_cons_succ, List.setIfInBounds_toArray, List.set_cons_zero, List.set_cons_succ]
    refine wpAnyH_take (i := 22) (v := _) rfl (by kernel_rfl) (by kernel_rfl) (by kernel_rfl) (fun _ _ _ h => h) (yieldsIf_load_mid (by kernel_rfl) _ _ rfl _ _ rfl m.cells _ (fun W hW => range_below Rm.out hW hq10) mund rfl mc) hH1 ?_
    try simp only [Act.put, List.getElem_toArray, List.getElem_cons_zero, List.getElem_cons_succ, List.setIfInBounds_toArray, List.set_cons_zero, List.set_cons_succ]
    refine wpAnyH_take (i := 23) (v := _) rfl (by kernel_rfl) (by kernel_rfl) (by kernel_rfl) (fun _ _ _ h => h) (yieldsIf_load_mid (by kernel_rfl) _ _ rfl _ _ rfl n.cells _ (fun W hW => range_below Rn.out hW hp10) mund rfl nc) hH1 ?_
    try simp only [Act.put, List.getElem_toArray, List.getElem_cons_zero, List.getElem_cons_succ, List.setIfInBounds_toArray, List.set_cons_zero, List.set_cons_succ]
    refine wpAnyH_ready (rs := [21]) (by kernel_rfl) (by simp) ?_
    refine AllReadyH.cons rfl (fun K_ hK => ?_) ?_
    · go_simp
      refine (HS3.out _ hH1).mono ?_
      rintro e W2 ⟨rfl, hb2⟩
      refine hK.out _ _ ((hH1).trans (hb2.mono (hH1).size)) (fun hH2 => ?_)
      clear hK K_
      try simp only [Act.put, List.getElem_toArray, List.getElem_cons_zero, List.getElem_cons_succ, List.setIfInBounds_toArray, List.set_cons_zero, List.set_cons_succ]
      refine wpAnyH_ready (rs := [24]) (by kernel_rfl) (by simp) ?_
      refine AllReadyH.cons rfl (fun K_ hK => ?_) ?_
      · go_simp
        refine (HS2.out _ hH2).mono ?_
        rintro e W3 ⟨rfl, hb3⟩
        refine hK.out _ _ ((hH2).trans (hb3.mono (hH2).size)) (fun hH3 => ?_)
        clear hK K_
        try simp only [Act.put, List.getElem_toArray, List.getElem_cons_zero, List.getElem_cons_succ, List.setIfInBounds_toArray, List.set_cons_zero, List.set_cons_succ]
        refine wpAnyH_take (i := 25) (v := ?_) rfl (by kernel_rfl) (by kernel_rfl) (by kernel_rfl) (fun _ _ _ h => h) (Or.inl ⟨by kernel_rfl, ?_⟩) hH3 ?_
        rotate_left 1
        · intro w hSw
          go_simp
          try with_reducible rfl
        try simp only [Act.put, List.getElem_toArray, List.getElem_cons_zero, List.getElem_cons_succ, List.setIfInBounds_toArray, List.set_cons_zero, List.set_cons_succ]
        refine wpAnyH_take (i := 26) (v := ?_) rfl (by kernel_rfl) (by kernel_rfl) (by kernel_rfl) (fun _ _ _ h => h) (Or.inl ⟨by kernel_rfl, ?_⟩) hH3 ?_
        rotate_left 1
        · intro w hSw
          go_simp
          try with_reducible rfl
        try simp only [Act.put, List.getElem_toArray, List.getElem_cons_zero, List.getElem_cons_succ, List.setIfInBounds_toArray, List.set_cons_zero, List.set_cons_succ]
        refine wpAnyH_take (i := 27) (v := ?_) rfl (by kernel_rfl) (by kernel_rfl) (by kernel_rfl) (fun _ _ _ h => h) (Or.inl ⟨by kernel_rfl, ?_⟩) hH3 ?_
        rotate_left 1
        · intro w hSw
          go_simp
          try with_reducible rfl
        try simp only [Act.put, List.getElem_toArray, List.getElem_cons_zero, List.getElem_cons_succ, List.setIfInBounds_toArray, List.set_cons_zero, List.set_cons_succ]
        refine wpAnyH_done (by kernel_rfl) ?_ _
        have HE := Lib.hid (S10.out.below.trans (hH3.mono S10.out.below.size))
        clear hH3
        go_wp2_with fail
        go_ret
        exact ⟨rfl, HE.out⟩
      exact AllReadyH.nil
    exact AllReadyH.nil
  exact AllReadyH.nil

namespace CombWritesLaw
open Go.ChangeShapes Go.WideShapes Go.ChangeAt
open Go.ChangeMaps (open_string shut_string)
set_option maxRecDepth 100000 in
theorem contract (H : Type) (enc : TypeId × Value → H) (W : World) (base : Nat) (args : Array Value) (ds gs : List (DataW H)) (before : List MemPlace)
    (hval : ∀ (j : Nat) t v, Tryd.f7.params[j]? = some t → args[j]? = some v → Value.okWide Tryd.prog W .any base t v)
    (hW : DataW.Whole enc Tryd.prog Tryd.f7.params.toList Rows.combWritesSpec.vars false W args.toList ds gs before) (hsz0 : (DataW.weightsEach Tryd.prog (Tryd.f7.params.toList ++ Rows.combWritesSpec.plain.varTypes Tryd.prog) (ds ++ gs)).all (· ≤ reachBytes) = true) (hLd : laidMetH Tryd.prog laid1 W) :
    Calls Tryd.prog 7 args W fun e W' => ∃ v, e = .returned v ∧ Rows.combWritesSpec.post enc Tryd.prog Tryd.f7 false true false false W args v W' := by
  have hW' := hW
  obtain ⟨p, q, hA0, hV, rfl, hfz, hnd⟩ := hW
  have hA : DataW.TrodAll enc Tryd.prog W 0 (fun _ => true) true Tryd.f7.params.toList args.toList ds p := hA0
  rw [Tryd.params7] at hA hval
  obtain ⟨v0, vs0, d0, ds0, p0, q0, hargs, rfl, rfl, h0, r0⟩ := trodAll_cons hA
  obtain ⟨v1, vs1, d1, ds1, p1, q1, rfl, rfl, rfl, h1, r1⟩ := trodAll_cons r0
  obtain ⟨v2, vs2, d2, ds2, p2, q2, rfl, rfl, rfl, h2, r2⟩ := trodAll_cons r1
  obtain ⟨rfl, rfl, rfl⟩ := trodAll_nil r2
  obtain rfl : args = #[v0, v1, v2] := by cases args; simp_all
  obtain ⟨rfl, rfl⟩ := trodVars_none hV
  obtain ⟨m0, rfl, hm0⟩ := open_mani (hval 0 27 v0 rfl rfl) h0
  obtain ⟨m1, rfl, hm1⟩ := open_mani (hval 1 27 v1 rfl rfl) h1
  obtain ⟨s2, rfl, hd2, _, hs2⟩ := open_string Tryd.underlying9 (hval 2 9 v2 rfl rfl) h2
  obtain ⟨x2, rfl, hx2, hy2⟩ := as_list s2
  have z2 : x2.length ≤ 140737488351232 := by
    have := sized_string hsz0 (j := 2) (t := 9) (bytes := x2) (by simp [Tryd.params7]) (by rw [hd2, hx2]; rfl)
    simpa [reachBytes] using this
  refine (combWrites_core m0 m1 x2 W (of_laid hLd) hm0 hm1 z2).mono fun e W' ⟨he, hg⟩ => ?_
  subst he
  exact ⟨_, rfl, law_post (tb := 4) laidOut_ (of_decide_eq_true (by kernel_rfl)) Tryd.underlying4 (by kernel_rfl) rfl rfl hW' hg⟩

theorem door_met (os : Os) (args : Array Value) : laidMetH Tryd.prog laid1 ((World.doorLaid Tryd.prog 400 os).forCall (fun _ _ => 0) ⟨#[], args, []⟩).memory :=
  laidMetH_of_parts3 (fuel := 8) (laidMet_of_run' 8 (by kernel_rfl) (by kernel_rfl)) (by kernel_rfl) (by kernel_rfl)

set_option maxRecDepth 100000 in
theorem lifted (os : Os) (started : os.Started) (H : Type) (enc : TypeId × Value → H) :
    ReturnsInHanded {} Tryd.checked os 7 .any (fun w args => (Rows.combWritesSpec.pre enc Tryd.prog Tryd.f7 [] false w args ∧ laidMetH Tryd.prog laid1 w) ∧ sizedMet enc Tryd.prog Tryd.f7 (OpenSpec.ofChange Rows.combWritesSpec) false w args)
      (Rows.combWritesSpec.post enc Tryd.prog Tryd.f7 false true false false) := by
  refine returnsInHanded_of_change_and (C := Tryd.checked) (X := fun w _ => laidMetH Tryd.prog laid1 w) (fun _ _ _ hh h => h.of_heap hh) ownKnob_ started (by kernel_rfl) Tryd.func7
    (ChangeSpec.witness_shaped (enc := enc) (C := Tryd.checked) (os := os) (X := fun w _ => laidMetH Tryd.prog laid1 w) false (World.doorLaid Tryd.prog 400 os) #[.agg zeroMani.row, .agg zeroMani.row, .string .empty] 8 rfl (World.shaped_of_RefB (by kernel_rfl) (by kernel_rfl)) (by kernel_rfl) (by kernel_rfl) (by kernel_rfl) (door_met os _)) ?_
  intro W base args ds gs before hval hW _ hsz hLd _
  exact contract H enc W base args ds gs before hval hW hsz hLd

theorem said : Rows.CombWritesSaid :=
  OpenClaim.holds_of_wide 7 Tryd.f7 rfl rfl rfl rfl rfl rfl rfl ⟨rfl, rfl, rfl, rfl, rfl⟩ rfl rfl rfl rfl rfl (by kernel_rfl) Tryd.func7 (by kernel_rfl)
    (of_decide_eq_true (by kernel_rfl)) (by unfold Func.isWrapper; first | (rw [if_pos (by decide +kernel)]; kernel_rfl) | (rw [if_neg (by decide +kernel)]; exact ⟨rfl, rfl⟩))
    (fun os started H enc _ => lifted os started H enc)

theorem proved : Rows.CombWritesCardSaid :=
  Claim7.holds_tied_plain_at .later [] [.data] true Rows.combWritesCard.stood.harness false
    said (fun _ h => by cases h) (by kernel_rfl) (fun _ h => by cases h) combWrites_row_tie rfl ⟨rfl, rfl⟩ (by kernel_rfl) rfl
    (fun f fn hf hfn => by
      obtain rfl : f = 7 := Option.some.inj ((show Tryd.prog.funcNamed "apiary/apiarylaw03.CombWrites" = some 7 by kernel_rfl).symm.trans hf) |>.symm
      obtain rfl : fn = Tryd.f7 := (Option.some.inj (Tryd.func7.symm.trans hfn)).symm
      exact ⟨by kernel_rfl, fun j t ht => by
        rw [Tryd.params7] at ht
        have hm : t ∈ [27, 27, 9] := by simpa using Array.mem_of_getElem? ht
        have hall : ([27, 27, 9].all fun u => !Tryd.prog.wantsStandIn u) = true := by kernel_rfl
        exact (show Tryd.prog.wantsStandIn t = false by simpa using List.all_eq_true.1 hall t hm)⟩)
    (by kernel_rfl)
end CombWritesLaw

end Go.Proofs.YtokdnfhglckpkaaDoor
