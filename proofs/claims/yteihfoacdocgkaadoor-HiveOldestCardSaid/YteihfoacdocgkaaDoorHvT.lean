/-
  Layer 5 (hive): the walk of put, whatever room answers.
-/
import Derived.Test.YteihfoacdocgkaaDoorHvR
set_option linter.unusedVariables false
set_option linter.unusedSimpArgs false
namespace Go.Proofs.YteihfoacdocgkaaDoor
open Go.RowKit Pl Sh
attribute [local go_sem] Lb.ba_get Lb.ba_cut Lb.ba_add Lb.ba_size Lb.take_rest

set_option maxHeartbeats 4000000 in
set_option maxRecDepth 100000 in
theorem hput_err (q : HvP) (d d2 : HvD) (NC : Array Value) (row : List UInt8) (er a0 : Int) (w : World) (h : HvAt w q d) (he : er ≠ 0)
    (hroom : ∀ W, HvAt W q d → Calls Tryd.prog 126 #[.pointer (some ⟨q.p, 0, none⟩)] W fun e w' => e = .returned (.tuple #[.int .i64 a0, .int .i64 er]) ∧ HvAt w' q d2 ∧ Only (q.own d.L) W w') :
    Calls Tryd.prog 68 #[.pointer (some ⟨q.p, 0, none⟩), .agg NC, .string ⟨row.toArray⟩] w fun e w' => e = .returned (.int .i64 er) ∧ HvAt w' q d2 ∧ Only (q.own d.L) w w' := by
  have hb1 := (Below.refl w.heap.size w).alloc (Nat.le_refl _) (.cells NC 127)
  have h1 := h.below hb1
  have hr := Lib.hid (hroom _ h1)
  have Hb1 := Lib.hid hb1
  have hen : (er != 0) = true := by simpa using he
  clear h hb1 h1 hroom he
  go_enter Tryd.func68, Tryd.ntmps68
  go_wp2_with fail
  refine hr.out.mono ?_
  rintro e w2 ⟨rfl, h2, hO2⟩
  have H2 := Lib.hid h2
  have HO2 := Lib.hid hO2
  clear hr h2 hO2
  go_wp2_with fail
  go_ret
  exact ⟨rfl, H2.out, (Only.of_below Hb1.out).trans HO2.out⟩

def PutGPost (K : List Int) (w : World) (q : HvP) (d d2 : HvD) (isB : Bool) (id row : List UInt8) (m : Nat) (e : Ending) (w' : World) : Prop :=
  Only (q.own d.L) w w' ∧
  ((St.writeErr d2.s m (textS K row) ≠ 0 ∧ e = .returned (.int .i64 (St.writeErr d2.s m (textS K row))) ∧ HvAt w' q { d2 with s := St.write d2.s m (textS K row), dead := d2.dead || (St.writeErr d2.s m (textS K row) == 10) }) ∨
   (St.writeErr d2.s m (textS K row) = 0 ∧ e = .returned (.int .i64 0) ∧ ∃ blk, w.heap.size ≤ blk ∧ HvAt w' q { d2 with s := St.write d2.s m (textS K row), L := d2.L ++ [⟨isB, id, m, ((d2.clk + 1 : Nat) : Int), row, blk⟩], clk := d2.clk + 1 }))
set_option maxHeartbeats 4000000 in
set_option maxRecDepth 100000 in
theorem hput_gen (K : List Int) (q : HvP) (d d2 : HvD) (isB : Bool) (id row : List UInt8) (m : Nat) (w : World) (h : HvAt w q d) (hL : Laid K w) (h0 : 0 ∉ q.own d.L)
    (hroom : ∀ W, HvAt W q d → Calls Tryd.prog 126 #[.pointer (some ⟨q.p, 0, none⟩)] W fun e w' => e = .returned (.tuple #[.int .i64 m, .int .i64 0]) ∧ HvAt w' q d2 ∧ Only (q.own d.L) W w')
    (hm : m < 1000) (hfree : ∀ e ∈ d2.L, e.at_ ≠ m) (hid : id.length = 32) (hrow : row.length ≤ 600) (hk : ∀ e ∈ d2.L, (e.isB, e.id) ≠ (isB, id)) (hc : d2.clk < 1000000) (hfit : d2.s.pw.fits 2) :
    Calls Tryd.prog 68 #[.pointer (some ⟨q.p, 0, none⟩), .agg (Value.bool isB :: byV id).toArray, .string ⟨row.toArray⟩] w (PutGPost K w q d d2 isB id row m) := by
  obtain ⟨NC, hNC⟩ : ∃ x, x = (Value.bool isB :: byV id).toArray := ⟨_, rfl⟩
  have hNl : NC.size = 33 := by rw [hNC]; simp [byV_length, hid]
  have hb1 := (Below.refl w.heap.size w).alloc (Nat.le_refl _) (.cells NC 127)
  have hn0 := heap_alloc_new w (.cells NC 127)
  have h1 := h.below hb1
  have hL1 := hL.below hb1
  obtain ⟨w1, hw1⟩ : ∃ y, y = w.alloc (.cells NC 127) := ⟨_, rfl⟩
  obtain ⟨n0, hn⟩ : ∃ y, y = w.heap.size := ⟨_, rfl⟩
  rw [← hw1] at h1 hn0 hb1 hL1
  rw [← hn] at hn0
  have hr := Lib.hid (hroom w1 h1)
  have hOth : ∀ W, (Only (q.own d.L) w1 W) → Laid K W := fun W hW => hL1.only hW h0
  have hlt := h.lt
  have hsub : ∀ k ∈ [q.p, q.b, q.g, q.ma, q.mt], k ∈ q.own d.L := by
    have mm := @own_mem q d.L
    intro k hk
    simp at hk
    rcases hk with rfl | rfl | rfl | rfl | rfl
    · exact mm.1
    · exact mm.2.2.2.2.1
    · exact mm.2.2.2.2.2.1
    · exact mm.2.1
    · exact mm.2.2.1
  have Hsub := Lib.hid hsub
  have Hn0 := Lib.hid hn0
  have Hb1 := Lib.hid hb1
  have Hn := Lib.hid hn
  have Hw1 := Lib.hid hw1
  have HNC := Lib.hid hNC
  have Hk := Lib.hid hk
  have Hfree := Lib.hid hfree
  have Hid' := Lib.hid hid
  have Hlt := Lib.hid hlt
  have Hfit := Lib.hid hfit
  have NDIX : Hid ((Tryd.prog.info? 127).map (·.size) = some NC.size) := Lib.hid (by rw [name_info, hNl])
  obtain ⟨tx, htx⟩ : ∃ t, t = textS K row := ⟨_, rfl⟩
  have htl : tx.length ≤ 632 := by rw [htx]; unfold textS; rw [List.length_append, hashB_length]; omega
  have Htx := Lib.hid htx
  have HOth := Lib.hid hOth
  unfold PutGPost
  rw [← htx]
  obtain ⟨s1, hs1⟩ : ∃ s, s = St.write d2.s (m : Int) tx := ⟨_, rfl⟩
  obtain ⟨e1, he1⟩ : ∃ e, e = St.writeErr d2.s (m : Int) tx := ⟨_, rfl⟩
  rw [← hs1, ← he1]
  have Hs1 := Lib.hid hs1
  have He1 := Lib.hid he1
  rw [← hNC]
  clear h h1 hL hL1 hb1 hn hw1 hn0 hNC hk hfree hid hlt hNl htx hOth h0 hroom hfit hs1 he1 hsub
  go_enter Tryd.func68, Tryd.ntmps68
  go_upto_region 1 with fail
  rw [← Hw1.out, ← Hn.out]
  go_wp2_with fail
  refine hr.out.mono ?_
  rintro e w2 ⟨rfl, h2, hO2⟩
  have H2 := Lib.hid h2
  have HO2 := Lib.hid hO2
  have c0 := (hv_cells h2).1
  clear hr h2 hO2
  go_upto_region 4 with fail
  have htext := Lib.hid (fun W (hW : Only (q.own d.L) w1 W) => htext_any K row W (HOth.out W hW) (by omega))
  rw [← Htx.out] at htext
  refine wp_region_held_drew (S := fun w' => Only (q.own d.L) w1 w' ∧ w'.cell? ⟨q.p, 0, none⟩ = some (.pointer (some ⟨q.b, 0, none⟩))) (by kernel_rfl) ⟨HO2.out.drew, c0⟩ (fun hH0 => ?_)
  obtain ⟨W0, hW0⟩ : ∃ W, W = w2.drew := ⟨_, rfl⟩
  have hA0 : Hid (HvAt W0 q d2) := Lib.hid (by rw [hW0]; exact H2.out.keep (fun k hk => rfl))
  rw [← hW0] at hH0 ⊢
  clear hW0
  refine wpAnyH_take (i := 0) (v := ?_) rfl (by kernel_rfl) (by kernel_rfl) (by kernel_rfl) (fun _ _ _ h => h) (Or.inl ⟨by kernel_rfl, ?_⟩) hH0 ?_
  rotate_left 1
  · intro w hSw
    go_simp
    try with_reducible rfl
  try simp only [Act.put, List.getElem_toArray, List.getElem_cons_zero, List.getElem_cons_succ, List.setIfInBounds_toArray, List.set_cons_zero, List.set_cons_succ]
  refine wpAnyH_take (i := 1) (v := ?_) rfl (by kernel_rfl) (by kernel_rfl) (by kernel_rfl) (fun _ _ _ h => h) (Or.inl ⟨by kernel_rfl, ?_⟩) hH0 ?_
  rotate_left 1
  · intro w hSw
    go_simp
    try with_reducible rfl
  try simp only [Act.put, List.getElem_toArray, List.getElem_cons_zero, List.getElem_cons_succ, List.setIfInBounds_toArray, List.set_cons_zero, List.set_cons_succ]
  refine wpAnyH_take (i := 2) (v := ?_) rfl (by kernel_rfl) (by kernel_rfl) (by kernel_rfl) (fun _ _ _ h => h) (Or.inl ⟨by kernel_rfl, ?_⟩) hH0 ?_
  rotate_left 1
  · intro w hSw
    go_simp
    try with_reducible rfl
  try simp only [Act.put, List.getElem_toArray, List.getElem_cons_zero, List.getElem_cons_succ, List.setIfInBounds_toArray, List.set_cons_zero, List.set_cons_succ]
  refine wpAnyH_take (i := 3) (v := ?_) rfl (by kernel_rfl) (by kernel_rfl) (by kernel_rfl) (fun _ _ _ h => h) (Or.inl ⟨by kernel_rfl, ?_⟩) hH0 ?_
  rotate_left 1
  · intro w hSw
    go_simp
    try with_reducible rfl
  try simp only [Act.put, List.getElem_toArray, List.getElem_cons_zero, List.getElem_cons_succ, List.setIfInBounds_toArray, List.set_cons_zero, List.set_cons_succ]
  refine wpAnyH_take (i := 4) (v := ?_) rfl (by kernel_rfl) (by kernel_rfl) (by kernel_rfl) (fun _ _ _ h => h) (Or.inl ⟨by kernel_rfl, ?_⟩) hH0 ?_
  rotate_left 1
  · intro w hSw
    have f0 := hSw.2
    go_simp
    try with_reducible rfl
  try simp only [Act.put, List.getElem_toArray, List.getElem_cons_zero, List.getElem_cons_succ, List.setIfInBounds_toArray, List.set_cons_zero, List.set_cons_succ]
  refine wpAnyH_take (i := 5) (v := ?_) rfl (by kernel_rfl) (by kernel_rfl) (by kernel_rfl) (fun _ _ _ h => h) (Or.inl ⟨by kernel_rfl, ?_⟩) hH0 ?_
  rotate_left 1
  · intro w hSw
    go_simp
    try with_reducible rfl
  try simp only [Act.put, List.getElem_toArray, List.getElem_cons_zero, List.getElem_cons_succ, List.setIfInBounds_toArray, List.set_cons_zero, List.set_cons_succ]
  refine wpAnyH_take (i := 6) (v := ?_) rfl (by kernel_rfl) (by kernel_rfl) (by kernel_rfl) (fun _ _ _ h => h) (Or.inl ⟨by kernel_rfl, ?_⟩) hH0 ?_
  rotate_left 1
  · intro w hSw
    go_simp
    try with_reducible rfl
  try simp only [Act.put, List.getElem_toArray, List.getElem_cons_zero, List.getElem_cons_succ, List.setIfInBounds_toArray, List.set_cons_zero, List.set_cons_succ]
  refine wpAnyH_ready (rs := [7]) (by kernel_rfl) (by simp) ?_
  refine AllReadyH.cons rfl (fun K_ hK => ?_) ?_
  · go_simp
    refine (htext.out W0 hH0.1).mono ?_
    rintro e W1 ⟨rfl, hb1⟩
    have hA1 := Lib.hid (hA0.out.below hb1)
    have hS1 : Only (q.own d.L) w1 W1 ∧ W1.cell? ⟨q.p, 0, none⟩ = some (.pointer (some ⟨q.b, 0, none⟩)) := ⟨(Only.trans hH0.1 (Only.of_below hb1)), (hv_cells hA1.out).1⟩
    clear hA0
    refine hK.out _ _ hS1 (fun hH1 => ?_)
    clear hK K_
    try simp only [Act.put, List.getElem_toArray, List.getElem_cons_zero, List.getElem_cons_succ, List.setIfInBounds_toArray, List.set_cons_zero, List.set_cons_succ]
    refine wpAnyH_ready (rs := [8]) (by kernel_rfl) (by simp) ?_
    refine AllReadyH.cons rfl (fun K_ hK => ?_) ?_
    · go_simp
      refine (write_any q.b q.g d2.s (m : Int) tx W1 hA1.out.sh Hfit.out (by omega)).mono ?_
      rintro e W2 ⟨rfl, hsh2, hO2⟩
      have hA2 := Lib.hid (hv_shelf hA1.out hO2 hsh2)
      have hS2 : Only (q.own d.L) w1 W2 ∧ W2.cell? ⟨q.p, 0, none⟩ = some (.pointer (some ⟨q.b, 0, none⟩)) := ⟨hH1.1.trans (hO2.mono (fun k hk => Hsub.out k (by simp at hk ⊢; omega))), (hv_cells hA2.out).1⟩
      rw [← He1.out]
      rw [← Hs1.out] at hA2
      clear hsh2 hO2 hA1
      refine hK.out _ _ hS2 (fun hH2 => ?_)
      clear hK K_
      try simp only [Act.put, List.getElem_toArray, List.getElem_cons_zero, List.getElem_cons_succ, List.setIfInBounds_toArray, List.set_cons_zero, List.set_cons_succ]
      refine wpAnyH_ready (rs := [9]) (by kernel_rfl) (by simp) ?_
      refine AllReadyH.cons rfl (fun K_ hK => ?_) ?_
      · go_simp
        refine (did_any q _ e1 W2 hA2.out).mono ?_
        rintro e W3 ⟨rfl, hd3, hO3⟩
        have hA3 := Lib.hid hd3
        have hS3 : Only (q.own d.L) w1 W3 ∧ W3.cell? ⟨q.p, 0, none⟩ = some (.pointer (some ⟨q.b, 0, none⟩)) := ⟨hH2.1.trans (hO3.mono (fun k hk => Hsub.out k (by simp at hk ⊢; omega))), (hv_cells hA3.out).1⟩
        clear hd3 hO3 hA2
        refine hK.out _ _ hS3 (fun hH3 => ?_)
        clear hK K_
        try simp only [Act.put, List.getElem_toArray, List.getElem_cons_zero, List.getElem_cons_succ, List.setIfInBounds_toArray, List.set_cons_zero, List.set_cons_succ]
        refine wpAnyH_take (i := 10) (v := ?_) rfl (by kernel_rfl) (by kernel_rfl) (by kernel_rfl) (fun _ _ _ h => h) (Or.inl ⟨by kernel_rfl, ?_⟩) hH3 ?_
        rotate_left 1
        · intro w hSw
          go_simp
          try with_reducible rfl
        try simp only [Act.put, List.getElem_toArray, List.getElem_cons_zero, List.getElem_cons_succ, List.setIfInBounds_toArray, List.set_cons_zero, List.set_cons_succ]
        refine wpAnyH_done (by kernel_rfl) ?_ _
        have HH := Lib.hid (hH3).1
        obtain ⟨w5, hw5⟩ : ∃ y, y = W3 := ⟨_, rfl⟩
        rw [← hw5] at HH hA3 ⊢
        clear hH3 hw5 htext c0
        by_cases hz : e1 = 0
        · have Hz := Lib.hid hz
          have e1b : (e1 != 0) = false := by simpa using hz
          have hA5 : HvAt w5 q { d2 with s := s1 } := by
            have h := hA3.out
            rwa [hz, show (d2.dead || ((0 : Int) == 10)) = d2.dead by simp] at h
          have hn5 := HH.out.keep Hn0.out (fun hk => by have := Hlt.out n0 hk; have := Hn.out; omega)
          have hadd := Lib.hid (hadd_any q { d2 with s := s1 } isB id m row w5 hA5 Hid'.out (by omega) (by omega) hc Hk.out Hfree.out)
          rw [← HNC.out] at hadd
          have hsz : w.heap.size ≤ w5.heap.size := Nat.le_trans Hb1.out.size HH.out.size
          have Hsz := Lib.hid hsz
          have Hn5 := Lib.hid hn5
          clear hA5 hn5 hA3 hsz hz
          have nund := Tryd.underlying127
          have ndix := NDIX.out
          go_wp2_with (refine wpList_load_row rfl 127 _ rfl n0 rfl 127 NC (0, 0) _ Hn5.out nund rfl ndix ?_)
          refine hadd.out.mono ?_
          rintro e w6 ⟨rfl, blk, hbl, hA6, hO6⟩
          have HA6 := Lib.hid hA6
          have HO6 := Lib.hid hO6
          have Hbl := Lib.hid (Nat.le_trans Hsz.out hbl)
          clear hbl hA6 hO6 hadd
          go_wp2_with fail
          go_ret
          exact ⟨((Only.of_below Hb1.out).trans HH.out).trans (HO6.out.mono (fun k hk => Hsub.out k (by simp at hk ⊢; omega))), .inr ⟨Hz.out, rfl, blk, Hbl.out, HA6.out⟩⟩
        · have hb1 : (e1 != 0) = true := by simpa using hz
          have Hz := Lib.hid hz
          clear hz
          go_wp2_with fail
          go_ret
          exact ⟨(Only.of_below Hb1.out).trans HH.out, .inl ⟨Hz.out, rfl, hA3.out⟩⟩
      exact AllReadyH.nil
    exact AllReadyH.nil
  exact AllReadyH.nil
end Go.Proofs.YteihfoacdocgkaaDoor
