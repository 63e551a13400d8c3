/-
  Layer 19 (wing): whether what a frame's kind has can be.
-/
import Derived.Test.YthcmlbbbbcinkaaDoorWiG
set_option linter.unusedVariables false
set_option linter.unusedSimpArgs false
namespace Go.Proofs.YthcmlbbbbcinkaaDoor
open Go.RowKit Pl
attribute [local go_sem] Lb.ba_get Lb.ba_cut Lb.ba_add Lb.ba_size Lb.take_rest
namespace Wi

theorem FmMem.below {w w' : World} {b : Nat} {f : Fm} {x : Adr} (h : FmMem w b f x) (hb : Below w.heap.size w w') (hl : b < w.heap.size) : FmMem w' b f x :=
  ⟨(hb.cell (p := ⟨b, 0, none⟩) hl).trans h.kind, (hb.cell (p := ⟨b, 1, none⟩) hl).trans h.from_, (hb.cell (p := ⟨b, 2, none⟩) hl).trans h.seq, (hb.cell (p := ⟨b, 3, none⟩) hl).trans h.node, range_below h.key hb hl, (hb.cell (p := ⟨b, 36, none⟩) hl).trans h.found, range_below h.rcd hb hl, range_below h.out hb hl, (hb.cell (p := ⟨b, 134, none⟩) hl).trans h.at_, (hb.cell (p := ⟨b, 135, none⟩) hl).trans h.data, range_below h.haze hb hl, range_below h.mani hb hl, (hb.cell (p := ⟨b, 234, none⟩) hl).trans h.rngs, (hb.cell (p := ⟨b, 235, none⟩) hl).trans h.items, (hb.cell (p := ⟨b, 236, none⟩) hl).trans h.mems⟩
theorem rc_key {w : World} {b o : Nat} {r : Rc} (h : w.rangeAt b o r.cells) : w.rangeAt b o (byV r.key) := fun j v hv => h j v (by
  unfold Rc.cells
  rw [List.getElem?_append_left (List.getElem?_eq_some_iff.1 hv).1]; exact hv)
set_option maxHeartbeats 8000000 in
set_option maxRecDepth 100000 in
theorem fits_any (f : Fm) (x : Adr) (w : World) (hok : FmOk w w.heap.size f x) : Calls Tryd.prog 22 #[.agg (f.cells x).toArray] w fun e w' => e = .returned (.bool (fits f)) ∧ Below w.heap.size w w' := by
  have hn := heap_alloc_new w (.cells (f.cells x).toArray 36)
  have hb0 := (Below.refl w.heap.size w).alloc (Nat.le_refl _) (.cells (f.cells x).toArray 36)
  have hm := fm_mem (x := x) hok.wf hn
  have hok1 := (hok.below hb0 (Nat.le_refl _)).more hb0.size
  have hql := heap_lt hn
  obtain ⟨res, hres⟩ : ∃ r, r = fits f := ⟨_, rfl⟩
  rw [← hres]
  obtain ⟨bs, hbs⟩ : ∃ b, b = inB f.seq 0 1099511627776 := ⟨_, rfl⟩
  obtain ⟨bn, hbn⟩ : ∃ b, b = isNode f.node := ⟨_, rfl⟩
  have hs := Lib.hid (fun W => ((within_any f.seq 0 1099511627776 W).mono (fun e w' (h : _ ∧ _) => ⟨h.1, h.2 ▸ Below.refl _ _⟩) : Calls Tryd.prog 45 #[.int .i64 f.seq, .int .i64 0, .int .i64 1099511627776] W fun e w' => e = .returned (.bool (inB f.seq 0 1099511627776)) ∧ Below W.heap.size W w'))
  have hnd := Lib.hid (fun W => ((isNode_any f.node W).mono (fun e w' (h : _ ∧ _) => ⟨h.1, h.2 ▸ Below.refl _ _⟩) : Calls Tryd.prog 19 #[.int .i64 f.node] W fun e w' => e = .returned (.bool (isNode f.node)) ∧ Below W.heap.size W w'))
  rw [← hbs] at hs
  rw [← hbn] at hnd
  obtain ⟨n2, hn2⟩ : ∃ n, n = f.seq := ⟨_, rfl⟩
  obtain ⟨n3, hn3⟩ : ∃ n, n = f.node := ⟨_, rfl⟩
  obtain ⟨kd, hkd⟩ : ∃ n, n = f.kind := ⟨_, rfl⟩
  have c2 := hm.seq
  have c3 := hm.node
  rw [← hn2] at hs c2
  rw [← hn3] at hnd c3
  have Hres := Lib.hid hres
  have Hbs := Lib.hid hbs
  have Hbn := Lib.hid hbn
  have Hkd := Lib.hid hkd
  have Hok := Lib.hid hok1
  have Hm := Lib.hid hm
  have hb := Lib.hid hb0
  obtain ⟨R, hR⟩ : ∃ R, R = (f.cells x).toArray := ⟨_, rfl⟩
  rw [← hR] at c2 c3 hql Hok Hm hb ⊢
  obtain ⟨q, hq⟩ : ∃ q, q = w.heap.size := ⟨_, rfl⟩
  have Hq := Lib.hid hq
  clear hn hb0 hm hok1 hres hbs hbn hn2 hn3 hkd hok hR
  go_enter Tryd.func22, Tryd.ntmps22
  go_upto_region 1 with fail
  show Code.wp _ _ _ _ (w.alloc (.cells R 36))
  obtain ⟨w1, hw1⟩ : ∃ y, y = w.alloc (.cells R 36) := ⟨_, rfl⟩
  rw [← hw1] at c2 c3 hql Hok Hm hb ⊢
  rw [← hq] at c2 c3 hql Hm ⊢
  clear hw1 hq
  go_cut [3, 4] from 5 to 10 (fun v3 v4 wz => v3 = .bool bs ∧ v4 = .bool bn ∧ Below w1.heap.size w1 wz)
  case first =>
    refine wp_region_held_drew (S := fun w' => Below w1.heap.size w1 w') (by kernel_rfl) ((Below.refl _ _).drew) (fun hH0 => ?_)
    obtain ⟨W0, hW0⟩ : ∃ W, W = w1.drew := ⟨_, rfl⟩
    rw [← hW0] at hH0 ⊢
    clear hW0
    refine wpAnyH_take (i := 0) (v := ?_) rfl (by kernel_rfl) (by kernel_rfl) (by kernel_rfl) (fun _ _ _ h => h) (Or.inl ⟨by kernel_rfl, ?_⟩) hH0 ?_
    rotate_left 1
    · intro w hSw
      go_simp
      try with_reducible rfl
    try simp only [Act.put, List.getElem_toArray, List.getElem_cons_zero, List.getElem_cons_succ, List.setIfInBounds_toArray, List.set_cons_zero, List.set_cons_succ]
    refine wpAnyH_take (i := 1) (v := ?_) rfl (by kernel_rfl) (by kernel_rfl) (by kernel_rfl) (fun _ _ _ h => h) (Or.inl ⟨by kernel_rfl, ?_⟩) hH0 ?_
    rotate_left 1
    · intro w hSw
      have f0 := (hSw.cell (p := ⟨q, 2, none⟩) hql).trans c2
      have f1 := (hSw.cell (p := ⟨q, 3, none⟩) hql).trans c3
      go_simp
      try with_reducible rfl
    try simp only [Act.put, List.getElem_toArray, List.getElem_cons_zero, List.getElem_cons_succ, List.setIfInBounds_toArray, List.set_cons_zero, List.set_cons_succ]
    refine wpAnyH_take (i := 3) (v := ?_) rfl (by kernel_rfl) (by kernel_rfl) (by kernel_rfl) (fun _ _ _ h => h) (Or.inl ⟨by kernel_rfl, ?_⟩) hH0 ?_
    rotate_left 1
    · intro w hSw
      go_simp
      try with_reducible rfl
    try simp only [Act.put, List.getElem_toArray, List.getElem_cons_zero, List.getElem_cons_succ, List.setIfInBounds_toArray, List.set_cons_zero, List.set_cons_succ]
    refine wpAnyH_take (i := 4) (v := ?_) rfl (by kernel_rfl) (by kernel_rfl) (by kernel_rfl) (fun _ _ _ h => h) (Or.inl ⟨by kernel_rfl, ?_⟩) hH0 ?_
    rotate_left 1
    · intro w hSw
      have f0 := (hSw.cell (p := ⟨q, 2, none⟩) hql).trans c2
      have f1 := (hSw.cell (p := ⟨q, 3, none⟩) hql).trans c3
      go_simp
      try with_reducible rfl
    try simp only [Act.put, List.getElem_toArray, List.getElem_cons_zero, List.getElem_cons_succ, List.setIfInBounds_toArray, List.set_cons_zero, List.set_cons_succ]
    refine wpAnyH_ready (rs := [2]) (by kernel_rfl) (by simp) ?_
    refine AllReadyH.cons rfl (fun K_ hK => ?_) ?_
    · go_simp
      refine (hs.out _).mono ?_
      rintro e W1 ⟨rfl, hb1⟩
      refine hK.out _ _ ((hH0).trans (hb1.mono (hH0).size)) (fun hH1 => ?_)
      clear hK K_
      try simp only [Act.put, List.getElem_toArray, List.getElem_cons_zero, List.getElem_cons_succ, List.setIfInBounds_toArray, List.set_cons_zero, List.set_cons_succ]
      refine wpAnyH_ready (rs := [5]) (by kernel_rfl) (by simp) ?_
      refine AllReadyH.cons rfl (fun K_ hK => ?_) ?_
      · go_simp
        refine (hnd.out _).mono ?_
        rintro e W2 ⟨rfl, hb2⟩
        refine hK.out _ _ ((hH1).trans (hb2.mono (hH1).size)) (fun hH2 => ?_)
        clear hK K_
        try simp only [Act.put, List.getElem_toArray, List.getElem_cons_zero, List.getElem_cons_succ, List.setIfInBounds_toArray, List.set_cons_zero, List.set_cons_succ]
        refine wpAnyH_take (i := 6) (v := ?_) rfl (by kernel_rfl) (by kernel_rfl) (by kernel_rfl) (fun _ _ _ h => h) (Or.inl ⟨by kernel_rfl, ?_⟩) hH2 ?_
        rotate_left 1
        · intro w hSw
          go_simp
          try with_reducible rfl
        try simp only [Act.put, List.getElem_toArray, List.getElem_cons_zero, List.getElem_cons_succ, List.setIfInBounds_toArray, List.set_cons_zero, List.set_cons_succ]
        refine wpAnyH_take (i := 7) (v := ?_) rfl (by kernel_rfl) (by kernel_rfl) (by kernel_rfl) (fun _ _ _ h => h) (Or.inl ⟨by kernel_rfl, ?_⟩) hH2 ?_
        rotate_left 1
        · intro w hSw
          go_simp
          try with_reducible rfl
        try simp only [Act.put, List.getElem_toArray, List.getElem_cons_zero, List.getElem_cons_succ, List.setIfInBounds_toArray, List.set_cons_zero, List.set_cons_succ]
        refine wpAnyH_done (by kernel_rfl) ?_ _
        have HH := Lib.hid hH2
        clear hH2
        go_wp2_with fail
        go_meet
        case rel => exact ⟨rfl, rfl, HH.out⟩
      exact AllReadyH.nil
    exact AllReadyH.nil
  obtain ⟨rfl, rfl, hbc⟩ := hcut
  have HBc := Lib.hid (hb.out.trans (hbc.mono hb.out.size))
  have hmc := Hm.out.below hbc hql
  have hqc : q < wc.heap.size := Nat.lt_of_lt_of_le hql hbc.size
  have Hokc := Lib.hid ((Hok.out.below hbc (Nat.le_refl _)).more hbc.size)
  have Hmc := Lib.hid hmc
  have c0 := hmc.kind
  rw [← Hkd.out] at c0
  clear hs hnd c2 c3 Hm Hok hbc hmc hb hql
  by_cases k1 : kd = 1
  · have e1 : (kd == 1) = true := by simp [k1]
    have hr : res = bs := by rw [Hres.out, Hbs.out]; unfold fits; rw [if_pos (by rw [← Hkd.out]; exact k1)]
    subst hr
    clear k1
    go_wp2_with fail
    go_ret
    exact ⟨rfl, HBc.out⟩
  have e1 : (kd == 1) = false := by simp [k1]
  by_cases k2 : kd = 2 ∨ kd = 3
  · have hr : res = (bs && bn) := by rw [Hres.out, Hbs.out, Hbn.out]; unfold fits; rw [if_neg (by rw [← Hkd.out]; exact k1), if_pos (by rw [← Hkd.out]; exact k2)]
    have Hr := Lib.hid hr
    clear hr
    have hgo : (kd == 2) = true ∨ (kd == 2) = false ∧ (kd == 3) = true := by
      rcases k2 with h | h
      · exact .inl (by simp [h])
      · exact .inr ⟨by simp [h], by simp [h]⟩
    clear k1 k2
    rcases hgo with e2 | ⟨e2, e3⟩
    all_goals
      cases bs
      all_goals
        go_wp2_with fail
        go_ret
        exact ⟨by rw [Hr.out]; simp, HBc.out⟩
  have e2 : (kd == 2) = false := by simp; exact fun h => k2 (.inl h)
  have e3 : (kd == 3) = false := by simp; exact fun h => k2 (.inr h)
  by_cases k4 : kd = 4
  · have e4 : (kd == 4) = true := by simp [k4]
    have hr : res = true := by rw [Hres.out]; unfold fits; rw [if_neg (by rw [← Hkd.out]; exact k1), if_neg (by rw [← Hkd.out]; exact k2), if_pos (by rw [← Hkd.out]; exact k4)]
    subst hr
    clear k1 k2 k4
    go_wp2_with fail
    go_ret
    exact ⟨rfl, HBc.out⟩
  have e4 : (kd == 4) = false := by simp [k4]
  have hres5 : res = (if f.kind = 5 then (!f.found || (isNode f.node && (f.rcd.key == f.key && isRc f.rcd))) else if f.kind = 6 then inB f.at_ (-1) 7 else if f.kind = 7 then goodS f.size f.parts.length else if f.kind = 8 then inB f.at_ 0 7 && decide (f.data.length ≤ 64) else if f.kind = 9 ∨ f.kind = 10 then all f.items 16 isRc && all f.rngs 16 goodRg else false) := by
    rw [Hres.out]; unfold fits; rw [if_neg (by rw [← Hkd.out]; exact k1), if_neg (by rw [← Hkd.out]; exact k2), if_neg (by rw [← Hkd.out]; exact k4)]
  rw [← Hkd.out] at hres5
  have Hres5 := Lib.hid hres5
  clear hres5 Hres k1 k2 k4
  by_cases k6 : kd = 6
  · subst k6
    have hr : res = inB f.at_ (-1) 7 := Hres5.out
    have hcl := Lib.hid (within_any f.at_ (-1) 7 wc)
    rw [← hr] at hcl
    have c8 := Hmc.out.at_
    clear hr Hres5
    go_wp2_with fail
    refine hcl.out.mono ?_
    rintro e w2 ⟨rfl, rfl⟩
    go_wp2_with fail
    go_ret
    exact ⟨rfl, HBc.out⟩
  have e6 : (kd == 6) = false := by simp [k6]
  by_cases k5 : kd = 5
  · subst k5
    have hr : res = (!f.found || (isNode f.node && (f.rcd.key == f.key && isRc f.rcd))) := Hres5.out
    rw [← Hbn.out] at hr
    have c36 := Hmc.out.found
    obtain ⟨fd, hfd⟩ : ∃ b, b = f.found := ⟨_, rfl⟩
    rw [← hfd] at hr c36
    clear hfd Hres5
    cases fd with
    | false =>
      have hr2 : res = true := by rw [hr]; rfl
      subst hr2
      clear hr
      go_wp2_with fail
      go_ret
      exact ⟨rfl, HBc.out⟩
    | true =>
    cases bn with
    | false =>
      have hr2 : res = false := by rw [hr]; rfl
      subst hr2
      clear hr
      go_wp2_with fail
      go_ret
      exact ⟨rfl, HBc.out⟩
    | true =>
    have hrw := Hokc.out.wf.rcd
    have hir := Lib.hid (isRecord_any f.rcd wc hrw)
    have r37 := Hmc.out.rcd
    have rk := rc_key r37
    have r4 := Hmc.out.key
    have heq : ∀ W : World, (Op.equalIn 10000 23 (.agg (byV f.rcd.key).toArray) (.agg (byV f.key).toArray)).run Tryd.prog W = .ok (f.rcd.key == f.key) W := fun W => eqIn_dig W _ _ hrw.k Hokc.out.wf.key
    have d1 : (Tryd.prog.info? 23).map (·.size) = some (byV f.rcd.key).length := by rw [dig_info, byV_length, hrw.k]
    have d2 : (Tryd.prog.info? 23).map (·.size) = some (byV f.key).length := by rw [dig_info, byV_length, Hokc.out.wf.key]
    have d3 : (Tryd.prog.info? 26).map (·.size) = some f.rcd.cells.length := by rw [rc_info, Rc.len hrw]
    have dund := Tryd.underlying23
    have rund := Tryd.underlying26
    obtain ⟨y, hy⟩ : ∃ y, y = (f.rcd.key == f.key) := ⟨_, rfl⟩
    obtain ⟨z, hz⟩ : ∃ z, z = isRc f.rcd := ⟨_, rfl⟩
    rw [← hy] at heq hr
    rw [← hz] at hir hr
    obtain ⟨kc, hkc⟩ : ∃ c, c = byV f.key := ⟨_, rfl⟩
    obtain ⟨rk1, hrk⟩ : ∃ c, c = byV f.rcd.key := ⟨_, rfl⟩
    obtain ⟨rc, hrc⟩ : ∃ c, c = f.rcd.cells := ⟨_, rfl⟩
    rw [← hkc] at r4 heq d2
    rw [← hrk] at rk heq d1
    rw [← hrc] at r37 d3 hir
    have Hr := Lib.hid hr
    clear hr hrw hy hz hkc hrk hrc
    cases y with
    | false =>
      have hr2 : res = false := by rw [Hr.out]; rfl
      subst hr2
      clear Hr hir r37 d3
      go_wp2_with (with_reducible first
        | (refine wpList_load_midGR (by kernel_rfl) 23 _ rfl q 37 rfl rk1 _ rk dund rfl d1 ?_)
        | (refine wpList_load_midGR (by kernel_rfl) 23 _ rfl q 4 rfl kc _ r4 dund rfl d2 ?_))
      go_ret
      exact ⟨rfl, HBc.out⟩
    | true =>
      have hr2 : res = z := by rw [Hr.out]; rfl
      subst hr2
      clear Hr
      go_wp2_with (with_reducible first
        | (refine wpList_load_midGR (by kernel_rfl) 23 _ rfl q 37 rfl rk1 _ rk dund rfl d1 ?_)
        | (refine wpList_load_midGR (by kernel_rfl) 23 _ rfl q 4 rfl kc _ r4 dund rfl d2 ?_)
        | (refine wpList_load_midGR (by kernel_rfl) 26 _ rfl q 37 rfl rc _ r37 rund rfl d3 ?_))
      refine hir.out.mono ?_
      rintro e w2 ⟨rfl, hB⟩
      have HB := Lib.hid (HBc.out.trans (hB.mono HBc.out.size))
      clear hB
      go_wp2_with fail
      go_ret
      exact ⟨rfl, HB.out⟩
  have e5 : (kd == 5) = false := by simp [k5]
  by_cases k7 : kd = 7
  · subst k7
    have hr : res = goodS f.size f.parts.length := Hres5.out
    have hcl := Lib.hid (good_any (f.mani x) wc Hokc.out.wf.whole Hokc.out.wf.size.1 Hokc.out.wf.size.2 Hokc.out.wf.np)
    have hrw : (f.mani x).row = (f.mani x).cells.toArray := rfl
    have r200 := Hmc.out.mani
    have d1 : (Tryd.prog.info? 31).map (·.size) = some (f.mani x).cells.length := by rw [mani_info, mani_len f x Hokc.out.wf.whole]
    have mund := Tryd.underlying31
    rw [hrw, show goodS (f.mani x).size (f.mani x).parts.length = res from hr.symm] at hcl
    obtain ⟨mc, hmc⟩ : ∃ c, c = (f.mani x).cells := ⟨_, rfl⟩
    rw [← hmc] at hcl r200 d1
    clear hr hrw hmc Hres5
    go_wp2_with (refine wpList_load_mid rfl 31 _ rfl q 200 rfl mc _ r200 mund rfl d1 ?_)
    refine hcl.out.mono ?_
    rintro e w2 ⟨rfl, hB⟩
    have HB := Lib.hid (HBc.out.trans (hB.mono HBc.out.size))
    clear hB
    go_wp2_with fail
    go_ret
    exact ⟨rfl, HB.out⟩
  have e7 : (kd == 7) = false := by simp [k7]
  by_cases k8 : kd = 8
  · subst k8
    have hr : res = (inB f.at_ 0 7 && decide (f.data.length ≤ 64)) := Hres5.out
    have hcl := Lib.hid (within_any f.at_ 0 7 wc)
    have c8 := Hmc.out.at_
    have c9 := Hmc.out.data
    have hdl := Hokc.out.wf.data
    unfold maxLen at hdl
    obtain ⟨b1, hb1⟩ : ∃ b, b = inB f.at_ 0 7 := ⟨_, rfl⟩
    obtain ⟨dt, hdt⟩ : ∃ d, d = f.data := ⟨_, rfl⟩
    rw [← hb1] at hcl hr
    rw [← hdt] at hr c9 hdl
    have Hr := Lib.hid hr
    clear hr hb1 hdt Hres5
    go_wp2_with fail
    refine hcl.out.mono ?_
    rintro e w2 ⟨rfl, rfl⟩
    cases b1 with
    | false =>
      have hr2 : res = false := by rw [Hr.out]; rfl
      subst hr2
      clear Hr
      go_wp2_with fail
      go_ret
      exact ⟨rfl, HBc.out⟩
    | true =>
      by_cases hd : dt.length ≤ 64
      · have j1 : (dt.length : Int) ≤ 64 := by omega
        have hr2 : res = true := by rw [Hr.out]; simp [hd]
        subst hr2
        clear Hr hd
        go_wp2_with fail
        go_ret
        exact ⟨by simp [j1], HBc.out⟩
      · have j1 : ¬ (dt.length : Int) ≤ 64 := by omega
        have j2 : decide ((dt.length : Int) ≤ 64) = false := decide_eq_false j1
        have hr2 : res = false := by rw [Hr.out]; simp [hd]
        subst hr2
        clear Hr hd j1
        go_wp2_with fail
        go_ret
        exact ⟨rfl, HBc.out⟩
  have e8 : (kd == 8) = false := by simp [k8]
  by_cases k9 : kd = 9 ∨ kd = 10
  · have hr : res = (all f.items 16 isRc && all f.rngs 16 goodRg) := by rw [Hres5.out, if_neg k5, if_neg k6, if_neg k7, if_neg k8, if_pos k9]
    have hgo : (kd == 9) = true ∨ (kd == 9) = false ∧ (kd == 10) = true := by
      rcases k9 with h | h
      · exact .inl (by simp [h])
      · exact .inr ⟨by simp [h], by simp [h]⟩
    have ha := Lib.hid (allRc_any x.IA x.ic f.items 16 wc Hokc.out.items Hokc.out.wf.ni Hokc.out.wf.items (by omega))
    have hb2 := Lib.hid (fun W (hW : Below wc.heap.size wc W) => allRg_any x.RA x.rc f.rngs 16 W ((Hokc.out.rngs.below hW (Nat.le_refl _)).more hW.size) Hokc.out.wf.nr Hokc.out.wf.rngs (by omega))
    have c235 := Hmc.out.items
    have c234 := Hmc.out.rngs
    obtain ⟨ra, hra⟩ : ∃ b, b = all f.items 16 isRc := ⟨_, rfl⟩
    obtain ⟨rb, hrb⟩ : ∃ b, b = all f.rngs 16 goodRg := ⟨_, rfl⟩
    rw [← hra] at ha hr
    rw [← hrb] at hb2 hr
    obtain ⟨ni, hni⟩ : ∃ n, n = f.items.length := ⟨_, rfl⟩
    obtain ⟨nr, hnr⟩ : ∃ n, n = f.rngs.length := ⟨_, rfl⟩
    rw [← hni] at ha c235
    rw [← hnr] at hb2 c234
    have Hr := Lib.hid hr
    clear hr hra hrb hni hnr Hres5 k5 k6 k7 k8 k9
    rcases hgo with e9 | ⟨e9, e10⟩
    all_goals
      go_wp2_with fail
      refine ha.out.mono ?_
      rintro e w2 ⟨rfl, hB⟩
      have HBd := Lib.hid (HBc.out.trans (hB.mono HBc.out.size))
      have c234' := (hB.cell (p := ⟨q, 234, none⟩) hqc).trans c234
      have hb3 := Lib.hid (hb2.out w2 hB)
      clear hB c234
      cases ra with
      | false =>
        have hr2 : res = false := by rw [Hr.out]; rfl
        subst hr2
        clear Hr
        go_wp2_with fail
        go_ret
        exact ⟨rfl, HBd.out⟩
      | true =>
        have hr2 : res = rb := by rw [Hr.out]; rfl
        subst hr2
        clear Hr
        go_wp2_with fail
        refine hb3.out.mono ?_
        rintro e w3 ⟨rfl, hB⟩
        have HBe := Lib.hid (HBd.out.trans (hB.mono HBd.out.size))
        clear hB
        go_wp2_with fail
        go_ret
        exact ⟨rfl, HBe.out⟩
  have e9 : (kd == 9) = false := by simp; exact fun h => k9 (.inl h)
  have e10 : (kd == 10) = false := by simp; exact fun h => k9 (.inr h)
  have hr2 : res = false := by rw [Hres5.out, if_neg k5, if_neg k6, if_neg k7, if_neg k8, if_neg k9]
  subst hr2
  clear Hres5 k5 k6 k7 k8 k9
  go_wp2_with fail
  go_ret
  exact ⟨rfl, HBc.out⟩
end Wi
end Go.Proofs.YthcmlbbbbcinkaaDoor
