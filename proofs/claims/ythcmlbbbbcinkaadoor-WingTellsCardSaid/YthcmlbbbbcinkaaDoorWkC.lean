/-
  Layer 19 (wing): the texts of what a kind has. Layer 19 (wing): a frame's bytes.
-/
import Derived.Test.YthcmlbbbbcinkaaDoorWkA
import Derived.Test.YthcmlbbbbcinkaaDoorWiN
set_option linter.unusedVariables false
set_option linter.unusedSimpArgs false
namespace Go.Proofs.YthcmlbbbbcinkaaDoor
open Go.RowKit Pl
attribute [local go_sem] Lb.ba_get Lb.ba_cut Lb.ba_add Lb.ba_size Lb.take_rest
namespace Wi

theorem conv_rngN {w : World} {q o n : Nat} {d : List UInt8} (hd : d.length = n) (h : w.rangeAt q o (byV d)) (hq : q < w.heap.size) (W : World) (hW : Below w.heap.size w W) : (convert 45 9 (.slice (some ⟨q, o, none⟩) n n)).run Tryd.prog W = .ok (.string ⟨d.toArray⟩) W := by
  have := run_convert_bytes_back W 45 9 5 ⟨q, o, none⟩ n d Tryd.underlying45 Tryd.underlying5 Tryd.underlying9 (fun i hi => by
    rw [Addr.add_lit]
    exact range_below h hW hq i _ (by simp [byV, hi]))
  rwa [hd] at this
theorem txts_lit (w : World) (ts : List Bs) (B : Nat) (hB : B ≤ w.heap.size) (hl : ts.length ≤ 1000) : Txts (w.alloc (.cells (rowT ts).toArray 9)) B (.slice (some ⟨w.heap.size, 0, none⟩) ts.length ts.length) ts := by
  have hg := heap_alloc_new w (.cells (rowT ts).toArray 9)
  have hr : (rowT ts).length = ts.length := by unfold rowT; simp
  refine .inr ⟨w.heap.size, ts.length, rfl, hB, ⟨Nat.le_refl _, by unfold maxLen; omega, heap_lt hg, by rw [hr, Nat.mul_one], fun j u hu => ?_, fun j hj => ⟨?_, Lib.frozen_of_heap hg j⟩⟩⟩
  · rw [Lib.cell_of_heap hg, List.getElem?_toArray]; exact hu
  · rw [Lib.cell_of_heap hg, List.getElem?_toArray, List.getElem?_eq_getElem (by rw [hr]; omega)]; rfl
def FldPost (w : World) (f : Fm) (e : Ending) (w' : World) : Prop := ∃ v, e = .returned v ∧ Txts w' w.heap.size v (fields f) ∧ Below w.heap.size w w'
theorem FldPost.lit {w W : World} {f : Fm} {ts : List Bs} (hb : Below w.heap.size w W) (hf : fields f = ts) (hl : ts.length ≤ 1000) : FldPost w f (.returned (.slice (some ⟨W.heap.size, 0, none⟩) ts.length ts.length)) (W.alloc (.cells (rowT ts).toArray 9)) :=
  ⟨_, rfl, by rw [hf]; exact txts_lit W ts _ hb.size hl, hb.alloc hb.size _⟩
set_option maxHeartbeats 16000000 in
set_option maxRecDepth 100000 in
theorem fields_any (f : Fm) (x : Adr) (w : World) (hok : FmOk w w.heap.size f x) (hfit : fits f = true) : Calls Tryd.prog 18 #[.agg (f.cells x).toArray] w (FldPost w f) := by
  have hwf := hok.wf
  have hn1 := heap_alloc_new w (.cells (f.cells x).toArray 36)
  have hb1 := (Below.refl w.heap.size w).alloc (Nat.le_refl _) (.cells (f.cells x).toArray 36)
  have hm1 := fm_mem (x := x) hwf hn1
  have hl1 := heap_lt hn1
  have hok1 := (hok.below hb1 (Nat.le_refl _)).more hb1.size
  obtain ⟨w1, hw1⟩ : ∃ y, y = w.alloc (.cells (f.cells x).toArray 36) := ⟨_, rfl⟩
  obtain ⟨q, hq⟩ : ∃ q, q = w.heap.size := ⟨_, rfl⟩
  rw [← hw1] at hb1 hm1 hl1 hok1
  rw [← hq] at hm1 hl1
  have c2 := hm1.seq
  have c3 := hm1.node
  have c134 := hm1.at_
  have k4 := conv_rng hwf.key hm1.key hl1
  have k102 := conv_rng hwf.out hm1.out hl1
  have HN1 := Lib.hid (fun W => num_any f.seq W hwf.seq.1 hwf.seq.2)
  have HN2 := Lib.hid (fun W => num_any f.node W hwf.node.1 hwf.node.2)
  have HN3 := Lib.hid (fun W => num_any f.at_ W hwf.at_.1 hwf.at_.2)
  obtain ⟨t1, ht1⟩ : ∃ t, t = num f.seq := ⟨_, rfl⟩
  obtain ⟨t2, ht2⟩ : ∃ t, t = num f.node := ⟨_, rfl⟩
  obtain ⟨t3, ht3⟩ : ∃ t, t = num f.at_ := ⟨_, rfl⟩
  obtain ⟨t4, ht4⟩ : ∃ t, t = f.key := ⟨_, rfl⟩
  obtain ⟨t5, ht5⟩ : ∃ t, t = f.out := ⟨_, rfl⟩
  obtain ⟨n1, hn1'⟩ : ∃ n, n = f.seq := ⟨_, rfl⟩
  obtain ⟨n2, hn2'⟩ : ∃ n, n = f.node := ⟨_, rfl⟩
  obtain ⟨n3, hn3'⟩ : ∃ n, n = f.at_ := ⟨_, rfl⟩
  rw [← ht1, ← hn1'] at HN1
  rw [← ht2, ← hn2'] at HN2
  rw [← ht3, ← hn3'] at HN3
  rw [← hn1'] at c2
  rw [← hn2'] at c3
  rw [← hn3'] at c134
  rw [← ht4] at k4
  rw [← ht5] at k102
  have K4 := Lib.hid k4
  have K102 := Lib.hid k102
  have Ht1 := Lib.hid ht1
  have Ht2 := Lib.hid ht2
  have Ht3 := Lib.hid ht3
  have Ht4 := Lib.hid ht4
  have Ht5 := Lib.hid ht5
  have Hm1 := Lib.hid hm1
  have HB1 := Lib.hid hb1
  have Hok1 := Lib.hid hok1
  have Hwf := Lib.hid hwf
  have Hw1 := Lib.hid hw1
  have Hq := Lib.hid hq
  have Hfit := Lib.hid hfit
  have dund := Tryd.underlying23
  have zund := Tryd.underlying28
  obtain ⟨kd, hkd⟩ : ∃ k, k = f.kind := ⟨_, rfl⟩
  have Hkd := Lib.hid hkd
  clear hn1 hb1 hm1 hok1 hok hwf k4 k102 ht1 ht2 ht3 ht4 ht5 hn1' hn2' hn3' hw1 hq hfit hkd
  go_enter Tryd.func18, Tryd.ntmps18
  go_upto_region 1 with fail
  rw [← Hw1.out, ← Hq.out]
  refine wp_region_held_drew (S := fun w' => Below w1.heap.size w1 w') (by kernel_rfl) ((Below.refl _ _).drew) (fun hH0 => ?_)
  obtain ⟨W0, hW0⟩ : ∃ W, W = w1.drew := ⟨_, rfl⟩
  rw [← hW0] at hH0 ⊢
  clear hW0
  refine wpAnyH_take (i := 0) (v := ?_) rfl (by kernel_rfl) (by kernel_rfl) (by kernel_rfl) (fun _ _ _ h => h) (Or.inl ⟨by kernel_rfl, ?_⟩) hH0 ?_
  rotate_left 1
  · intro w hSw
    go_simp
    try with_reducible rfl
  try simp only [Act.put, List.getElem_toArray, List.getElem_cons_zero, List.getElem_cons_succ, List.setIfInBounds_toArray, List.set_cons_zero, List.set_cons_succ]
  refine wpAnyH_take (i := 1) (v := ?_) rfl (by kernel_rfl) (by kernel_rfl) (by kernel_rfl) (fun _ _ _ h => h) (Or.inl ⟨by kernel_rfl, ?_⟩) hH0 ?_
  rotate_left 1
  · intro w hSw
    have f0 := (hSw.cell (p := ⟨q, 2, none⟩) hl1).trans c2
    have f1 := (hSw.cell (p := ⟨q, 3, none⟩) hl1).trans c3
    have f2 := (hSw.cell (p := ⟨q, 134, none⟩) hl1).trans c134
    go_simp
    try with_reducible rfl
  try simp only [Act.put, List.getElem_toArray, List.getElem_cons_zero, List.getElem_cons_succ, List.setIfInBounds_toArray, List.set_cons_zero, List.set_cons_succ]
  refine wpAnyH_take (i := 3) (v := ?_) rfl (by kernel_rfl) (by kernel_rfl) (by kernel_rfl) (fun _ _ _ h => h) (Or.inl ⟨by kernel_rfl, ?_⟩) hH0 ?_
  rotate_left 1
  · intro w hSw
    go_simp
    try with_reducible rfl
  try simp only [Act.put, List.getElem_toArray, List.getElem_cons_zero, List.getElem_cons_succ, List.setIfInBounds_toArray, List.set_cons_zero, List.set_cons_succ]
  refine wpAnyH_take (i := 4) (v := ?_) rfl (by kernel_rfl) (by kernel_rfl) (by kernel_rfl) (fun _ _ _ h => h) (Or.inl ⟨by kernel_rfl, ?_⟩) hH0 ?_
  rotate_left 1
  · intro w hSw
    have f0 := (hSw.cell (p := ⟨q, 2, none⟩) hl1).trans c2
    have f1 := (hSw.cell (p := ⟨q, 3, none⟩) hl1).trans c3
    have f2 := (hSw.cell (p := ⟨q, 134, none⟩) hl1).trans c134
    go_simp
    try with_reducible rfl
  try simp only [Act.put, List.getElem_toArray, List.getElem_cons_zero, List.getElem_cons_succ, List.setIfInBounds_toArray, List.set_cons_zero, List.set_cons_succ]
  refine wpAnyH_take (i := 6) (v := ?_) rfl (by kernel_rfl) (by kernel_rfl) (by kernel_rfl) (fun _ _ _ h => h) (Or.inl ⟨by kernel_rfl, ?_⟩) hH0 ?_
  rotate_left 1
  · intro w hSw
    go_simp
    try with_reducible rfl
  try simp only [Act.put, List.getElem_toArray, List.getElem_cons_zero, List.getElem_cons_succ, List.setIfInBounds_toArray, List.set_cons_zero, List.set_cons_succ]
  refine wpAnyH_take (i := 7) (v := ?_) rfl (by kernel_rfl) (by kernel_rfl) (by kernel_rfl) (fun _ _ _ h => h) (Or.inl ⟨by kernel_rfl, ?_⟩) hH0 ?_
  rotate_left 1
  · intro w hSw
    have f0 := (hSw.cell (p := ⟨q, 2, none⟩) hl1).trans c2
    have f1 := (hSw.cell (p := ⟨q, 3, none⟩) hl1).trans c3
    have f2 := (hSw.cell (p := ⟨q, 134, none⟩) hl1).trans c134
    go_simp
    try with_reducible rfl
  try simp only [Act.put, List.getElem_toArray, List.getElem_cons_zero, List.getElem_cons_succ, List.setIfInBounds_toArray, List.set_cons_zero, List.set_cons_succ]
  refine wpAnyH_take (i := 9) (v := ?_) rfl (by kernel_rfl) (by kernel_rfl) (by kernel_rfl) (fun _ _ _ h => h) (Or.inl ⟨by kernel_rfl, ?_⟩) hH0 ?_
  rotate_left 1
  · intro w hSw
    go_simp
    try with_reducible rfl
  try simp only [Act.put, List.getElem_toArray, List.getElem_cons_zero, List.getElem_cons_succ, List.setIfInBounds_toArray, List.set_cons_zero, List.set_cons_succ]
  refine wpAnyH_take (i := 10) (v := ?_) rfl (by kernel_rfl) (by kernel_rfl) (by kernel_rfl) (fun _ _ _ h => h) (Or.inl ⟨by kernel_rfl, ?_⟩) hH0 ?_
  rotate_left 1
  · intro w hSw
    go_simp
    try with_reducible rfl
  try simp only [Act.put, List.getElem_toArray, List.getElem_cons_zero, List.getElem_cons_succ, List.setIfInBounds_toArray, List.set_cons_zero, List.set_cons_succ]
  refine wpAnyH_take (i := 11) (v := ?_) rfl (by kernel_rfl) (by kernel_rfl) (by kernel_rfl) (fun _ _ _ h => h) (Or.inl ⟨by kernel_rfl, ?_⟩) hH0 ?_
  rotate_left 1
  · intro w hSw
    go_simp
    rw [K4.out w hSw]
    rfl
    try with_reducible rfl
  try simp only [Act.put, List.getElem_toArray, List.getElem_cons_zero, List.getElem_cons_succ, List.setIfInBounds_toArray, List.set_cons_zero, List.set_cons_succ]
  refine wpAnyH_take (i := 12) (v := ?_) rfl (by kernel_rfl) (by kernel_rfl) (by kernel_rfl) (fun _ _ _ h => h) (Or.inl ⟨by kernel_rfl, ?_⟩) hH0 ?_
  rotate_left 1
  · intro w hSw
    go_simp
    try with_reducible rfl
  try simp only [Act.put, List.getElem_toArray, List.getElem_cons_zero, List.getElem_cons_succ, List.setIfInBounds_toArray, List.set_cons_zero, List.set_cons_succ]
  refine wpAnyH_take (i := 13) (v := ?_) rfl (by kernel_rfl) (by kernel_rfl) (by kernel_rfl) (fun _ _ _ h => h) (Or.inl ⟨by kernel_rfl, ?_⟩) hH0 ?_
  rotate_left 1
  · intro w hSw
    go_simp
    try with_reducible rfl
  try simp only [Act.put, List.getElem_toArray, List.getElem_cons_zero, List.getElem_cons_succ, List.setIfInBounds_toArray, List.set_cons_zero, List.set_cons_succ]
  refine wpAnyH_take (i := 14) (v := ?_) rfl (by kernel_rfl) (by kernel_rfl) (by kernel_rfl) (fun _ _ _ h => h) (Or.inl ⟨by kernel_rfl, ?_⟩) hH0 ?_
  rotate_left 1
  · intro w hSw
    go_simp
    rw [K102.out w hSw]
    rfl
    try with_reducible rfl
  try simp only [Act.put, List.getElem_toArray, List.getElem_cons_zero, List.getElem_cons_succ, List.setIfInBounds_toArray, List.set_cons_zero, List.set_cons_succ]
  refine wpAnyH_ready (rs := [2]) (by kernel_rfl) (by simp) ?_
  refine AllReadyH.cons rfl (fun K_ hK => ?_) ?_
  · go_simp
    refine (HN1.out _).mono ?_
    rintro e W1 ⟨rfl, hb1⟩
    refine hK.out _ _ ((hH0).trans (hb1.mono (hH0).size)) (fun hH1 => ?_)
    clear hK K_
    try simp only [Act.put, List.getElem_toArray, List.getElem_cons_zero, List.getElem_cons_succ, List.setIfInBounds_toArray, List.set_cons_zero, List.set_cons_succ]
    refine wpAnyH_ready (rs := [5]) (by kernel_rfl) (by simp) ?_
    refine AllReadyH.cons rfl (fun K_ hK => ?_) ?_
    · go_simp
      refine (HN2.out _).mono ?_
      rintro e W2 ⟨rfl, hb2⟩
      refine hK.out _ _ ((hH1).trans (hb2.mono (hH1).size)) (fun hH2 => ?_)
      clear hK K_
      try simp only [Act.put, List.getElem_toArray, List.getElem_cons_zero, List.getElem_cons_succ, List.setIfInBounds_toArray, List.set_cons_zero, List.set_cons_succ]
      refine wpAnyH_ready (rs := [8]) (by kernel_rfl) (by simp) ?_
      refine AllReadyH.cons rfl (fun K_ hK => ?_) ?_
      · go_simp
        refine (HN3.out _).mono ?_
        rintro e W3 ⟨rfl, hb3⟩
        refine hK.out _ _ ((hH2).trans (hb3.mono (hH2).size)) (fun hH3 => ?_)
        clear hK K_
        try simp only [Act.put, List.getElem_toArray, List.getElem_cons_zero, List.getElem_cons_succ, List.setIfInBounds_toArray, List.set_cons_zero, List.set_cons_succ]
        refine wpAnyH_take (i := 15) (v := ?_) rfl (by kernel_rfl) (by kernel_rfl) (by kernel_rfl) (fun _ _ _ h => h) (Or.inl ⟨by kernel_rfl, ?_⟩) hH3 ?_
        rotate_left 1
        · intro w hSw
          go_simp
          try with_reducible rfl
        try simp only [Act.put, List.getElem_toArray, List.getElem_cons_zero, List.getElem_cons_succ, List.setIfInBounds_toArray, List.set_cons_zero, List.set_cons_succ]
        refine wpAnyH_take (i := 16) (v := ?_) rfl (by kernel_rfl) (by kernel_rfl) (by kernel_rfl) (fun _ _ _ h => h) (Or.inl ⟨by kernel_rfl, ?_⟩) hH3 ?_
        rotate_left 1
        · intro w hSw
          go_simp
          try with_reducible rfl
        try simp only [Act.put, List.getElem_toArray, List.getElem_cons_zero, List.getElem_cons_succ, List.setIfInBounds_toArray, List.set_cons_zero, List.set_cons_succ]
        refine wpAnyH_take (i := 17) (v := ?_) rfl (by kernel_rfl) (by kernel_rfl) (by kernel_rfl) (fun _ _ _ h => h) (Or.inl ⟨by kernel_rfl, ?_⟩) hH3 ?_
        rotate_left 1
        · intro w hSw
          go_simp
          try with_reducible rfl
        try simp only [Act.put, List.getElem_toArray, List.getElem_cons_zero, List.getElem_cons_succ, List.setIfInBounds_toArray, List.set_cons_zero, List.set_cons_succ]
        refine wpAnyH_take (i := 18) (v := ?_) rfl (by kernel_rfl) (by kernel_rfl) (by kernel_rfl) (fun _ _ _ h => h) (Or.inl ⟨by kernel_rfl, ?_⟩) hH3 ?_
        rotate_left 1
        · intro w hSw
          go_simp
          try with_reducible rfl
        try simp only [Act.put, List.getElem_toArray, List.getElem_cons_zero, List.getElem_cons_succ, List.setIfInBounds_toArray, List.set_cons_zero, List.set_cons_succ]
        refine wpAnyH_take (i := 19) (v := ?_) rfl (by kernel_rfl) (by kernel_rfl) (by kernel_rfl) (fun _ _ _ h => h) (Or.inl ⟨by kernel_rfl, ?_⟩) hH3 ?_
        rotate_left 1
        · intro w hSw
          go_simp
          try with_reducible rfl
        try simp only [Act.put, List.getElem_toArray, List.getElem_cons_zero, List.getElem_cons_succ, List.setIfInBounds_toArray, List.set_cons_zero, List.set_cons_succ]
        refine wpAnyH_done (by kernel_rfl) ?_ _
        have HZ := Lib.hid hH3
        have Hmz := Lib.hid (Hm1.out.below hH3 hl1)
        have hqz : q < W3.heap.size := Nat.lt_of_lt_of_le hl1 (hH3).size
        have HBz := Lib.hid (HB1.out.trans ((hH3).mono HB1.out.size))
        have Hokz := Lib.hid ((Hok1.out.below hH3 (Nat.le_refl _)).more (hH3).size)
        have c0 := Hmz.out.kind
        rw [← Hkd.out] at c0
        clear hH3 c2 c3 c134 K4 K102 HN1 HN2 HN3
        obtain ⟨wz, hwz⟩ : ∃ y, y = W3 := ⟨_, rfl⟩
        rw [← hwz] at HZ Hmz hqz HBz Hokz c0 ⊢
        clear hwz
        go_upto_region 3 with fail
        by_cases k1 : kd = 1
        · subst k1
          have hfl : fields f = [t1] := by unfold fields; rw [← Hkd.out]; simp only [if_true, if_false]; rw [← Ht1.out]
          have Hfl := Lib.hid hfl
          clear hfl
          go_wp2_with fail
          go_ret
          exact FldPost.lit HBz.out Hfl.out (by simp)
        have e1 : (kd == 1) = false := by simp [k1]
        by_cases k2 : kd = 2
        · subst k2
          have k136 := conv_rngN Hwf.out.haze Hmz.out.haze hqz wz (Below.refl _ _)
          obtain ⟨t6, ht6⟩ : ∃ t, t = f.haze := ⟨_, rfl⟩
          rw [← ht6] at k136
          have Ht6 := Lib.hid ht6
          clear ht6
          have hfl : fields f = [t1, t2, t6] := by unfold fields; rw [← Hkd.out]; simp only [show ¬ ((2 : Int) = 1) by omega, if_true, if_false]; rw [← Ht1.out, ← Ht2.out, ← Ht6.out]
          have Hfl := Lib.hid hfl
          clear hfl
          go_wp2_with fail
          go_ret
          exact FldPost.lit HBz.out Hfl.out (by simp)
        have e2 : (kd == 2) = false := by simp [k2]
        by_cases k3 : kd = 3
        · subst k3
          have hfl : fields f = [t1, t2] := by unfold fields; rw [← Hkd.out]; simp only [show ¬ ((3 : Int) = 1) by omega, show ¬ ((3 : Int) = 2) by omega, if_true, if_false]; rw [← Ht1.out, ← Ht2.out]
          have Hfl := Lib.hid hfl
          clear hfl
          go_wp2_with fail
          go_ret
          exact FldPost.lit HBz.out Hfl.out (by simp)
        have e3 : (kd == 3) = false := by simp [k3]
        by_cases k4 : kd = 4
        · subst k4
          have hfl : fields f = [t4] := by unfold fields; rw [← Hkd.out]; simp only [show ¬ ((4 : Int) = 1) by omega, show ¬ ((4 : Int) = 2) by omega, show ¬ ((4 : Int) = 3) by omega, if_true, if_false]; rw [← Ht4.out]
          have Hfl := Lib.hid hfl
          clear hfl
          go_wp2_with fail
          go_ret
          exact FldPost.lit HBz.out Hfl.out (by simp)
        have e4 : (kd == 4) = false := by simp [k4]
        by_cases k6 : kd = 6
        · subst k6
          have hfl : fields f = [t5, t3] := by unfold fields; rw [← Hkd.out]; simp only [show ¬ ((6 : Int) = 1) by omega, show ¬ ((6 : Int) = 2) by omega, show ¬ ((6 : Int) = 3) by omega, show ¬ ((6 : Int) = 4) by omega, show ¬ ((6 : Int) = 5) by omega, if_true, if_false]; rw [← Ht5.out, ← Ht3.out]
          have Hfl := Lib.hid hfl
          clear hfl
          go_wp2_with fail
          go_ret
          exact FldPost.lit HBz.out Hfl.out (by simp)
        have e6 : (kd == 6) = false := by simp [k6]
        by_cases k8 : kd = 8
        · subst k8
          have c135 := Hmz.out.data
          obtain ⟨t6, ht6⟩ : ∃ t, t = f.data := ⟨_, rfl⟩
          rw [← ht6] at c135
          have Ht6 := Lib.hid ht6
          clear ht6
          have hfl : fields f = [t5, t3, t6] := by unfold fields; rw [← Hkd.out]; simp only [show ¬ ((8 : Int) = 1) by omega, show ¬ ((8 : Int) = 2) by omega, show ¬ ((8 : Int) = 3) by omega, show ¬ ((8 : Int) = 4) by omega, show ¬ ((8 : Int) = 5) by omega, show ¬ ((8 : Int) = 6) by omega, show ¬ ((8 : Int) = 7) by omega, if_true, if_false]; rw [← Ht5.out, ← Ht3.out, ← Ht6.out]
          have Hfl := Lib.hid hfl
          clear hfl
          go_wp2_with fail
          go_ret
          exact FldPost.lit HBz.out Hfl.out (by simp)
        have e8 : (kd == 8) = false := by simp [k8]
        by_cases k5 : kd = 5
        · subst k5
          have c36 := Hmz.out.found
          obtain ⟨fd, hfd⟩ : ∃ b, b = f.found := ⟨_, rfl⟩
          rw [← hfd] at c36
          have Hfd := Lib.hid hfd
          clear hfd
          cases fd with
          | false =>
            have HN0 := Lib.hid (fun W => num_any 0 W (by omega) (by omega))
            obtain ⟨t6, ht6⟩ : ∃ t, t = num 0 := ⟨_, rfl⟩
            rw [← ht6] at HN0
            have Ht6 := Lib.hid ht6
            clear ht6
            have hfl : fields f = [t4, t6] := by unfold fields; rw [← Hkd.out]; simp only [show ¬ ((5 : Int) = 1) by omega, show ¬ ((5 : Int) = 2) by omega, show ¬ ((5 : Int) = 3) by omega, show ¬ ((5 : Int) = 4) by omega, if_true, if_false]; rw [if_neg (by rw [← Hfd.out]; simp), ← Ht4.out, ← Ht6.out]
            have Hfl := Lib.hid hfl
            clear hfl
            go_wp2_with fail
            refine (HN0.out _).mono ?_
            rintro e w3 ⟨rfl, hB3⟩
            have HB3 := Lib.hid (HBz.out.trans (hB3.mono HBz.out.size))
            clear hB3
            go_wp2_with fail
            go_ret
            exact FldPost.lit HB3.out Hfl.out (by simp)
          | true =>
            have HN0 := Lib.hid (fun W => num_any 1 W (by omega) (by omega))
            obtain ⟨t6, ht6⟩ : ∃ t, t = num 1 := ⟨_, rfl⟩
            rw [← ht6] at HN0
            have Ht6 := Lib.hid ht6
            clear ht6
            have HR0 := Lib.hid (fun W => recordText_any f.rcd W Hwf.out.rcd)
            obtain ⟨t7, ht7⟩ : ∃ t, t = recT f.rcd := ⟨_, rfl⟩
            rw [← ht7] at HR0
            have Ht7 := Lib.hid ht7
            clear ht7
            have hfl : fields f = [t4, t6, t2, t7] := by unfold fields; rw [← Hkd.out]; simp only [show ¬ ((5 : Int) = 1) by omega, show ¬ ((5 : Int) = 2) by omega, show ¬ ((5 : Int) = 3) by omega, show ¬ ((5 : Int) = 4) by omega, if_true, if_false]; rw [if_pos Hfd.out.symm, ← Ht4.out, ← Ht6.out, ← Ht2.out, ← Ht7.out]
            have Hfl := Lib.hid hfl
            clear hfl
            have r37 := Hmz.out.rcd
            have i37 : (Tryd.prog.info? 26).map (·.size) = some f.rcd.cells.length := by rw [rc_info, Rc.len Hwf.out.rcd]
            have rund := Tryd.underlying26
            obtain ⟨rc, hrc⟩ : ∃ c, c = f.rcd.cells := ⟨_, rfl⟩
            rw [← hrc] at r37 i37 HR0
            clear hrc
            go_upto_region 14 with fail
            refine wp_region_held_drew (S := fun w' => Below wz.heap.size wz w') (by kernel_rfl) ((Below.refl _ _).drew) (fun hH0 => ?_)
            obtain ⟨W0, hW0⟩ : ∃ W, W = wz.drew := ⟨_, rfl⟩
            rw [← hW0] at hH0 ⊢
            clear hW0
            refine wpAnyH_take (i := 0) (v := ?_) rfl (by kernel_rfl) (by kernel_rfl) (by kernel_rfl) (fun _ _ _ h => h) (Or.inl ⟨by kernel_rfl, ?_⟩) hH0 ?_
            rotate_left 1
            · intro w hSw
              go_simp
              try with_reducible rfl
            try simp only [Act.put, List.getElem_toArray, List.getElem_cons_zero, List.getElem_cons_succ, List.setIfInBounds_toArray, List.set_cons_zero, List.set_cons_succ]
            refine wpAnyH_take (i := 2) (v := ?_) rfl (by kernel_rfl) (by kernel_rfl) (by kernel_rfl) (fun _ _ _ h => h) (Or.inl ⟨by kernel_rfl, ?_⟩) hH0 ?_
            rotate_left 1
            · intro w hSw
              go_simp
              try with_reducible rfl
            try simp only [Act.put, List.getElem_toArray, List.getElem_cons_zero, List.getElem_cons_succ, List.setIfInBounds_toArray, List.set_cons_zero, List.set_cons_succ]
            refine wpAnyH_take (i := 3) (v := ?_) rfl (by kernel_rfl) (by kernel_rfl) (by kernel_rfl) (fun _ _ _ h => h) (Or.inl ⟨by kernel_rfl, ?_⟩) hH0 ?_
            rotate_left 1
            · intro w hSw
              go_simp
              try with_reducible rfl
            try simp only [Act.put, List.getElem_toArray, List.getElem_cons_zero, List.getElem_cons_succ, List.setIfInBounds_toArray, List.set_cons_zero, List.set_cons_succ]
            refine wpAnyH_take (i := 4) (v := _) rfl (by kernel_rfl) (by kernel_rfl) (by kernel_rfl) (fun _ _ _ h => h) (yieldsIf_load_mid (by kernel_rfl) _ _ rfl _ _ rfl rc _ (fun W hW => range_below r37 hW hqz) rund rfl i37) hH0 ?_
            try simp only [Act.put, List.getElem_toArray, List.getElem_cons_zero, List.getElem_cons_succ, List.setIfInBounds_toArray, List.set_cons_zero, List.set_cons_succ]
            refine wpAnyH_ready (rs := [1]) (by kernel_rfl) (by simp) ?_
            refine AllReadyH.cons rfl (fun K_ hK => ?_) ?_
            · go_simp
              refine (HN0.out _).mono ?_
              rintro e W1 ⟨rfl, hb1⟩
              refine hK.out _ _ ((hH0).trans (hb1.mono (hH0).size)) (fun hH1 => ?_)
              clear hK K_
              try simp only [Act.put, List.getElem_toArray, List.getElem_cons_zero, List.getElem_cons_succ, List.setIfInBounds_toArray, List.set_cons_zero, List.set_cons_succ]
              refine wpAnyH_ready (rs := [5]) (by kernel_rfl) (by simp) ?_
              refine AllReadyH.cons rfl (fun K_ hK => ?_) ?_
              · go_simp
                refine (HR0.out _).mono ?_
                rintro e W2 ⟨rfl, hb2⟩
                refine hK.out _ _ ((hH1).trans (hb2.mono (hH1).size)) (fun hH2 => ?_)
                clear hK K_
                try simp only [Act.put, List.getElem_toArray, List.getElem_cons_zero, List.getElem_cons_succ, List.setIfInBounds_toArray, List.set_cons_zero, List.set_cons_succ]
                refine wpAnyH_ready (rs := [6]) (by kernel_rfl) (by simp) ?_
                refine AllReadyH.cons rfl (fun K_ hK => ?_) ?_
                · go_simp
                  obtain ⟨W3, hW3⟩ : ∃ y, y = W2.alloc (.cells (rowT [t4, t6, t2, t7]).toArray 9) := ⟨_, rfl⟩
                  have hb3 : Below W2.heap.size W2 W3 := by rw [hW3]; exact (Below.refl _ _).alloc (Nat.le_refl _) _
                  have HP5 : FldPost w f (.returned (.slice (some ⟨W2.heap.size, 0, none⟩) 4 4)) W3 := by rw [hW3]; exact FldPost.lit (HBz.out.trans ((hH2).mono HBz.out.size)) Hfl.out (by simp)
                  have HP := Lib.hid HP5
                  obtain ⟨V, hV⟩ : ∃ V, V = Value.slice (some ⟨W2.heap.size, 0, none⟩) 4 4 := ⟨_, rfl⟩
                  have hrw : W2.alloc (.cells #[.string ⟨t4.toArray⟩, .string ⟨t6.toArray⟩, .string ⟨t2.toArray⟩, .string ⟨t7.toArray⟩] 9) = W3 := by rw [hW3]; rfl
                  rw [hrw]
                  clear HP5 hW3 hrw hV
                  refine hK.out _ _ ((hH2).trans (hb3.mono (hH2).size)) (fun hH3 => ?_)
                  clear hK K_
                  try simp only [Act.put, List.getElem_toArray, List.getElem_cons_zero, List.getElem_cons_succ, List.setIfInBounds_toArray, List.set_cons_zero, List.set_cons_succ]
                  refine wpAnyH_take (i := 7) (v := ?_) rfl (by kernel_rfl) (by kernel_rfl) (by kernel_rfl) (fun _ _ _ h => h) (Or.inl ⟨by kernel_rfl, ?_⟩) hH3 ?_
                  rotate_left 1
                  · intro w hSw
                    go_simp
                    try with_reducible rfl
                  try simp only [Act.put, List.getElem_toArray, List.getElem_cons_zero, List.getElem_cons_succ, List.setIfInBounds_toArray, List.set_cons_zero, List.set_cons_succ]
                  refine wpAnyH_done (by kernel_rfl) ?_ _
                  clear hH3
                  go_wp2_with fail
                  go_ret
                  exact HP.out
                exact AllReadyH.nil
              exact AllReadyH.nil
            exact AllReadyH.nil
        have e5 : (kd == 5) = false := by simp [k5]
        by_cases k7 : kd = 7
        · subst k7
          have hgs : goodS f.size f.parts.length = true := by
            have := Hfit.out
            unfold fits at this
            rw [← Hkd.out] at this
            simpa using this
          have HE := Lib.hid (encode_any (f.mani x) wz Hokz.out.mani)
          have he : encS (f.mani x) = (maniT f, 0) := by unfold encS; rw [if_pos (show goodS (f.mani x).size (f.mani x).parts.length = true from hgs)]; rfl
          rw [he] at HE
          obtain ⟨t6, ht6⟩ : ∃ t, t = maniT f := ⟨_, rfl⟩
          rw [← ht6] at HE
          have Ht6 := Lib.hid ht6
          clear ht6 he hgs
          have hfl : fields f = [t6] := by unfold fields; rw [← Hkd.out]; simp only [show ¬ ((7 : Int) = 1) by omega, show ¬ ((7 : Int) = 2) by omega, show ¬ ((7 : Int) = 3) by omega, show ¬ ((7 : Int) = 4) by omega, show ¬ ((7 : Int) = 5) by omega, show ¬ ((7 : Int) = 6) by omega, if_true, if_false]; rw [← Ht6.out]
          have Hfl := Lib.hid hfl
          clear hfl
          have r200 := Hmz.out.mani
          have i200 : (Tryd.prog.info? 31).map (·.size) = some (f.mani x).cells.length := by rw [mani_info, mani_len f x Hwf.out.whole]
          have mund := Tryd.underlying31
          have hrow : (f.mani x).row = (f.mani x).cells.toArray := rfl
          rw [hrow] at HE
          obtain ⟨mc, hmc⟩ : ∃ c, c = (f.mani x).cells := ⟨_, rfl⟩
          rw [← hmc] at HE r200 i200
          clear hmc hrow
          go_wp2_with (refine wpList_load_mid rfl 31 _ rfl q 200 rfl mc _ r200 mund rfl i200 ?_)
          refine HE.out.mono ?_
          rintro e w3 ⟨rfl, hB3⟩
          have HB3 := Lib.hid (HBz.out.trans (hB3.mono HBz.out.size))
          clear hB3
          go_wp2_with fail
          go_ret
          exact FldPost.lit HB3.out Hfl.out (by simp)
        have e7 : (kd == 7) = false := by simp [k7]
        have hle : f.items.length ≤ 16 ∧ f.rngs.length ≤ 16 := by
          have hf := Hfit.out
          unfold fits at hf
          rw [← Hkd.out, if_neg k1, if_neg (by intro h; rcases h with h | h; exact k2 h; exact k3 h), if_neg k4, if_neg k5, if_neg k6, if_neg k7, if_neg k8] at hf
          split at hf
          · simp only [Bool.and_eq_true] at hf; exact ⟨all_len hf.1, all_len hf.2⟩
          · cases hf
        have HJ1 := Lib.hid (fun W (hW : Below wz.heap.size wz W) => joinRg_any x.RA x.rc f.rngs W ((Hokz.out.rngs.below hW (Nat.le_refl _)).more hW.size) Hwf.out.rngs (by omega))
        have HJ2 := Lib.hid (fun W (hW : Below wz.heap.size wz W) => joinRc_any x.IA x.ic f.items W ((Hokz.out.items.below hW (Nat.le_refl _)).more hW.size) Hwf.out.items (by omega))
        obtain ⟨t6, ht6⟩ : ∃ t, t = join f.rngs rngT := ⟨_, rfl⟩
        obtain ⟨t7, ht7⟩ : ∃ t, t = join f.items recT := ⟨_, rfl⟩
        obtain ⟨nr, hnr⟩ : ∃ n, n = f.rngs.length := ⟨_, rfl⟩
        obtain ⟨ni, hni⟩ : ∃ n, n = f.items.length := ⟨_, rfl⟩
        have c234 := Hmz.out.rngs
        have c235 := Hmz.out.items
        rw [← ht6, ← hnr] at HJ1
        rw [← ht7, ← hni] at HJ2
        rw [← hnr] at c234
        rw [← hni] at c235
        have Ht6 := Lib.hid ht6
        have Ht7 := Lib.hid ht7
        clear ht6 ht7 hnr hni hle
        by_cases k9 : kd = 9
        · subst k9
          have hfl : fields f = [t6] := by unfold fields; rw [← Hkd.out]; simp only [show ¬ ((9 : Int) = 1) by omega, show ¬ ((9 : Int) = 2) by omega, show ¬ ((9 : Int) = 3) by omega, show ¬ ((9 : Int) = 4) by omega, show ¬ ((9 : Int) = 5) by omega, show ¬ ((9 : Int) = 6) by omega, show ¬ ((9 : Int) = 7) by omega, show ¬ ((9 : Int) = 8) by omega, if_true, if_false]; rw [← Ht6.out]
          have Hfl := Lib.hid hfl
          clear hfl
          go_wp2_with fail
          refine (HJ1.out _ (Below.refl _ _)).mono ?_
          rintro e w3 ⟨rfl, hB3⟩
          have HB3 := Lib.hid (HBz.out.trans (hB3.mono HBz.out.size))
          clear hB3
          go_wp2_with fail
          go_ret
          exact FldPost.lit HB3.out Hfl.out (by simp)
        have e9 : (kd == 9) = false := by simp [k9]
        have k10 : kd = 10 := by
          have hf := Hfit.out
          unfold fits at hf
          rw [← Hkd.out] at hf
          rw [if_neg k1, if_neg (by intro h; rcases h with h | h; exact k2 h; exact k3 h), if_neg k4, if_neg k5, if_neg k6, if_neg k7, if_neg k8] at hf
          split at hf
          · rename_i h; rcases h with h | h; exact absurd h k9; exact h
          · cases hf
        subst k10
        have hfl : fields f = [t7, t6] := by unfold fields; rw [← Hkd.out]; simp only [show ¬ ((10 : Int) = 1) by omega, show ¬ ((10 : Int) = 2) by omega, show ¬ ((10 : Int) = 3) by omega, show ¬ ((10 : Int) = 4) by omega, show ¬ ((10 : Int) = 5) by omega, show ¬ ((10 : Int) = 6) by omega, show ¬ ((10 : Int) = 7) by omega, show ¬ ((10 : Int) = 8) by omega, show ¬ ((10 : Int) = 9) by omega, if_true, if_false]; rw [← Ht7.out, ← Ht6.out]
        have Hfl := Lib.hid hfl
        clear hfl k1 k2 k3 k4 k5 k6 k7 k8 k9
        go_upto_region 24 with fail
        refine wp_region_held_drew (S := fun w' => Below wz.heap.size wz w') (by kernel_rfl) ((Below.refl _ _).drew) (fun hH0 => ?_)
        obtain ⟨W0, hW0⟩ : ∃ W, W = wz.drew := ⟨_, rfl⟩
        rw [← hW0] at hH0 ⊢
        clear hW0
        refine wpAnyH_take (i := 0) (v := ?_) rfl (by kernel_rfl) (by kernel_rfl) (by kernel_rfl) (fun _ _ _ h => h) (Or.inl ⟨by kernel_rfl, ?_⟩) hH0 ?_
        rotate_left 1
        · intro w hSw
          go_simp
          try with_reducible rfl
        try simp only [Act.put, List.getElem_toArray, List.getElem_cons_zero, List.getElem_cons_succ, List.setIfInBounds_toArray, List.set_cons_zero, List.set_cons_succ]
        refine wpAnyH_take (i := 1) (v := ?_) rfl (by kernel_rfl) (by kernel_rfl) (by kernel_rfl) (fun _ _ _ h => h) (Or.inl ⟨by kernel_rfl, ?_⟩) hH0 ?_
        rotate_left 1
        · intro w hSw
          have f0 := (hSw.cell (p := ⟨q, 235, none⟩) hqz).trans c235
          have f1 := (hSw.cell (p := ⟨q, 234, none⟩) hqz).trans c234
          go_simp
          try with_reducible rfl
        try simp only [Act.put, List.getElem_toArray, List.getElem_cons_zero, List.getElem_cons_succ, List.setIfInBounds_toArray, List.set_cons_zero, List.set_cons_succ]
        refine wpAnyH_take (i := 3) (v := ?_) rfl (by kernel_rfl) (by kernel_rfl) (by kernel_rfl) (fun _ _ _ h => h) (Or.inl ⟨by kernel_rfl, ?_⟩) hH0 ?_
        rotate_left 1
        · intro w hSw
          go_simp
          try with_reducible rfl
        try simp only [Act.put, List.getElem_toArray, List.getElem_cons_zero, List.getElem_cons_succ, List.setIfInBounds_toArray, List.set_cons_zero, List.set_cons_succ]
        refine wpAnyH_take (i := 4) (v := ?_) rfl (by kernel_rfl) (by kernel_rfl) (by kernel_rfl) (fun _ _ _ h => h) (Or.inl ⟨by kernel_rfl, ?_⟩) hH0 ?_
        rotate_left 1
        · intro w hSw
          have f0 := (hSw.cell (p := ⟨q, 235, none⟩) hqz).trans c235
          have f1 := (hSw.cell (p := ⟨q, 234, none⟩) hqz).trans c234
          go_simp
          try with_reducible rfl
        try simp only [Act.put, List.getElem_toArray, List.getElem_cons_zero, List.getElem_cons_succ, List.setIfInBounds_toArray, List.set_cons_zero, List.set_cons_succ]
        refine wpAnyH_ready (rs := [2]) (by kernel_rfl) (by simp) ?_
        refine AllReadyH.cons rfl (fun K_ hK => ?_) ?_
        · go_simp
          refine (HJ2.out _ hH0).mono ?_
          rintro e W1 ⟨rfl, hb1⟩
          refine hK.out _ _ ((hH0).trans (hb1.mono (hH0).size)) (fun hH1 => ?_)
          clear hK K_
          try simp only [Act.put, List.getElem_toArray, List.getElem_cons_zero, List.getElem_cons_succ, List.setIfInBounds_toArray, List.set_cons_zero, List.set_cons_succ]
          refine wpAnyH_ready (rs := [5]) (by kernel_rfl) (by simp) ?_
          refine AllReadyH.cons rfl (fun K_ hK => ?_) ?_
          · go_simp
            refine (HJ1.out _ hH1).mono ?_
            rintro e W2 ⟨rfl, hb2⟩
            refine hK.out _ _ ((hH1).trans (hb2.mono (hH1).size)) (fun hH2 => ?_)
            clear hK K_
            try simp only [Act.put, List.getElem_toArray, List.getElem_cons_zero, List.getElem_cons_succ, List.setIfInBounds_toArray, List.set_cons_zero, List.set_cons_succ]
            refine wpAnyH_ready (rs := [6]) (by kernel_rfl) (by simp) ?_
            refine AllReadyH.cons rfl (fun K_ hK => ?_) ?_
            · go_simp
              obtain ⟨W3, hW3⟩ : ∃ y, y = W2.alloc (.cells (rowT [t7, t6]).toArray 9) := ⟨_, rfl⟩
              have hb3 : Below W2.heap.size W2 W3 := by rw [hW3]; exact (Below.refl _ _).alloc (Nat.le_refl _) _
              have HP5 : FldPost w f (.returned (.slice (some ⟨W2.heap.size, 0, none⟩) 2 2)) W3 := by rw [hW3]; exact FldPost.lit (HBz.out.trans ((hH2).mono HBz.out.size)) Hfl.out (by simp)
              have HP := Lib.hid HP5
              have hrw : W2.alloc (.cells #[.string ⟨t7.toArray⟩, .string ⟨t6.toArray⟩] 9) = W3 := by rw [hW3]; rfl
              rw [hrw]
              clear HP5 hW3 hrw
              refine hK.out _ _ ((hH2).trans (hb3.mono (hH2).size)) (fun hH3 => ?_)
              clear hK K_
              try simp only [Act.put, List.getElem_toArray, List.getElem_cons_zero, List.getElem_cons_succ, List.setIfInBounds_toArray, List.set_cons_zero, List.set_cons_succ]
              refine wpAnyH_take (i := 7) (v := ?_) rfl (by kernel_rfl) (by kernel_rfl) (by kernel_rfl) (fun _ _ _ h => h) (Or.inl ⟨by kernel_rfl, ?_⟩) hH3 ?_
              rotate_left 1
              · intro w hSw
                go_simp
                try with_reducible rfl
              try simp only [Act.put, List.getElem_toArray, List.getElem_cons_zero, List.getElem_cons_succ, List.setIfInBounds_toArray, List.set_cons_zero, List.set_cons_succ]
              refine wpAnyH_done (by kernel_rfl) ?_ _
              clear hH3
              go_wp2_with fail
              go_ret
              exact HP.out
            exact AllReadyH.nil
          exact AllReadyH.nil
        exact AllReadyH.nil
      exact AllReadyH.nil
    exact AllReadyH.nil
  exact AllReadyH.nil
end Wi
end Go.Proofs.YthcmlbbbbcinkaaDoor

set_option linter.unusedVariables false
set_option linter.unusedSimpArgs false
namespace Go.Proofs.YthcmlbbbbcinkaaDoor
open Go.RowKit Pl
attribute [local go_sem] Lb.ba_get Lb.ba_cut Lb.ba_add Lb.ba_size Lb.take_rest
namespace Wi

def encAns (K : List Int) (f : Fm) : Bs × Int := if good f = true then (enc K f, 0) else ([], 1)
theorem bag_lower {w : World} {B B' size m : Nat} {v : Value} {cs : List Value} (h : Bag0 w B size v m cs) (hB : B' ≤ B) : Bag0 w B' size v m cs := by
  rcases h with h | ⟨g, cap, h1, h2, h3⟩
  · exact .inl h
  · exact .inr ⟨g, cap, h1, by omega, h3⟩
theorem txts_strs {w : World} {B n c : Nat} {A : Option Addr} {ts : List Bs} (h : Txts w B (.slice A n c) ts) : n = ts.length ∧ Strs w w.heap.size A ts := by
  rcases h with ⟨h1, h2, -⟩ | ⟨g, cap, h1, -, hB⟩
  · obtain ⟨rfl, rfl, -⟩ := Value.slice.inj h1
    exact ⟨h2.symm, fun i hi => absurd hi (by omega)⟩
  · obtain ⟨rfl, rfl, -⟩ := Value.slice.inj h1
    refine ⟨rfl, fun i hi => ⟨_, rfl, hB.lt, ?_⟩⟩
    rw [Addr.add_lit, Nat.zero_add]
    refine hB.holds i _ ?_
    unfold rowT
    rw [List.getElem?_map, List.getElem?_eq_getElem hi]; rfl
set_option maxHeartbeats 8000000 in
set_option maxRecDepth 100000 in
theorem wencode_any (K : List Int) (f : Fm) (x : Adr) (w : World) (hL : Laid K w) (hok : FmOk w w.heap.size f x) : Calls Tryd.prog 8 #[.agg (f.cells x).toArray] w fun e w' => e = .returned (.tuple #[.string ⟨((encAns K f).1).toArray⟩, .int .i64 (encAns K f).2]) ∧ Below w.heap.size w w' := by
  have hwf := hok.wf
  have hn1 := heap_alloc_new w (.cells (f.cells x).toArray 36)
  have hb1 := (Below.refl w.heap.size w).alloc (Nat.le_refl _) (.cells (f.cells x).toArray 36)
  have hm1 := fm_mem (x := x) hwf hn1
  have hl1 := heap_lt hn1
  have hok1 := (hok.below hb1 (Nat.le_refl _)).more hb1.size
  have hL1 := hL.below hb1
  have hiR := fm_infoR hwf x
  obtain ⟨R, hR⟩ : ∃ R, R = (f.cells x).toArray := ⟨_, rfl⟩
  rw [← hR] at hn1 hb1 hm1 hl1 hok1 hL1 hiR ⊢
  obtain ⟨w1, hw1⟩ : ∃ y, y = w.alloc (.cells R 36) := ⟨_, rfl⟩
  obtain ⟨q, hq⟩ : ∃ q, q = w.heap.size := ⟨_, rfl⟩
  rw [← hw1] at hn1 hb1 hm1 hl1 hok1 hL1
  rw [← hq] at hn1 hm1 hl1
  have HG := Lib.hid (wgood_any f x w1 hok1)
  rw [← hR] at HG
  have fund := Tryd.underlying36
  have Hn1 := Lib.hid hn1
  have HB1 := Lib.hid hb1
  have Hm1 := Lib.hid hm1
  have Hok1 := Lib.hid hok1
  have HL1 := Lib.hid hL1
  have HRR := Lib.hid hR
  have Hwf := Lib.hid hwf
  have Hw1 := Lib.hid hw1
  have Hq := Lib.hid hq
  obtain ⟨gd, hgd⟩ : ∃ g, g = good f := ⟨_, rfl⟩
  rw [← hgd] at HG
  have Hgd := Lib.hid hgd
  obtain ⟨ea, hea⟩ : ∃ e, e = encAns K f := ⟨_, rfl⟩
  rw [← hea]
  have Hea := Lib.hid hea
  clear hn1 hb1 hm1 hok1 hL1 hR hwf hw1 hq hL hok hgd hea
  go_enter Tryd.func8, Tryd.ntmps8
  go_upto_region 1 with fail
  rw [← Hw1.out, ← Hq.out]
  go_wp2_with (refine wpList_load_row rfl 36 _ rfl q rfl 36 R (0, 0) _ Hn1.out fund rfl hiR ?_)
  refine HG.out.mono ?_
  rintro e w2 ⟨rfl, hB2⟩
  have HB2 := Lib.hid hB2
  have HBe := Lib.hid (HB1.out.trans (hB2.mono HB1.out.size))
  clear hB2
  cases gd with
  | false =>
    have he : ea = ([], 1) := by rw [Hea.out]; unfold encAns; rw [if_neg (by rw [← Hgd.out]; simp)]
    have He := Lib.hid he
    clear he
    go_wp2_with fail
    go_ret2
    exact ⟨by rw [He.out]; rfl, HBe.out⟩
  | true =>
    have he : ea = (enc K f, 0) := by rw [Hea.out]; unfold encAns; rw [if_pos Hgd.out.symm]
    have He := Lib.hid he
    have Hm2 := Lib.hid (Hm1.out.below HB2.out hl1)
    have Hn2 := Lib.hid (below_keep HB2.out Hn1.out)
    have hl2 : q < w2.heap.size := Nat.lt_of_lt_of_le hl1 HB2.out.size
    have Hok2 := Lib.hid ((Hok1.out.below HB2.out (Nat.le_refl _)).more HB2.out.size)
    have HL2 := Lib.hid (HL1.out.below HB2.out)
    have hgp := good_parts Hgd.out.symm
    have hml := all_len hgp.2.1
    have hfi := hgp.2.2.1
    have HN1 := Lib.hid (fun W => num_any f.kind W Hwf.out.kind.1 Hwf.out.kind.2)
    have HN2 := Lib.hid (fun W => num_any f.from_ W Hwf.out.from_.1 Hwf.out.from_.2)
    have HJ := Lib.hid (fun W (hW : Below w2.heap.size w2 W) => joinMb_any x.MA x.mc f.mems W ((Hok2.out.mems.below hW (Nat.le_refl _)).more hW.size) Hwf.out.mems (by omega))
    have HF := Lib.hid (fun W (hW : Below w2.heap.size w2 W) => fields_any f x W ((Hok2.out.below hW (Nat.le_refl _)).more hW.size) hfi)
    rw [← HRR.out] at HF
    have hlens := texts_len Hwf.out Hgd.out.symm
    have hflen := (fields_len Hwf.out hfi).1
    have c0 := Hm2.out.kind
    have c1 := Hm2.out.from_
    have c236 := Hm2.out.mems
    obtain ⟨t1, ht1⟩ : ∃ t, t = num f.kind := ⟨_, rfl⟩
    obtain ⟨t2, ht2⟩ : ∃ t, t = num f.from_ := ⟨_, rfl⟩
    obtain ⟨t3, ht3⟩ : ∃ t, t = join f.mems memT := ⟨_, rfl⟩
    obtain ⟨n1, hn1'⟩ : ∃ n, n = f.kind := ⟨_, rfl⟩
    obtain ⟨n2, hn2'⟩ : ∃ n, n = f.from_ := ⟨_, rfl⟩
    obtain ⟨nm, hnm⟩ : ∃ n, n = f.mems.length := ⟨_, rfl⟩
    have htx : texts f = [t1, t2, t3] ++ fields f := by unfold texts; rw [ht1, ht2, ht3]
    rw [← ht1, ← hn1'] at HN1
    rw [← ht2, ← hn2'] at HN2
    rw [← ht3, ← hnm] at HJ
    rw [← hn1'] at c0
    rw [← hn2'] at c1
    rw [← hnm] at c236
    have Htx := Lib.hid htx
    have Hlens := Lib.hid hlens
    have Hflen := Lib.hid hflen
    clear he hgp hml hfi hlens hflen ht1 ht2 ht3 hn1' hn2' hnm htx HG Hm1 Hok1 HL1 Hn1
    go_upto_region 3 with fail
    refine wp_region_held_drew (S := fun w' => Below w2.heap.size w2 w') (by kernel_rfl) ((Below.refl _ _).drew) (fun hH0 => ?_)
    obtain ⟨W0, hW0⟩ : ∃ W, W = w2.drew := ⟨_, rfl⟩
    rw [← hW0] at hH0 ⊢
    clear hW0
    refine wpAnyH_take (i := 0) (v := ?_) rfl (by kernel_rfl) (by kernel_rfl) (by kernel_rfl) (fun _ _ _ h => h) (Or.inl ⟨by kernel_rfl, ?_⟩) hH0 ?_
    rotate_left 1
    · intro w hSw
      go_simp
      try with_reducible rfl
    try simp only [Act.put, List.getElem_toArray, List.getElem_cons_zero, List.getElem_cons_succ, List.setIfInBounds_toArray, List.set_cons_zero, List.set_cons_succ]
    refine wpAnyH_take (i := 1) (v := ?_) rfl (by kernel_rfl) (by kernel_rfl) (by kernel_rfl) (fun _ _ _ h => h) (Or.inl ⟨by kernel_rfl, ?_⟩) hH0 ?_
    rotate_left 1
    · intro w hSw
      have f0 := (hSw.cell (p := ⟨q, 0, none⟩) hl2).trans c0
      have f1 := (hSw.cell (p := ⟨q, 1, none⟩) hl2).trans c1
      have f2 := (hSw.cell (p := ⟨q, 236, none⟩) hl2).trans c236
      go_simp
      try with_reducible rfl
    try simp only [Act.put, List.getElem_toArray, List.getElem_cons_zero, List.getElem_cons_succ, List.setIfInBounds_toArray, List.set_cons_zero, List.set_cons_succ]
    refine wpAnyH_take (i := 3) (v := ?_) rfl (by kernel_rfl) (by kernel_rfl) (by kernel_rfl) (fun _ _ _ h => h) (Or.inl ⟨by kernel_rfl, ?_⟩) hH0 ?_
    rotate_left 1
    · intro w hSw
      go_simp
      try with_reducible rfl
    try simp only [Act.put, List.getElem_toArray, List.getElem_cons_zero, List.getElem_cons_succ, List.setIfInBounds_toArray, List.set_cons_zero, List.set_cons_succ]
    refine wpAnyH_take (i := 4) (v := ?_) rfl (by kernel_rfl) (by kernel_rfl) (by kernel_rfl) (fun _ _ _ h => h) (Or.inl ⟨by kernel_rfl, ?_⟩) hH0 ?_
    rotate_left 1
    · intro w hSw
      have f0 := (hSw.cell (p := ⟨q, 0, none⟩) hl2).trans c0
      have f1 := (hSw.cell (p := ⟨q, 1, none⟩) hl2).trans c1
      have f2 := (hSw.cell (p := ⟨q, 236, none⟩) hl2).trans c236
      go_simp
      try with_reducible rfl
    try simp only [Act.put, List.getElem_toArray, List.getElem_cons_zero, List.getElem_cons_succ, List.setIfInBounds_toArray, List.set_cons_zero, List.set_cons_succ]
    refine wpAnyH_take (i := 6) (v := ?_) rfl (by kernel_rfl) (by kernel_rfl) (by kernel_rfl) (fun _ _ _ h => h) (Or.inl ⟨by kernel_rfl, ?_⟩) hH0 ?_
    rotate_left 1
    · intro w hSw
      go_simp
      try with_reducible rfl
    try simp only [Act.put, List.getElem_toArray, List.getElem_cons_zero, List.getElem_cons_succ, List.setIfInBounds_toArray, List.set_cons_zero, List.set_cons_succ]
    refine wpAnyH_take (i := 7) (v := ?_) rfl (by kernel_rfl) (by kernel_rfl) (by kernel_rfl) (fun _ _ _ h => h) (Or.inl ⟨by kernel_rfl, ?_⟩) hH0 ?_
    rotate_left 1
    · intro w hSw
      have f0 := (hSw.cell (p := ⟨q, 0, none⟩) hl2).trans c0
      have f1 := (hSw.cell (p := ⟨q, 1, none⟩) hl2).trans c1
      have f2 := (hSw.cell (p := ⟨q, 236, none⟩) hl2).trans c236
      go_simp
      try with_reducible rfl
    try simp only [Act.put, List.getElem_toArray, List.getElem_cons_zero, List.getElem_cons_succ, List.setIfInBounds_toArray, List.set_cons_zero, List.set_cons_succ]
    refine wpAnyH_ready (rs := [2]) (by kernel_rfl) (by simp) ?_
    refine AllReadyH.cons rfl (fun K_ hK => ?_) ?_
    · go_simp
      refine (HN1.out _).mono ?_
      rintro e W1 ⟨rfl, hb1⟩
      refine hK.out _ _ ((hH0).trans (hb1.mono (hH0).size)) (fun hH1 => ?_)
      clear hK K_
      try simp only [Act.put, List.getElem_toArray, List.getElem_cons_zero, List.getElem_cons_succ, List.setIfInBounds_toArray, List.set_cons_zero, List.set_cons_succ]
      refine wpAnyH_ready (rs := [5]) (by kernel_rfl) (by simp) ?_
      refine AllReadyH.cons rfl (fun K_ hK => ?_) ?_
      · go_simp
        refine (HN2.out _).mono ?_
        rintro e W2 ⟨rfl, hb2⟩
        refine hK.out _ _ ((hH1).trans (hb2.mono (hH1).size)) (fun hH2 => ?_)
        clear hK K_
        try simp only [Act.put, List.getElem_toArray, List.getElem_cons_zero, List.getElem_cons_succ, List.setIfInBounds_toArray, List.set_cons_zero, List.set_cons_succ]
        refine wpAnyH_ready (rs := [8]) (by kernel_rfl) (by simp) ?_
        refine AllReadyH.cons rfl (fun K_ hK => ?_) ?_
        · go_simp
          refine (HJ.out _ hH2).mono ?_
          rintro e W3 ⟨rfl, hb3⟩
          refine hK.out _ _ ((hH2).trans (hb3.mono (hH2).size)) (fun hH3 => ?_)
          clear hK K_
          try simp only [Act.put, List.getElem_toArray, List.getElem_cons_zero, List.getElem_cons_succ, List.setIfInBounds_toArray, List.set_cons_zero, List.set_cons_succ]
          refine wpAnyH_ready (rs := [9]) (by kernel_rfl) (by simp) ?_
          refine AllReadyH.cons rfl (fun K_ hK => ?_) ?_
          · go_simp
            obtain ⟨W4, hW4⟩ : ∃ y, y = W3.alloc (.cells (rowT [t1, t2, t3]).toArray 9) := ⟨_, rfl⟩
            have hb4 : Below W3.heap.size W3 W4 := by rw [hW4]; exact (Below.refl _ _).alloc (Nat.le_refl _) _
            have hT : Txts W4 0 (.slice (some ⟨W3.heap.size, 0, none⟩) 3 3) [t1, t2, t3] := by rw [hW4]; exact txts_lit W3 [t1, t2, t3] 0 (Nat.zero_le _) (by simp)
            have HT := Lib.hid hT
            have hrw : W3.alloc (.cells #[.string ⟨t1.toArray⟩, .string ⟨t2.toArray⟩, .string ⟨t3.toArray⟩] 9) = W4 := by rw [hW4]; rfl
            rw [hrw]
            clear hT hW4 hrw
            obtain ⟨gv, hgv⟩ : ∃ g, g = W3.heap.size := ⟨_, rfl⟩
            rw [← hgv] at HT ⊢
            clear hgv
            refine hK.out _ _ ((hH3).trans (hb4.mono (hH3).size)) (fun hH4 => ?_)
            clear hK K_
            try simp only [Act.put, List.getElem_toArray, List.getElem_cons_zero, List.getElem_cons_succ, List.setIfInBounds_toArray, List.set_cons_zero, List.set_cons_succ]
            refine wpAnyH_take (i := 10) (v := ?_) rfl (by kernel_rfl) (by kernel_rfl) (by kernel_rfl) (fun _ _ _ h => h) (Or.inl ⟨by kernel_rfl, ?_⟩) hH4 ?_
            rotate_left 1
            · intro w hSw
              go_simp
              try with_reducible rfl
            try simp only [Act.put, List.getElem_toArray, List.getElem_cons_zero, List.getElem_cons_succ, List.setIfInBounds_toArray, List.set_cons_zero, List.set_cons_succ]
            refine wpAnyH_done (by kernel_rfl) ?_ _
            have HZ := Lib.hid hH4
            have HLz := Lib.hid (HL2.out.below hH4)
            have Hnz := Lib.hid (below_keep hH4 Hn2.out)
            have HBz := Lib.hid (HBe.out.trans ((hH4).mono HBe.out.size))
            have hqz : q < W4.heap.size := Nat.lt_of_lt_of_le hl2 (hH4).size
            obtain ⟨wz, hwz⟩ : ∃ y, y = W4 := ⟨_, rfl⟩
            rw [← hwz] at HZ HLz Hnz HBz HT hqz ⊢
            clear hH4 c0 c1 c236 HN1 HN2 HJ hwz
            go_wp2_with (refine wpList_load_row rfl 36 _ rfl q rfl 36 R (0, 0) _ Hnz.out fund rfl hiR ?_)
            refine (HF.out _ HZ.out).mono ?_
            rintro e w4 ⟨v, rfl, hT4, hB4⟩
            have hcc := wconcat_any w4.heap.size 0 (.slice (some ⟨gv, 0, none⟩) 3 3) v [t1, t2, t3] (fields f) 54 (w4.alloc (.cells #[.slice (some ⟨gv, 0, none⟩) 3 3, v] 54)) (heap_alloc_new w4 _) (Bag0.alloc (Bag0.below HT.out hB4) _) (Bag0.alloc (bag_lower hT4 (Nat.zero_le _)) _) (by simp) (by have := Hflen.out; omega)
            rw [← Htx.out] at hcc
            obtain ⟨v4, hv4⟩ : ∃ x, x = v := ⟨_, rfl⟩
            obtain ⟨A4, c4, hs4, -, -⟩ := hT4.shape
            have HCC := Lib.hid hcc
            have HB4 := Lib.hid (HBz.out.trans (hB4.mono HBz.out.size))
            have HL4 := Lib.hid (HLz.out.below hB4)
            subst hs4
            clear hT4 hB4 hcc hv4 HLz HBz
            go_wp2_with fail
            refine HCC.out.mono ?_
            rintro e w5 ⟨v5, rfl, hT5, hB5⟩
            obtain ⟨A5, c5, rfl, -, -⟩ := hT5.shape
            obtain ⟨-, hS5⟩ := txts_strs hT5
            have hB45 : Below w4.heap.size w4 w5 := ((Below.refl _ w4).alloc (Nat.le_refl _) _).trans (hB5.mono (by simp))
            have HB5 := Lib.hid (HB4.out.trans (hB45.mono HB4.out.size))
            have HL5 := Lib.hid (HL4.out.below hB45)
            have hrl : (srow (texts f)).length ≤ 2600 := Hlens.out.2.2
            have HR5 := Lib.hid (row_any A5 c5 (texts f) w5 hS5 (by omega))
            obtain ⟨rw_, hrw⟩ : ∃ r, r = srow (texts f) := ⟨_, rfl⟩
            rw [← hrw] at HR5 hrl
            have hencr : enc K f = hashB K rw_ ++ rw_ := by rw [hrw]; rfl
            have Hencr := Lib.hid hencr
            obtain ⟨nt, hnt⟩ : ∃ n, n = (texts f).length := ⟨_, rfl⟩
            rw [← hnt] at HR5
            have hnt7 : nt ≤ 7 := by rw [hnt]; exact Hlens.out.1
            rw [← hnt]
            clear hT5 hS5 hB5 hB45 hrw hencr hnt HCC
            go_wp2_with fail
            refine HR5.out.mono ?_
            rintro e w6 ⟨rfl, hB6⟩
            have HB6 := Lib.hid (HB5.out.trans (hB6.mono HB5.out.size))
            have HL6 := Lib.hid (HL5.out.below hB6)
            have HOf := Lib.hid (of_hash K (some ⟨w6.heap.size, 0, none⟩) 1 rw_ _ (HL6.out.alloc (.cells #[.string ⟨rw_.toArray⟩] 9)) (fts_new w6 rw_ _) (by omega))
            have hhl := hashB_length K rw_
            obtain ⟨hd, hhd⟩ : ∃ h, h = hashB K rw_ := ⟨_, rfl⟩
            rw [← hhd] at HOf hhl Hencr
            clear hB6 hhd HR5
            go_wp2_with fail
            refine HOf.out.mono ?_
            rintro e w7 ⟨rfl, hB7⟩
            have hB67 : Below w6.heap.size w6 w7 := ((Below.refl _ w6).alloc (Nat.le_refl _) _).trans (hB7.mono (by simp))
            have HB7 := Lib.hid (HB6.out.trans (hB67.mono HB6.out.size))
            have hds := digV_size hd
            rw [hhl] at hds
            have hdi := dig_infoL hhl
            have hd1 := digV_one hd
            have hn7 := heap_alloc_new w7 (.cells (digV z32) 23)
            have hsz7 : (digV z32).size = (digV hd).size := by rw [hds]; rfl
            clear hB7 hB67 HOf
            go_upto_region 6 with (refine wpList_store_row rfl 23 _ _ rfl w7.heap.size (digV hd) rfl rfl 23 (digV z32) hn7 hdi hsz7 hd1 ?_)
            try simp only [Act.put]
            show Code.wp _ _ _ _ ((w7.alloc (.cells (digV z32) 23)).setRow w7.heap.size (digV hd))
            obtain ⟨w8, hw8⟩ : ∃ y, y = (w7.alloc (.cells (digV z32) 23)).setRow w7.heap.size (digV hd) := ⟨_, rfl⟩
            have l8 := setRow_heap _ _ _ (digV hd) _ _ hn7
            have o8 := ((Only.refl [w7.heap.size] w7).alloc (.cells (digV z32) 23)).setRow (g := w7.heap.size) (by simp) (digV hd)
            rw [← hw8] at l8 o8 ⊢
            have hB8 : Below w7.heap.size w7 w8 := o8.below (Nat.le_refl _) (by simp)
            have hr8 : w8.rangeAt w7.heap.size 0 (byV hd) := range_heap l8
            have hc8 := conv_rng hhl hr8 (heap_lt l8) w8 (Below.refl _ _)
            have HB8 := Lib.hid (HB7.out.trans (hB8.mono HB7.out.size))
            have hadd : ¬ 9223372036854775807 < hd.length + rw_.length := by omega
            have hadd2 : ¬ 9223372036854775807 < 32 + rw_.length := by omega
            clear hw8 l8 o8 hB8 hr8 hn7 hdi hd1 hsz7 hds
            go_wp2_with fail
            go_ret2
            exact ⟨by rw [He.out, Hencr.out]; rfl, HB8.out⟩
          exact AllReadyH.nil
        exact AllReadyH.nil
      exact AllReadyH.nil
    exact AllReadyH.nil
end Wi
end Go.Proofs.YthcmlbbbbcinkaaDoor
