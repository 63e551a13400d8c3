/-
  Layer 3: the walks of slices.Equal of digests, and of Same.
-/
import Derived.Test.YthcmlbbbbcinkaaDoorRcD
set_option linter.unusedVariables false
set_option linter.unusedSimpArgs false
namespace Go.Proofs.YthcmlbbbbcinkaaDoor
open Go.RowKit
attribute [local go_sem] Lb.ba_get Lb.ba_cut Lb.ba_add Lb.ba_size Lb.take_rest

set_option maxHeartbeats 4000000 in
set_option maxRecDepth 100000 in
theorem equal_ne (A B : Option Addr) (cA cB a b : Nat) (w : World) (h : a ≠ b) (ha : a ≤ maxLen) (hb : b ≤ maxLen) :
    Calls Tryd.prog 54 #[.slice A a cA, .slice B b cB] w fun e w' => e = .returned (.bool false) ∧ Below w.heap.size w w' := by
  unfold maxLen at ha hb
  have hai : (a : Int) ≤ 9223372036854775807 := by omega
  have hbi : (b : Int) ≤ 9223372036854775807 := by omega
  have hl1 : ((a : Int) != (b : Int)) = true := by rw [bne_iff_ne]; omega
  have hl2 : (a != b) = true := by rw [bne_iff_ne]; exact h
  go_enter Tryd.func54, Tryd.ntmps54
  go_wp2_with fail
  go_ret
  exact ⟨rfl, Below.refl _ _⟩

set_option maxHeartbeats 4000000 in
set_option maxRecDepth 100000 in
theorem equal_eq (A B : Option Addr) (cA cB : Nat) (xs ys : List (List UInt8)) (w : World) (hl : xs.length = ys.length) (hx : Digs w w.heap.size A xs) (hy : Digs w w.heap.size B ys) (h32 : ∀ d ∈ xs, d.length = 32) (k32 : ∀ d ∈ ys, d.length = 32) (hm : xs.length ≤ maxLen) :
    Calls Tryd.prog 54 #[.slice A xs.length cA, .slice B ys.length cB] w fun e w' => e = .returned (.bool (xs == ys)) ∧ Below w.heap.size w w' := by
  obtain ⟨a, ha⟩ : ∃ a, a = xs.length := ⟨_, rfl⟩
  have hb : a = ys.length := by omega
  rw [← ha] at hm
  rw [← ha, ← hb]
  unfold maxLen at hm
  have hai : (a : Int) ≤ 9223372036854775807 := by omega
  have hl1 : ((a : Int) != (a : Int)) = false := by simp
  have hl2 : (a != a) = false := by simp
  have Ha := Lib.hid ha
  have Hbb := Lib.hid hb
  have Hx := Lib.hid hx
  have Hy := Lib.hid hy
  have H32 := Lib.hid h32
  have K32 := Lib.hid k32
  clear ha hb hx hy h32 k32 hl
  go_enter Tryd.func54, Tryd.ntmps54
  go_wp2_with fail
  go_loopw [13] (fun c wr => ∃ k : Nat, k ≤ a ∧ c = .int .i64 k ∧ (∀ i, i < k → xs.getD i [] = ys.getD i []) ∧ Below w.heap.size w wr) (fun c _ => a - (intOf c).toNat)
  case atStart => exact ⟨0, by omega, rfl, fun i hi => absurd hi (Nat.not_lt_zero _), Below.refl _ _⟩
  case round =>
    obtain ⟨k, hk, rfl, hE, hwr⟩ := hrel
    have HE := Lib.hid hE
    clear hE
    by_cases hka : k < a
    · have k1 : k < xs.length := by rw [← Ha.out]; exact hka
      have k2 : k < ys.length := by rw [← Hbb.out]; exact hka
      obtain ⟨b1, o1, hA1, hl1', hr1⟩ := Hx.out k k1
      obtain ⟨b2, o2, hA2, hl2', hr2⟩ := Hy.out k k2
      obtain ⟨x, hx⟩ : ∃ x, x = xs[k] := ⟨_, rfl⟩
      obtain ⟨y, hy⟩ : ∃ y, y = ys[k] := ⟨_, rfl⟩
      rw [← hx] at hr1
      rw [← hy] at hr2
      have hx32 : x.length = 32 := by rw [hx]; exact H32.out _ (List.getElem_mem _)
      have hy32 : y.length = 32 := by rw [hy]; exact K32.out _ (List.getElem_mem _)
      have hgx : xs.getD k [] = x := by rw [List.getD_eq_getElem?_getD, List.getElem?_eq_getElem k1, hx]; rfl
      have hgy : ys.getD k [] = y := by rw [List.getD_eq_getElem?_getD, List.getElem?_eq_getElem k2, hy]; rfl
      have r1 : wr.rangeAt b1 (o1 + k * 32) (byV x) := range_below hr1 hwr hl1'
      have r2 : wr.rangeAt b2 (o2 + k * 32) (byV y) := range_below hr2 hwr hl2'
      have hl1r : b1 < wr.heap.size := Nat.lt_of_lt_of_le hl1' hwr.size
      have hl2r : b2 < wr.heap.size := Nat.lt_of_lt_of_le hl2' hwr.size
      have dix : (Tryd.prog.info? 23).map (·.size) = some (byV x).length := by rw [dig_info, byV_length, hx32]
      have diy : (Tryd.prog.info? 23).map (·.size) = some (byV y).length := by rw [dig_info, byV_length, hy32]
      have dund := Tryd.underlying23
      have heq : ∀ W : World, (Op.equalIn 10000 23 (.agg (byV x).toArray) (.agg (byV y).toArray)).run Tryd.prog W = .ok (x == y) W := fun W => eqIn_dig W x y hx32 hy32
      have Hgx := Lib.hid hgx
      have Hgy := Lib.hid hgy
      have Hwr := Lib.hid hwr
      have k0 : (0 : Int) ≤ (k : Int) := by omega
      have kn : (k : Int) < (a : Int) := by omega
      rw [hA1, hA2]
      clear hx hy hgx hgy hwr hA1 hA2 hr1 hr2 hl1' hl2' hx32 hy32 Hx Hy
      by_cases hxy : x = y
      · have hb1 : (x == y) = true := by rw [hxy]; simp
        rw [hb1] at heq
        have HE2 : Hid (∀ i, i < k + 1 → xs.getD i [] = ys.getD i []) := Lib.hid (fun i hi => by
          rcases Nat.lt_or_ge i k with h | h
          · exact HE.out i h
          · obtain rfl : i = k := by omega
            rw [Hgx.out, Hgy.out, hxy])
        have Hxy := Lib.hid hxy
        clear hxy hb1
        go_upto_region 6 with fail
        refine wp_region_held_drew (S := fun w' => Below wr.heap.size wr w') (by kernel_rfl) ((Below.refl _ _).drew) (fun hH0 => ?_)
        obtain ⟨W0, hW0⟩ : ∃ W, W = wr.drew := ⟨_, rfl⟩
        rw [← hW0] at hH0 ⊢
        clear hW0
        refine wpAnyH_take (i := 0) (v := ?_) rfl (by kernel_rfl) (by kernel_rfl) (by kernel_rfl) (fun _ _ _ h => h) (Or.inl ⟨by kernel_rfl, ?_⟩) hH0 ?_
        rotate_left 1
        · intro w hSw
          go_simp
          try with_reducible rfl
        try simp only [Act.put, List.getElem_toArray, List.getElem_cons_zero, List.getElem_cons_succ, List.setIfInBounds_toArray, List.set_cons_zero, List.set_cons_succ]
        refine wpAnyH_take (i := 1) (v := ?_) rfl (by kernel_rfl) (by kernel_rfl) (by kernel_rfl) (fun _ _ _ h => h) (Or.inl ⟨by kernel_rfl, ?_⟩) hH0 ?_
        rotate_left 1
        · intro w hSw
          go_simp
          try with_reducible rfl
        try simp only [Act.put, List.getElem_toArray, List.getElem_cons_zero, List.getElem_cons_succ, List.setIfInBounds_toArray, List.set_cons_zero, List.set_cons_succ]
        refine wpAnyH_take (i := 2) (v := ?_) rfl (by kernel_rfl) (by kernel_rfl) (by kernel_rfl) (fun _ _ _ h => h) (Or.inl ⟨by kernel_rfl, ?_⟩) hH0 ?_
        rotate_left 1
        · intro w hSw
          go_simp
          try with_reducible rfl
        try simp only [Act.put, List.getElem_toArray, List.getElem_cons_zero, List.getElem_cons_succ, List.setIfInBounds_toArray, List.set_cons_zero, List.set_cons_succ]
        refine wpAnyH_take (i := 3) (v := _) rfl (by kernel_rfl) (by kernel_rfl) (by kernel_rfl) (fun _ _ _ h => h) (yieldsIf_load_mid (by kernel_rfl) _ _ rfl _ _ rfl (byV x) _ (fun W hW => range_below r1 hW hl1r) dund rfl dix) hH0 ?_
        try simp only [Act.put, List.getElem_toArray, List.getElem_cons_zero, List.getElem_cons_succ, List.setIfInBounds_toArray, List.set_cons_zero, List.set_cons_succ]
        refine wpAnyH_take (i := 4) (v := ?_) rfl (by kernel_rfl) (by kernel_rfl) (by kernel_rfl) (fun _ _ _ h => h) (Or.inl ⟨by kernel_rfl, ?_⟩) hH0 ?_
        rotate_left 1
        · intro w hSw
          go_simp
          try with_reducible rfl
        try simp only [Act.put, List.getElem_toArray, List.getElem_cons_zero, List.getElem_cons_succ, List.setIfInBounds_toArray, List.set_cons_zero, List.set_cons_succ]
        refine wpAnyH_take (i := 5) (v := ?_) rfl (by kernel_rfl) (by kernel_rfl) (by kernel_rfl) (fun _ _ _ h => h) (Or.inl ⟨by kernel_rfl, ?_⟩) hH0 ?_
        rotate_left 1
        · intro w hSw
          go_simp
          try with_reducible rfl
        try simp only [Act.put, List.getElem_toArray, List.getElem_cons_zero, List.getElem_cons_succ, List.setIfInBounds_toArray, List.set_cons_zero, List.set_cons_succ]
        refine wpAnyH_take (i := 6) (v := ?_) rfl (by kernel_rfl) (by kernel_rfl) (by kernel_rfl) (fun _ _ _ h => h) (Or.inl ⟨by kernel_rfl, ?_⟩) hH0 ?_
        rotate_left 1
        · intro w hSw
          go_simp
          try with_reducible rfl
        try simp only [Act.put, List.getElem_toArray, List.getElem_cons_zero, List.getElem_cons_succ, List.setIfInBounds_toArray, List.set_cons_zero, List.set_cons_succ]
        refine wpAnyH_take (i := 7) (v := _) rfl (by kernel_rfl) (by kernel_rfl) (by kernel_rfl) (fun _ _ _ h => h) (yieldsIf_load_mid (by kernel_rfl) _ _ rfl _ _ rfl (byV y) _ (fun W hW => range_below r2 hW hl2r) dund rfl diy) hH0 ?_
        try simp only [Act.put, List.getElem_toArray, List.getElem_cons_zero, List.getElem_cons_succ, List.setIfInBounds_toArray, List.set_cons_zero, List.set_cons_succ]
        refine wpAnyH_take (i := 8) (v := ?_) rfl (by kernel_rfl) (by kernel_rfl) (by kernel_rfl) (fun _ _ _ h => h) (Or.inl ⟨by kernel_rfl, ?_⟩) hH0 ?_
        rotate_left 1
        · intro w hSw
          go_simp
          try with_reducible rfl
        try simp only [Act.put, List.getElem_toArray, List.getElem_cons_zero, List.getElem_cons_succ, List.setIfInBounds_toArray, List.set_cons_zero, List.set_cons_succ]
        refine wpAnyH_done (by kernel_rfl) ?_ _
        have HH := Lib.hid hH0
        clear hH0
        go_wp2_with fail
        go_roundw
        case rel => exact ⟨k + 1, by omega, by go_num, HE2.out, Hwr.out.trans (HH.out.mono Hwr.out.size)⟩
        case measure => simp [intOf]; omega
      · have hb1 : (x == y) = false := by simpa using hxy
        rw [hb1] at heq
        have hres : (xs == ys) = false := by
          rw [beq_eq_false_iff_ne]
          intro h
          apply hxy
          rw [← Hgx.out, ← Hgy.out, h]
        have Hr2 := Lib.hid hres
        clear hxy hb1 hres
        go_upto_region 6 with fail
        refine wp_region_held_drew (S := fun w' => Below wr.heap.size wr w') (by kernel_rfl) ((Below.refl _ _).drew) (fun hH0 => ?_)
        obtain ⟨W0, hW0⟩ : ∃ W, W = wr.drew := ⟨_, rfl⟩
        rw [← hW0] at hH0 ⊢
        clear hW0
        refine wpAnyH_take (i := 0) (v := ?_) rfl (by kernel_rfl) (by kernel_rfl) (by kernel_rfl) (fun _ _ _ h => h) (Or.inl ⟨by kernel_rfl, ?_⟩) hH0 ?_
        rotate_left 1
        · intro w hSw
          go_simp
          try with_reducible rfl
        try simp only [Act.put, List.getElem_toArray, List.getElem_cons_zero, List.getElem_cons_succ, List.setIfInBounds_toArray, List.set_cons_zero, List.set_cons_succ]
        refine wpAnyH_take (i := 1) (v := ?_) rfl (by kernel_rfl) (by kernel_rfl) (by kernel_rfl) (fun _ _ _ h => h) (Or.inl ⟨by kernel_rfl, ?_⟩) hH0 ?_
        rotate_left 1
        · intro w hSw
          go_simp
          try with_reducible rfl
        try simp only [Act.put, List.getElem_toArray, List.getElem_cons_zero, List.getElem_cons_succ, List.setIfInBounds_toArray, List.set_cons_zero, List.set_cons_succ]
        refine wpAnyH_take (i := 2) (v := ?_) rfl (by kernel_rfl) (by kernel_rfl) (by kernel_rfl) (fun _ _ _ h => h) (Or.inl ⟨by kernel_rfl, ?_⟩) hH0 ?_
        rotate_left 1
        · intro w hSw
          go_simp
          try with_reducible rfl
        try simp only [Act.put, List.getElem_toArray, List.getElem_cons_zero, List.getElem_cons_succ, List.setIfInBounds_toArray, List.set_cons_zero, List.set_cons_succ]
        refine wpAnyH_take (i := 3) (v := _) rfl (by kernel_rfl) (by kernel_rfl) (by kernel_rfl) (fun _ _ _ h => h) (yieldsIf_load_mid (by kernel_rfl) _ _ rfl _ _ rfl (byV x) _ (fun W hW => range_below r1 hW hl1r) dund rfl dix) hH0 ?_
        try simp only [Act.put, List.getElem_toArray, List.getElem_cons_zero, List.getElem_cons_succ, List.setIfInBounds_toArray, List.set_cons_zero, List.set_cons_succ]
        refine wpAnyH_take (i := 4) (v := ?_) rfl (by kernel_rfl) (by kernel_rfl) (by kernel_rfl) (fun _ _ _ h => h) (Or.inl ⟨by kernel_rfl, ?_⟩) hH0 ?_
        rotate_left 1
        · intro w hSw
          go_simp
          try with_reducible rfl
        try simp only [Act.put, List.getElem_toArray, List.getElem_cons_zero, List.getElem_cons_succ, List.setIfInBounds_toArray, List.set_cons_zero, List.set_cons_succ]
        refine wpAnyH_take (i := 5) (v := ?_) rfl (by kernel_rfl) (by kernel_rfl) (by kernel_rfl) (fun _ _ _ h => h) (Or.inl ⟨by kernel_rfl, ?_⟩) hH0 ?_
        rotate_left 1
        · intro w hSw
          go_simp
          try with_reducible rfl
        try simp only [Act.put, List.getElem_toArray, List.getElem_cons_zero, List.getElem_cons_succ, List.setIfInBounds_toArray, List.set_cons_zero, List.set_cons_succ]
        refine wpAnyH_take (i := 6) (v := ?_) rfl (by kernel_rfl) (by kernel_rfl) (by kernel_rfl) (fun _ _ _ h => h) (Or.inl ⟨by kernel_rfl, ?_⟩) hH0 ?_
        rotate_left 1
        · intro w hSw
          go_simp
          try with_reducible rfl
        try simp only [Act.put, List.getElem_toArray, List.getElem_cons_zero, List.getElem_cons_succ, List.setIfInBounds_toArray, List.set_cons_zero, List.set_cons_succ]
        refine wpAnyH_take (i := 7) (v := _) rfl (by kernel_rfl) (by kernel_rfl) (by kernel_rfl) (fun _ _ _ h => h) (yieldsIf_load_mid (by kernel_rfl) _ _ rfl _ _ rfl (byV y) _ (fun W hW => range_below r2 hW hl2r) dund rfl diy) hH0 ?_
        try simp only [Act.put, List.getElem_toArray, List.getElem_cons_zero, List.getElem_cons_succ, List.setIfInBounds_toArray, List.set_cons_zero, List.set_cons_succ]
        refine wpAnyH_take (i := 8) (v := ?_) rfl (by kernel_rfl) (by kernel_rfl) (by kernel_rfl) (fun _ _ _ h => h) (Or.inl ⟨by kernel_rfl, ?_⟩) hH0 ?_
        rotate_left 1
        · intro w hSw
          go_simp
          try with_reducible rfl
        try simp only [Act.put, List.getElem_toArray, List.getElem_cons_zero, List.getElem_cons_succ, List.setIfInBounds_toArray, List.set_cons_zero, List.set_cons_succ]
        refine wpAnyH_done (by kernel_rfl) ?_ _
        have HH := Lib.hid hH0
        clear hH0
        go_wp2_with fail
        go_ret
        exact ⟨by rw [Hr2.out]; rfl, Hwr.out.trans (HH.out.mono Hwr.out.size)⟩
    · obtain rfl : k = a := by omega
      have hres : (xs == ys) = true := by
        rw [beq_iff_eq]
        apply List.ext_getElem (by rw [← Ha.out, ← Hbb.out])
        intro i h1 h2
        have := HE.out i (by rw [Ha.out]; exact h1)
        rw [List.getD_eq_getElem?_getD, List.getD_eq_getElem?_getD, List.getElem?_eq_getElem h1, List.getElem?_eq_getElem h2] at this
        exact this
      have Hr2 := Lib.hid hres
      have Hwr := Lib.hid hwr
      clear hres hwr
      go_wp2_with fail
      go_ret
      exact ⟨by rw [Hr2.out]; rfl, Hwr.out⟩

theorem equal_any (A B : Option Addr) (cA cB : Nat) (xs ys : List (List UInt8)) (w : World) (hx : Digs w w.heap.size A xs) (hy : Digs w w.heap.size B ys) (h32 : ∀ d ∈ xs, d.length = 32) (k32 : ∀ d ∈ ys, d.length = 32) (hm : xs.length ≤ maxLen) (km : ys.length ≤ maxLen) :
    Calls Tryd.prog 54 #[.slice A xs.length cA, .slice B ys.length cB] w fun e w' => e = .returned (.bool (xs == ys)) ∧ Below w.heap.size w w' := by
  by_cases h : xs.length = ys.length
  · exact equal_eq A B cA cB xs ys w h hx hy h32 k32 hm
  · have : (xs == ys) = false := by rw [beq_eq_false_iff_ne]; intro e; exact h (by rw [e])
    rw [this]
    exact equal_ne A B cA cB _ _ w h hm km

set_option maxHeartbeats 4000000 in
set_option maxRecDepth 100000 in
theorem msame_any (m n : ManiD) (w : World) (hm : m.Ok w w.heap.size) (hn : n.Ok w w.heap.size) :
    Calls Tryd.prog 24 #[.agg m.row, .agg n.row] w fun e w' => e = .returned (.bool (sameM m n)) ∧ Below w.heap.size w w' := by
  have hmw := hm.whole
  have hnw := hn.whole
  go_enter Tryd.func24, Tryd.ntmps24
  go_upto_region 1 with fail
  obtain ⟨q, hq⟩ : ∃ q, q = w.heap.size := ⟨_, rfl⟩
  obtain ⟨p, hp⟩ : ∃ p, p = w.heap.size + 1 := ⟨_, rfl⟩
  have h0 : ((w.alloc (.cells m.row 31)).alloc (.cells n.row 31)).heap[q]? = some (.cells m.row 31 (0, 0)) := by
    rw [hq]; exact (Below.heap_alloc _ _ _ (by simp)).trans (heap_alloc_new w _)
  have h1 : ((w.alloc (.cells m.row 31)).alloc (.cells n.row 31)).heap[p]? = some (.cells n.row 31 (0, 0)) := by
    rw [hp]; exact heap_alloc2_new w _ _
  have b0 : Below w.heap.size w ((w.alloc (.cells m.row 31)).alloc (.cells n.row 31)) := ((Below.refl _ w).alloc (Nat.le_refl _) _).alloc (by simp) _
  obtain ⟨w1, hw1⟩ : ∃ w1, w1 = (w.alloc (.cells m.row 31)).alloc (.cells n.row 31) := ⟨_, rfl⟩
  rw [← hw1] at h0 h1 b0 ⊢
  rw [← hp, ← hq]
  have rm := range_row h0
  have rn := range_row h1
  have heq : ∀ W : World, (Op.equalIn 10000 23 (.agg (byV m.whole).toArray) (.agg (byV n.whole).toArray)).run Tryd.prog W = .ok (m.whole == n.whole) W := fun W => eqIn_dig W m.whole n.whole hmw hnw
  have dim : (Tryd.prog.info? 23).map (·.size) = some (byV m.whole).length := by rw [dig_info, byV_length, hmw]
  have din : (Tryd.prog.info? 23).map (·.size) = some (byV n.whole).length := by rw [dig_info, byV_length, hnw]
  have c32 : w1.cell? ⟨q, 32, none⟩ = some (.int .i64 m.size) := by rw [Lib.cell_of_heap h0]; exact m.at32 hmw
  have c33 : w1.cell? ⟨q, 33, none⟩ = some (.slice m.A m.parts.length m.cap) := by rw [Lib.cell_of_heap h0]; exact m.at33 hmw
  have d32 : w1.cell? ⟨p, 32, none⟩ = some (.int .i64 n.size) := by rw [Lib.cell_of_heap h1]; exact n.at32 hnw
  have d33 : w1.cell? ⟨p, 33, none⟩ = some (.slice n.A n.parts.length n.cap) := by rw [Lib.cell_of_heap h1]; exact n.at33 hnw
  have hm1 := (hm.below b0 (Nat.le_refl _)).more b0.size
  have hn1 := (hn.below b0 (Nat.le_refl _)).more b0.size
  have HE := Lib.hid (equal_any m.A n.A m.cap n.cap m.parts n.parts w1 hm1.digs hn1.digs hm1.each hn1.each hm1.len hn1.len)
  have Hb0 := Lib.hid b0
  obtain ⟨a, ha⟩ : ∃ a, a = m.parts.length := ⟨_, rfl⟩
  obtain ⟨b, hb⟩ : ∃ b, b = n.parts.length := ⟨_, rfl⟩
  rw [← ha] at c33 HE
  rw [← hb] at d33 HE
  obtain ⟨s, hs⟩ : ∃ s, s = m.size := ⟨_, rfl⟩
  obtain ⟨u, hu⟩ : ∃ u, u = n.size := ⟨_, rfl⟩
  rw [← hs] at c32
  rw [← hu] at d32
  have Hs := Lib.hid hs
  have Hu := Lib.hid hu
  obtain ⟨cm, hcm⟩ : ∃ c, c = byV m.whole := ⟨_, rfl⟩
  obtain ⟨cn, hcn⟩ : ∃ c, c = byV n.whole := ⟨_, rfl⟩
  rw [← hcm] at rm dim heq
  rw [← hcn] at rn din heq
  have Rm := Lib.hid rm
  have Rn := Lib.hid rn
  clear hw1 h0 h1 b0 hq hp ha hb hs hu hm hn rm rn hcm hcn hm1 hn1
  by_cases hw : m.whole = n.whole
  · have hwb : (m.whole == n.whole) = true := by rw [hw]; simp
    rw [hwb] at heq
    by_cases hsu : s = u
    · have hsb : (s == u) = true := by rw [hsu]; simp
      have hres : sameM m n = (m.parts == n.parts) := by
        unfold sameM
        rw [hwb, ← Hs.out, ← Hu.out, hsu]; simp
      obtain ⟨r, hr⟩ : ∃ r, r = (m.parts == n.parts) := ⟨_, rfl⟩
      rw [← hr] at HE hres
      have Hres := Lib.hid hres
      subst hsu
      clear hw hres hr
      have tok1 : True := trivial
      have tok2 : True := trivial
      go_wp2_with (first
        | (have _t := tok1; refine wpList_load_mid rfl 23 _ rfl q 0 rfl _ _ Rm.out Tryd.underlying23 rfl dim ?_; clear tok1)
        | (have _t := tok2; refine wpList_load_mid rfl 23 _ rfl p 0 rfl _ _ Rn.out Tryd.underlying23 rfl din ?_; clear tok2))
      refine HE.out.mono ?_
      rintro e w2 ⟨rfl, hB2⟩
      go_wp2_with fail
      go_ret
      exact ⟨by rw [Hres.out]; rfl, Hb0.out.trans (hB2.mono Hb0.out.size)⟩
    · have hsb : (s == u) = false := by simpa using hsu
      have hres : sameM m n = false := by
        unfold sameM
        rw [← Hs.out, ← Hu.out, hsb]; simp
      have Hres := Lib.hid hres
      clear hw hres hsu
      have tok1 : True := trivial
      have tok2 : True := trivial
      go_wp2_with (first
        | (have _t := tok1; refine wpList_load_mid rfl 23 _ rfl q 0 rfl _ _ Rm.out Tryd.underlying23 rfl dim ?_; clear tok1)
        | (have _t := tok2; refine wpList_load_mid rfl 23 _ rfl p 0 rfl _ _ Rn.out Tryd.underlying23 rfl din ?_; clear tok2))
      go_ret
      exact ⟨by rw [Hres.out]; rfl, Hb0.out⟩
  · have hwb : (m.whole == n.whole) = false := by simpa using hw
    rw [hwb] at heq
    have hres : sameM m n = false := by
      unfold sameM
      rw [hwb]; simp
    have Hres := Lib.hid hres
    clear hw hres
    have tok1 : True := trivial
    have tok2 : True := trivial
    go_wp2_with (first
      | (have _t := tok1; refine wpList_load_mid rfl 23 _ rfl q 0 rfl _ _ Rm.out Tryd.underlying23 rfl dim ?_; clear tok1)
      | (have _t := tok2; refine wpList_load_mid rfl 23 _ rfl p 0 rfl _ _ Rn.out Tryd.underlying23 rfl din ?_; clear tok2))
    go_ret
    exact ⟨by rw [Hres.out]; rfl, Hb0.out⟩
end Go.Proofs.YthcmlbbbbcinkaaDoor
