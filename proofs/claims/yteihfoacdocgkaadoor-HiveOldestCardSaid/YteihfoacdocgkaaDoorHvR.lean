/-
  Layer 5 (hive): the walks of room (no slot is free: the oldest goes, or none can), Pin, Sync.
-/
import Derived.Test.YteihfoacdocgkaaDoorHvO
set_option linter.unusedVariables false
set_option linter.unusedSimpArgs false
namespace Go.Proofs.YteihfoacdocgkaaDoor
open Go.RowKit Pl Sh
attribute [local go_sem] Lb.ba_get Lb.ba_cut Lb.ba_add Lb.ba_size Lb.take_rest

set_option maxHeartbeats 2000000 in
set_option maxRecDepth 100000 in
theorem room_none (q : HvP) (d : HvD) (w : World) (h : HvAt w q d) (hns : d.s.slots.length ≤ 128) (hfull : ∀ i, i < d.s.slots.length → ∃ e ∈ d.L, e.at_ = i) (hno : ∀ e ∈ d.L, e.id ∈ d.pins) :
    Calls Tryd.prog 126 #[.pointer (some ⟨q.p, 0, none⟩)] w fun r w' => r = .returned (.tuple #[.int .i64 0, .int .i64 11]) ∧ Below w.heap.size w w' := by
  obtain ⟨c0, -, c2, -, -, -, -, -⟩ := hv_cells h
  have hl := Lib.hid (len_any q.b q.g d.s w h.sh)
  obtain ⟨n, hn⟩ : ∃ n, n = d.s.slots.length := ⟨_, rfl⟩
  rw [← hn] at hl hfull hns
  have Hyes := Lib.hid (fun i (hi : i < n) => taken_yes h (hfull i hi))
  have Hold := Lib.hid (oldest_any q d w h)
  have Hno := Lib.hid hno
  clear h hn hfull hno
  go_enter Tryd.func126, Tryd.ntmps126
  go_wp2_with fail
  refine hl.out.mono ?_
  rintro e w1 ⟨rfl, rfl⟩
  clear hl
  go_wp2_with fail
  go_loopw [13] (fun i wr => ∃ k : Nat, k ≤ n ∧ i = .int .i64 k ∧ w = wr) (fun i _ => n - (intOf i).toNat)
  case atStart => exact ⟨0, by omega, rfl, by first | trivial | rfl⟩
  case round =>
    obtain ⟨k, hk, rfl, rfl⟩ := hrel
    by_cases hkm : k < n
    · have j1 : (k : Int) < (n : Int) := by omega
      have hy := Hyes.out k hkm
      go_wp2_with (refine wpList_lookupR rfl 117 _ _ rfl (.bool true) hy ?_)
      go_roundw
      case rel => exact ⟨k + 1, by omega, by go_num, by first | trivial | rfl⟩
      case measure => simp [intOf]; omega
    · have j1 : ¬ (k : Int) < (n : Int) := by omega
      clear c2
      go_wp2_with fail
      refine Hold.out.mono ?_
      rintro e w2 ⟨best, rfl, hbo, hB⟩
      obtain rfl : best = none := by
        cases best with
        | none => rfl
        | some b => exact absurd (Hno.out b (hbo.mem b rfl).1) (hbo.mem b rfl).2
      have HB := Lib.hid hB
      clear hbo hB c0
      simp only [ptrE]
      go_wp2_with fail
      go_ret2
      exact ⟨rfl, HB.out⟩

def EvictPost (w : World) (q : HvP) (d : HvD) (j : Nat) (x : HEnt) (e : Ending) (w' : World) : Prop :=
  Only (q.own d.L) w w' ∧
  ((St.writeErr d.s x.at_ [] ≠ 0 ∧ e = .returned (.tuple #[.int .i64 0, .int .i64 (St.writeErr d.s x.at_ [])]) ∧ HvAt w' q { d with s := St.write d.s x.at_ [], dead := d.dead || (St.writeErr d.s x.at_ [] == 10) }) ∨
   (St.writeErr d.s x.at_ [] = 0 ∧ St.syncErr (St.write d.s x.at_ []) ≠ 0 ∧ e = .returned (.tuple #[.int .i64 0, .int .i64 (St.syncErr (St.write d.s x.at_ []))]) ∧ HvAt w' q { d with s := St.sync (St.write d.s x.at_ []), dead := d.dead || (St.syncErr (St.write d.s x.at_ []) == 10) }) ∨
   (St.writeErr d.s x.at_ [] = 0 ∧ St.syncErr (St.write d.s x.at_ []) = 0 ∧ e = .returned (.tuple #[.int .i64 x.at_, .int .i64 0]) ∧ HvAt w' q { d with s := St.sync (St.write d.s x.at_ []), L := d.L.eraseIdx j }))
set_option maxHeartbeats 4000000 in
set_option maxRecDepth 100000 in
theorem room_evict (q : HvP) (d : HvD) (j : Nat) (x : HEnt) (w : World) (h : HvAt w q d) (hns : d.s.slots.length ≤ 128) (hfull : ∀ i, i < d.s.slots.length → ∃ e ∈ d.L, e.at_ = i) (hj : d.L[j]? = some x) (hx : x.id ∉ d.pins) (hlow : ∀ e ∈ d.L, e.id ∈ d.pins ∨ x.used ≤ e.used) (huq : ∀ e ∈ d.L, e.used = x.used → e = x)
    (hf1 : d.s.pw.fits 2) (hf2 : (St.write d.s x.at_ []).pw.fits 2) :
    Calls Tryd.prog 126 #[.pointer (some ⟨q.p, 0, none⟩)] w (EvictPost w q d j x) := by
  obtain ⟨c0, -, c2, -, -, -, -, -⟩ := hv_cells h
  have hl := Lib.hid (len_any q.b q.g d.s w h.sh)
  obtain ⟨n, hn⟩ : ∃ n, n = d.s.slots.length := ⟨_, rfl⟩
  rw [← hn] at hl hfull hns
  have Hyes := Lib.hid (fun i (hi : i < n) => taken_yes h (hfull i hi))
  have Hold := Lib.hid (oldest_any q d w h)
  have hxL := List.mem_of_getElem? hj
  obtain ⟨y33, -, -, -⟩ := ent_cells (h.fit x hxL) (h.ents x hxL)
  have lp : q.p < w.heap.size := heap_lt h.hp
  have lx : x.blk < w.heap.size := heap_lt (h.ents x hxL)
  obtain ⟨-, n2⟩ := own_nd h.nd
  have nx : x.blk ∉ [q.b, q.g, q.p] := by simp; exact ⟨(n2 x hxL).2.2.2.2.1, (n2 x hxL).2.2.2.2.2, (n2 x hxL).1⟩
  have nx2 : x.blk ∉ [q.b, q.g, q.p, q.ma, q.mt] := by simp; exact ⟨(n2 x hxL).2.2.2.2.1, (n2 x hxL).2.2.2.2.2, (n2 x hxL).1, (n2 x hxL).2.1, (n2 x hxL).2.2.1⟩
  have hbest : Hid (∀ best, BestOf d.L [] d.pins best → best = some x) := Lib.hid (fun best hb => by
    rcases hb.low x hxL with h1 | h1 | ⟨b, h1, h2⟩
    · cases h1
    · exact absurd h1 hx
    · obtain ⟨m1, m2⟩ := hb.mem b h1
      rcases hlow b m1 with h3 | h3
      · exact absurd h3 m2
      · rw [h1, huq b m1 (by omega)])
  have hmem := @own_mem q d.L
  have hsub : Hid (∀ k ∈ [q.b, q.g, q.p, q.ma, q.mt], k ∈ q.own d.L) := Lib.hid (by intro k hk; simp at hk; rcases hk with rfl | rfl | rfl | rfl | rfl; exact hmem.2.2.2.2.1; exact hmem.2.2.2.2.2.1; exact hmem.1; exact hmem.2.1; exact hmem.2.2.1)
  have H := Lib.hid h
  have Hj := Lib.hid hj
  have Hf1 := Lib.hid hf1
  obtain ⟨at9, hat⟩ : ∃ a, a = x.at_ := ⟨_, rfl⟩
  unfold EvictPost
  rw [← hat] at y33 hf2 ⊢
  have Hat := Lib.hid hat
  obtain ⟨s1, hs1⟩ : ∃ s, s = St.write d.s (at9 : Int) [] := ⟨_, rfl⟩
  rw [← hs1] at hf2 ⊢
  have Hs1 := Lib.hid hs1
  have Hf2 := Lib.hid hf2
  obtain ⟨e1, he1⟩ : ∃ e, e = St.writeErr d.s (at9 : Int) [] := ⟨_, rfl⟩
  obtain ⟨e2, he2⟩ : ∃ e, e = St.syncErr s1 := ⟨_, rfl⟩
  rw [← he1, ← he2]
  have He1 := Lib.hid he1
  have He2 := Lib.hid he2
  have at0 : (0 : Int) ≤ (at9 : Int) := by omega
  clear h hn hfull hj hx hlow huq hxL n2 hmem hf1 hf2 hat hs1 he1 he2
  go_enter Tryd.func126, Tryd.ntmps126
  go_wp2_with fail
  refine hl.out.mono ?_
  rintro e w1 ⟨rfl, rfl⟩
  clear hl
  go_wp2_with fail
  go_loopw [13] (fun i wr => ∃ k : Nat, k ≤ n ∧ i = .int .i64 k ∧ w = wr) (fun i _ => n - (intOf i).toNat)
  case atStart => exact ⟨0, by omega, rfl, by first | trivial | rfl⟩
  case round =>
    obtain ⟨k, hk, rfl, rfl⟩ := hrel
    by_cases hkm : k < n
    · have j1 : (k : Int) < (n : Int) := by omega
      have hy := Hyes.out k hkm
      go_wp2_with (refine wpList_lookupR rfl 117 _ _ rfl (.bool true) hy ?_)
      go_roundw
      case rel => exact ⟨k + 1, by omega, by go_num, by first | trivial | rfl⟩
      case measure => simp [intOf]; omega
    · have j1 : ¬ (k : Int) < (n : Int) := by omega
      clear c2
      go_wp2_with fail
      refine Hold.out.mono ?_
      rintro e w2 ⟨best, rfl, hbo, hB⟩
      obtain rfl := hbest.out best hbo
      have HB := Lib.hid hB
      have H2 := Lib.hid (H.out.below hB)
      have c0 := (hB.cell (p := ⟨q.p, 0, none⟩) lp).trans c0
      have y33 := (hB.cell (p := ⟨x.blk, 33, none⟩) lx).trans y33
      have lx2 : x.blk < w2.heap.size := Nat.lt_of_lt_of_le lx hB.size
      clear hbo hB
      simp only [ptrE]
      go_upto_region 10 with fail
      refine wp_region_held_drew (S := fun w' => Only [q.b, q.g, q.p] w2 w' ∧ w'.cell? ⟨q.p, 0, none⟩ = some (.pointer (some ⟨q.b, 0, none⟩))) (by kernel_rfl) ⟨(Only.refl _ _).drew, c0⟩ (fun hH0 => ?_)
      obtain ⟨W0, hW0⟩ : ∃ W, W = w2.drew := ⟨_, rfl⟩
      have hA0 : Hid (HvAt W0 q d) := Lib.hid (by rw [hW0]; exact H2.out.keep (fun k hk => rfl))
      rw [← hW0] at hH0 ⊢
      clear hW0
      refine wpAnyH_take (i := 0) (v := ?_) rfl (by kernel_rfl) (by kernel_rfl) (by kernel_rfl) (fun _ _ _ h => h) (Or.inl ⟨by kernel_rfl, ?_⟩) hH0 ?_
      rotate_left 1
      · intro w hSw
        go_simp
        try with_reducible rfl
      try simp only [Act.put, List.getElem_toArray, List.getElem_cons_zero, List.getElem_cons_succ, List.setIfInBounds_toArray, List.set_cons_zero, List.set_cons_succ]
      refine wpAnyH_take (i := 1) (v := ?_) rfl (by kernel_rfl) (by kernel_rfl) (by kernel_rfl) (fun _ _ _ h => h) (Or.inl ⟨by kernel_rfl, ?_⟩) hH0 ?_
      rotate_left 1
      · intro w hSw
        go_simp
        try with_reducible rfl
      try simp only [Act.put, List.getElem_toArray, List.getElem_cons_zero, List.getElem_cons_succ, List.setIfInBounds_toArray, List.set_cons_zero, List.set_cons_succ]
      refine wpAnyH_take (i := 2) (v := ?_) rfl (by kernel_rfl) (by kernel_rfl) (by kernel_rfl) (fun _ _ _ h => h) (Or.inl ⟨by kernel_rfl, ?_⟩) hH0 ?_
      rotate_left 1
      · intro w hSw
        go_simp
        try with_reducible rfl
      try simp only [Act.put, List.getElem_toArray, List.getElem_cons_zero, List.getElem_cons_succ, List.setIfInBounds_toArray, List.set_cons_zero, List.set_cons_succ]
      refine wpAnyH_take (i := 3) (v := ?_) rfl (by kernel_rfl) (by kernel_rfl) (by kernel_rfl) (fun _ _ _ h => h) (Or.inl ⟨by kernel_rfl, ?_⟩) hH0 ?_
      rotate_left 1
      · intro w hSw
        go_simp
        try with_reducible rfl
      try simp only [Act.put, List.getElem_toArray, List.getElem_cons_zero, List.getElem_cons_succ, List.setIfInBounds_toArray, List.set_cons_zero, List.set_cons_succ]
      refine wpAnyH_take (i := 4) (v := ?_) rfl (by kernel_rfl) (by kernel_rfl) (by kernel_rfl) (fun _ _ _ h => h) (Or.inl ⟨by kernel_rfl, ?_⟩) hH0 ?_
      rotate_left 1
      · intro w hSw
        have f0 := hSw.2
        go_simp
        try with_reducible rfl
      try simp only [Act.put, List.getElem_toArray, List.getElem_cons_zero, List.getElem_cons_succ, List.setIfInBounds_toArray, List.set_cons_zero, List.set_cons_succ]
      refine wpAnyH_take (i := 5) (v := ?_) rfl (by kernel_rfl) (by kernel_rfl) (by kernel_rfl) (fun _ _ _ h => h) (Or.inl ⟨by kernel_rfl, ?_⟩) hH0 ?_
      rotate_left 1
      · intro w hSw
        go_simp
        try with_reducible rfl
      try simp only [Act.put, List.getElem_toArray, List.getElem_cons_zero, List.getElem_cons_succ, List.setIfInBounds_toArray, List.set_cons_zero, List.set_cons_succ]
      refine wpAnyH_take (i := 6) (v := ?_) rfl (by kernel_rfl) (by kernel_rfl) (by kernel_rfl) (fun _ _ _ h => h) (Or.inl ⟨by kernel_rfl, ?_⟩) hH0 ?_
      rotate_left 1
      · intro w hSw
        go_simp
        try with_reducible rfl
      try simp only [Act.put, List.getElem_toArray, List.getElem_cons_zero, List.getElem_cons_succ, List.setIfInBounds_toArray, List.set_cons_zero, List.set_cons_succ]
      refine wpAnyH_take (i := 7) (v := ?_) rfl (by kernel_rfl) (by kernel_rfl) (by kernel_rfl) (fun _ _ _ h => h) (Or.inl ⟨by kernel_rfl, ?_⟩) hH0 ?_
      rotate_left 1
      · intro w hSw
        go_simp
        try with_reducible rfl
      try simp only [Act.put, List.getElem_toArray, List.getElem_cons_zero, List.getElem_cons_succ, List.setIfInBounds_toArray, List.set_cons_zero, List.set_cons_succ]
      refine wpAnyH_take (i := 8) (v := ?_) rfl (by kernel_rfl) (by kernel_rfl) (by kernel_rfl) (fun _ _ _ h => h) (Or.inl ⟨by kernel_rfl, ?_⟩) hH0 ?_
      rotate_left 1
      · intro w hSw
        have f0 := (hSw.1.cell (p := ⟨x.blk, 33, none⟩) lx2 nx).trans y33
        go_simp
        try with_reducible rfl
      try simp only [Act.put, List.getElem_toArray, List.getElem_cons_zero, List.getElem_cons_succ, List.setIfInBounds_toArray, List.set_cons_zero, List.set_cons_succ]
      refine wpAnyH_ready (rs := [9]) (by kernel_rfl) (by simp) ?_
      refine AllReadyH.cons rfl (fun K_ hK => ?_) ?_
      · go_simp
        refine (write_any q.b q.g d.s (at9 : Int) [] W0 hA0.out.sh Hf1.out (by decide)).mono ?_
        rintro e W1 ⟨rfl, hsh1, hO1⟩
        have hA2 := Lib.hid (hv_shelf hA0.out hO1 hsh1)
        have hS1 : Only [q.b, q.g, q.p] w2 W1 ∧ W1.cell? ⟨q.p, 0, none⟩ = some (.pointer (some ⟨q.b, 0, none⟩)) := ⟨hH0.1.trans (hO1.mono (by simp)), (hv_cells hA2.out).1⟩
        rw [← He1.out]
        rw [← Hs1.out] at hA2
        clear hsh1 hO1 hA0
        refine hK.out _ _ hS1 (fun hH1 => ?_)
        clear hK K_
        try simp only [Act.put, List.getElem_toArray, List.getElem_cons_zero, List.getElem_cons_succ, List.setIfInBounds_toArray, List.set_cons_zero, List.set_cons_succ]
        refine wpAnyH_ready (rs := [10]) (by kernel_rfl) (by simp) ?_
        refine AllReadyH.cons rfl (fun K_ hK => ?_) ?_
        · go_simp
          refine (did_any q _ e1 W1 hA2.out).mono ?_
          rintro e W2 ⟨rfl, hd2, hO2⟩
          have hA3 := Lib.hid hd2
          have hS2 : Only [q.b, q.g, q.p] w2 W2 ∧ W2.cell? ⟨q.p, 0, none⟩ = some (.pointer (some ⟨q.b, 0, none⟩)) := ⟨hH1.1.trans (hO2.mono (by simp)), (hv_cells hA3.out).1⟩
          clear hd2 hO2 hA2
          refine hK.out _ _ hS2 (fun hH2 => ?_)
          clear hK K_
          try simp only [Act.put, List.getElem_toArray, List.getElem_cons_zero, List.getElem_cons_succ, List.setIfInBounds_toArray, List.set_cons_zero, List.set_cons_succ]
          refine wpAnyH_take (i := 11) (v := ?_) rfl (by kernel_rfl) (by kernel_rfl) (by kernel_rfl) (fun _ _ _ h => h) (Or.inl ⟨by kernel_rfl, ?_⟩) hH2 ?_
          rotate_left 1
          · intro w hSw
            go_simp
            try with_reducible rfl
          try simp only [Act.put, List.getElem_toArray, List.getElem_cons_zero, List.getElem_cons_succ, List.setIfInBounds_toArray, List.set_cons_zero, List.set_cons_succ]
          refine wpAnyH_done (by kernel_rfl) ?_ _
          have HH := Lib.hid (hH2)
          obtain ⟨w4, hw4⟩ : ∃ y, y = W2 := ⟨_, rfl⟩
          rw [← hw4] at HH hA3 ⊢
          clear hH2 hw4
          by_cases hz1 : e1 = 0
          · have He1z : Hid (e1 = 0) := Lib.hid hz1
            have e1b : (e1 != 0) = false := by simpa using hz1
            have hA4 : Hid (HvAt w4 q { d with s := s1 }) := Lib.hid (by have h := hA3.out; rwa [hz1, show (d.dead || ((0 : Int) == 10)) = d.dead by simp] at h)
            clear hA3 hz1
            go_upto_region 13 with fail
            have c04 := HH.out.2
            go_wp2_with fail
            refine (sync_any q.b q.g s1 w4 hA4.out.sh Hf2.out).mono ?_
            rintro e w5 ⟨rfl, hsh5, hO5⟩
            have hB2 := Lib.hid (hv_shelf hA4.out hO5 hsh5)
            have HS5 := Lib.hid (HH.out.1.trans (hO5.mono (by simp)))
            rw [← He2.out]
            clear hsh5 hO5 c04
            go_wp2_with fail
            refine (did_any q _ e2 w5 hB2.out).mono ?_
            rintro e w6 ⟨rfl, hd6, hO6⟩
            have hB3 := Lib.hid hd6
            have HG := Lib.hid (HS5.out.trans (hO6.mono (by simp)))
            clear hd6 hO6
            by_cases hz2 : e2 = 0
            · have Hz2 := Lib.hid hz2
              have e2b : (e2 != 0) = false := by simpa using hz2
              have hB4 : Hid (HvAt w6 q { d with s := St.sync s1 }) := Lib.hid (by have h := hB3.out; rwa [hz2, show (d.dead || ((0 : Int) == 10)) = d.dead by simp] at h)
              have hrm := Lib.hid (remove_any q { d with s := St.sync s1 } j x w6 hB4.out Hj.out)
              clear hB3 hz2
              go_wp2_with fail
              refine hrm.out.mono ?_
              rintro e w7 ⟨rfl, h7, hO7⟩
              have H7 := Lib.hid h7
              have hO27 : Only [q.b, q.g, q.p, q.ma, q.mt] w2 w7 := (HG.out.mono (by simp)).trans (hO7.mono (by simp))
              have y337 := (hO27.cell (p := ⟨x.blk, 33, none⟩) lx2 nx2).trans y33
              have HO27 := Lib.hid hO27
              clear h7 hO7 hO27 hrm
              go_wp2_with fail
              go_ret2
              exact ⟨(Only.of_below HB.out).trans (HO27.out.mono hsub.out), .inr (.inr ⟨He1z.out, Hz2.out, rfl, H7.out⟩)⟩
            · have hb2 : (e2 != 0) = true := by simpa using hz2
              have Hz2 := Lib.hid hz2
              clear hz2
              go_wp2_with fail
              go_ret2
              exact ⟨(Only.of_below HB.out).trans (HG.out.mono (fun k hk => hsub.out k (by simp at hk ⊢; omega))), .inr (.inl ⟨He1z.out, Hz2.out, rfl, hB3.out⟩)⟩
          · have hb1 : (e1 != 0) = true := by simpa using hz1
            have Hz1 := Lib.hid hz1
            clear hz1
            go_wp2_with fail
            go_ret2
            exact ⟨(Only.of_below HB.out).trans (HH.out.1.mono (fun k hk => hsub.out k (by simp at hk ⊢; omega))), .inl ⟨Hz1.out, rfl, hA3.out⟩⟩
        exact AllReadyH.nil
      exact AllReadyH.nil
end Go.Proofs.YteihfoacdocgkaaDoor
