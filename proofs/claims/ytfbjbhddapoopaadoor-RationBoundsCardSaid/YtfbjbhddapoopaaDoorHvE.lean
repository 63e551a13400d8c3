/-
  Layer 5 (hive): the walks of room (a slot is free) and put.
-/
import Derived.Test.YtfbjbhddapoopaaDoorHvD
set_option linter.unusedVariables false
set_option linter.unusedSimpArgs false
namespace Go.Proofs.YtfbjbhddapoopaaDoor
open Go.RowKit Pl Sh
attribute [local go_sem] Lb.ba_get Lb.ba_cut Lb.ba_add Lb.ba_size Lb.take_rest

theorem zero_boolR (w : World) : (zeroValue 4).run Tryd.prog w = .ok (.bool false) w := by kernel_rfl
theorem zero_entR (w : World) : (zeroValue 150).run Tryd.prog w = .ok (.pointer none) w := by kernel_rfl
theorem taken_yes {w : World} {q : HvP} {d : HvD} (h : HvAt w q d) {i : Nat} (hi : ∃ e ∈ d.L, e.at_ = i) : (Instr.lookup 141 (.map (some q.mt)) (.int .i64 i) false).run Tryd.prog w = .ok (.bool true) w := by
  obtain ⟨e, he, rfl⟩ := hi
  have hf := (h.fit e he).2.1
  rcases h.taken.look int_fam Tryd.underlying141 (zero_boolR w) (a := e.at_) (by show e.at_ < 1000000; omega) with ⟨v, hv, hr⟩ | ⟨hn, -⟩
  · obtain ⟨x, hx, e1⟩ := List.mem_map.1 hv
    rw [← (Prod.mk.inj e1).2] at hr
    exact hr
  · exact absurd rfl (hn (e.at_, .bool true) (List.mem_map.2 ⟨e, he, rfl⟩))
theorem taken_no {w : World} {q : HvP} {d : HvD} (h : HvAt w q d) {i : Nat} (hi : ∀ e ∈ d.L, e.at_ ≠ i) (hi2 : i < 1000000) : (Instr.lookup 141 (.map (some q.mt)) (.int .i64 i) false).run Tryd.prog w = .ok (.bool false) w := by
  rcases h.taken.look int_fam Tryd.underlying141 (zero_boolR w) (a := i) hi2 with ⟨v, hv, hr⟩ | ⟨-, hr⟩
  · obtain ⟨x, hx, e1⟩ := List.mem_map.1 hv
    exact absurd (Prod.mk.inj e1).1 (hi x hx)
  · exact hr

set_option maxHeartbeats 2000000 in
set_option maxRecDepth 100000 in
theorem room_free (q : HvP) (d : HvD) (m : Nat) (w : World) (h : HvAt w q d) (hns : d.s.slots.length ≤ 128) (hm : m < d.s.slots.length) (hfree : ∀ e ∈ d.L, e.at_ ≠ m) (hlow : ∀ i, i < m → ∃ e ∈ d.L, e.at_ = i) :
    Calls Tryd.prog 119 #[.pointer (some ⟨q.p, 0, none⟩)] w fun r w' => r = .returned (.tuple #[.int .i64 m, .int .i64 0]) ∧ w = w' := by
  obtain ⟨c0, -, c2, -, -, -, -, -⟩ := hv_cells h
  have hl := Lib.hid (len_any q.b q.g d.s w h.sh)
  obtain ⟨n, hn⟩ : ∃ n, n = d.s.slots.length := ⟨_, rfl⟩
  rw [← hn] at hl hm hns
  have Hyes := Lib.hid (fun i (hi : i < m) => taken_yes h (hlow i hi))
  have hno := taken_no h hfree (by omega)
  have Hno := Lib.hid hno
  have tund := Tryd.underlying141
  clear h hn hfree hlow hno
  go_enter Tryd.func119, Tryd.ntmps119
  go_wp2_with fail
  refine hl.out.mono ?_
  rintro e w1 ⟨rfl, rfl⟩
  clear hl
  go_wp2_with fail
  go_loopw [13] (fun i wr => ∃ k : Nat, k ≤ m ∧ i = .int .i64 k ∧ w = wr) (fun i _ => m - (intOf i).toNat)
  case atStart => exact ⟨0, by omega, rfl, by first | trivial | rfl⟩
  case round =>
    obtain ⟨k, hk, rfl, rfl⟩ := hrel
    have j1 : (k : Int) < (n : Int) := by omega
    by_cases hkm : k < m
    · have hy := Hyes.out k hkm
      go_wp2_with (refine wpList_lookupR rfl 141 _ _ rfl (.bool true) hy ?_)
      go_roundw
      case rel => exact ⟨k + 1, by omega, by go_num, by first | trivial | rfl⟩
      case measure => simp [intOf]; omega
    · obtain rfl : m = k := by omega
      have hy := Hno.out
      go_wp2_with (refine wpList_lookupR rfl 141 _ _ rfl (.bool false) hy ?_)
      go_ret2
      exact ⟨rfl, rfl⟩

/-- the shelf alone has turned -/
theorem hv_shelf {w w2 : World} {q : HvP} {d : HvD} {s : St} (h : HvAt w q d) (hO : Only [q.b, q.g] w w2) (hs : ShAt w2 q.b q.g s) : HvAt w2 q { d with s := s } := by
  obtain ⟨n1, n2⟩ := own_nd h.nd
  obtain ⟨a1, a2, a3, a4, a5, a6, a7, a8, a9, a10, a11, a12, a13, a14, a15⟩ := own_six h.nd
  exact ⟨hO.keep h.hp (by simp; exact ⟨a4, a5⟩), h.all.keep (hO.block q.ma h.all.lt (by simp; exact ⟨a8, a9⟩)), h.taken.keep (hO.block q.mt h.taken.lt (by simp; exact ⟨a11, a12⟩)), h.pin.keep (hO.block q.mp h.pin.lt (by simp; exact ⟨a13, a14⟩)), fun e he => hO.keep (h.ents e he) (by simp; exact ⟨(n2 e he).2.2.2.2.1, (n2 e he).2.2.2.2.2⟩), h.fit, hs, h.nd⟩

def PutPost (K : List Int) (w : World) (q : HvP) (d : HvD) (isB : Bool) (id row : List UInt8) (m : Nat) (e : Ending) (w' : World) : Prop :=
  e = .returned (.int .i64 0) ∧ ∃ blk, w.heap.size ≤ blk ∧ HvAt w' q { d with s := St.write d.s m (textS K row), L := d.L ++ [⟨isB, id, m, ((d.clk + 1 : Nat) : Int), row, blk⟩], clk := d.clk + 1 } ∧ Only (q.own d.L) w w'
set_option maxHeartbeats 4000000 in
set_option maxRecDepth 100000 in
theorem hput_ok (K : List Int) (q : HvP) (d : HvD) (isB : Bool) (id row : List UInt8) (m : Nat) (w : World) (h : HvAt w q d) (hL : Laid K w) (h0 : 0 ∉ q.own d.L) (hns : d.s.slots.length ≤ 128) (hm : m < d.s.slots.length) (hfree : ∀ e ∈ d.L, e.at_ ≠ m) (hlow : ∀ i, i < m → ∃ e ∈ d.L, e.at_ = i)
    (hid : id.length = 32) (hrow : row.length ≤ 600) (hk : ∀ e ∈ d.L, (e.isB, e.id) ≠ (isB, id)) (hc : d.clk < 1000000) (hdd : d.dead = false) (hw0 : St.writeErr d.s m (textS K row) = 0) (hfit : d.s.pw.fits 2) :
    Calls Tryd.prog 89 #[.pointer (some ⟨q.p, 0, none⟩), .agg (Value.bool isB :: byV id).toArray, .string ⟨row.toArray⟩] w (PutPost K w q d isB id row m) := by
  obtain ⟨NC, hNC⟩ : ∃ x, x = (Value.bool isB :: byV id).toArray := ⟨_, rfl⟩
  have hNl : NC.size = 33 := by rw [hNC]; simp [byV_length, hid]
  have hb1 := (Below.refl w.heap.size w).alloc (Nat.le_refl _) (.cells NC 137)
  have hn0 := heap_alloc_new w (.cells NC 137)
  have h1 := h.below hb1
  have hL1 := hL.below hb1
  obtain ⟨w1, hw1⟩ : ∃ y, y = w.alloc (.cells NC 137) := ⟨_, rfl⟩
  obtain ⟨n0, hn⟩ : ∃ y, y = w.heap.size := ⟨_, rfl⟩
  rw [← hw1] at h1 hn0 hb1 hL1
  rw [← hn] at hn0
  have hroom := Lib.hid (room_free q d m w1 h1 hns hm hfree hlow)
  obtain ⟨c0, -⟩ := hv_cells h1
  have lp : q.p < w1.heap.size := heap_lt h1.hp
  obtain ⟨a1, a2, a3, a4, a5, a6, a7, a8, a9, a10, a11, a12, a13, a14, a15⟩ := own_six h.nd
  have hOth : ∀ W, (Only [q.b, q.g, q.p] w1 W) → Laid K W := fun W hW => hL1.only hW (by
    obtain ⟨m1, m2, m3, m4, m5, m6, -⟩ := @own_mem q d.L
    intro hm0
    simp at hm0
    rcases hm0 with e | e | e
    · rw [← e] at m5; exact h0 m5
    · rw [← e] at m6; exact h0 m6
    · rw [← e] at m1; exact h0 m1)
  have hlt := h.lt
  have H := Lib.hid h
  have H1 := Lib.hid h1
  have Hn0 := Lib.hid hn0
  have HL1 := Lib.hid hL1
  have Hb1 := Lib.hid hb1
  have Hn := Lib.hid hn
  have Hw1 := Lib.hid hw1
  have HNC := Lib.hid hNC
  have Hk := Lib.hid hk
  have Hfree := Lib.hid hfree
  have Hdd := Lib.hid hdd
  have Hw0 := Lib.hid hw0
  have Hid' := Lib.hid hid
  have Hlt := Lib.hid hlt
  have NDIX : Hid ((Tryd.prog.info? 137).map (·.size) = some NC.size) := Lib.hid (by rw [name_info, hNl])
  obtain ⟨tx, htx⟩ : ∃ t, t = textS K row := ⟨_, rfl⟩
  have htl : tx.length ≤ 632 := by rw [htx]; unfold textS; rw [List.length_append, hashB_length]; omega
  have Htx := Lib.hid htx
  have HOth := Lib.hid hOth
  unfold PutPost
  rw [← htx] at Hw0 ⊢
  rw [← hNC]
  clear h h1 hL hL1 hb1 hn hw1 hn0 hNC hk hfree hlow hdd hw0 hid hlt hNl htx hOth a1 a2 a3 a4 a5 a6 a7 a8 a9 a10 a11 a12 a13 a14 a15 h0
  go_enter Tryd.func89, Tryd.ntmps89
  go_upto_region 1 with fail
  rw [← Hw1.out, ← Hn.out]
  go_wp2_with fail
  refine hroom.out.mono ?_
  rintro e w2 ⟨rfl, rfl⟩
  clear hroom
  go_upto_region 4 with fail
  have htext := Lib.hid (fun W (hW : Only [q.b, q.g, q.p] w1 W) => htext_any K row W (HOth.out W hW) (by omega))
  rw [← Htx.out] at htext
  refine wp_region_held_drew (S := fun w' => Only [q.b, q.g, q.p] w1 w' ∧ w'.cell? ⟨q.p, 0, none⟩ = some (.pointer (some ⟨q.b, 0, none⟩))) (by kernel_rfl) ⟨(Only.refl _ _).drew, c0⟩ (fun hH0 => ?_)
  obtain ⟨W0, hW0⟩ : ∃ W, W = w1.drew := ⟨_, rfl⟩
  have hA0 : Hid (HvAt W0 q d) := Lib.hid (by rw [hW0]; exact H1.out.keep (fun k hk => rfl))
  rw [← hW0] at hH0 ⊢
  clear hW0
  refine wpAnyH_take (i := 0) (v := ?_) rfl (by kernel_rfl) (by kernel_rfl) (by kernel_rfl) (fun _ _ _ h => h) (Or.inl ⟨by kernel_rfl, ?_⟩) hH0 ?_
  rotate_left 1
  · intro w hSw
    go_simp
    try with_reducible rfl
  try simp only [Act.put, List.getElem_toArray, List.getElem_cons_zero, List.getElem_cons_succ, List.setIfInBounds_toArray, List.set_cons_zero, List.set_cons_succ]
  refine wpAnyH_take (i := 1) (v := ?_) rfl (by kernel_rfl) (by kernel_rfl) (by kernel_rfl) (fun _ _ _ h => h) (Or.inl ⟨by kernel_rfl, ?_⟩) hH0 ?_
  rotate_left 1
  · intro w hSw
    go_simp
    try with_reducible rfl
  try simp only [Act.put, List.getElem_toArray, List.getElem_cons_zero, List.getElem_cons_succ, List.setIfInBounds_toArray, List.set_cons_zero, List.set_cons_succ]
  refine wpAnyH_take (i := 2) (v := ?_) rfl (by kernel_rfl) (by kernel_rfl) (by kernel_rfl) (fun _ _ _ h => h) (Or.inl ⟨by kernel_rfl, ?_⟩) hH0 ?_
  rotate_left 1
  · intro w hSw
    go_simp
    try with_reducible rfl
  try simp only [Act.put, List.getElem_toArray, List.getElem_cons_zero, List.getElem_cons_succ, List.setIfInBounds_toArray, List.set_cons_zero, List.set_cons_succ]
  refine wpAnyH_take (i := 3) (v := ?_) rfl (by kernel_rfl) (by kernel_rfl) (by kernel_rfl) (fun _ _ _ h => h) (Or.inl ⟨by kernel_rfl, ?_⟩) hH0 ?_
  rotate_left 1
  · intro w hSw
    go_simp
    try with_reducible rfl
  try simp only [Act.put, List.getElem_toArray, List.getElem_cons_zero, List.getElem_cons_succ, List.setIfInBounds_toArray, List.set_cons_zero, List.set_cons_succ]
  refine wpAnyH_take (i := 4) (v := ?_) rfl (by kernel_rfl) (by kernel_rfl) (by kernel_rfl) (fun _ _ _ h => h) (Or.inl ⟨by kernel_rfl, ?_⟩) hH0 ?_
  rotate_left 1
  · intro w hSw
    have f0 := hSw.2
    go_simp
    try with_reducible rfl
  try simp only [Act.put, List.getElem_toArray, List.getElem_cons_zero, List.getElem_cons_succ, List.setIfInBounds_toArray, List.set_cons_zero, List.set_cons_succ]
  refine wpAnyH_take (i := 5) (v := ?_) rfl (by kernel_rfl) (by kernel_rfl) (by kernel_rfl) (fun _ _ _ h => h) (Or.inl ⟨by kernel_rfl, ?_⟩) hH0 ?_
  rotate_left 1
  · intro w hSw
    go_simp
    try with_reducible rfl
  try simp only [Act.put, List.getElem_toArray, List.getElem_cons_zero, List.getElem_cons_succ, List.setIfInBounds_toArray, List.set_cons_zero, List.set_cons_succ]
  refine wpAnyH_take (i := 6) (v := ?_) rfl (by kernel_rfl) (by kernel_rfl) (by kernel_rfl) (fun _ _ _ h => h) (Or.inl ⟨by kernel_rfl, ?_⟩) hH0 ?_
  rotate_left 1
  · intro w hSw
    go_simp
    try with_reducible rfl
  try simp only [Act.put, List.getElem_toArray, List.getElem_cons_zero, List.getElem_cons_succ, List.setIfInBounds_toArray, List.set_cons_zero, List.set_cons_succ]
  refine wpAnyH_ready (rs := [7]) (by kernel_rfl) (by simp) ?_
  refine AllReadyH.cons rfl (fun K_ hK => ?_) ?_
  · go_simp
    refine (htext.out W0 hH0.1).mono ?_
    rintro e W1 ⟨rfl, hb1⟩
    have hA1 := Lib.hid (hA0.out.below hb1)
    have hS1 : Only [q.b, q.g, q.p] w1 W1 ∧ W1.cell? ⟨q.p, 0, none⟩ = some (.pointer (some ⟨q.b, 0, none⟩)) := ⟨(Only.trans hH0.1 (Only.of_below hb1)), (hb1.cell (p := ⟨q.p, 0, none⟩) (Nat.lt_of_lt_of_le lp (hH0).1.size)).trans (hH0).2⟩
    clear hA0
    refine hK.out _ _ hS1 (fun hH1 => ?_)
    clear hK K_
    try simp only [Act.put, List.getElem_toArray, List.getElem_cons_zero, List.getElem_cons_succ, List.setIfInBounds_toArray, List.set_cons_zero, List.set_cons_succ]
    refine wpAnyH_ready (rs := [8]) (by kernel_rfl) (by simp) ?_
    refine AllReadyH.cons rfl (fun K_ hK => ?_) ?_
    · go_simp
      refine (write_any q.b q.g d.s (m : Int) tx W1 hA1.out.sh hfit (by omega)).mono ?_
      rintro e W2 ⟨rfl, hsh2, hO2⟩
      have hA2 := Lib.hid (hv_shelf hA1.out hO2 hsh2)
      have hS2 : Only [q.b, q.g, q.p] w1 W2 ∧ W2.cell? ⟨q.p, 0, none⟩ = some (.pointer (some ⟨q.b, 0, none⟩)) := ⟨hH1.1.trans (hO2.mono (by simp)), (hv_cells hA2.out).1⟩
      rw [Hw0.out]
      clear hsh2 hO2 hA1
      refine hK.out _ _ hS2 (fun hH2 => ?_)
      clear hK K_
      try simp only [Act.put, List.getElem_toArray, List.getElem_cons_zero, List.getElem_cons_succ, List.setIfInBounds_toArray, List.set_cons_zero, List.set_cons_succ]
      refine wpAnyH_ready (rs := [9]) (by kernel_rfl) (by simp) ?_
      refine AllReadyH.cons rfl (fun K_ hK => ?_) ?_
      · go_simp
        refine (did_any q _ 0 W2 hA2.out).mono ?_
        rintro e W3 ⟨rfl, hd3, hO3⟩
        have hA3 := Lib.hid hd3
        have hS3 : Only [q.b, q.g, q.p] w1 W3 ∧ W3.cell? ⟨q.p, 0, none⟩ = some (.pointer (some ⟨q.b, 0, none⟩)) := ⟨hH2.1.trans (hO3.mono (by simp)), (hv_cells hA3.out).1⟩
        clear hd3 hO3 hA2
        refine hK.out _ _ hS3 (fun hH3 => ?_)
        clear hK K_
        try simp only [Act.put, List.getElem_toArray, List.getElem_cons_zero, List.getElem_cons_succ, List.setIfInBounds_toArray, List.set_cons_zero, List.set_cons_succ]
        refine wpAnyH_take (i := 10) (v := ?_) rfl (by kernel_rfl) (by kernel_rfl) (by kernel_rfl) (fun _ _ _ h => h) (Or.inl ⟨by kernel_rfl, ?_⟩) hH3 ?_
        rotate_left 1
        · intro w hSw
          go_simp
          try with_reducible rfl
        try simp only [Act.put, List.getElem_toArray, List.getElem_cons_zero, List.getElem_cons_succ, List.setIfInBounds_toArray, List.set_cons_zero, List.set_cons_succ]
        refine wpAnyH_done (by kernel_rfl) ?_ _
        have HH := Lib.hid (hH3).1
        obtain ⟨w5, hw5⟩ : ∃ y, y = W3 := ⟨_, rfl⟩
        rw [← hw5] at HH hA3 ⊢
        clear hH3 hw5 htext c0
        have hA5 : HvAt w5 q { d with s := St.write d.s m tx } := by
          have := hA3.out
          rwa [show ({ d with s := St.write d.s m tx, dead := d.dead || ((0 : Int) == 10) } : HvD) = { d with s := St.write d.s m tx } by rw [Hdd.out]; rfl] at this
        have hn5 := HH.out.keep Hn0.out (by have h1 := Hlt.out; have := own_mem (q := q) (L := d.L); have := h1 _ this.1; have := h1 q.b (by simp [HvP.own]); have := h1 q.g (by simp [HvP.own]); have := Hn.out; simp; omega)
        have hadd := Lib.hid (hadd_any q { d with s := St.write d.s m tx } isB id m row w5 hA5 Hid'.out (by omega) (by omega) hc Hk.out Hfree.out)
        rw [← HNC.out] at hadd
        have hsz : w.heap.size ≤ w5.heap.size := Nat.le_trans Hb1.out.size HH.out.size
        have Hsz := Lib.hid hsz
        have Hn5 := Lib.hid hn5
        clear hA5 hn5 hA3 hsz
        have nund := Tryd.underlying137
        have ndix := NDIX.out
        go_wp2_with (refine wpList_load_row rfl 137 _ rfl n0 rfl 137 NC (0, 0) _ Hn5.out nund rfl ndix ?_)
        refine hadd.out.mono ?_
        rintro e w6 ⟨rfl, blk, hbl, hA6, hO6⟩
        have HA6 := Lib.hid hA6
        have HO6 := Lib.hid hO6
        have Hbl := Lib.hid (Nat.le_trans Hsz.out hbl)
        clear hbl hA6 hO6 hadd
        go_wp2_with fail
        go_ret
        have mm := @own_mem q d.L
        refine ⟨rfl, blk, Hbl.out, HA6.out, ((((Only.of_below Hb1.out).trans HH.out).mono (cs := q.own d.L) (by intro k hk; simp at hk; rcases hk with rfl | rfl | rfl; exact mm.2.2.2.2.1; exact mm.2.2.2.2.2.1; exact mm.1)).trans (HO6.out.mono (by intro k hk; simp at hk; rcases hk with rfl | rfl | rfl; exact mm.1; exact mm.2.1; exact mm.2.2.1)))⟩
      exact AllReadyH.nil
    exact AllReadyH.nil
  exact AllReadyH.nil
end Go.Proofs.YtfbjbhddapoopaaDoor
