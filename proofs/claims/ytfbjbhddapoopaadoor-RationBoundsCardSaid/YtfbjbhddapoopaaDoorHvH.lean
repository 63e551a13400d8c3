/-
  Layer 5 (hive): the walk of PutBlob.
-/
import Derived.Test.YtfbjbhddapoopaaDoorHvG
set_option linter.unusedVariables false
set_option linter.unusedSimpArgs false
namespace Go.Proofs.YtfbjbhddapoopaaDoor
open Go.RowKit Pl Sh
attribute [local go_sem] Lb.ba_get Lb.ba_cut Lb.ba_add Lb.ba_size Lb.take_rest

theorem write_facts (s : St) (m : Nat) (t : List UInt8) (hd : s.pw.down = false) (ha : s.pw.armed = 0) (hm : m < s.slots.length) (ht : t.length ≤ 640) :
    St.writeErr s m t = 0 ∧ (St.write s m t).pw = { s.pw with acts := s.pw.acts + 1 } ∧ (St.write s m t).slots.length = s.slots.length ∧ St.read (St.write s m t) m = t ∧ ∀ i : Nat, i ≠ m → St.read (St.write s m t) i = St.read s i := by
  have h0 : St.atErr s m = 0 := by unfold St.atErr; rw [if_neg (by simp [hd]), if_neg (by omega)]
  have hpe : s.pw.err = 0 := by unfold Pw.err; rw [if_neg (by rw [ha]; decide)]
  have hw : St.write s m t = { pw := s.pw.act, slots := setNow s.slots m t } := by unfold St.write; rw [if_neg (by intro h; rcases h with h | h; exact h h0; omega)]; rfl
  have hact : s.pw.act = { s.pw with acts := s.pw.acts + 1 } := by unfold Pw.act; rw [if_pos ha]
  have hrd : ∀ i : Nat, St.read (St.write s m t) i = if St.atErr s i ≠ 0 then [] else (((setNow s.slots m t)[i]?).map Slot.now).getD [] := by
    intro i
    have e : St.atErr (St.write s m t) i = St.atErr s i := by
      rw [hw, hact]; unfold St.atErr; simp only [setNow_length]
    unfold St.read
    rw [e, hw]
    simp
  refine ⟨by unfold St.writeErr; rw [if_neg (by simpa using h0), if_neg (by omega), hpe], by rw [hw, hact], by rw [hw]; exact setNow_length _ _ _, ?_, fun i hi => ?_⟩
  · rw [hrd m, if_neg (by simpa using h0)]
    unfold setNow
    rw [List.getElem?_eq_getElem hm]
    simp [hm]
  · rw [hrd i]
    unfold St.read setNow
    rw [List.getElem?_eq_getElem hm]
    simp only [Int.toNat_natCast]
    rw [List.getElem?_set_ne (by omega)]
theorem kept_put {K : List Int} {d : HvD} {bl : List (List UInt8)} {k : Nat} (h : KeptH K d bl (k + 1)) (b : List UInt8) (hb : b.length ≤ 512) (hlt : bl.length < 128) (blk : Nat) :
    KeptH K { d with s := St.write d.s bl.length (textS K (blobRowS b)), L := d.L ++ [⟨true, hashB K b, bl.length, ((d.clk + 1 : Nat) : Int), blobRowS b, blk⟩], clk := d.clk + 1 } (bl ++ [b]) k := by
  have hr := blobRow_len b hb
  have htl : (textS K (blobRowS b)).length ≤ 640 := by unfold textS; rw [List.length_append, hashB_length]; omega
  obtain ⟨f1, f2, f3, f4, f5⟩ := write_facts d.s bl.length (textS K (blobRowS b)) h.ready.2.1 h.armed (by rw [h.slots]; exact hlt) htl
  refine ⟨⟨h.ready.1, by show (St.write d.s _ _).pw.down = false; rw [f2]; exact h.ready.2.1, by show ((St.write d.s _ _).pw.life : Int) = d.life; rw [f2]; exact h.ready.2.2⟩, by show (St.write d.s _ _).pw.armed = 0; rw [f2]; exact h.armed, by show (St.write d.s _ _).pw.acts + k < _; rw [f2]; have := h.acts; show d.s.pw.acts + 1 + k < _; omega, by show (St.write d.s _ _).pw.life < _; rw [f2]; exact h.life, by show (St.write d.s _ _).slots.length = _; rw [f3]; exact h.slots, by show (d.L ++ [_]).length = (bl ++ [b]).length; simp [h.lens], by have := h.clk; show d.clk + 1 + k < _; omega, fun i e he => ?_⟩
  have he' : (d.L ++ [⟨true, hashB K b, bl.length, ((d.clk + 1 : Nat) : Int), blobRowS b, blk⟩])[i]? = some e := he
  show ∃ b', (bl ++ [b])[i]? = some b' ∧ e.isB = true ∧ e.at_ = i ∧ e.id = hashB K b' ∧ e.row = blobRowS b' ∧ b'.length ≤ 512 ∧ St.read (St.write d.s bl.length (textS K (blobRowS b))) i = textS K (blobRowS b')
  rcases Nat.lt_or_ge i d.L.length with hi | hi
  · rw [List.getElem?_append_left hi] at he'
    obtain ⟨b', g1, g2, g3, g4, g5, g6, g7⟩ := h.ents i e he'
    have hib : i < bl.length := by rw [← h.lens]; exact hi
    exact ⟨b', by rw [List.getElem?_append_left hib]; exact g1, g2, g3, g4, g5, g6, by rw [f5 i (by omega)]; exact g7⟩
  · rw [List.getElem?_append_right hi] at he'
    have hi0 : i = d.L.length := by
      have := (List.getElem?_eq_some_iff.1 he').1
      simp at this; omega
    subst hi0
    rw [Nat.sub_self] at he'
    obtain rfl := Option.some.inj he'
    exact ⟨b, by rw [h.lens]; simp, rfl, h.lens.symm, rfl, rfl, hb, by rw [h.lens]; exact f4⟩

theorem setRow_other (w : World) (g : Nat) (cs : Array Value) {x : Nat} (h : x ≠ g) : (w.setRow g cs).heap[x]? = w.heap[x]? := by
  have := ((Only.refl [g] w).setRow (g := g) (by simp) cs)
  rcases Nat.lt_or_ge x w.heap.size with hx | hx
  · exact this.block x hx (by simpa using h)
  · have h1 : (w.setRow g cs).heap.size = w.heap.size := by simp [World.setRow]
    rw [Array.getElem?_eq_none (by omega), Array.getElem?_eq_none (by omega)]
/-- behind a store to a block of its own -/
theorem Only.trans' {S : List Nat} {w w' : World} (h : Only S w w') (g : Nat) (hg : w.heap.size ≤ g) (cs : Array Value) : Only S w (w'.setRow g cs) := by
  have h1 : Only (g :: S) w (w'.setRow g cs) := (h.mono (by intro x hx; simp [hx])).setRow (by simp) cs
  exact ⟨h1.os, h1.tape, h1.output, h1.size, fun i hi hn => h1.block i hi (by simp; exact ⟨by omega, hn⟩)⟩
/-- what PutBlob answers; what the store has then -/
def putS (K : List Int) (bl : List (List UInt8)) (b : List UInt8) : List UInt8 × Int × List (List UInt8) :=
  if 512 < b.length then (List.replicate 32 0, 33, bl) else if (blobS K bl (hashB K b)).2 = true then (hashB K b, 0, bl) else (hashB K b, 0, bl ++ [b])
def PutBPost (K : List Int) (w : World) (q : HvP) (S : List Nat) (bl : List (List UInt8)) (b : List UInt8) (k : Nat) (e : Ending) (w' : World) : Prop :=
  ∃ S', e = .returned (.tuple #[.agg (digV (putS K bl b).1), .int .i64 (putS K bl b).2.1]) ∧ StoreAt K w' q S' (putS K bl b).2.2 k ∧ Only S w w' ∧ ∀ x ∈ S', x ∈ S ∨ w.heap.size ≤ x
set_option maxRecDepth 100000 in
theorem built_dig0 : Tryd.prog.built 23 [] = some (digV (List.replicate 32 0)) := by kernel_rfl

set_option maxHeartbeats 4000000 in
set_option maxRecDepth 100000 in
theorem hputblob_wide (K : List Int) (q : HvP) (S : List Nat) (bl : List (List UInt8)) (b : List UInt8) (k : Nat) (w : World) (h : StoreAt K w q S bl (k + 1)) (hL : Laid K w) (hb : 512 < b.length) :
    Calls Tryd.prog 42 #[.pointer (some ⟨q.p, 0, none⟩), .string ⟨b.toArray⟩] w (PutBPost K w q S bl b k) := by
  have hp : putS K bl b = (List.replicate 32 0, 33, bl) := by unfold putS; rw [if_pos hb]
  have HP := Lib.hid hp
  have hi : (512 : Int) < (b.length : Int) := by omega
  obtain ⟨d, hat, hk, hS⟩ := h
  have hb1 := (Below.refl w.heap.size w).alloc (Nat.le_refl _) (.cells (digV (List.replicate 32 0)) 23)
  have hn0 := heap_alloc_new w (.cells (digV (List.replicate 32 0)) 23)
  have h1 := hat.below hb1
  have hL1 := hL.below hb1
  obtain ⟨w1, hw1⟩ : ∃ y, y = w.alloc (.cells (digV (List.replicate 32 0)) 23) := ⟨_, rfl⟩
  obtain ⟨n0, hn⟩ : ∃ y, y = w.heap.size := ⟨_, rfl⟩
  rw [← hw1] at h1 hn0 hb1 hL1
  rw [← hn] at hn0
  have hrd := Lib.hid (ready_ok q d w1 h1 hk.ready)
  have dund := Tryd.underlying23
  have Hn0 := Lib.hid hn0
  have Hb1 := Lib.hid hb1
  have Hn := Lib.hid hn
  have Hw1 := Lib.hid hw1
  have HAT := Lib.hid hat
  have HK := Lib.hid hk
  have HS := Lib.hid hS
  have HL1 := Lib.hid hL1
  have H1 := Lib.hid h1
  have dixA : (Tryd.prog.info? 23).map (·.size) = some (digV (List.replicate 32 0)).size := by kernel_rfl
  have hone := digV_one (List.replicate 32 0)
  obtain ⟨DV, hDV⟩ : ∃ x, x = digV (List.replicate 32 0) := ⟨_, rfl⟩
  have hbd := built_dig0
  rw [← hDV] at dixA hone hbd
  have HDV := Lib.hid hDV
  clear hat hk hS hL hL1 h1 hb1 hn0 hn hw1 hp hb hDV
  go_enter Tryd.func42, Tryd.ntmps42
  go_upto_region 1 with fail
  show Code.wp _ _ _ _ (w.alloc (.cells (digV (List.replicate 32 0)) 23))
  rw [← Hw1.out, ← Hn.out]
  go_wp2_with fail
  refine hrd.out.mono ?_
  rintro r w2 ⟨rfl, hB2⟩
  have B2 := Lib.hid (Hb1.out.trans (hB2.mono Hb1.out.size))
  have Hn2 := Lib.hid (below_keep hB2 Hn0.out)
  have H2 := Lib.hid (H1.out.below hB2)
  have HL2 := Lib.hid (HL1.out.below hB2)
  clear hB2 hrd
  have hn2 := Hn2.out
  rw [← HDV.out] at hn2
  have Hn2b := Lib.hid hn2
  clear hn2
  go_wp2_with (first
    | (refine wpList_build0' rfl 23 rfl DV hbd ?_)
    | (refine wpList_store_row rfl 23 _ _ rfl n0 DV rfl rfl 23 DV Hn2b.out dixA rfl hone ?_))
  (try simp only [Exit.inBlock, Exit.then])
  refine bodyPost_ret (results_cell_row2 rfl _ _ n0 23 DV (0, 0) _ rfl (setRow_heap _ _ _ _ _ _ Hn2b.out) dund rfl dixA) rfl ?_
  have hB3 : Below w.heap.size w (w2.setRow n0 DV) := B2.out.trans (((Only.refl [n0] w2).setRow (by simp) _).below B2.out.size (by intro x hx; simp at hx; rw [hx, Hn.out]; exact Nat.le_refl _))
  unfold PutBPost
  rw [HP.out, ← HDV.out]
  exact ⟨S, rfl, ⟨d, HAT.out.below hB3, HK.out.less (by omega), HS.out⟩, Only.of_below hB3, fun x hx => .inl hx⟩

set_option maxHeartbeats 4000000 in
set_option maxRecDepth 100000 in
theorem hputblob_again (K : List Int) (q : HvP) (S : List Nat) (bl : List (List UInt8)) (b : List UInt8) (k : Nat) (w : World) (h : StoreAt K w q S bl (k + 1)) (hL : Laid K w) (hb : b.length ≤ 512) (hys : (blobS K bl (hashB K b)).2 = true) :
    Calls Tryd.prog 42 #[.pointer (some ⟨q.p, 0, none⟩), .string ⟨b.toArray⟩] w (PutBPost K w q S bl b k) := by
  have hp : putS K bl b = (hashB K b, 0, bl) := by unfold putS; rw [if_neg (by omega), if_pos hys]
  have HP := Lib.hid hp
  have ib : ¬ (512 : Int) < (b.length : Int) := by omega
  obtain ⟨dg, hdg⟩ : ∃ x, x = hashB K b := ⟨_, rfl⟩
  have hdl : dg.length = 32 := by rw [hdg]; exact hashB_length K b
  have hbn := built_name true dg hdl
  obtain ⟨NV, hNV⟩ : ∃ x, x = (Value.bool true :: byV dg).toArray := ⟨_, rfl⟩
  rw [← hNV] at hbn
  have hNs : NV.size = 33 := by rw [hNV]; simp [byV_length, hdl]
  have ndixA : (Tryd.prog.info? 137).map (·.size) = some NV.size := by rw [name_info, hNs]
  have hNone : NV.all (·.oneCell') = true := by rw [hNV, List.all_toArray, List.all_cons, byV_one]; rfl
  obtain ⟨DL, hDL⟩ : ∃ x, x = byV dg := ⟨_, rfl⟩
  have dixL : (Tryd.prog.info? 23).map (·.size) = some DL.length := by rw [hDL, dig_info, byV_length, hdl]
  have dixA : (Tryd.prog.info? 23).map (·.size) = some DL.toArray.size := by rw [dixL]; simp
  have doneA : DL.toArray.all (·.oneCell') = true := by rw [hDL, List.all_toArray, byV_one]
  have dsz : DL.toArray.size = 32 := by rw [hDL]; simp [byV_length, hdl]
  have Hdg := Lib.hid hdg
  have HNV := Lib.hid hNV
  have HDL := Lib.hid hDL
  have Hdl := Lib.hid hdl

  obtain ⟨d, hat, hk, hS⟩ := h
  have hb1 := (Below.refl w.heap.size w).alloc (Nat.le_refl _) (.cells (digV (List.replicate 32 0)) 23)
  have hn0 := heap_alloc_new w (.cells (digV (List.replicate 32 0)) 23)
  have h1 := hat.below hb1
  have hL1 := hL.below hb1
  obtain ⟨w1, hw1⟩ : ∃ y, y = w.alloc (.cells (digV (List.replicate 32 0)) 23) := ⟨_, rfl⟩
  obtain ⟨n0, hn⟩ : ∃ y, y = w.heap.size := ⟨_, rfl⟩
  rw [← hw1] at h1 hn0 hb1 hL1
  rw [← hn] at hn0
  have hrd := Lib.hid (ready_ok q d w1 h1 hk.ready)
  have dund := Tryd.underlying23
  have Hn0 := Lib.hid hn0
  have Hb1 := Lib.hid hb1
  have Hn := Lib.hid hn
  have Hw1 := Lib.hid hw1
  have HAT := Lib.hid hat
  have HK := Lib.hid hk
  have HS := Lib.hid hS
  have HL1 := Lib.hid hL1
  have H1 := Lib.hid h1
  rw [← hdg] at hys
  rcases kept_find hk dg with ⟨j, e, b', hj, e1, e2, e3, e4, e5, e6, e7⟩ | ⟨-, e7⟩
  · have Hj := Lib.hid hj
    have E1 := Lib.hid e1
    have E2 := Lib.hid e2
    have HK2 := Lib.hid (kept_use hk hj)
    have Hown := Lib.hid (own_use (q := q) hj ((d.clk + 1 : Nat) : Int))
    have hcl : d.clk < 1000000 := by have := hk.clk; omega
    clear hat hk hS hL hL1 h1 hb1 hn0 hn hw1 hp hj e1 e2 e3 e4 e5 e6 e7 hys hdg hNV hDL hdl
    go_enter Tryd.func42, Tryd.ntmps42
    go_upto_region 1 with fail
    show Code.wp _ _ _ _ (w.alloc (.cells (digV (List.replicate 32 0)) 23))
    rw [← Hw1.out, ← Hn.out]
    go_wp2_with fail
    refine hrd.out.mono ?_
    rintro r w2 ⟨rfl, hB2⟩
    have B2 := Lib.hid (Hb1.out.trans (hB2.mono Hb1.out.size))
    have Hn2 := Lib.hid (below_keep hB2 Hn0.out)
    have H2 := Lib.hid (H1.out.below hB2)
    have HL2 := Lib.hid (HL1.out.below hB2)
    clear hB2 hrd
    have hb1s := (Below.refl w2.heap.size w2).alloc (Nat.le_refl _) (.cells #[.string ⟨b.toArray⟩] 9)
    have cb : (w2.alloc (.cells #[.string ⟨b.toArray⟩] 9)).cell? ⟨w2.heap.size, 0, none⟩ = some (.string ⟨b.toArray⟩) := by rw [Lib.cell_of_heap (heap_alloc_new w2 _)]; rfl
    have hof := Lib.hid (of_hash K (some ⟨w2.heap.size, 0, none⟩) 1 b _ (HL2.out.below hb1s) ⟨_, rfl, cb⟩ (by omega))
    have Hb1s := Lib.hid hb1s
    rw [← Hdg.out] at hof
    have hdd : digV dg = (byV dg).toArray := rfl
    rw [hdd] at hof
    clear hb1s cb hdd
    go_wp2_with fail
    refine hof.out.mono ?_
    rintro r w3 ⟨rfl, hB3⟩
    have hb23 : Below w2.heap.size w2 w3 := Hb1s.out.trans (hB3.mono Hb1s.out.size)
    have B3 := Lib.hid hb23
    clear hB3 hof hb23 Hb1s
    go_upto_region 7 with (first
      | (refine wpList_build2 rfl 137 _ _ _ _ rfl _ _ rfl rfl _ hbn ?_)
      | (refine wpList_store_row rfl 137 _ _ rfl w3.heap.size NV rfl rfl 137 _ (heap_alloc_new w3 _) ndixA (by rw [hNs]; rfl) hNone ?_))
    show Code.wp _ _ _ _ ((w3.alloc (.cells zeroName 137)).setRow w3.heap.size NV)
    have hq := setRow_heap _ _ _ NV _ _ (heap_alloc_new w3 (.cells zeroName 137))
    have hB4 : Below w3.heap.size w3 ((w3.alloc (.cells zeroName 137)).setRow w3.heap.size NV) := (Only.below (((Only.refl [w3.heap.size] w3).alloc _).setRow (by simp) _) (Nat.le_refl _) (by simp))
    obtain ⟨nb, hnb⟩ : ∃ q, q = w3.heap.size := ⟨_, rfl⟩
    obtain ⟨w5, hw5⟩ : ∃ y, y = ((w3.alloc (.cells zeroName 137)).setRow w3.heap.size NV) := ⟨_, rfl⟩
    rw [← hw5] at hq hB4 ⊢
    rw [← hnb] at hq ⊢
    have hb5 : Below w2.heap.size w2 w5 := B3.out.trans (hB4.mono B3.out.size)
    have h5 := H2.out.below hb5
    have hnb2 : w2.heap.size ≤ nb := by rw [hnb]; exact B3.out.size
    have r5 : w5.rangeAt nb 0 NV.toList := fun k v hv => by rw [Lib.cell_of_heap hq, Nat.zero_add]; simpa using hv
    have l5 : nb < w5.heap.size := heap_lt hq
    have x1 := (hv_cells h5).2.1
    have lp : q.p < w5.heap.size := heap_lt h5.hp
    have hLv : ∀ W, Below w5.heap.size w5 W → HvAt W q d := fun W hW => h5.below hW
    have ndix : (Tryd.prog.info? 137).map (·.size) = some NV.toList.length := by rw [ndixA]; simp
    have nund := Tryd.underlying137
    have rD : w5.rangeAt nb 1 DL := fun k v hv => by
      have h1 : NV[1 + k]? = some v := by
        rw [HNV.out, List.getElem?_toArray, Nat.add_comm, List.getElem?_cons_succ]
        rw [HDL.out] at hv; exact hv
      rw [Lib.cell_of_heap hq]; exact h1
    have Hn5 := Lib.hid (below_keep hb5 Hn2.out)
    have B5 := Lib.hid (B2.out.trans (hb5.mono B2.out.size))
    have H5 := Lib.hid h5
    have HL5 := Lib.hid (HL2.out.below hb5)
    have hlt := HAT.out.lt
    have hnS : nb ∉ q.own d.L := fun hm => by have := hlt nb hm; have := B2.out.size; omega
    have hn0S : n0 ∉ q.own d.L := fun hm => by have := hlt n0 hm; have := Hn.out; omega
    have HnS := Lib.hid hnS
    have Hn0S := Lib.hid hn0S
    have l0 : n0 < w5.heap.size := heap_lt Hn5.out
    clear hw5 hnb hB4 hq hb5 h5 hnb2 hlt hnS hn0S
    have hlook := Lib.hid (fun W (hW : Below w5.heap.size w5 W) => look_yes (hLv W hW) (List.mem_of_getElem? Hj.out))
    rw [show nameV (e.isB, e.id) = .agg NV from by rw [HNV.out, E1.out, E2.out]; rfl] at hlook
    obtain ⟨bk, hbk⟩ : ∃ x, x = e.blk := ⟨_, rfl⟩
    rw [← hbk] at hlook
    have Hbk := Lib.hid hbk
    clear hLv hbk
    refine wp_region_held_drew (S := fun w' => Below w5.heap.size w5 w') (by kernel_rfl) ((Below.refl _ _).drew) (fun hH0 => ?_)
    obtain ⟨W0, hW0⟩ : ∃ W, W = w5.drew := ⟨_, rfl⟩
    rw [← hW0] at hH0 ⊢
    clear hW0
    refine wpAnyH_take (i := 0) (v := ?_) rfl (by kernel_rfl) (by kernel_rfl) (by kernel_rfl) (fun _ _ _ h => h) (Or.inl ⟨by kernel_rfl, ?_⟩) hH0 ?_
    rotate_left 1
    · intro w hSw
      go_simp
      try with_reducible rfl
    try simp only [Act.put, List.getElem_toArray, List.getElem_cons_zero, List.getElem_cons_succ, List.setIfInBounds_toArray, List.set_cons_zero, List.set_cons_succ]
    refine wpAnyH_take (i := 1) (v := ?_) rfl (by kernel_rfl) (by kernel_rfl) (by kernel_rfl) (fun _ _ _ h => h) (Or.inl ⟨by kernel_rfl, ?_⟩) hH0 ?_
    rotate_left 1
    · intro w hSw
      go_simp
      try with_reducible rfl
    try simp only [Act.put, List.getElem_toArray, List.getElem_cons_zero, List.getElem_cons_succ, List.setIfInBounds_toArray, List.set_cons_zero, List.set_cons_succ]
    refine wpAnyH_take (i := 2) (v := ?_) rfl (by kernel_rfl) (by kernel_rfl) (by kernel_rfl) (fun _ _ _ h => h) (Or.inl ⟨by kernel_rfl, ?_⟩) hH0 ?_
    rotate_left 1
    · intro w hSw
      go_simp
      try with_reducible rfl
    try simp only [Act.put, List.getElem_toArray, List.getElem_cons_zero, List.getElem_cons_succ, List.setIfInBounds_toArray, List.set_cons_zero, List.set_cons_succ]
    refine wpAnyH_take (i := 3) (v := ?_) rfl (by kernel_rfl) (by kernel_rfl) (by kernel_rfl) (fun _ _ _ h => h) (Or.inl ⟨by kernel_rfl, ?_⟩) hH0 ?_
    rotate_left 1
    · intro w hSw
      have f0 := (hSw.cell (p := ⟨q.p, 1, none⟩) lp).trans x1
      go_simp
      try with_reducible rfl
    try simp only [Act.put, List.getElem_toArray, List.getElem_cons_zero, List.getElem_cons_succ, List.setIfInBounds_toArray, List.set_cons_zero, List.set_cons_succ]
    refine wpAnyH_take (i := 4) (v := _) rfl (by kernel_rfl) (by kernel_rfl) (by kernel_rfl) (fun _ _ _ h => h) (yieldsIf_load_mid (by kernel_rfl) _ _ rfl _ _ rfl NV.toList _ (fun W hW => range_below r5 hW l5) nund rfl ndix) hH0 ?_
    try simp only [Act.put, List.getElem_toArray, List.getElem_cons_zero, List.getElem_cons_succ, List.setIfInBounds_toArray, List.set_cons_zero, List.set_cons_succ]
    refine wpAnyH_take (i := 5) (v := _) rfl (by kernel_rfl) (by kernel_rfl) (by kernel_rfl) (fun _ _ _ h => h) (yieldsIf_lookup (by kernel_rfl) 140 (.tmp 27) (.tmp 28) rfl (.pointer (some ⟨bk, 0, none⟩)) (fun W hW => hlook.out W hW)) hH0 ?_
    try simp only [Act.put, List.getElem_toArray, List.getElem_cons_zero, List.getElem_cons_succ, List.setIfInBounds_toArray, List.set_cons_zero, List.set_cons_succ]
    refine wpAnyH_take (i := 6) (v := ?_) rfl (by kernel_rfl) (by kernel_rfl) (by kernel_rfl) (fun _ _ _ h => h) (Or.inl ⟨by kernel_rfl, ?_⟩) hH0 ?_
    rotate_left 1
    · intro w hSw
      go_simp
      try with_reducible rfl
    try simp only [Act.put, List.getElem_toArray, List.getElem_cons_zero, List.getElem_cons_succ, List.setIfInBounds_toArray, List.set_cons_zero, List.set_cons_succ]
    refine wpAnyH_done (by kernel_rfl) ?_ _
    have H6 := Lib.hid hH0
    obtain ⟨w6, hw6⟩ : ∃ y, y = W0 := ⟨_, rfl⟩
    rw [← hw6] at H6 ⊢
    clear hH0 hw6 hlook
    have huse := Lib.hid (use_any q d j e w6 (H5.out.below H6.out) Hj.out hcl)
    rw [show (Value.pointer (some ⟨e.blk, 0, none⟩)) = .pointer (some ⟨bk, 0, none⟩) by rw [Hbk.out]] at huse
    go_wp2_with fail
    refine huse.out.mono ?_
    rintro r w7 ⟨rfl, h7, hO7⟩
    have hO : Only (q.own d.L) w5 w7 := (Only.of_below H6.out).trans hO7
    have rF := range_onlyH rD hO ⟨l5, HnS.out⟩
    have HnF := Lib.hid (hO.keep Hn5.out Hn0S.out)
    have H7 := Lib.hid h7
    have O7 := Lib.hid hO
    clear h7 hO7 hO huse
    go_wp2_with (first
      | (refine wpList_load_mid rfl 23 _ rfl nb 1 rfl DL _ rF dund rfl dixL ?_)
      | (refine wpList_store_row rfl 23 _ _ rfl n0 DL.toArray rfl rfl 23 _ HnF.out dixA (by rw [dsz]; rfl) doneA ?_))
    (try simp only [Exit.inBlock, Exit.then])
    refine bodyPost_ret (results_cell_row2 rfl _ _ n0 23 DL.toArray (0, 0) _ rfl (setRow_heap _ _ _ _ _ _ HnF.out) dund rfl dixA) rfl ?_
    have hO9 : Only (q.own d.L) w (w7.setRow n0 DL.toArray) := (((Only.of_below B5.out).trans O7.out)).trans' n0 (by rw [Hn.out]; exact Nat.le_refl _) DL.toArray
    unfold PutBPost
    rw [HP.out, ← Hdg.out]
    refine ⟨S, by rw [HDL.out]; rfl, ⟨_, H7.out.keep (fun x hx => ?_), HK2.out, Hown.out.trans HS.out⟩, by rw [← HS.out]; exact hO9, fun x hx => .inl hx⟩
    exact setRow_other _ _ _ (by rw [Hown.out] at hx; exact fun e0 => Hn0S.out (e0 ▸ hx))
  · rw [e7] at hys; cases hys

set_option maxHeartbeats 4000000 in
set_option maxRecDepth 100000 in
theorem hputblob_new (K : List Int) (q : HvP) (S : List Nat) (bl : List (List UInt8)) (b : List UInt8) (k : Nat) (w : World) (h : StoreAt K w q S bl (k + 1)) (hL : Laid K w) (h0S : 0 ∉ S) (hb : b.length ≤ 512) (hlt : bl.length < 128) (hno : (blobS K bl (hashB K b)).2 = false) :
    Calls Tryd.prog 42 #[.pointer (some ⟨q.p, 0, none⟩), .string ⟨b.toArray⟩] w (PutBPost K w q S bl b k) := by
  have hp : putS K bl b = (hashB K b, 0, bl ++ [b]) := by unfold putS; rw [if_neg (by omega), if_neg (by simp [hno])]
  have HP := Lib.hid hp
  have ib : ¬ (512 : Int) < (b.length : Int) := by omega
  obtain ⟨dg, hdg⟩ : ∃ x, x = hashB K b := ⟨_, rfl⟩
  have hdl : dg.length = 32 := by rw [hdg]; exact hashB_length K b
  have hbn := built_name true dg hdl
  obtain ⟨NV, hNV⟩ : ∃ x, x = (Value.bool true :: byV dg).toArray := ⟨_, rfl⟩
  rw [← hNV] at hbn
  have hNs : NV.size = 33 := by rw [hNV]; simp [byV_length, hdl]
  have ndixA : (Tryd.prog.info? 137).map (·.size) = some NV.size := by rw [name_info, hNs]
  have hNone : NV.all (·.oneCell') = true := by rw [hNV, List.all_toArray, List.all_cons, byV_one]; rfl
  obtain ⟨DL, hDL⟩ : ∃ x, x = byV dg := ⟨_, rfl⟩
  have dixL : (Tryd.prog.info? 23).map (·.size) = some DL.length := by rw [hDL, dig_info, byV_length, hdl]
  have dixA : (Tryd.prog.info? 23).map (·.size) = some DL.toArray.size := by rw [dixL]; simp
  have doneA : DL.toArray.all (·.oneCell') = true := by rw [hDL, List.all_toArray, byV_one]
  have dsz : DL.toArray.size = 32 := by rw [hDL]; simp [byV_length, hdl]
  have Hdg := Lib.hid hdg
  have HNV := Lib.hid hNV
  have HDL := Lib.hid hDL
  have Hdl := Lib.hid hdl

  obtain ⟨d, hat, hk, hS⟩ := h
  have hb1 := (Below.refl w.heap.size w).alloc (Nat.le_refl _) (.cells (digV (List.replicate 32 0)) 23)
  have hn0 := heap_alloc_new w (.cells (digV (List.replicate 32 0)) 23)
  have h1 := hat.below hb1
  have hL1 := hL.below hb1
  obtain ⟨w1, hw1⟩ : ∃ y, y = w.alloc (.cells (digV (List.replicate 32 0)) 23) := ⟨_, rfl⟩
  obtain ⟨n0, hn⟩ : ∃ y, y = w.heap.size := ⟨_, rfl⟩
  rw [← hw1] at h1 hn0 hb1 hL1
  rw [← hn] at hn0
  have hrd := Lib.hid (ready_ok q d w1 h1 hk.ready)
  have dund := Tryd.underlying23
  have Hn0 := Lib.hid hn0
  have Hb1 := Lib.hid hb1
  have Hn := Lib.hid hn
  have Hw1 := Lib.hid hw1
  have HAT := Lib.hid hat
  have HK := Lib.hid hk
  have HS := Lib.hid hS
  have HL1 := Lib.hid hL1
  have H1 := Lib.hid h1
  rw [← hdg] at hno
  rcases kept_find hk dg with ⟨j, e, b', hj, e1, e2, e3, e4, e5, e6, e7⟩ | ⟨hne, -⟩
  · rw [e7] at hno; cases hno
  · have Hne := Lib.hid hne
    have HK2 := Lib.hid (fun blk => kept_put hk b hb hlt blk)
    have hcl : d.clk < 1000000 := by have := hk.clk; omega
    have hact := hk.acts
    have hrow := Lib.hid (blobRow_len b hb)
    have htl : (textS K (blobRowS b)).length ≤ 640 := by unfold textS; rw [List.length_append, hashB_length]; have := hrow.out; omega
    have hw0 := Lib.hid ((write_facts d.s bl.length (textS K (blobRowS b)) hk.ready.2.1 hk.armed (by rw [hk.slots]; exact hlt) htl).1)
    have hfit : d.s.pw.fits 2 := ⟨by have := hk.acts; omega, by rw [hk.armed]; decide, by have := hk.life; omega⟩
    have Hfit := Lib.hid hfit
    have hfree : ∀ e ∈ d.L, e.at_ ≠ bl.length := fun e he e1 => by
      obtain ⟨i, hi⟩ := List.mem_iff_getElem?.1 he
      obtain ⟨b', g1, -, g3, -⟩ := hk.ents i e hi
      have := (List.getElem?_eq_some_iff.1 g1).1
      omega
    have hlow : ∀ i, i < bl.length → ∃ e ∈ d.L, e.at_ = i := fun i hi => by
      have hi' : i < d.L.length := by rw [hk.lens]; exact hi
      obtain ⟨b', -, -, g3, -⟩ := hk.ents i _ (List.getElem?_eq_getElem hi')
      exact ⟨_, List.getElem_mem hi', g3⟩
    have Hfree := Lib.hid hfree
    have Hlow := Lib.hid hlow
    have h0' : 0 ∉ q.own d.L := by rw [hS]; exact h0S
    have H0' := Lib.hid h0'
    have Hlt := Lib.hid hlt
    have Hbl := Lib.hid hb
    have hbr := Lib.hid (fun W => blobRow_any b W hb)
    obtain ⟨rw_, hrw⟩ : ∃ x, x = blobRowS b := ⟨_, rfl⟩
    rw [← hrw] at hbr
    have Hrw := Lib.hid hrw
    clear hat hk hS hL hL1 h1 hb1 hn0 hn hw1 hp hno hdg hNV hDL hdl hne hact htl hfit hfree hlow h0' h0S hlt hrw
    go_enter Tryd.func42, Tryd.ntmps42
    go_upto_region 1 with fail
    show Code.wp _ _ _ _ (w.alloc (.cells (digV (List.replicate 32 0)) 23))
    rw [← Hw1.out, ← Hn.out]
    go_wp2_with fail
    refine hrd.out.mono ?_
    rintro r w2 ⟨rfl, hB2⟩
    have B2 := Lib.hid (Hb1.out.trans (hB2.mono Hb1.out.size))
    have Hn2 := Lib.hid (below_keep hB2 Hn0.out)
    have H2 := Lib.hid (H1.out.below hB2)
    have HL2 := Lib.hid (HL1.out.below hB2)
    clear hB2 hrd
    have hb1s := (Below.refl w2.heap.size w2).alloc (Nat.le_refl _) (.cells #[.string ⟨b.toArray⟩] 9)
    have cb : (w2.alloc (.cells #[.string ⟨b.toArray⟩] 9)).cell? ⟨w2.heap.size, 0, none⟩ = some (.string ⟨b.toArray⟩) := by rw [Lib.cell_of_heap (heap_alloc_new w2 _)]; rfl
    have hof := Lib.hid (of_hash K (some ⟨w2.heap.size, 0, none⟩) 1 b _ (HL2.out.below hb1s) ⟨_, rfl, cb⟩ (by omega))
    have Hb1s := Lib.hid hb1s
    rw [← Hdg.out] at hof
    have hdd : digV dg = (byV dg).toArray := rfl
    rw [hdd] at hof
    clear hb1s cb hdd
    go_wp2_with fail
    refine hof.out.mono ?_
    rintro r w3 ⟨rfl, hB3⟩
    have hb23 : Below w2.heap.size w2 w3 := Hb1s.out.trans (hB3.mono Hb1s.out.size)
    have B3 := Lib.hid hb23
    clear hB3 hof hb23 Hb1s
    go_upto_region 7 with (first
      | (refine wpList_build2 rfl 137 _ _ _ _ rfl _ _ rfl rfl _ hbn ?_)
      | (refine wpList_store_row rfl 137 _ _ rfl w3.heap.size NV rfl rfl 137 _ (heap_alloc_new w3 _) ndixA (by rw [hNs]; rfl) hNone ?_))
    show Code.wp _ _ _ _ ((w3.alloc (.cells zeroName 137)).setRow w3.heap.size NV)
    have hq := setRow_heap _ _ _ NV _ _ (heap_alloc_new w3 (.cells zeroName 137))
    have hB4 : Below w3.heap.size w3 ((w3.alloc (.cells zeroName 137)).setRow w3.heap.size NV) := (Only.below (((Only.refl [w3.heap.size] w3).alloc _).setRow (by simp) _) (Nat.le_refl _) (by simp))
    obtain ⟨nb, hnb⟩ : ∃ q, q = w3.heap.size := ⟨_, rfl⟩
    obtain ⟨w5, hw5⟩ : ∃ y, y = ((w3.alloc (.cells zeroName 137)).setRow w3.heap.size NV) := ⟨_, rfl⟩
    rw [← hw5] at hq hB4 ⊢
    rw [← hnb] at hq ⊢
    have hb5 : Below w2.heap.size w2 w5 := B3.out.trans (hB4.mono B3.out.size)
    have h5 := H2.out.below hb5
    have hnb2 : w2.heap.size ≤ nb := by rw [hnb]; exact B3.out.size
    have r5 : w5.rangeAt nb 0 NV.toList := fun k v hv => by rw [Lib.cell_of_heap hq, Nat.zero_add]; simpa using hv
    have l5 : nb < w5.heap.size := heap_lt hq
    have x1 := (hv_cells h5).2.1
    have lp : q.p < w5.heap.size := heap_lt h5.hp
    have hLv : ∀ W, Below w5.heap.size w5 W → HvAt W q d := fun W hW => h5.below hW
    have ndix : (Tryd.prog.info? 137).map (·.size) = some NV.toList.length := by rw [ndixA]; simp
    have nund := Tryd.underlying137
    have rD : w5.rangeAt nb 1 DL := fun k v hv => by
      have h1 : NV[1 + k]? = some v := by
        rw [HNV.out, List.getElem?_toArray, Nat.add_comm, List.getElem?_cons_succ]
        rw [HDL.out] at hv; exact hv
      rw [Lib.cell_of_heap hq]; exact h1
    have Hn5 := Lib.hid (below_keep hb5 Hn2.out)
    have B5 := Lib.hid (B2.out.trans (hb5.mono B2.out.size))
    have H5 := Lib.hid h5
    have HL5 := Lib.hid (HL2.out.below hb5)
    have hlt := HAT.out.lt
    have hnS : nb ∉ q.own d.L := fun hm => by have := hlt nb hm; have := B2.out.size; omega
    have hn0S : n0 ∉ q.own d.L := fun hm => by have := hlt n0 hm; have := Hn.out; omega
    have HnS := Lib.hid hnS
    have Hn0S := Lib.hid hn0S
    have l0 : n0 < w5.heap.size := heap_lt Hn5.out
    clear hw5 hnb hB4 hq hb5 h5 hnb2 hlt hnS hn0S
    have hlook := Lib.hid (fun W (hW : Below w5.heap.size w5 W) => look_no (hLv W hW) Hdl.out Hne.out)
    rw [show nameV (true, dg) = .agg NV from by rw [HNV.out]; rfl] at hlook
    clear hLv
    refine wp_region_held_drew (S := fun w' => Below w5.heap.size w5 w') (by kernel_rfl) ((Below.refl _ _).drew) (fun hH0 => ?_)
    obtain ⟨W0, hW0⟩ : ∃ W, W = w5.drew := ⟨_, rfl⟩
    rw [← hW0] at hH0 ⊢
    clear hW0
    refine wpAnyH_take (i := 0) (v := ?_) rfl (by kernel_rfl) (by kernel_rfl) (by kernel_rfl) (fun _ _ _ h => h) (Or.inl ⟨by kernel_rfl, ?_⟩) hH0 ?_
    rotate_left 1
    · intro w hSw
      go_simp
      try with_reducible rfl
    try simp only [Act.put, List.getElem_toArray, List.getElem_cons_zero, List.getElem_cons_succ, List.setIfInBounds_toArray, List.set_cons_zero, List.set_cons_succ]
    refine wpAnyH_take (i := 1) (v := ?_) rfl (by kernel_rfl) (by kernel_rfl) (by kernel_rfl) (fun _ _ _ h => h) (Or.inl ⟨by kernel_rfl, ?_⟩) hH0 ?_
    rotate_left 1
    · intro w hSw
      go_simp
      try with_reducible rfl
    try simp only [Act.put, List.getElem_toArray, List.getElem_cons_zero, List.getElem_cons_succ, List.setIfInBounds_toArray, List.set_cons_zero, List.set_cons_succ]
    refine wpAnyH_take (i := 2) (v := ?_) rfl (by kernel_rfl) (by kernel_rfl) (by kernel_rfl) (fun _ _ _ h => h) (Or.inl ⟨by kernel_rfl, ?_⟩) hH0 ?_
    rotate_left 1
    · intro w hSw
      go_simp
      try with_reducible rfl
    try simp only [Act.put, List.getElem_toArray, List.getElem_cons_zero, List.getElem_cons_succ, List.setIfInBounds_toArray, List.set_cons_zero, List.set_cons_succ]
    refine wpAnyH_take (i := 3) (v := ?_) rfl (by kernel_rfl) (by kernel_rfl) (by kernel_rfl) (fun _ _ _ h => h) (Or.inl ⟨by kernel_rfl, ?_⟩) hH0 ?_
    rotate_left 1
    · intro w hSw
      have f0 := (hSw.cell (p := ⟨q.p, 1, none⟩) lp).trans x1
      go_simp
      try with_reducible rfl
    try simp only [Act.put, List.getElem_toArray, List.getElem_cons_zero, List.getElem_cons_succ, List.setIfInBounds_toArray, List.set_cons_zero, List.set_cons_succ]
    refine wpAnyH_take (i := 4) (v := _) rfl (by kernel_rfl) (by kernel_rfl) (by kernel_rfl) (fun _ _ _ h => h) (yieldsIf_load_mid (by kernel_rfl) _ _ rfl _ _ rfl NV.toList _ (fun W hW => range_below r5 hW l5) nund rfl ndix) hH0 ?_
    try simp only [Act.put, List.getElem_toArray, List.getElem_cons_zero, List.getElem_cons_succ, List.setIfInBounds_toArray, List.set_cons_zero, List.set_cons_succ]
    refine wpAnyH_take (i := 5) (v := _) rfl (by kernel_rfl) (by kernel_rfl) (by kernel_rfl) (fun _ _ _ h => h) (yieldsIf_lookup (by kernel_rfl) 140 (.tmp 27) (.tmp 28) rfl (.pointer none) (fun W hW => hlook.out W hW)) hH0 ?_
    try simp only [Act.put, List.getElem_toArray, List.getElem_cons_zero, List.getElem_cons_succ, List.setIfInBounds_toArray, List.set_cons_zero, List.set_cons_succ]
    refine wpAnyH_take (i := 6) (v := ?_) rfl (by kernel_rfl) (by kernel_rfl) (by kernel_rfl) (fun _ _ _ h => h) (Or.inl ⟨by kernel_rfl, ?_⟩) hH0 ?_
    rotate_left 1
    · intro w hSw
      go_simp
      try with_reducible rfl
    try simp only [Act.put, List.getElem_toArray, List.getElem_cons_zero, List.getElem_cons_succ, List.setIfInBounds_toArray, List.set_cons_zero, List.set_cons_succ]
    refine wpAnyH_done (by kernel_rfl) ?_ _
    have H6 := Lib.hid hH0
    obtain ⟨w6, hw6⟩ : ∃ y, y = W0 := ⟨_, rfl⟩
    rw [← hw6] at H6 ⊢
    clear hH0 hw6 hlook
    have h6 := H5.out.below H6.out
    have r6 := range_below r5 H6.out l5
    have l6 : nb < w6.heap.size := Nat.lt_of_lt_of_le l5 H6.out.size
    have HV6 := Lib.hid h6
    have HL6 := Lib.hid (HL5.out.below H6.out)
    clear h6
    go_upto_region 11 with fail
    refine wp_region_held_drew (S := fun w' => Only (q.own d.L) w6 w') (by kernel_rfl) ((Only.refl _ _).drew) (fun hH0 => ?_)
    obtain ⟨W0, hW0⟩ : ∃ W, W = w6.drew := ⟨_, rfl⟩
    have hA0 : Hid (HvAt W0 q d) := Lib.hid (by rw [hW0]; exact HV6.out.keep (fun k hk => rfl))
    rw [← hW0] at hH0 ⊢
    clear hW0
    refine wpAnyH_take (i := 0) (v := ?_) rfl (by kernel_rfl) (by kernel_rfl) (by kernel_rfl) (fun _ _ _ h => h) (Or.inl ⟨by kernel_rfl, ?_⟩) hH0 ?_
    rotate_left 1
    · intro w hSw
      go_simp
      try with_reducible rfl
    try simp only [Act.put, List.getElem_toArray, List.getElem_cons_zero, List.getElem_cons_succ, List.setIfInBounds_toArray, List.set_cons_zero, List.set_cons_succ]
    refine wpAnyH_take (i := 1) (v := _) rfl (by kernel_rfl) (by kernel_rfl) (by kernel_rfl) (fun _ _ _ h => h) (yieldsIf_load_mid (by kernel_rfl) _ _ rfl _ _ rfl NV.toList _ (fun W hW => range_onlyH r6 hW ⟨l6, HnS.out⟩) nund rfl ndix) hH0 ?_
    try simp only [Act.put, List.getElem_toArray, List.getElem_cons_zero, List.getElem_cons_succ, List.setIfInBounds_toArray, List.set_cons_zero, List.set_cons_succ]
    refine wpAnyH_take (i := 2) (v := ?_) rfl (by kernel_rfl) (by kernel_rfl) (by kernel_rfl) (fun _ _ _ h => h) (Or.inl ⟨by kernel_rfl, ?_⟩) hH0 ?_
    rotate_left 1
    · intro w hSw
      go_simp
      try with_reducible rfl
    try simp only [Act.put, List.getElem_toArray, List.getElem_cons_zero, List.getElem_cons_succ, List.setIfInBounds_toArray, List.set_cons_zero, List.set_cons_succ]
    refine wpAnyH_ready (rs := [3]) (by kernel_rfl) (by simp) ?_
    refine AllReadyH.cons rfl (fun K_ hK => ?_) ?_
    · go_simp
      refine (hbr.out W0).mono ?_
      rintro r W1 ⟨rfl, hb1⟩
      have hA1 := Lib.hid (hA0.out.below hb1)
      have hS1 : Only (q.own d.L) w6 W1 := Only.trans hH0 (Only.of_below hb1)
      clear hA0 hb1
      refine hK.out _ _ hS1 (fun hH1 => ?_)
      clear hK K_
      try simp only [Act.put, List.getElem_toArray, List.getElem_cons_zero, List.getElem_cons_succ, List.setIfInBounds_toArray, List.set_cons_zero, List.set_cons_succ]
      refine wpAnyH_ready (rs := [4]) (by kernel_rfl) (by simp) ?_
      refine AllReadyH.cons rfl (fun K_ hK => ?_) ?_
      · go_simp
        have hpu := hput_ok K q d true dg rw_ bl.length W1 hA1.out (HL6.out.only hH1 H0'.out) H0'.out (by have := HK.out.slots; omega) (by rw [HK.out.slots]; exact Hlt.out) Hfree.out Hlow.out Hdl.out (by rw [Hrw.out]; exact hrow.out) Hne.out hcl HK.out.ready.1 (by rw [Hrw.out]; exact hw0.out) Hfit.out
        rw [show (Value.bool true :: byV dg).toArray = NV from HNV.out.symm] at hpu
        refine hpu.mono ?_
        rintro r W2 ⟨rfl, blk, hbk, hA2, hO2⟩
        have HA2 := Lib.hid hA2
        have Hbk := Lib.hid (Nat.le_trans (hH1).size hbk)
        have hS2 : Only (q.own d.L) w6 W2 := Only.trans hH1 hO2
        clear hA1 hpu hbk hA2 hO2
        refine hK.out _ _ hS2 (fun hH2 => ?_)
        clear hK K_
        try simp only [Act.put, List.getElem_toArray, List.getElem_cons_zero, List.getElem_cons_succ, List.setIfInBounds_toArray, List.set_cons_zero, List.set_cons_succ]
        refine wpAnyH_take (i := 5) (v := ?_) rfl (by kernel_rfl) (by kernel_rfl) (by kernel_rfl) (fun _ _ _ h => h) (Or.inl ⟨by kernel_rfl, ?_⟩) hH2 ?_
        rotate_left 1
        · intro w hSw
          go_simp
          try with_reducible rfl
        try simp only [Act.put, List.getElem_toArray, List.getElem_cons_zero, List.getElem_cons_succ, List.setIfInBounds_toArray, List.set_cons_zero, List.set_cons_succ]
        refine wpAnyH_done (by kernel_rfl) ?_ _
        have O7 := Lib.hid ((Only.of_below H6.out).trans hH2)
        obtain ⟨w7, hw7⟩ : ∃ y, y = W2 := ⟨_, rfl⟩
        rw [← hw7] at O7 HA2 ⊢
        clear hH2 hw7
        have rF := range_onlyH rD O7.out ⟨l5, HnS.out⟩
        have HnF := Lib.hid (O7.out.keep Hn5.out Hn0S.out)
        go_wp2_with (first
          | (refine wpList_load_mid rfl 23 _ rfl nb 1 rfl DL _ rF dund rfl dixL ?_)
          | (refine wpList_store_row rfl 23 _ _ rfl n0 DL.toArray rfl rfl 23 _ HnF.out dixA (by rw [dsz]; rfl) doneA ?_))
        (try simp only [Exit.inBlock, Exit.then])
        refine bodyPost_ret (results_cell_row2 rfl _ _ n0 23 DL.toArray (0, 0) _ rfl (setRow_heap _ _ _ _ _ _ HnF.out) dund rfl dixA) rfl ?_
        have hO9 : Only (q.own d.L) w (w7.setRow n0 DL.toArray) := (((Only.of_below B5.out).trans O7.out)).trans' n0 (by rw [Hn.out]; exact Nat.le_refl _) DL.toArray
        have hk2 := HK2.out blk
        rw [← Hrw.out, ← Hdg.out] at hk2
        have hwb : w.heap.size < blk := by have := Hbk.out; have := H6.out.size; have := B5.out.size; have := l0; have := Hn.out; omega
        have hown : q.own (d.L ++ [(⟨true, dg, bl.length, ((d.clk + 1 : Nat) : Int), rw_, blk⟩ : HEnt)]) = S ++ [blk] := by rw [← HS.out]; simp [HvP.own]
        unfold PutBPost
        rw [HP.out, ← Hdg.out]
        refine ⟨S ++ [blk], by rw [HDL.out]; rfl, ⟨_, HA2.out.keep (fun x hx => ?_), hk2, hown⟩, by rw [← HS.out]; exact hO9, fun x hx => ?_⟩
        · refine setRow_other _ _ _ (fun e0 => ?_)
          have hx' : x ∈ S ++ [blk] := by rw [← hown]; exact hx
          rcases List.mem_append.1 hx' with h | h
          · rw [← HS.out] at h; exact Hn0S.out (e0 ▸ h)
          · simp at h; have := Hn.out; omega
        · rcases List.mem_append.1 hx with h | h
          · exact .inl h
          · simp at h; right; omega
      exact AllReadyH.nil
    exact AllReadyH.nil

theorem hputblob_any (K : List Int) (q : HvP) (S : List Nat) (bl : List (List UInt8)) (b : List UInt8) (k : Nat) (w : World) (h : StoreAt K w q S bl (k + 1)) (hL : Laid K w) (h0S : 0 ∉ S) (hlt : bl.length < 128) :
    Calls Tryd.prog 42 #[.pointer (some ⟨q.p, 0, none⟩), .string ⟨b.toArray⟩] w (PutBPost K w q S bl b k) := by
  by_cases hb : 512 < b.length
  · exact hputblob_wide K q S bl b k w h hL hb
  · cases hs : (blobS K bl (hashB K b)).2 with
    | true => exact hputblob_again K q S bl b k w h hL (by omega) hs
    | false => exact hputblob_new K q S bl b k w h hL h0S (by omega) hlt hs
end Go.Proofs.YtfbjbhddapoopaaDoor
