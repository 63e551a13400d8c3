/-
  Layer 5's laws: a store that is opened again; the walk of awake.
-/
import Derived.Test.YteihfoacdocgkaaDoorHwH
import Derived.Test.YteihfoacdocgkaaDoorSortDig
set_option linter.unusedVariables false
set_option linter.unusedSimpArgs false
namespace Go.Proofs.YteihfoacdocgkaaDoor
open Go.RowKit Go.Shelf Pl Sh
attribute [local go_sem] Lb.ba_get Lb.ba_cut Lb.ba_add Lb.ba_size Lb.take_rest

theorem sortOk_nil : SortOk [] := fun W v B h0 hB _ _ => by
  have hv : v = .slice none 0 0 := by
    rcases h0 with h | h
    · exact h
    · simp at h
  subst hv
  have hc := AnyF.slices_SortFunc_none Tryd.SortDig none 0 (.func (.func 82) #[] #[]) W
  refine Calls.mono (show Calls Tryd.prog 81 _ W _ from hc) ?_
  rintro e w' ⟨rfl, rfl⟩
  exact ⟨rfl, [], List.Perm.refl _, List.Pairwise.nil, hB, Only.refl _ _⟩
theorem keys_blobs (q : HvP) (d : HvD) (w : World) (h : HvAt w q d) (hl : d.L.length ≤ 1000) (hb : ∀ e ∈ d.L, e.isB = true) :
    Calls Tryd.prog 36 #[.pointer (some ⟨q.p, 0, none⟩)] w fun e w' => e = .returned (.slice none 0 0) ∧ Below w.heap.size w w' := by
  have hn : recKeys (namesOf d.L) = [] := by
    unfold recKeys namesOf
    rw [List.map_eq_nil_iff, List.filter_eq_nil_iff]
    intro n hn
    obtain ⟨e, he, rfl⟩ := List.mem_map.1 hn
    simp [hb e he]
  refine (keys_any q d w h hl (fun ks hk => by
    rw [hn] at hk
    rw [List.Perm.eq_nil hk]
    exact sortOk_nil)).mono ?_
  rintro e w' ⟨v, ks, rfl, hp, -, -, hv, hB⟩
  rw [hn] at hp
  rw [hv (List.Perm.eq_nil hp)]
  exact ⟨rfl, hB⟩

/-! ### the power goes and is back behind a Sync -/
theorem onl_closed {ss : List Slot} (fs : List Int) (h : ∀ x ∈ ss, x.opn = false) : ∀ k, onl ss fs k = ss
  | 0 => rfl
  | k + 1 => by
    unfold onl
    split
    · rename_i x hx
      rw [if_neg (by rw [h x (List.mem_of_getElem? hx)]; decide)]
      exact onl_closed fs h k
    · exact onl_closed fs h k
theorem sync_eq {s : St} {n a : Nat} (h : Works s n a) : St.sync s = { pw := { s.pw with acts := s.pw.acts + 1 }, slots := s.slots.map sure1 } := by
  have he : s.pw.err = 0 := by unfold Pw.err; rw [if_neg (by rw [h.armed]; decide)]
  have hp : s.pw.act = { s.pw with acts := s.pw.acts + 1 } := by unfold Pw.act; rw [if_pos h.armed]
  unfold St.sync
  rw [if_neg (by simp [h.down]), if_pos he, hp]
  rfl
theorem sync_off_on {s : St} {n a : Nat} (h : Works s n a) (hl : s.pw.life < 60000) (fs : List Int) :
    St.on (St.off (St.sync s)) fs = { pw := { down := false, acts := s.pw.acts + 1, armed := 0, life := s.pw.life + 1 }, slots := s.slots.map sure1 } := by
  have hcl : ∀ x ∈ s.slots.map sure1, x.opn = false := fun x hx => by
    obtain ⟨y, -, rfl⟩ := List.mem_map.1 hx
    rfl
  rw [sync_eq h]
  unfold St.off Pw.off
  rw [if_neg (by simp [h.down])]
  unfold St.on
  rw [if_pos rfl, onl_closed _ hcl, List.map_map]
  have e2 : (sure1 ∘ sure1) = sure1 := by funext x; rfl
  rw [e2]
theorem reopen_works {s : St} {n a : Nat} (h : Works s n a) (hl : s.pw.life < 60000) (fs : List Int) :
    Works (St.on (St.off (St.sync s)) fs) n (a + 1) ∧ (∀ i : Nat, St.read (St.on (St.off (St.sync s)) fs) i = St.read s i) ∧ St.small (St.off (St.sync s)) = St.small { s with slots := s.slots.map sure1 } := by
  have he := sync_off_on h hl fs
  refine ⟨by rw [he]; exact ⟨rfl, rfl, by have := h.acts; show s.pw.acts + 1 ≤ a + 1; omega, by show s.pw.life + 1 < 100000; omega, by rw [List.length_map]; exact h.len⟩, fun i => ?_, ?_⟩
  · rw [he]
    unfold St.read St.atErr
    simp only [h.down, List.length_map, List.getElem?_map]
    cases hq : s.slots[(i : Int).toNat]? with
    | none => rfl
    | some x => rfl
  · rw [sync_eq h]
    rfl

/-! ### awake -/
theorem sha_ab : hashB KK [97] ≠ hashB KK [98] := by decide +kernel
theorem sha_bc : hashB KK [98] ≠ hashB KK [99] := by decide +kernel
theorem box_put_is {K : List Int} {w : World} {q : HvP} {n k : Nat} {line pins line2 : List (List UInt8)} {S : List Nat} {b dg : List UInt8} {er : Int} (hA : putA K n pins line b = (er, line2)) (hd : dg = if er = 0 then hashB K b else List.replicate 32 0)
    (h : BoxAt K w q n (k + 2) line pins S) (hL : Laid K w) (h0 : 0 ∉ S) (hn : n ≤ 128) (hb : b.length ≤ 512) (hinj : ∀ x ∈ line, hashB K x = hashB K b → x = b) :
    Calls Tryd.prog 23 #[.pointer (some ⟨q.p, 0, none⟩), .string ⟨b.toArray⟩] w fun r w' => r = .returned (.tuple #[.agg (digV dg), .int .i64 er]) ∧ ∃ S', BoxAt K w' q n k line2 pins S' ∧ Only S w w' ∧ ∀ x ∈ S', x ∈ S ∨ w.heap.size ≤ x := by
  refine (box_put h hL h0 hn hb hinj).mono ?_
  rintro r w' hp
  unfold PutBoxPost at hp
  rw [hA] at hp
  rw [hd]
  exact hp
theorem put_a : putA KK 1 [] [] [97] = (0, [[97]]) := by
  unfold putA
  rw [if_neg (by simp), if_pos (by simp)]
  rfl
theorem put_b : putA KK 1 [] [[97]] [98] = (0, [[98]]) := by
  rw [put_old (by simp) (by simp) (by decide)]
  rfl
theorem put_c : putA KK 1 [hashB KK [98]] [[98]] [99] = (11, [[98]]) := by
  unfold putA
  rw [if_neg (by simp), if_neg (by simp)]
  have hf : ([[98]] : List (List UInt8)).find? (fun x => decide (hashB KK x ∉ [hashB KK [98]])) = none := List.find?_eq_none.2 (fun x hx => by simp only [List.mem_singleton] at hx; subst hx; simp)
  rw [hf]
theorem mv_bb : mv [[98]] [98] = ([[98]] : List (List UInt8)) := rfl

theorem small_sync1 {s : St} {n a : Nat} (h : Works s n a) (hr : ∀ i : Nat, i < n → (St.read s i).length ≤ 640) : St.small (St.off (St.sync s)) := by
  intro k hk
  have hs : (St.off (St.sync s)).slots = s.slots.map sure1 := by
    rw [sync_eq h]; rfl
  have hk2 : k < s.slots.length := by rw [hs, List.length_map] at hk; exact hk
  have he : (St.off (St.sync s)).slots[k] = sure1 s.slots[k] := by simp [hs]
  have hrd : St.read s k = (s.slots[k]).now := by
    unfold St.read St.atErr
    rw [if_neg (by simp [h.down]; omega)]
    simp [hk2]
  have := hr k (by rw [← h.len]; exact hk2)
  rw [hrd] at this
  rw [he]
  exact ⟨this, this⟩
theorem open_one (K : List Int) (b : List UInt8) (hb : b.length ≤ 512) (blk g : Nat) (s : St) (w : World) (h : ShAt w blk g s) (hL : Laid K w) (h0 : 0 ≠ blk ∧ 0 ≠ g) (hw : Works s 1 900000) (hr : St.read s (0 : Nat) = textS K (blobRowS b)) :
    Calls Tryd.prog 19 #[.pointer (some ⟨blk, 0, none⟩)] w fun r w' => ∃ (q : HvP) (d : HvD) (e : HEnt), r = .returned (.tuple #[.pointer (some ⟨q.p, 0, none⟩), .int .i64 0]) ∧ HvAt w' q d ∧ d.L = [e] ∧ e.isB = true ∧ e.id = hashB K b ∧ e.row = blobRowS b ∧ d.ready ∧ d.clk < 1000 ∧ St.read d.s e.at_ = textS K e.row ∧ Only [blk, g] w w' ∧ ∀ x ∈ q.own d.L, x = blk ∨ x = g ∨ w.heap.size ≤ x := by
  obtain ⟨RD, hRD⟩ : ∃ RD : RdF, RD = fun _ => some (true, hashB K b, blobRowS b) := ⟨_, rfl⟩
  have hld : ldS s RD 1 = (s, [(true, hashB K b, 0, 1, blobRowS b)], false) := by
    unfold ldS
    rw [hRD]
    rfl
  have hend : ldEnd s RD 1 = s := by
    unfold ldEnd
    rw [hld]
    rfl
  refine (open_gen K RD 1 blk g s w h hL h0 hw (by decide) (fun i hi W hW => ?_) (fun i hi b' id r hh => ?_)).mono ?_
  · obtain rfl : i = 0 := by omega
    unfold ReadC
    rw [hr, hRD]
    exact hread_blob K b W hW hb
  · obtain rfl : i = 0 := by omega
    rw [hRD] at hh
    simp only [Option.some.injEq, Prod.mk.injEq] at hh
    obtain ⟨-, rfl, rfl⟩ := hh
    refine ⟨hashB_length _ _, by have := blobRow_len b hb; omega, fun e => ?_⟩
    rw [hr] at e
    have := congrArg List.length e
    unfold textS at this
    rw [List.length_append, hashB_length] at this
    simp at this
  · rintro r w' ⟨q, L, rfl, rfl, rfl, hLe, hat, hx, hO⟩
    rw [hld] at hLe
    rw [hend] at hat
    obtain ⟨e, l2, rfl, he, hl2⟩ := List.map_eq_cons_iff.1 hLe
    have hl2' : l2 = [] := List.map_eq_nil_iff.1 hl2
    subst hl2'
    obtain ⟨eb, ei, ea, eu, er, ek⟩ := e
    unfold e5 at he
    simp only [Prod.mk.injEq] at he
    obtain ⟨rfl, rfl, rfl, rfl, rfl⟩ := he
    exact ⟨q, _, _, rfl, hat, rfl, rfl, rfl, rfl, ⟨rfl, hw.down, rfl⟩, by show 1 < 1000; decide, hr, hO, hx⟩
set_option maxHeartbeats 4000000 in
set_option maxRecDepth 100000 in
theorem awake05_any (w : World) (hL : Laid KK w) : Calls Tryd.prog 18 #[] w fun e w' => e = .returned (.bool true) ∧ Below w.heap.size w w' := by
  have HL := Lib.hid hL
  clear hL
  have hzs : (digV (List.replicate 32 0)).size = 32 := rfl
  obtain ⟨ha, eha⟩ : ∃ x, x = hashB KK [97] := ⟨_, rfl⟩
  have hal : ha.length = 32 := by rw [eha]; exact hashB_length _ _
  obtain ⟨hb, ehb⟩ : ∃ x, x = hashB KK [98] := ⟨_, rfl⟩
  have hbl : hb.length = 32 := by rw [ehb]; exact hashB_length _ _
  have hz32 : (List.replicate 32 (0 : UInt8)).length = 32 := rfl
  obtain ⟨Vha, eVha⟩ : ∃ v, v = digV ha := ⟨_, rfl⟩
  have sha : Vha.size = 32 := by rw [eVha]; simp [digV, byV_length, hal]
  have iha : (Tryd.prog.info? 23).map (·.size) = some Vha.size := by rw [dig_info, sha]
  have oha : Vha.all (·.oneCell') = true := by rw [eVha]; exact digV_one _
  obtain ⟨Vhb, eVhb⟩ : ∃ v, v = digV hb := ⟨_, rfl⟩
  have shb : Vhb.size = 32 := by rw [eVhb]; simp [digV, byV_length, hbl]
  have ihb : (Tryd.prog.info? 23).map (·.size) = some Vhb.size := by rw [dig_info, shb]
  have ohb : Vhb.all (·.oneCell') = true := by rw [eVhb]; exact digV_one _
  obtain ⟨Vz, eVz⟩ : ∃ v, v = digV (List.replicate 32 0) := ⟨_, rfl⟩
  have sz : Vz.size = 32 := by rw [eVz]; rfl
  have iz : (Tryd.prog.info? 23).map (·.size) = some Vz.size := by rw [dig_info, sz]
  have oz : Vz.all (·.oneCell') = true := by rw [eVz]; exact digV_one _
  have Hha := Lib.hid eha
  have Hhb := Lib.hid ehb
  have HVha := Lib.hid eVha
  have HVhb := Lib.hid eVhb
  have HVz := Lib.hid eVz
  clear hz32 eha ehb eVha eVhb eVz
  go_enter Tryd.func18, Tryd.ntmps18
  go_wp2_with fail
  refine (new_any 1 w (by omega)).mono ?_
  rintro e w1 ⟨rfl, h1, hB1⟩
  have hbn := Lib.hid (box_new KK 1 w w1 (by omega) h1)
  have HB1 := Lib.hid hB1
  clear h1 hB1
  go_wp2_with fail
  refine hbn.out.mono ?_
  rintro e w2 ⟨q, S2, rfl, hbox, hlo, hB2, hqb, hqg⟩
  have HX2 := Lib.hid hbox
  have HS2 : Hid (∀ x ∈ S2, w.heap.size ≤ x) := Lib.hid hlo
  have HB2 := Lib.hid (HB1.out.trans (hB2.mono HB1.out.size))
  obtain ⟨sb, hsb⟩ : ∃ x, x = w.heap.size + 1 := ⟨_, rfl⟩
  rw [← hsb] at hqb ⊢
  have Hqb := Lib.hid hqb
  have Hqg := Lib.hid hqg
  have Hsb := Lib.hid hsb
  have h0w := HL.out.lt
  clear hbox hlo hB2 hqb hqg hsb hbn
  have hput := Lib.hid (box_put_is (dg := ha) (k := 199990) put_a (by rw [Hha.out]; rfl) (HX2.out.less (by omega)) (HL.out.below HB2.out) (fun hx => by have := HS2.out 0 hx; omega) (by decide) (by decide) (fun x hx => by cases hx))
  rw [← HVha.out] at hput
  go_wp2_with fail
  refine hput.out.mono ?_
  rintro e w3 ⟨rfl, S3, hbox, hO, hS⟩
  have HS3S := Lib.hid hS
  have HX3 := Lib.hid hbox
  have HS3 : Hid (∀ x ∈ S3, w.heap.size ≤ x) := Lib.hid (fun x hx => by rcases hS x hx with h | h; exact HS2.out x h; exact Nat.le_trans HB2.out.size h)
  have HB3 := Lib.hid (HB2.out.trans (hO.below HB2.out.size HS2.out))
  clear hbox hO hS hput
  go_upto_region 6 with (first | (refine wpList_store_row rfl 23 _ _ rfl w3.heap.size Vha rfl rfl 23 _ (heap_alloc_new w3 _) iha (by rw [sha]; rfl) oha ?_))
  show Code.wp _ _ _ _ ((w3.alloc (.cells (digV (List.replicate 32 0)) 23)).setRow w3.heap.size Vha)
  obtain ⟨hq_w4, hB_w4⟩ := put_newH w3 (digV (List.replicate 32 0)) Vha 23
  obtain ⟨da, hp_w4⟩ : ∃ q, q = w3.heap.size := ⟨_, rfl⟩
  obtain ⟨w4, hw_w4⟩ : ∃ y, y = ((w3.alloc (.cells (digV (List.replicate 32 0)) 23)).setRow w3.heap.size Vha) := ⟨_, rfl⟩
  rw [← hw_w4] at hq_w4 hB_w4 ⊢
  rw [← hp_w4] at hq_w4 ⊢
  have HQ_w4 := Lib.hid hq_w4
  have HB_w4 := Lib.hid hB_w4
  have Hp_w4 := Lib.hid hp_w4
  clear hq_w4 hB_w4 hp_w4 hw_w4
  have HB4 := Lib.hid (HB3.out.trans (HB_w4.out.mono HB3.out.size))
  have HX4 := Lib.hid (HX3.out.below HB_w4.out)
  have hput := Lib.hid (box_put_is (dg := hb) (k := 199980) put_b (by rw [Hhb.out]; rfl) (HX4.out.less (by omega)) (HL.out.below HB4.out) (fun hx => by have := HS3.out 0 hx; omega) (by decide) (by decide) (fun x hx e => by simp only [List.mem_singleton] at hx; subst hx; exact absurd e sha_ab))
  rw [← HVhb.out] at hput
  go_wp2_with fail
  refine hput.out.mono ?_
  rintro e w5 ⟨rfl, S5, hbox, hO, hS⟩
  have HS5S := Lib.hid hS
  have HX5 := Lib.hid hbox
  have HS5 : Hid (∀ x ∈ S5, w.heap.size ≤ x) := Lib.hid (fun x hx => by rcases hS x hx with h | h; exact HS3.out x h; exact Nat.le_trans HB4.out.size h)
  have HB5 := Lib.hid (HB4.out.trans (hO.below HB4.out.size HS3.out))
  have HQ5a := Lib.hid (hO.keep HQ_w4.out (fun hx => by obtain ⟨d, -, -, -, -, h5⟩ := HX3.out; have := h5 _ hx; have := Hp_w4.out; omega))
  clear hbox hO hS hput
  go_upto_region 7 with (first | (refine wpList_store_row rfl 23 _ _ rfl w5.heap.size Vhb rfl rfl 23 _ (heap_alloc_new w5 _) ihb (by rw [shb]; rfl) ohb ?_))
  show Code.wp _ _ _ _ ((w5.alloc (.cells (digV (List.replicate 32 0)) 23)).setRow w5.heap.size Vhb)
  obtain ⟨hq_w6, hB_w6⟩ := put_newH w5 (digV (List.replicate 32 0)) Vhb 23
  obtain ⟨db, hp_w6⟩ : ∃ q, q = w5.heap.size := ⟨_, rfl⟩
  obtain ⟨w6, hw_w6⟩ : ∃ y, y = ((w5.alloc (.cells (digV (List.replicate 32 0)) 23)).setRow w5.heap.size Vhb) := ⟨_, rfl⟩
  rw [← hw_w6] at hq_w6 hB_w6 ⊢
  rw [← hp_w6] at hq_w6 ⊢
  have HQ_w6 := Lib.hid hq_w6
  have HB_w6 := Lib.hid hB_w6
  have Hp_w6 := Lib.hid hp_w6
  clear hq_w6 hB_w6 hp_w6 hw_w6
  have HB6 := Lib.hid (HB5.out.trans (HB_w6.out.mono HB5.out.size))
  have HX6 := Lib.hid (HX5.out.below HB_w6.out)
  have HQ6a := Lib.hid (below_keep HB_w6.out HQ5a.out)
  have hno := Lib.hid (box_no (b := [97]) HX6.out (HL.out.below HB6.out) (fun x hx e => by simp only [List.mem_singleton] at hx; subst hx; exact sha_ab e.symm))
  rw [← Hha.out, ← HVha.out] at hno
  go_wp2_with (refine wpList_load_row rfl 23 _ rfl da rfl 23 Vha (0, 0) _ HQ6a.out Tryd.underlying23 rfl iha ?_)
  refine hno.out.mono ?_
  rintro e w7 ⟨rfl, hbox, hB7⟩
  have HX7 := Lib.hid hbox
  have HB7 := Lib.hid (HB6.out.trans (hB7.mono HB6.out.size))
  have HQ7a := Lib.hid (below_keep hB7 HQ6a.out)
  have HQ7b := Lib.hid (below_keep hB7 HQ_w6.out)
  clear hbox hB7 hno
  have hyes := Lib.hid (box_yes (b := [98]) (k := 199970) (HX7.out.less (by omega)) (HL.out.below HB7.out) (by simp))
  rw [mv_bb, ← Hhb.out, ← HVhb.out] at hyes
  go_wp2_with (refine wpList_load_row rfl 23 _ rfl db rfl 23 Vhb (0, 0) _ HQ7b.out Tryd.underlying23 rfl ihb ?_)
  refine hyes.out.mono ?_
  rintro e w8 ⟨rfl, hbox, hO⟩
  have HX8 := Lib.hid hbox
  have HB8 := Lib.hid (HB7.out.trans (hO.below HB7.out.size HS5.out))
  have hap : da ∉ S5 ∧ db ∉ S5 := by
    obtain ⟨d, -, -, -, -, h5⟩ := HX5.out
    refine ⟨fun hx => ?_, fun hx => ?_⟩
    · rcases HS5S.out _ hx with h | h
      · obtain ⟨d, -, -, -, -, h5⟩ := HX3.out; have := h5 _ h; have := Hp_w4.out; omega
      · have := heap_lt HQ_w4.out; omega
    · have := h5 _ hx; have := Hp_w6.out; omega
  have HQ8a := Lib.hid (hO.keep HQ7a.out hap.1)
  have HQ8b := Lib.hid (hO.keep HQ7b.out hap.2)
  have Hap := Lib.hid hap
  clear hbox hO hyes hap
  have hb9 := (Below.refl w8.heap.size w8).alloc (Nat.le_refl _) (.cells Vhb 23)
  have hD : Digs (w8.alloc (.cells Vhb 23)) (w8.alloc (.cells Vhb 23)).heap.size (some ⟨w8.heap.size, 0, none⟩) [hb] := fun i hi => by
    obtain rfl : i = 0 := by simpa using hi
    refine ⟨w8.heap.size, 0, rfl, by simp, fun k v hv => ?_⟩
    rw [Lib.cell_of_heap (heap_alloc_new w8 _), HVhb.out]
    unfold digV
    rw [List.getElem?_toArray]
    simpa using hv
  have hpin := Lib.hid (box_pin (cap := 1) (HX8.out.below hb9) hD (fun a ha hm => by
    obtain ⟨d, -, -, -, -, h5⟩ := HX8.out
    have := h5 _ hm
    obtain rfl := Option.some.inj ha
    simp at this) (by show 1 ≤ maxLen; decide) (fun x hx => by simp only [List.mem_singleton] at hx; rw [hx]; exact hbl))
  have HB9a := Lib.hid (HB8.out.trans (hb9.mono HB8.out.size))
  have HQ9b := Lib.hid (below_keep hb9 HQ8b.out)
  have HQ9a := Lib.hid (below_keep hb9 HQ8a.out)
  have hF := fold_dig hb hbl
  rw [← HVhb.out] at hF
  clear hD hb9
  go_wp2_with (refine wpList_load_row rfl 23 _ rfl db rfl 23 Vhb (0, 0) _ HQ8b.out Tryd.underlying23 rfl ihb ?_)
  refine hpin.out.mono ?_
  rintro r w9 ⟨rfl, hbox, hO⟩
  clear hF
  have HX9 := Lib.hid hbox
  have HB9 := Lib.hid (HB9a.out.trans (hO.below HB9a.out.size HS5.out))
  have HR9a := Lib.hid (hO.keep HQ9a.out Hap.out.1)
  have HR9b := Lib.hid (hO.keep HQ9b.out Hap.out.2)
  clear hbox hO hpin
  have hpc : putA KK 1 (pinsAt [] [hb] [hb].length) [[98]] [99] = (11, [[98]]) := by
    rw [show pinsAt [] [hb] [hb].length = [hashB KK [98]] from by rw [← Hhb.out]; rfl]
    exact put_c
  have hput := Lib.hid (box_put_is (dg := (List.replicate 32 0)) (k := 199960) hpc rfl (HX9.out.less (by omega)) (HL.out.below HB9.out) (fun hx => by have := HS5.out 0 hx; omega) (by decide) (by decide) (fun x hx e => by simp only [List.mem_singleton] at hx; subst hx; exact absurd e sha_bc))
  rw [← HVz.out] at hput
  go_wp2_with fail
  refine hput.out.mono ?_
  rintro e w10 ⟨rfl, S10, hbox, hO, hS⟩
  have HS10S := Lib.hid hS
  have HX10 := Lib.hid hbox
  have HS10 : Hid (∀ x ∈ S10, w.heap.size ≤ x) := Lib.hid (fun x hx => by rcases hS x hx with h | h; exact HS5.out x h; exact Nat.le_trans HB9.out.size h)
  have HB10 := Lib.hid (HB9.out.trans (hO.below HB9.out.size HS5.out))
  have HR10a := Lib.hid (hO.keep HR9a.out Hap.out.1)
  have HR10b := Lib.hid (hO.keep HR9b.out Hap.out.2)
  clear hbox hO hS hput hpc
  go_upto_region 11 with (first | (refine wpList_store_row rfl 23 _ _ rfl w10.heap.size Vz rfl rfl 23 _ (heap_alloc_new w10 _) iz (by rw [sz]; rfl) oz ?_))
  show Code.wp _ _ _ _ ((w10.alloc (.cells (digV (List.replicate 32 0)) 23)).setRow w10.heap.size Vz)
  obtain ⟨hq_w11, hB_w11⟩ := put_newH w10 (digV (List.replicate 32 0)) Vz 23
  obtain ⟨dc, hp_w11⟩ : ∃ q, q = w10.heap.size := ⟨_, rfl⟩
  obtain ⟨w11, hw_w11⟩ : ∃ y, y = ((w10.alloc (.cells (digV (List.replicate 32 0)) 23)).setRow w10.heap.size Vz) := ⟨_, rfl⟩
  rw [← hw_w11] at hq_w11 hB_w11 ⊢
  rw [← hp_w11] at hq_w11 ⊢
  have HQ_w11 := Lib.hid hq_w11
  have HB_w11 := Lib.hid hB_w11
  have Hp_w11 := Lib.hid hp_w11
  clear hq_w11 hB_w11 hp_w11 hw_w11
  have HB11 := Lib.hid (HB10.out.trans (HB_w11.out.mono HB10.out.size))
  have hX11 := HX10.out.below HB_w11.out
  have HR11a := Lib.hid (below_keep HB_w11.out HR10a.out)
  have HR11b := Lib.hid (below_keep HB_w11.out HR10b.out)
  have hap2 : da ∉ S10 ∧ db ∉ S10 := by
    refine ⟨fun hx => ?_, fun hx => ?_⟩
    · rcases HS10S.out _ hx with h | h
      · exact Hap.out.1 h
      · have := heap_lt HR9a.out; omega
    · rcases HS10S.out _ hx with h | h
      · exact Hap.out.2 h
      · have := heap_lt HR9b.out; omega
  obtain ⟨d, hat, hst, hpins, hown, hlt⟩ := hX11
  have hown6 := @own_mem q d.L
  have hbS : sb ∈ S10 ∧ q.g ∈ S10 ∧ q.p ∈ S10 := by
    refine ⟨?_, hown _ hown6.2.2.2.2.2.1, hown _ hown6.1⟩
    rw [← Hqb.out]; exact hown _ hown6.2.2.2.2.1
  have hrd0 : St.read d.s (0 : Nat) = textS KK (blobRowS [98]) := by
    obtain ⟨e, he, hbe⟩ := (hst.mem [98]).1 (by simp)
    obtain ⟨b, g1, g2, g3, g4, g5, g6, g7⟩ := hst.ents e he
    have hbb := (hst.ents e he).blob.2.2.2.1
    rw [hbe] at hbb
    have ha0 : e.at_ = 0 := by omega
    rw [ha0, hbb] at g6
    exact g6
  have hwk := hst.works
  have hlow : d.s.pw.life < 60000 := by have h1 := hst.life; have h2 := hst.low; omega
  have hsm : St.small (St.off (St.sync d.s)) := small_sync1 hwk (fun i hi => by
    obtain rfl : i = 0 := by omega
    rw [hrd0]; exact textS_len KK (by decide))
  have hre := reopen_works hwk hlow []
  have hsy := Lib.hid (hsync_any q d w11 hat hst.ready (hwk.fits (by omega)))
  have hsw := (sync_works hwk).2
  have Hwk := Lib.hid hwk
  have Hsm := Lib.hid hsm
  have Hre := Lib.hid hre
  have Hsw := Lib.hid hsw
  have Hrd0 := Lib.hid hrd0
  have HbS := Lib.hid hbS
  have Hap2 := Lib.hid hap2
  clear hat hst hpins hown hlt hown6 hrd0 hwk hlow hsm hre hsw hbS hap2
  go_wp2_with fail
  refine hsy.out.mono ?_
  rintro r w12 ⟨rfl, hat, hO⟩
  have h12 := hat.sh
  have hO12 : Only S10 w11 w12 := hO.mono (by intro x hx; simp only [List.mem_cons, List.not_mem_nil, or_false] at hx; rcases hx with rfl | rfl | rfl; exact HbS.out.2.2; rw [Hqb.out]; exact HbS.out.1; exact HbS.out.2.1)
  rw [Hqb.out] at h12
  simp only at h12
  have hof := Lib.hid (offd_any sb q.g (St.sync d.s) w12 h12 (Pw.fits_mono (Hsw.out.fits (by omega)) (by decide)))
  have HB12 := Lib.hid (HB11.out.trans (hO12.below HB11.out.size HS10.out))
  have HR12a := Lib.hid (hO12.keep HR11a.out Hap2.out.1)
  have HR12b := Lib.hid (hO12.keep HR11b.out Hap2.out.2)
  clear hat hO hO12 h12 hsy
  go_wp2_with fail
  refine hof.out.mono ?_
  rintro r w13 ⟨rfl, h13, hO⟩
  have hO13 : Only S10 w12 w13 := hO.mono (by intro x hx; simp only [List.mem_cons, List.not_mem_nil, or_false] at hx; rcases hx with rfl | rfl; exact HbS.out.1; exact HbS.out.2.1)
  have hon := Lib.hid (on_any sb q.g (St.off (St.sync d.s)) none 0 [] w13 h13 (fun i hi => by simp at hi) (fun f hf => by cases hf) (by decide) Hsm.out)
  have HB13 := Lib.hid (HB12.out.trans (hO13.below HB12.out.size HS10.out))
  have HR13a := Lib.hid (hO13.keep HR12a.out Hap2.out.1)
  have HR13b := Lib.hid (hO13.keep HR12b.out Hap2.out.2)
  clear hO hO13 h13 hof
  go_wp2_with fail
  refine hon.out.mono ?_
  rintro r w14 ⟨rfl, h14, hO⟩
  have hO14 : Only S10 w13 w14 := hO.mono (by intro x hx; simp only [List.mem_cons, List.not_mem_nil, or_false] at hx; rcases hx with rfl | rfl; exact HbS.out.1; exact HbS.out.2.1)
  have HB14 := Lib.hid (HB13.out.trans (hO14.below HB13.out.size HS10.out))
  have HR14a := Lib.hid (hO14.keep HR13a.out Hap2.out.1)
  have HR14b := Lib.hid (hO14.keep HR13b.out Hap2.out.2)
  have hop := Lib.hid (open_one KK [98] (by decide) sb q.g _ w14 h14 (HL.out.below HB14.out) ⟨by have := Hsb.out; omega, by have := Hqg.out; omega⟩ (Hre.out.1.more (by omega)) (by rw [Hre.out.2.1 0]; exact Hrd0.out))
  clear hO hO14 h14 hon
  go_wp2_with fail
  refine hop.out.mono ?_
  rintro r w15 ⟨q2, d2, e, rfl, hat, hLe, heb, hei, her, hrdy, hclk, htx, hO, hx⟩
  have hO15 : Only S10 w14 w15 := hO.mono (by intro x hx; simp only [List.mem_cons, List.not_mem_nil, or_false] at hx; rcases hx with rfl | rfl; exact HbS.out.1; exact HbS.out.2.1)
  have HB15 := Lib.hid (HB14.out.trans (hO15.below HB14.out.size HS10.out))
  have HR15a := Lib.hid (hO15.keep HR14a.out Hap2.out.1)
  have HR15b := Lib.hid (hO15.keep HR14b.out Hap2.out.2)
  have hbl2 := Lib.hid (gblob_yes KK q2 d2 0 e (hashB KK [98]) w15 hat (HL.out.below HB15.out) hrdy (hashB_length _ _) (by rw [hLe]; rfl) heb hei (by omega) htx)
  rw [her, asBlob_blob [98] (by decide), digV_byV, ← Hhb.out, ← HVhb.out] at hbl2
  have Hown2 : Hid (∀ x ∈ q2.own d2.L, w.heap.size ≤ x ∧ x ≠ da ∧ x ≠ db) := Lib.hid (fun x hx2 => by
    have l1 := heap_lt HR14a.out
    have l2 := heap_lt HR14b.out
    rcases hx x hx2 with h | h | h
    · exact ⟨by rw [h, Hsb.out]; omega, fun e => Hap2.out.1 (by rw [← e, h]; exact HbS.out.1), fun e => Hap2.out.2 (by rw [← e, h]; exact HbS.out.1)⟩
    · exact ⟨by rw [h, Hqg.out]; omega, fun e => Hap2.out.1 (by rw [← e, h]; exact HbS.out.2.1), fun e => Hap2.out.2 (by rw [← e, h]; exact HbS.out.2.1)⟩
    · exact ⟨Nat.le_trans HB14.out.size h, by omega, by omega⟩)
  have HLe := Lib.hid hLe
  have Heb := Lib.hid heb
  clear hat hO hO15 hop hei her hrdy hclk htx hx hLe heb
  go_wp2_with (refine wpList_load_row rfl 23 _ rfl db rfl 23 Vhb (0, 0) _ HR15b.out Tryd.underlying23 rfl ihb ?_)
  refine hbl2.out.mono ?_
  rintro r w16 ⟨rfl, hat, hO⟩
  have HB16 := Lib.hid (HB15.out.trans (hO.below HB15.out.size (fun x hx => (Hown2.out x hx).1)))
  have HR16a := Lib.hid (hO.keep HR15a.out (fun hx => (Hown2.out _ hx).2.1 rfl))
  have hd3 : ∃ d3 : HvD, HvAt w16 q2 d3 ∧ d3.L.length = 1 ∧ ∀ x ∈ d3.L, x.isB = true := ⟨_, hat, by show (d2.L.set 0 _).length = 1; rw [HLe.out]; rfl, fun x hx => by
    have hx2 : x ∈ d2.L.set 0 _ := hx
    rw [HLe.out] at hx2
    simp only [List.set_cons_zero, List.mem_singleton] at hx2
    rw [hx2]; exact Heb.out⟩
  obtain ⟨d3, hat3, hl3, hb3⟩ := hd3
  have Hat := Lib.hid hat3
  have HLN : Hid (∀ W : World, Below w16.heap.size w16 W → Calls Tryd.prog 26 #[.pointer (some ⟨q2.p, 0, none⟩)] W fun e w' => e = .returned (.int .i64 1) ∧ Below W.heap.size W w') := Lib.hid (fun W hW => (hlen_any q2 d3 W (Hat.out.below hW)).mono fun e w' ⟨he, hw⟩ => ⟨by rw [he, hl3]; rfl, by rw [← hw]; exact Below.refl _ _⟩)
  have HKN : Hid (∀ W : World, Below w16.heap.size w16 W → Calls Tryd.prog 36 #[.pointer (some ⟨q2.p, 0, none⟩)] W fun e w' => e = .returned (.slice none 0 0) ∧ Below W.heap.size W w') := Lib.hid (fun W hW => keys_blobs q2 d3 W (Hat.out.below hW) (by omega) hb3)
  have hra : w16.rangeAt da 0 (byV ha) := fun k v hv => by
    rw [Nat.zero_add, Lib.cell_of_heap HR16a.out, HVha.out]
    unfold digV
    rw [List.getElem?_toArray]; exact hv
  have hda := heap_lt HR16a.out
  have Hra := Lib.hid hra
  have HL0 := Lib.hid (HL.out.below HB16.out)
  have hidx : (Tryd.prog.info? 23).map (·.size) = some (byV ha).length := by rw [dig_info, byV_length, hal]
  have heq : ∀ W : World, (Op.equalIn 10000 23 (.agg (byV ha).toArray) (.agg Vha)).run Tryd.prog W = .ok true W := fun W => by
    rw [HVha.out]
    have := eqIn_dig W ha ha hal hal
    rwa [beq_self_eq_true] at this
  have s2 : ((⟨#[98]⟩ : ByteArray) == ⟨#[98]⟩) = true := ba_beqL [98] [98]
  clear hat hO hbl2 hat3 hl3 hb3 hra
  go_upto_region 16 with fail
  refine wp_region_held_drew (S := fun w' => Below w16.heap.size w16 w') (by kernel_rfl) ((Below.refl _ _).drew) (fun hH0 => ?_)
  obtain ⟨W0, hW0⟩ : ∃ W, W = w16.drew := ⟨_, rfl⟩
  rw [← hW0] at hH0 ⊢
  clear hW0
  refine wpAnyH_take (i := 0) (v := ?_) rfl (by kernel_rfl) (by kernel_rfl) (by kernel_rfl) (fun _ _ _ h => h) (Or.inl ⟨by kernel_rfl, ?_⟩) hH0 ?_
  rotate_left 1
  · intro w hSw
    go_simp
    try with_reducible rfl
  try simp only [Act.put, List.getElem_toArray, List.getElem_cons_zero, List.getElem_cons_succ, List.setIfInBounds_toArray, List.set_cons_zero, List.set_cons_succ]
  refine wpAnyH_take (i := 1) (v := ?_) rfl (by kernel_rfl) (by kernel_rfl) (by kernel_rfl) (fun _ _ _ h => h) (Or.inl ⟨by kernel_rfl, ?_⟩) hH0 ?_
  rotate_left 1
  · intro w hSw
    go_simp
    try with_reducible rfl
  try simp only [Act.put, List.getElem_toArray, List.getElem_cons_zero, List.getElem_cons_succ, List.setIfInBounds_toArray, List.set_cons_zero, List.set_cons_succ]
  refine wpAnyH_take (i := 2) (v := ?_) rfl (by kernel_rfl) (by kernel_rfl) (by kernel_rfl) (fun _ _ _ h => h) (Or.inl ⟨by kernel_rfl, ?_⟩) hH0 ?_
  rotate_left 1
  · intro w hSw
    go_simp
    try with_reducible rfl
  try simp only [Act.put, List.getElem_toArray, List.getElem_cons_zero, List.getElem_cons_succ, List.setIfInBounds_toArray, List.set_cons_zero, List.set_cons_succ]
  refine wpAnyH_take (i := 3) (v := _) rfl (by kernel_rfl) (by kernel_rfl) (by kernel_rfl) (fun _ _ _ h => h) (yieldsIf_load_mid (by kernel_rfl) _ _ rfl _ _ rfl (byV ha) _ (fun W hW => range_below Hra.out hW hda) Tryd.underlying23 rfl hidx) hH0 ?_
  try simp only [Act.put, List.getElem_toArray, List.getElem_cons_zero, List.getElem_cons_succ, List.setIfInBounds_toArray, List.set_cons_zero, List.set_cons_succ]
  refine wpAnyH_ready (rs := [4]) (by kernel_rfl) (by simp) ?_
  refine AllReadyH.cons rfl (fun K_ hK => ?_) ?_
  · go_simp
    have hb1 := (Below.refl W0.heap.size W0).alloc (Nat.le_refl _) (.cells #[.string ⟨([97]).toArray⟩] 9)
    have cb1 : (W0.alloc (.cells #[.string ⟨([97]).toArray⟩] 9)).cell? ⟨W0.heap.size, 0, none⟩ = some (.string ⟨([97]).toArray⟩) := by rw [Lib.cell_of_heap (heap_alloc_new W0 _)]; rfl
    obtain ⟨W1, hW1⟩ : ∃ W, W = W0.alloc (.cells #[.string ⟨([97]).toArray⟩] 9) := ⟨_, rfl⟩
    have hl1 : W0.heap.size < W1.heap.size := by rw [hW1]; simp
    rw [← hW1] at hb1 cb1 ⊢
    clear hW1
    refine hK.out _ _ ((hH0).trans (hb1.mono (hH0).size)) (fun hH1 => ?_)
    clear hK K_
    try simp only [Act.put, List.getElem_toArray, List.getElem_cons_zero, List.getElem_cons_succ, List.setIfInBounds_toArray, List.set_cons_zero, List.set_cons_succ]
    refine wpAnyH_ready (rs := [5]) (by kernel_rfl) (by simp) ?_
    refine AllReadyH.cons rfl (fun K_ hK => ?_) ?_
    · go_simp
      refine (of_hash KK _ 1 ([97]) _ (HL0.out.below hH1) ⟨_, rfl, cb1⟩ (by decide)).mono ?_
      rintro e W2 ⟨rfl, hb2⟩
      rw [← Hha.out, ← HVha.out]
      have c4_2 := (hb2.cell (p := ⟨W0.heap.size, 0, none⟩) hl1).trans cb1
      have l4_2 : (⟨W0.heap.size, 0, none⟩ : Addr).block < W2.heap.size := Nat.lt_of_lt_of_le hl1 hb2.size
      refine hK.out _ _ ((hH1).trans (hb2.mono (hH1).size)) (fun hH2 => ?_)
      clear hK K_
      try simp only [Act.put, List.getElem_toArray, List.getElem_cons_zero, List.getElem_cons_succ, List.setIfInBounds_toArray, List.set_cons_zero, List.set_cons_succ]
      refine wpAnyH_take (i := 6) (v := ?_) rfl (by kernel_rfl) (by kernel_rfl) (by kernel_rfl) (fun _ _ _ h => h) (Or.inl ⟨by kernel_rfl, ?_⟩) hH2 ?_
      rotate_left 1
      · intro w hSw
        go_simp
        try with_reducible rfl
      try simp only [Act.put, List.getElem_toArray, List.getElem_cons_zero, List.getElem_cons_succ, List.setIfInBounds_toArray, List.set_cons_zero, List.set_cons_succ]
      refine wpAnyH_take (i := 7) (v := ?_) rfl (by kernel_rfl) (by kernel_rfl) (by kernel_rfl) (fun _ _ _ h => h) (Or.inl ⟨by kernel_rfl, ?_⟩) hH2 ?_
      rotate_left 1
      · intro w hSw
        go_simp
        try with_reducible rfl
      try simp only [Act.put, List.getElem_toArray, List.getElem_cons_zero, List.getElem_cons_succ, List.setIfInBounds_toArray, List.set_cons_zero, List.set_cons_succ]
      refine wpAnyH_take (i := 8) (v := ?_) rfl (by kernel_rfl) (by kernel_rfl) (by kernel_rfl) (fun _ _ _ h => h) (Or.inl ⟨by kernel_rfl, ?_⟩) hH2 ?_
      rotate_left 1
      · intro w hSw
        go_simp
        try with_reducible rfl
      try simp only [Act.put, List.getElem_toArray, List.getElem_cons_zero, List.getElem_cons_succ, List.setIfInBounds_toArray, List.set_cons_zero, List.set_cons_succ]
      refine wpAnyH_take (i := 9) (v := ?_) rfl (by kernel_rfl) (by kernel_rfl) (by kernel_rfl) (fun _ _ _ h => h) (Or.inl ⟨by kernel_rfl, ?_⟩) hH2 ?_
      rotate_left 1
      · intro w hSw
        go_simp
        try with_reducible rfl
      try simp only [Act.put, List.getElem_toArray, List.getElem_cons_zero, List.getElem_cons_succ, List.setIfInBounds_toArray, List.set_cons_zero, List.set_cons_succ]
      refine wpAnyH_take (i := 10) (v := ?_) rfl (by kernel_rfl) (by kernel_rfl) (by kernel_rfl) (fun _ _ _ h => h) (Or.inl ⟨by kernel_rfl, ?_⟩) hH2 ?_
      rotate_left 1
      · intro w hSw
        go_simp
        try with_reducible rfl
      try simp only [Act.put, List.getElem_toArray, List.getElem_cons_zero, List.getElem_cons_succ, List.setIfInBounds_toArray, List.set_cons_zero, List.set_cons_succ]
      refine wpAnyH_take (i := 11) (v := ?_) rfl (by kernel_rfl) (by kernel_rfl) (by kernel_rfl) (fun _ _ _ h => h) (Or.inl ⟨by kernel_rfl, ?_⟩) hH2 ?_
      rotate_left 1
      · intro w hSw
        go_simp
        try with_reducible rfl
      try simp only [Act.put, List.getElem_toArray, List.getElem_cons_zero, List.getElem_cons_succ, List.setIfInBounds_toArray, List.set_cons_zero, List.set_cons_succ]
      refine wpAnyH_take (i := 12) (v := ?_) rfl (by kernel_rfl) (by kernel_rfl) (by kernel_rfl) (fun _ _ _ h => h) (Or.inl ⟨by kernel_rfl, ?_⟩) hH2 ?_
      rotate_left 1
      · intro w hSw
        go_simp
        try with_reducible rfl
      try simp only [Act.put, List.getElem_toArray, List.getElem_cons_zero, List.getElem_cons_succ, List.setIfInBounds_toArray, List.set_cons_zero, List.set_cons_succ]
      refine wpAnyH_take (i := 13) (v := ?_) rfl (by kernel_rfl) (by kernel_rfl) (by kernel_rfl) (fun _ _ _ h => h) (Or.inl ⟨by kernel_rfl, ?_⟩) hH2 ?_
      rotate_left 1
      · intro w hSw
        go_simp
        try with_reducible rfl
      try simp only [Act.put, List.getElem_toArray, List.getElem_cons_zero, List.getElem_cons_succ, List.setIfInBounds_toArray, List.set_cons_zero, List.set_cons_succ]
      refine wpAnyH_take (i := 14) (v := ?_) rfl (by kernel_rfl) (by kernel_rfl) (by kernel_rfl) (fun _ _ _ h => h) (Or.inl ⟨by kernel_rfl, ?_⟩) hH2 ?_
      rotate_left 1
      · intro w hSw
        go_simp
        try with_reducible rfl
      try simp only [Act.put, List.getElem_toArray, List.getElem_cons_zero, List.getElem_cons_succ, List.setIfInBounds_toArray, List.set_cons_zero, List.set_cons_succ]
      refine wpAnyH_take (i := 15) (v := ?_) rfl (by kernel_rfl) (by kernel_rfl) (by kernel_rfl) (fun _ _ _ h => h) (Or.inl ⟨by kernel_rfl, ?_⟩) hH2 ?_
      rotate_left 1
      · intro w hSw
        go_simp
        try with_reducible rfl
      try simp only [Act.put, List.getElem_toArray, List.getElem_cons_zero, List.getElem_cons_succ, List.setIfInBounds_toArray, List.set_cons_zero, List.set_cons_succ]
      refine wpAnyH_take (i := 16) (v := ?_) rfl (by kernel_rfl) (by kernel_rfl) (by kernel_rfl) (fun _ _ _ h => h) (Or.inl ⟨by kernel_rfl, ?_⟩) hH2 ?_
      rotate_left 1
      · intro w hSw
        go_simp
        try with_reducible rfl
      try simp only [Act.put, List.getElem_toArray, List.getElem_cons_zero, List.getElem_cons_succ, List.setIfInBounds_toArray, List.set_cons_zero, List.set_cons_succ]
      refine wpAnyH_take (i := 17) (v := ?_) rfl (by kernel_rfl) (by kernel_rfl) (by kernel_rfl) (fun _ _ _ h => h) (Or.inl ⟨by kernel_rfl, ?_⟩) hH2 ?_
      rotate_left 1
      · intro w hSw
        go_simp
        try with_reducible rfl
      try simp only [Act.put, List.getElem_toArray, List.getElem_cons_zero, List.getElem_cons_succ, List.setIfInBounds_toArray, List.set_cons_zero, List.set_cons_succ]
      refine wpAnyH_take (i := 18) (v := ?_) rfl (by kernel_rfl) (by kernel_rfl) (by kernel_rfl) (fun _ _ _ h => h) (Or.inl ⟨by kernel_rfl, ?_⟩) hH2 ?_
      rotate_left 1
      · intro w hSw
        go_simp
        try with_reducible rfl
      try simp only [Act.put, List.getElem_toArray, List.getElem_cons_zero, List.getElem_cons_succ, List.setIfInBounds_toArray, List.set_cons_zero, List.set_cons_succ]
      refine wpAnyH_take (i := 19) (v := ?_) rfl (by kernel_rfl) (by kernel_rfl) (by kernel_rfl) (fun _ _ _ h => h) (Or.inl ⟨by kernel_rfl, ?_⟩) hH2 ?_
      rotate_left 1
      · intro w hSw
        go_simp
        try with_reducible rfl
      try simp only [Act.put, List.getElem_toArray, List.getElem_cons_zero, List.getElem_cons_succ, List.setIfInBounds_toArray, List.set_cons_zero, List.set_cons_succ]
      refine wpAnyH_take (i := 20) (v := ?_) rfl (by kernel_rfl) (by kernel_rfl) (by kernel_rfl) (fun _ _ _ h => h) (Or.inl ⟨by kernel_rfl, ?_⟩) hH2 ?_
      rotate_left 1
      · intro w hSw
        go_simp
        try with_reducible rfl
      try simp only [Act.put, List.getElem_toArray, List.getElem_cons_zero, List.getElem_cons_succ, List.setIfInBounds_toArray, List.set_cons_zero, List.set_cons_succ]
      refine wpAnyH_take (i := 21) (v := ?_) rfl (by kernel_rfl) (by kernel_rfl) (by kernel_rfl) (fun _ _ _ h => h) (Or.inl ⟨by kernel_rfl, ?_⟩) hH2 ?_
      rotate_left 1
      · intro w hSw
        go_simp
        try with_reducible rfl
      try simp only [Act.put, List.getElem_toArray, List.getElem_cons_zero, List.getElem_cons_succ, List.setIfInBounds_toArray, List.set_cons_zero, List.set_cons_succ]
      refine wpAnyH_take (i := 22) (v := ?_) rfl (by kernel_rfl) (by kernel_rfl) (by kernel_rfl) (fun _ _ _ h => h) (Or.inl ⟨by kernel_rfl, ?_⟩) hH2 ?_
      rotate_left 1
      · intro w hSw
        go_simp
        try with_reducible rfl
      try simp only [Act.put, List.getElem_toArray, List.getElem_cons_zero, List.getElem_cons_succ, List.setIfInBounds_toArray, List.set_cons_zero, List.set_cons_succ]
      refine wpAnyH_take (i := 23) (v := ?_) rfl (by kernel_rfl) (by kernel_rfl) (by kernel_rfl) (fun _ _ _ h => h) (Or.inl ⟨by kernel_rfl, ?_⟩) hH2 ?_
      rotate_left 1
      · intro w hSw
        go_simp
        try with_reducible rfl
      try simp only [Act.put, List.getElem_toArray, List.getElem_cons_zero, List.getElem_cons_succ, List.setIfInBounds_toArray, List.set_cons_zero, List.set_cons_succ]
      refine wpAnyH_take (i := 24) (v := ?_) rfl (by kernel_rfl) (by kernel_rfl) (by kernel_rfl) (fun _ _ _ h => h) (Or.inl ⟨by kernel_rfl, ?_⟩) hH2 ?_
      rotate_left 1
      · intro w hSw
        go_simp
        try with_reducible rfl
      try simp only [Act.put, List.getElem_toArray, List.getElem_cons_zero, List.getElem_cons_succ, List.setIfInBounds_toArray, List.set_cons_zero, List.set_cons_succ]
      refine wpAnyH_take (i := 25) (v := ?_) rfl (by kernel_rfl) (by kernel_rfl) (by kernel_rfl) (fun _ _ _ h => h) (Or.inl ⟨by kernel_rfl, ?_⟩) hH2 ?_
      rotate_left 1
      · intro w hSw
        go_simp
        try with_reducible rfl
      try simp only [Act.put, List.getElem_toArray, List.getElem_cons_zero, List.getElem_cons_succ, List.setIfInBounds_toArray, List.set_cons_zero, List.set_cons_succ]
      refine wpAnyH_take (i := 26) (v := ?_) rfl (by kernel_rfl) (by kernel_rfl) (by kernel_rfl) (fun _ _ _ h => h) (Or.inl ⟨by kernel_rfl, ?_⟩) hH2 ?_
      rotate_left 1
      · intro w hSw
        go_simp
        try with_reducible rfl
      try simp only [Act.put, List.getElem_toArray, List.getElem_cons_zero, List.getElem_cons_succ, List.setIfInBounds_toArray, List.set_cons_zero, List.set_cons_succ]
      refine wpAnyH_take (i := 27) (v := ?_) rfl (by kernel_rfl) (by kernel_rfl) (by kernel_rfl) (fun _ _ _ h => h) (Or.inl ⟨by kernel_rfl, ?_⟩) hH2 ?_
      rotate_left 1
      · intro w hSw
        go_simp
        try with_reducible rfl
      try simp only [Act.put, List.getElem_toArray, List.getElem_cons_zero, List.getElem_cons_succ, List.setIfInBounds_toArray, List.set_cons_zero, List.set_cons_succ]
      refine wpAnyH_take (i := 28) (v := ?_) rfl (by kernel_rfl) (by kernel_rfl) (by kernel_rfl) (fun _ _ _ h => h) (Or.inl ⟨by kernel_rfl, ?_⟩) hH2 ?_
      rotate_left 1
      · intro w hSw
        go_simp
        try with_reducible rfl
      try simp only [Act.put, List.getElem_toArray, List.getElem_cons_zero, List.getElem_cons_succ, List.setIfInBounds_toArray, List.set_cons_zero, List.set_cons_succ]
      refine wpAnyH_take (i := 29) (v := ?_) rfl (by kernel_rfl) (by kernel_rfl) (by kernel_rfl) (fun _ _ _ h => h) (Or.inl ⟨by kernel_rfl, ?_⟩) hH2 ?_
      rotate_left 1
      · intro w hSw
        go_simp
        try with_reducible rfl
      try simp only [Act.put, List.getElem_toArray, List.getElem_cons_zero, List.getElem_cons_succ, List.setIfInBounds_toArray, List.set_cons_zero, List.set_cons_succ]
      refine wpAnyH_take (i := 30) (v := ?_) rfl (by kernel_rfl) (by kernel_rfl) (by kernel_rfl) (fun _ _ _ h => h) (Or.inl ⟨by kernel_rfl, ?_⟩) hH2 ?_
      rotate_left 1
      · intro w hSw
        go_simp
        try with_reducible rfl
      try simp only [Act.put, List.getElem_toArray, List.getElem_cons_zero, List.getElem_cons_succ, List.setIfInBounds_toArray, List.set_cons_zero, List.set_cons_succ]
      refine wpAnyH_take (i := 31) (v := ?_) rfl (by kernel_rfl) (by kernel_rfl) (by kernel_rfl) (fun _ _ _ h => h) (Or.inl ⟨by kernel_rfl, ?_⟩) hH2 ?_
      rotate_left 1
      · intro w hSw
        go_simp
        try with_reducible rfl
      try simp only [Act.put, List.getElem_toArray, List.getElem_cons_zero, List.getElem_cons_succ, List.setIfInBounds_toArray, List.set_cons_zero, List.set_cons_succ]
      refine wpAnyH_take (i := 32) (v := ?_) rfl (by kernel_rfl) (by kernel_rfl) (by kernel_rfl) (fun _ _ _ h => h) (Or.inl ⟨by kernel_rfl, ?_⟩) hH2 ?_
      rotate_left 1
      · intro w hSw
        go_simp
        try with_reducible rfl
      try simp only [Act.put, List.getElem_toArray, List.getElem_cons_zero, List.getElem_cons_succ, List.setIfInBounds_toArray, List.set_cons_zero, List.set_cons_succ]
      refine wpAnyH_take (i := 33) (v := ?_) rfl (by kernel_rfl) (by kernel_rfl) (by kernel_rfl) (fun _ _ _ h => h) (Or.inl ⟨by kernel_rfl, ?_⟩) hH2 ?_
      rotate_left 1
      · intro w hSw
        go_simp
        try with_reducible rfl
      try simp only [Act.put, List.getElem_toArray, List.getElem_cons_zero, List.getElem_cons_succ, List.setIfInBounds_toArray, List.set_cons_zero, List.set_cons_succ]
      refine wpAnyH_take (i := 34) (v := ?_) rfl (by kernel_rfl) (by kernel_rfl) (by kernel_rfl) (fun _ _ _ h => h) (Or.inl ⟨by kernel_rfl, ?_⟩) hH2 ?_
      rotate_left 1
      · intro w hSw
        go_simp
        try with_reducible rfl
      try simp only [Act.put, List.getElem_toArray, List.getElem_cons_zero, List.getElem_cons_succ, List.setIfInBounds_toArray, List.set_cons_zero, List.set_cons_succ]
      refine wpAnyH_take (i := 35) (v := ?_) rfl (by kernel_rfl) (by kernel_rfl) (by kernel_rfl) (fun _ _ _ h => h) (Or.inl ⟨by kernel_rfl, ?_⟩) hH2 ?_
      rotate_left 1
      · intro w hSw
        go_simp
        try with_reducible rfl
      try simp only [Act.put, List.getElem_toArray, List.getElem_cons_zero, List.getElem_cons_succ, List.setIfInBounds_toArray, List.set_cons_zero, List.set_cons_succ]
      refine wpAnyH_take (i := 36) (v := ?_) rfl (by kernel_rfl) (by kernel_rfl) (by kernel_rfl) (fun _ _ _ h => h) (Or.inl ⟨by kernel_rfl, ?_⟩) hH2 ?_
      rotate_left 1
      · intro w hSw
        go_simp
        try with_reducible rfl
      try simp only [Act.put, List.getElem_toArray, List.getElem_cons_zero, List.getElem_cons_succ, List.setIfInBounds_toArray, List.set_cons_zero, List.set_cons_succ]
      refine wpAnyH_take (i := 37) (v := ?_) rfl (by kernel_rfl) (by kernel_rfl) (by kernel_rfl) (fun _ _ _ h => h) (Or.inl ⟨by kernel_rfl, ?_⟩) hH2 ?_
      rotate_left 1
      · intro w hSw
        go_simp
        try with_reducible rfl
      try simp only [Act.put, List.getElem_toArray, List.getElem_cons_zero, List.getElem_cons_succ, List.setIfInBounds_toArray, List.set_cons_zero, List.set_cons_succ]
      refine wpAnyH_take (i := 38) (v := ?_) rfl (by kernel_rfl) (by kernel_rfl) (by kernel_rfl) (fun _ _ _ h => h) (Or.inl ⟨by kernel_rfl, ?_⟩) hH2 ?_
      rotate_left 1
      · intro w hSw
        go_simp
        try with_reducible rfl
      try simp only [Act.put, List.getElem_toArray, List.getElem_cons_zero, List.getElem_cons_succ, List.setIfInBounds_toArray, List.set_cons_zero, List.set_cons_succ]
      refine wpAnyH_take (i := 39) (v := ?_) rfl (by kernel_rfl) (by kernel_rfl) (by kernel_rfl) (fun _ _ _ h => h) (Or.inl ⟨by kernel_rfl, ?_⟩) hH2 ?_
      rotate_left 1
      · intro w hSw
        go_simp
        try with_reducible rfl
      try simp only [Act.put, List.getElem_toArray, List.getElem_cons_zero, List.getElem_cons_succ, List.setIfInBounds_toArray, List.set_cons_zero, List.set_cons_succ]
      refine wpAnyH_ready (rs := [40]) (by kernel_rfl) (by simp) ?_
      refine AllReadyH.cons rfl (fun K_ hK => ?_) ?_
      · go_simp
        refine (HLN.out _ hH2).mono ?_
        rintro e W3 ⟨rfl, hb3⟩
        have c4_3 := (hb3.cell (p := ⟨W0.heap.size, 0, none⟩) l4_2).trans c4_2
        have l4_3 : (⟨W0.heap.size, 0, none⟩ : Addr).block < W3.heap.size := Nat.lt_of_lt_of_le l4_2 hb3.size
        refine hK.out _ _ ((hH2).trans (hb3.mono (hH2).size)) (fun hH3 => ?_)
        clear hK K_
        try simp only [Act.put, List.getElem_toArray, List.getElem_cons_zero, List.getElem_cons_succ, List.setIfInBounds_toArray, List.set_cons_zero, List.set_cons_succ]
        refine wpAnyH_take (i := 41) (v := ?_) rfl (by kernel_rfl) (by kernel_rfl) (by kernel_rfl) (fun _ _ _ h => h) (Or.inl ⟨by kernel_rfl, ?_⟩) hH3 ?_
        rotate_left 1
        · intro w hSw
          go_simp
          try with_reducible rfl
        try simp only [Act.put, List.getElem_toArray, List.getElem_cons_zero, List.getElem_cons_succ, List.setIfInBounds_toArray, List.set_cons_zero, List.set_cons_succ]
        refine wpAnyH_take (i := 42) (v := ?_) rfl (by kernel_rfl) (by kernel_rfl) (by kernel_rfl) (fun _ _ _ h => h) (Or.inl ⟨by kernel_rfl, ?_⟩) hH3 ?_
        rotate_left 1
        · intro w hSw
          go_simp
          try with_reducible rfl
        try simp only [Act.put, List.getElem_toArray, List.getElem_cons_zero, List.getElem_cons_succ, List.setIfInBounds_toArray, List.set_cons_zero, List.set_cons_succ]
        refine wpAnyH_take (i := 43) (v := ?_) rfl (by kernel_rfl) (by kernel_rfl) (by kernel_rfl) (fun _ _ _ h => h) (Or.inl ⟨by kernel_rfl, ?_⟩) hH3 ?_
        rotate_left 1
        · intro w hSw
          go_simp
          try with_reducible rfl
        try simp only [Act.put, List.getElem_toArray, List.getElem_cons_zero, List.getElem_cons_succ, List.setIfInBounds_toArray, List.set_cons_zero, List.set_cons_succ]
        refine wpAnyH_take (i := 44) (v := ?_) rfl (by kernel_rfl) (by kernel_rfl) (by kernel_rfl) (fun _ _ _ h => h) (Or.inl ⟨by kernel_rfl, ?_⟩) hH3 ?_
        rotate_left 1
        · intro w hSw
          go_simp
          try with_reducible rfl
        try simp only [Act.put, List.getElem_toArray, List.getElem_cons_zero, List.getElem_cons_succ, List.setIfInBounds_toArray, List.set_cons_zero, List.set_cons_succ]
        refine wpAnyH_ready (rs := [45]) (by kernel_rfl) (by simp) ?_
        refine AllReadyH.cons rfl (fun K_ hK => ?_) ?_
        · go_simp
          refine (HKN.out _ hH3).mono ?_
          rintro e W4 ⟨rfl, hb4⟩
          have c4_4 := (hb4.cell (p := ⟨W0.heap.size, 0, none⟩) l4_3).trans c4_3
          have l4_4 : (⟨W0.heap.size, 0, none⟩ : Addr).block < W4.heap.size := Nat.lt_of_lt_of_le l4_3 hb4.size
          refine hK.out _ _ ((hH3).trans (hb4.mono (hH3).size)) (fun hH4 => ?_)
          clear hK K_
          try simp only [Act.put, List.getElem_toArray, List.getElem_cons_zero, List.getElem_cons_succ, List.setIfInBounds_toArray, List.set_cons_zero, List.set_cons_succ]
          refine wpAnyH_take (i := 46) (v := ?_) rfl (by kernel_rfl) (by kernel_rfl) (by kernel_rfl) (fun _ _ _ h => h) (Or.inl ⟨by kernel_rfl, ?_⟩) hH4 ?_
          rotate_left 1
          · intro w hSw
            go_simp
            try with_reducible rfl
          try simp only [Act.put, List.getElem_toArray, List.getElem_cons_zero, List.getElem_cons_succ, List.setIfInBounds_toArray, List.set_cons_zero, List.set_cons_succ]
          refine wpAnyH_take (i := 47) (v := ?_) rfl (by kernel_rfl) (by kernel_rfl) (by kernel_rfl) (fun _ _ _ h => h) (Or.inl ⟨by kernel_rfl, ?_⟩) hH4 ?_
          rotate_left 1
          · intro w hSw
            go_simp
            try with_reducible rfl
          try simp only [Act.put, List.getElem_toArray, List.getElem_cons_zero, List.getElem_cons_succ, List.setIfInBounds_toArray, List.set_cons_zero, List.set_cons_succ]
          refine wpAnyH_take (i := 48) (v := ?_) rfl (by kernel_rfl) (by kernel_rfl) (by kernel_rfl) (fun _ _ _ h => h) (Or.inl ⟨by kernel_rfl, ?_⟩) hH4 ?_
          rotate_left 1
          · intro w hSw
            go_simp
            try with_reducible rfl
          try simp only [Act.put, List.getElem_toArray, List.getElem_cons_zero, List.getElem_cons_succ, List.setIfInBounds_toArray, List.set_cons_zero, List.set_cons_succ]
          refine wpAnyH_take (i := 49) (v := ?_) rfl (by kernel_rfl) (by kernel_rfl) (by kernel_rfl) (fun _ _ _ h => h) (Or.inl ⟨by kernel_rfl, ?_⟩) hH4 ?_
          rotate_left 1
          · intro w hSw
            go_simp
            try with_reducible rfl
          try simp only [Act.put, List.getElem_toArray, List.getElem_cons_zero, List.getElem_cons_succ, List.setIfInBounds_toArray, List.set_cons_zero, List.set_cons_succ]
          refine wpAnyH_done (by kernel_rfl) ?_ _
          have HH := Lib.hid hH4
          clear hH4
          go_wp2_with fail
          go_ret
          exact ⟨rfl, HB16.out.trans (HH.out.mono HB16.out.size)⟩
        exact AllReadyH.nil
      exact AllReadyH.nil
    exact AllReadyH.nil
  exact AllReadyH.nil
end Go.Proofs.YteihfoacdocgkaaDoor
