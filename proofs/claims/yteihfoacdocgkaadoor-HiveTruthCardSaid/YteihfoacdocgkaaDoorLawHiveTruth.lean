/-
  HiveTruth: nothing is answered under another digest. No condition: every input.
-/
import Derived.Test.YteihfoacdocgkaaDoorHwI
import Derived.Test.YteihfoacdocgkaaDoorHxEG
import Derived.Test.YteihfoacdocgkaaDoorRow
import Derived.Deep.Fields
import Derived.ChangeSame
import Derived.Test.YteihfoacdocgkaaDoorCards
import Derived.Test.YteihfoacdocgkaaDoorTie
set_option linter.unusedVariables false
set_option linter.unusedSimpArgs false
namespace Go.Proofs.YteihfoacdocgkaaDoor
open Go.RowKit Pl Sh
attribute [local go_sem] Lb.ba_get Lb.ba_cut Lb.ba_add Lb.ba_size Lb.take_rest

theorem u64_mod20b (x : Int) (h : -9223372036854775808 ≤ x ∧ x ≤ 9223372036854775807) : ∃ u k : Nat, IntKind.u64.wrap x = (u : Int) ∧ (u : Int) ≤ 18446744073709551615 ∧ (u : Int).tmod 20 = (k : Int) ∧ IntKind.i64.wrap (k : Int) = (k : Int) ∧ IntKind.i64.wrap (1 + (k : Int)) = ((k + 1 : Nat) : Int) ∧ k < 20 := by
  by_cases hx : 0 ≤ x
  · obtain ⟨u, rfl⟩ : ∃ u : Nat, x = u := ⟨x.toNat, by omega⟩
    have hk : u % 20 < 20 := Nat.mod_lt _ (by decide)
    exact ⟨u, u % 20, by rw [IntWalk.u64_in _ (by omega)], by omega, rfl, IntWalk.i64_in _ (by omega), by rw [IntWalk.i64_in _ (by omega)]; omega, hk⟩
  · have hk : (x + 18446744073709551616).toNat % 20 < 20 := Nat.mod_lt _ (by decide)
    refine ⟨(x + 18446744073709551616).toNat, (x + 18446744073709551616).toNat % 20, ?_, by omega, rfl, IntWalk.i64_in _ (by omega), by rw [IntWalk.i64_in _ (by omega)]; omega, hk⟩
    simp only [IntKind.wrap_u64]; omega
theorem act05_info : (Tryd.prog.info? 71).map (·.size) = some 69 := by kernel_rfl
theorem act05_zero : Tryd.zeroCells71.size = 69 := by kernel_rfl
theorem actH_one (a : ActH) : a.cells.toArray.all (·.oneCell') = true := by
  rw [Array.all_eq_true_iff_forall_mem]
  intro v hv
  rw [List.mem_toArray] at hv
  unfold ActH.cells at hv
  simp only [List.mem_cons, List.mem_append, List.not_mem_nil, or_false] at hv
  rcases hv with rfl | rfl | h | rfl | rfl
  · rfl
  · rfl
  · obtain ⟨kd, n, rfl⟩ := rec_cells_int a.r v h
    rfl
  · rfl
  · rfl
theorem act_blk {w : World} {xb : Nat} {a : ActH} (h : w.heap[xb]? = some (.cells a.cells.toArray 71 (0, 0))) (hf : a.r.Fit) :
    w.cell? ⟨xb, 0, none⟩ = some (.int .i64 a.kind) ∧ w.cell? ⟨xb, 1, none⟩ = some (.string ⟨a.text.toArray⟩) ∧ w.rangeAt xb 2 a.r.cells ∧ w.rangeAt xb 2 (byV a.r.key) ∧ w.cell? ⟨xb, 67, none⟩ = some (.int .i64 a.at_) ∧ w.cell? ⟨xb, 68, none⟩ = some (.slice a.A a.fs.length a.cap) := by
  have hr : w.rangeAt xb 0 a.cells := fun k v hv => by
    rw [Lib.cell_of_heap h, Nat.zero_add, List.getElem?_toArray]; exact hv
  obtain ⟨c0, c1, cr, c3, c4⟩ := actH_cells hr hf
  rw [Nat.zero_add] at c1 cr c3 c4
  refine ⟨c0, c1, cr, fun k v hv => ?_, c3, c4⟩
  refine cr k v ?_
  unfold RecD.cells
  rw [List.getElem?_append_left (List.getElem?_eq_some_iff.1 hv).1]; exact hv
theorem rec_blk {w : World} {b : Nat} {r : RecD} {T : TypeId} (h : w.heap[b]? = some (.cells r.row T (0, 0))) : w.rangeAt b 0 (byV r.key) ∧ w.rangeAt b 0 r.cells := by
  have hr : w.rangeAt b 0 r.cells := fun k v hv => by
    rw [Lib.cell_of_heap h, Nat.zero_add]; unfold RecD.row; rw [List.getElem?_toArray]; exact hv
  refine ⟨fun k v hv => hr k v ?_, hr⟩
  unfold RecD.cells
  rw [List.getElem?_append_left (List.getElem?_eq_some_iff.1 hv).1]; exact hv
theorem GBox.lt {K : List Int} {w : World} {q : HvP} {n k : Nat} {pins : List (List UInt8)} {S : List Nat} (h : GBox K w q n k pins S) : ∀ x ∈ S, x < w.heap.size := by
  obtain ⟨d, -, -, -, -, h5⟩ := h
  exact h5
/-- what stands behind an act: a store, the act's own block -/
def GAll (w wx : World) (q : HvP) (n k sb sg xb : Nat) (ac : List Value) (S : List Nat) : Prop :=
  q.b = sb ∧ q.g = sg ∧ GBox KK wx q n k [] S ∧ (∀ x ∈ S, w.heap.size ≤ x) ∧ xb ∉ S ∧ wx.heap[xb]? = some (.cells ac.toArray 71 (0, 0)) ∧ Below w.heap.size w wx
theorem GAll.step {w wx wy : World} {q : HvP} {n k k' sb sg xb : Nat} {ac : List Value} {S : List Nat} (h : GAll w wx q n k sb sg xb ac S) (hp : GPutPost KK q n k' [] S wx wy) : ∃ S', GAll w wy q n k' sb sg xb ac S' := by
  obtain ⟨S', hb, hO, hS⟩ := hp
  obtain ⟨h1, h2, h3, h4, h5, h6, h7⟩ := h
  have hx := heap_lt h6
  refine ⟨S', h1, h2, hb, fun x hx => ?_, fun hx2 => ?_, (hO.block xb hx h5).trans h6, h7.trans (hO.below h7.size h4)⟩
  · rcases hS x hx with h | h
    · exact h4 x h
    · exact Nat.le_trans h7.size h
  · rcases hS xb hx2 with h | h
    · exact h5 h
    · omega
theorem GAll.below {w wx wy : World} {q : HvP} {n k sb sg xb : Nat} {ac : List Value} {S : List Nat} (h : GAll w wx q n k sb sg xb ac S) (hb : Below wx.heap.size wx wy) : GAll w wy q n k sb sg xb ac S := by
  obtain ⟨h1, h2, h3, h4, h5, h6, h7⟩ := h
  exact ⟨h1, h2, h3.below hb, h4, h5, below_keep hb h6, h7.trans (hb.mono h7.size)⟩
theorem GAll.less {w wx : World} {q : HvP} {n k k' sb sg xb : Nat} {ac : List Value} {S : List Nat} (h : GAll w wx q n k sb sg xb ac S) (hk : k' ≤ k) : GAll w wx q n k' sb sg xb ac S := by
  obtain ⟨h1, h2, h3, h4, h5, h6, h7⟩ := h
  exact ⟨h1, h2, h3.less hk, h4, h5, h6, h7⟩
theorem GAll.only {w wx wy : World} {q : HvP} {n k k' sb sg xb : Nat} {ac : List Value} {S : List Nat} (h : GAll w wx q n k sb sg xb ac S) (hb : GBox KK wy q n k' [] S) (hO : Only S wx wy) : GAll w wy q n k' sb sg xb ac S := by
  obtain ⟨S', h'⟩ := h.step ⟨S, hb, hO, fun x hx => .inl hx⟩
  obtain ⟨h1, h2, h3, h4, h5, h6, h7⟩ := h
  exact ⟨h1, h2, hb, h4, h5, (hO.block xb (heap_lt h6) h5).trans h6, h7.trans (hO.below h7.size h4)⟩
set_option maxHeartbeats 8000000 in
set_option maxRecDepth 100000 in
theorem hiveTruth_core (x : Int) (A : Option Addr) (cap : Nat) (ds : List ActH) (w : World) (hL : Laid KK w) (haw : Calls Tryd.prog 18 #[] w fun e w' => e = .returned (.bool true) ∧ Below w.heap.size w w')
    (xlo : -9223372036854775808 ≤ x) (xhi : x ≤ 9223372036854775807) (hS : ActsH w w.heap.size A ds) (hl : ds.length ≤ maxLen) :
    Calls Tryd.prog 10 #[.int .i64 x, .slice A ds.length cap] w fun e w' => e = .returned (.bool true) ∧ Below w.heap.size w w' := by
  have HL := Lib.hid hL
  have HS := Lib.hid hS
  have haw' := Lib.hid haw
  obtain ⟨u, kb, hu, hub, hj, hjw, hjw2, hk20⟩ := u64_mod20b x ⟨xlo, xhi⟩
  have hgr := Lib.hid (fun W (hW : Below w.heap.size w W) => great_any A cap ds W (fun i hi => by
    obtain ⟨b, o, e, h1, h2, h3⟩ := (HS.out.below hW) i hi
    exact ⟨b, o, e, Nat.lt_of_lt_of_le h1 hW.size, h2, { h3 with fates := h3.fates.more hW.size }⟩) hl)
  obtain ⟨nd, hnd⟩ : ∃ n, n = ds.length := ⟨_, rfl⟩
  have hd63 : (nd : Int) ≤ 9223372036854775807 := by unfold maxLen at hl; omega
  rw [← hnd] at hgr ⊢
  have Hnd := Lib.hid hnd
  clear hL hS hl hnd haw
  go_enter Tryd.func10, Tryd.ntmps10
  go_wp2_with fail
  refine haw'.out.mono ?_
  rintro e w1 ⟨rfl, hB1⟩
  have HB1 := Lib.hid hB1
  clear hB1 haw'
  go_wp2_with fail
  refine (hgr.out w1 HB1.out).mono ?_
  rintro e w2 ⟨b1, rfl, hsm, rfl⟩
  have Hsm := Lib.hid hsm
  clear hsm hgr
  cases b1 with
  | true =>
    go_wp2_with fail
    go_ret
    exact ⟨rfl, HB1.out⟩
  | false =>
    go_wp2_with fail
    obtain ⟨n, hn⟩ : ∃ n : Nat, (kb : Int) + 1 = (n : Int) := ⟨kb + 1, by omega⟩
    rw [hn]
    have hn20 : n ≤ 20 := by omega
    clear hu hub hj hjw hjw2 hk20 hn
    refine (new_any n w1 (by omega)).mono ?_
    rintro e w3 ⟨rfl, h3, hB3⟩
    have HB3 := Lib.hid (HB1.out.trans (hB3.mono HB1.out.size))
    have h0 : 0 ≠ w1.heap.size + 1 ∧ 0 ≠ w1.heap.size := by have := HL.out.lt; have := HB1.out.size; omega
    have hop := Lib.hid (g_new KK n (w1.heap.size + 1) w1.heap.size w3 h3 (HL.out.below HB3.out) h0 (by omega))
    clear hB3 h3
    go_wp2_with fail
    refine hop.out.mono ?_
    rintro e w4 ⟨q, S, hqb, hqg, rfl, hbox, hlo, hO4⟩
    obtain ⟨sb, hsb⟩ : ∃ y, y = w1.heap.size + 1 := ⟨_, rfl⟩
    obtain ⟨sg, hsg⟩ : ∃ y, y = w1.heap.size := ⟨_, rfl⟩
    rw [← hsb, ← hsg] at hlo hO4
    rw [← hsb] at hqb ⊢
    rw [← hsg] at hqg
    have hsw : w.heap.size ≤ sb ∧ w.heap.size ≤ sg := by have := HB1.out.size; omega
    have Hsw := Lib.hid hsw
    have HB4 := Lib.hid (HB3.out.trans (hO4.below HB3.out.size (by intro x hx; simp only [List.mem_cons, List.not_mem_nil, or_false] at hx; rcases hx with rfl | rfl; exact hsw.1; exact hsw.2)))
    have HSlo : Hid (∀ x ∈ S, w.heap.size ≤ x) := Lib.hid (fun x hx => by
      rcases hlo x hx with rfl | rfl | h
      · exact hsw.1
      · exact hsw.2
      · exact Nat.le_trans HB3.out.size h)
    have Hbox := Lib.hid hbox
    have Hqb := Lib.hid hqb
    have Hqg := Lib.hid hqg
    clear hqb hqg hbox hlo hO4 hop hsb hsg hsw h0
    go_wp2_with fail
    go_loopw [6, 8] (fun hv i wr => ∃ (k : Nat) (q : HvP) (S : List Nat), k ≤ nd ∧ k ≤ 70 ∧ hv = .pointer (some ⟨q.p, 0, none⟩) ∧ i = .int .i64 k ∧ q.b = sb ∧ q.g = sg ∧ GBox KK wr q n (40000 - 500 * k) [] S ∧ (∀ x ∈ S, w.heap.size ≤ x) ∧ Below w.heap.size w wr) (fun _ i _ => nd - (intOf i).toNat)
    case atStart => exact ⟨0, q, S, by omega, by omega, rfl, rfl, Hqb.out, Hqg.out, Hbox.out, HSlo.out, HB4.out⟩
    case round =>
      obtain ⟨k, q, S, hk, hk70, rfl, rfl, hqb, hqg, hbox, hlo, hb⟩ := hrel
      have Hbox := Lib.hid hbox
      have Hlo := Lib.hid hlo
      have Hb := Lib.hid hb
      have Hqb := Lib.hid hqb
      have Hqg := Lib.hid hqg
      clear hbox hlo hb hqb hqg
      by_cases hkn : k < nd ∧ k < 70
      · obtain ⟨h1, h2⟩ := hkn
        have j1 : (k : Int) < (nd : Int) := by omega
        have j2 : (k : Int) < 70 := by omega
        have hid : k < ds.length := by rw [← Hnd.out]; exact h1
        obtain ⟨b, o, rfl, hbl, hr, hok⟩ := (HS.out.below Hb.out) k hid
        obtain ⟨hts, hfs⟩ := Hsm.out (by first | rfl | trivial) k hid h2
        obtain ⟨a, ha⟩ : ∃ a, a = ds[k] := ⟨_, rfl⟩
        rw [← ha] at hr hok hts hfs
        have Hok := Lib.hid hok
        have Ha := Lib.hid ha
        have Hts := Lib.hid hts
        have asz : a.cells.length = 69 := ActH.len hok.rfit
        have aone := actH_one a
        have adix : (Tryd.prog.info? 71).map (·.size) = some a.cells.length := by rw [act05_info, asz]
        have adixA : (Tryd.prog.info? 71).map (·.size) = some a.cells.toArray.size := by rw [act05_info]; simp [asz]
        have asza : a.cells.toArray.size = 69 := by simp [asz]
        have aund := Tryd.underlying71
        have azero := act05_zero
        obtain ⟨ac, hac⟩ : ∃ ac, ac = a.cells := ⟨_, rfl⟩
        rw [← hac] at hr asz aone adix adixA asza
        have Hac := Lib.hid hac
        clear ha hac hok hts hfs hbl
        go_upto_region 13 with (first | (refine wpList_load_mid rfl 71 _ rfl b (o + k * 69) rfl ac _ hr aund rfl adix ?_) | (refine wpList_store_row rfl 71 _ _ rfl wr.heap.size ac.toArray rfl rfl 71 _ (heap_alloc_new wr _) adixA (by rw [asza, azero]) aone ?_))
        show Code.wp _ _ _ _ ((wr.alloc (.cells Tryd.zeroCells71 71)).setRow wr.heap.size ac.toArray)
        obtain ⟨hq_w7, hB_w7⟩ := put_newH wr Tryd.zeroCells71 ac.toArray 71
        obtain ⟨xb, hp_w7⟩ : ∃ q, q = wr.heap.size := ⟨_, rfl⟩
        obtain ⟨w7, hw_w7⟩ : ∃ y, y = ((wr.alloc (.cells Tryd.zeroCells71 71)).setRow wr.heap.size ac.toArray) := ⟨_, rfl⟩
        rw [← hw_w7] at hq_w7 hB_w7 ⊢
        rw [← hp_w7] at hq_w7 ⊢
        have HQ_w7 := Lib.hid hq_w7
        have HB_w7 := Lib.hid hB_w7
        have Hp_w7 := Lib.hid hp_w7
        clear hq_w7 hB_w7 hp_w7 hw_w7
        have hxS : xb ∉ S := fun hx => by
          have h1 := Hbox.out.lt xb hx
          have h2 := Hp_w7.out
          omega
        have HA7 : Hid (GAll w w7 q n (40000 - 500 * k) sb sg xb ac S) := Lib.hid ⟨Hqb.out, Hqg.out, Hbox.out.below HB_w7.out, Hlo.out, hxS, HQ_w7.out, Hb.out.trans (HB_w7.out.mono Hb.out.size)⟩
        have hq7 := HQ_w7.out
        rw [Hac.out] at hq7
        obtain ⟨x0, x1, xr, xk, x3, x4⟩ := act_blk hq7 Hok.out.rfit
        obtain ⟨kd, hkd⟩ : ∃ kd, kd = a.kind := ⟨_, rfl⟩
        obtain ⟨tx, htx⟩ : ∃ tx, tx = a.text := ⟨_, rfl⟩
        obtain ⟨rd, hrd⟩ : ∃ rd, rd = a.r := ⟨_, rfl⟩
        rw [← hkd] at x0
        rw [← htx] at x1
        rw [← hrd] at xr xk
        have Htx := Lib.hid htx
        have Hrd := Lib.hid hrd
        have htl : tx.length ≤ 1000 := by rw [htx]; exact Hts.out
        have hrf : Hid rd.Fit := Lib.hid (by rw [hrd]; exact Hok.out.rfit)
        clear hr asz aone adix adixA asza aund azero hq7 hxS hkd htx hrd Hbox Hlo Hqb Hqg HQ_w7 HB_w7 Hp_w7 Hb HB4 HSlo
        go_upto_block 2 with fail
        go_cut [6, 7] from 37 to 139 (fun hv ev wx => ∃ (q : HvP) (S : List Nat), hv = .pointer (some ⟨q.p, 0, none⟩) ∧ GAll w wx q n (40000 - 500 * k - 250) sb sg xb ac S)
        case first =>
          have h0S : 0 ∉ S := fun hx => by have := HA7.out.2.2.2.1 0 hx; have := HL.out.lt; omega
          by_cases k1 : kd = 1
          · have e1 : (kd == 1) = true := by simp [k1]
            have hput := Lib.hid (g_putblob KK q n (40000 - 500 * k - 250) [] S tx w7 (HA7.out.2.2.1.less (by omega)) (HL.out.below HA7.out.2.2.2.2.2.2) h0S (by omega))
            clear k1 h0S
            go_wp2_with fail
            refine hput.out.mono ?_
            rintro r w8 ⟨⟨dg, er, -, rfl⟩, hp⟩
            obtain ⟨S2, hA8⟩ := HA7.out.step hp
            have HA8 := Lib.hid hA8
            clear hA8 hp hput
            go_wp2_with fail
            go_meet
            case rel => exact ⟨q, S2, rfl, HA8.out⟩
          · have e1 : (kd == 1) = false := by simp [k1]
            by_cases k2 : kd = 2
            · have e2 : (kd == 2) = true := by simp [k2]
              have hput := Lib.hid (g_putrec KK q n (40000 - 500 * k - 250) [] S rd w7 (HA7.out.2.2.1.less (by omega)) (HL.out.below HA7.out.2.2.2.2.2.2) h0S (by omega) hrf.out)
              have hrow : rd.row = rd.cells.toArray := rfl
              have rdix : (Tryd.prog.info? 26).map (·.size) = some rd.cells.length := by rw [rec_info, RecD.len hrf.out]
              have rund := Tryd.underlying26
              rw [hrow] at hput
              obtain ⟨rc, hrc⟩ : ∃ rc, rc = rd.cells := ⟨_, rfl⟩
              rw [← hrc] at xr rdix hput
              clear k1 k2 h0S hrow hrc
              go_wp2_with (refine wpList_load_mid rfl 26 _ rfl xb 2 rfl rc _ xr rund rfl rdix ?_)
              refine hput.out.mono ?_
              rintro r w8 ⟨⟨er, rfl⟩, hp⟩
              obtain ⟨S2, hA8⟩ := HA7.out.step hp
              have HA8 := Lib.hid hA8
              clear hA8 hp hput
              go_wp2_with fail
              go_meet
              case rel => exact ⟨q, S2, rfl, HA8.out⟩
            · have e2 : (kd == 2) = false := by simp [k2]
              by_cases k8 : kd = 8
              · have e8 : (kd == 8) = true := by simp [k8]
                obtain ⟨hqb, hqg, hbx, hlo, hxs, hxq, hbw⟩ := HA7.out
                obtain ⟨s, hsh, hwk, hrm, hlw, hsm⟩ := hbx.shelf
                rw [hqb, hqg] at hsh
                have hxn : xb ≠ sb ∧ xb ≠ sg ∧ sb < w7.heap.size ∧ sg < w7.heap.size ∧ w.heap.size ≤ sb ∧ w.heap.size ≤ sg := by
                  obtain ⟨d, g1, g2, g3, g4, g5⟩ := hbx
                  have hm := @own_mem q d.L
                  have m1 := g4 _ hm.2.2.2.2.1
                  have m2 := g4 _ hm.2.2.2.2.2.1
                  rw [hqb] at m1
                  rw [hqg] at m2
                  exact ⟨fun e => hxs (e ▸ m1), fun e => hxs (e ▸ m2), g5 _ m1, g5 _ m2, hlo _ m1, hlo _ m2⟩
                have Hxn := Lib.hid hxn
                have hxlt := heap_lt hxq
                have hoff := Lib.hid (offd_any sb sg s w7 hsh (Pw.fits_mono (hwk.fits (by omega)) (by omega)))
                have Hwk := Lib.hid (⟨hwk, hrm, hlw, hsm⟩ : _ ∧ _ ∧ _ ∧ _)
                have Hbw := Lib.hid hbw
                have Hxq := Lib.hid hxq
                have Hx4 := Lib.hid x4
                have h0b : 0 ≠ sb ∧ 0 ≠ sg := by have := HL.out.lt; have := hxn.2.2.2.2; omega
                have H0b := Lib.hid h0b
                clear k1 k2 k8 h0S hbx hlo hxs hwk hrm hlw hsm hsh hbw hxq hqb hqg hxn h0b x4
                go_wp2_with fail
                refine hoff.out.mono ?_
                rintro r w8 ⟨rfl, hs8, hO8⟩
                have hx8 : w8.heap[xb]? = some (.cells ac.toArray 71 (0, 0)) := (hO8.block xb hxlt (by simp only [List.mem_cons, List.not_mem_nil, or_false]; have := Hxn.out; omega)).trans Hxq.out
                have hx8' := hx8
                rw [Hac.out] at hx8'
                obtain ⟨-, -, -, -, -, x4⟩ := act_blk hx8' Hok.out.rfit
                have hlo8 : ∀ x ∈ [sb, sg], w.heap.size ≤ x := by intro x hx; simp only [List.mem_cons, List.not_mem_nil, or_false] at hx; have := Hxn.out; rcases hx with rfl | rfl; exact this.2.2.2.2.1; exact this.2.2.2.2.2
                have hb8 : Below w.heap.size w w8 := Hbw.out.trans (hO8.below Hbw.out.size hlo8)
                have hok8 : ActHOk w8 w.heap.size a := by
                  obtain ⟨_, _, _, _, _, h⟩ := (HS.out.below hb8) k hid
                  rw [← Ha.out] at h
                  exact h
                have hon := Lib.hid (on_any sb sg (St.off s) a.A a.cap a.fs w8 hs8 (Fts.of_ints hok8.fates hb8.size hlo8) Hok.out.fb Hok.out.fl Hwk.out.2.2.2)
                obtain ⟨fA, hfA⟩ : ∃ x, x = a.A := ⟨_, rfl⟩
                obtain ⟨fc, hfc⟩ : ∃ x, x = a.cap := ⟨_, rfl⟩
                obtain ⟨fn, hfn⟩ : ∃ x, x = a.fs.length := ⟨_, rfl⟩
                rw [← hfA, ← hfc, ← hfn] at x4 hon
                have Hb8 := Lib.hid hb8
                have Hx8 := Lib.hid hx8
                have Hlo8 := Lib.hid hlo8
                have hsz8 := hO8.size
                clear hok8 hoff hx8' hfA hfc hfn hb8 hx8 hlo8 hs8 hO8
                go_wp2_with fail
                refine hon.out.mono ?_
                rintro r w9 ⟨rfl, hs9, hO9⟩
                have hb9 : Below w.heap.size w w9 := Hb8.out.trans (hO9.below Hb8.out.size Hlo8.out)
                have hx9 : w9.heap[xb]? = some (.cells ac.toArray 71 (0, 0)) := (hO9.block xb (heap_lt Hx8.out) (by simp only [List.mem_cons, List.not_mem_nil, or_false]; have := Hxn.out; omega)).trans Hx8.out
                have hopen := Lib.hid (g_again KK n (40000 - 500 * k - 220) sb sg s a.fs w9 hs9 (HL.out.below hb9) H0b.out (by omega) (Hwk.out.1.more (by omega)) (by omega) (by have := Hwk.out.2.2.1; omega) Hwk.out.2.2.2)
                have Hb9 := Lib.hid hb9
                have Hx9 := Lib.hid hx9
                clear hb9 hx9 hs9 hO9 hon
                go_wp2_with fail
                refine hopen.out.mono ?_
                rintro r w10 ⟨q2, S2, hqb2, hqg2, rfl, hbox, hlo, hO⟩
                have HA8 : Hid (GAll w w10 q2 n (40000 - 500 * k - 250) sb sg xb ac S2) := Lib.hid ⟨hqb2, hqg2, hbox.less (by omega), fun x hx => by
                  rcases hlo x hx with rfl | rfl | h
                  · exact Hxn.out.2.2.2.2.1
                  · exact Hxn.out.2.2.2.2.2
                  · exact Nat.le_trans Hb9.out.size h, fun hx => by
                  have := heap_lt Hx9.out
                  have := Hxn.out
                  rcases hlo xb hx with h | h | h <;> omega, (hO.block xb (heap_lt Hx9.out) (by simp only [List.mem_cons, List.not_mem_nil, or_false]; have := Hxn.out; omega)).trans Hx9.out, Hb9.out.trans (hO.below Hb9.out.size Hlo8.out)⟩
                clear hopen hqb2 hqg2 hbox hlo hO
                go_wp2_with fail
                go_meet
                case rel => exact ⟨q2, S2, rfl, HA8.out⟩
              · have e8 : (kd == 8) = false := by simp [k8]
                by_cases k10 : kd = 10
                · have e10 : (kd == 10) = true := by simp [k10]
                  have hout := g_outside KK q n (40000 - 500 * k - 250) [] S a.at_ tx w7 (HA7.out.2.2.1.less (by omega)) (by omega)
                  rw [HA7.out.1] at hout
                  have Hout := Lib.hid hout
                  obtain ⟨xat, hxat⟩ : ∃ y, y = a.at_ := ⟨_, rfl⟩
                  rw [← hxat] at Hout x3
                  clear k1 k2 k8 k10 h0S hxat hout
                  go_wp2_with fail
                  refine Hout.out.mono ?_
                  rintro r w8 ⟨⟨er, rfl⟩, hbx, hO⟩
                  have HA8 := Lib.hid (HA7.out.only hbx hO)
                  clear hbx hO Hout
                  go_wp2_with fail
                  go_meet
                  case rel => exact ⟨q, S, rfl, HA8.out⟩
                · have e10 : (kd == 10) = false := by simp [k10]
                  clear k1 k2 k8 k10 h0S
                  go_wp2_with fail
                  go_meet
                  case rel => exact ⟨q, S, rfl, HA7.out.less (by omega)⟩
        obtain ⟨q', S', rfl, hA8⟩ := hcut
        have HA8 := Lib.hid hA8
        have hq8 := hA8.2.2.2.2.2.1
        clear x0 x1 xr xk x3 x4 HA7 hA8
        rw [Hac.out] at hq8
        obtain ⟨-, x1, -, -, -, -⟩ := act_blk hq8 Hok.out.rfit
        rw [← Htx.out] at x1
        have hb1s := (Below.refl wc.heap.size wc).alloc (Nat.le_refl _) (.cells #[.string ⟨tx.toArray⟩] 9)
        have cb : (wc.alloc (.cells #[.string ⟨tx.toArray⟩] 9)).cell? ⟨wc.heap.size, 0, none⟩ = some (.string ⟨tx.toArray⟩) := by rw [Lib.cell_of_heap (heap_alloc_new wc _)]; rfl
        have hof := Lib.hid (of_hash KK (some ⟨wc.heap.size, 0, none⟩) 1 tx _ ((HL.out.below HA8.out.2.2.2.2.2.2).below hb1s) ⟨_, rfl, cb⟩ (by omega))
        have Hb1s := Lib.hid hb1s
        have hh := hashB_length KK tx
        obtain ⟨hd, hhd⟩ : ∃ x, x = hashB KK tx := ⟨_, rfl⟩
        rw [← hhd] at hh hof
        have Hh := Lib.hid hh
        obtain ⟨oc, hoc⟩ : ∃ oc, oc = byV hd := ⟨_, rfl⟩
        have hdo : digV hd = oc.toArray := by rw [hoc]; rfl
        rw [hdo] at hof
        have Hdo := Lib.hid hdo
        have dszL : oc.length = 32 := by rw [hoc, byV_length, hh]
        have dsz : oc.toArray.size = 32 := by simp [dszL]
        have dixA : (Tryd.prog.info? 23).map (·.size) = some oc.toArray.size := by rw [dig_info, dsz]
        have dix : (Tryd.prog.info? 23).map (·.size) = some oc.length := by rw [dig_info, dszL]
        have doneA : oc.toArray.all (·.oneCell') = true := by rw [← hdo]; exact digV_one hd
        have dund := Tryd.underlying23
        have heq : ∀ W : World, (Op.equalIn 10000 23 (.agg oc.toArray) (.agg oc.toArray)).run Tryd.prog W = .ok true W := fun W => by
          have := eqIn_dig W hd hd hh hh
          rw [hdo] at this; rw [show (hd == hd) = true by simp] at this; exact this
        clear hq8 hb1s cb hh hhd hdo hoc
        go_wp2_with fail
        refine hof.out.mono ?_
        rintro r wy ⟨rfl, hby⟩
        have HAy := Lib.hid (HA8.out.below (Hb1s.out.trans (hby.mono Hb1s.out.size)))
        clear hby hof x1
        go_upto_region 27 with (first | (refine wpList_store_row rfl 23 _ _ rfl wy.heap.size oc.toArray rfl rfl 23 _ (heap_alloc_new wy _) dixA (by rw [dsz]; rfl) doneA ?_))
        show Code.wp _ _ _ _ ((wy.alloc (.cells (digV (List.replicate 32 0)) 23)).setRow wy.heap.size oc.toArray)
        obtain ⟨hq_wz, hB_wz⟩ := put_newH wy (digV (List.replicate 32 0)) oc.toArray 23
        obtain ⟨db, hp_wz⟩ : ∃ q, q = wy.heap.size := ⟨_, rfl⟩
        obtain ⟨wz, hw_wz⟩ : ∃ y, y = ((wy.alloc (.cells (digV (List.replicate 32 0)) 23)).setRow wy.heap.size oc.toArray) := ⟨_, rfl⟩
        rw [← hw_wz] at hq_wz hB_wz ⊢
        rw [← hp_wz] at hq_wz ⊢
        have HQ_wz := Lib.hid hq_wz
        have HB_wz := Lib.hid hB_wz
        have Hp_wz := Lib.hid hp_wz
        clear hq_wz hB_wz hp_wz hw_wz
        have HAz := Lib.hid (HAy.out.below HB_wz.out)
        have hbl := Lib.hid (g_blob KK q' n (40000 - 500 * k - 252) [] S' hd wz (HAz.out.2.2.1.less (by omega)) (HL.out.below HAz.out.2.2.2.2.2.2) Hh.out)
        have HdbS : Hid (db ∉ S') := Lib.hid (fun hx => by
          have h1 := HAy.out.2.2.1.lt db hx
          have h2 := Hp_wz.out
          omega)
        rw [Hdo.out] at hbl
        go_wp2_with (refine wpList_load_row rfl 23 _ rfl db rfl 23 oc.toArray (0, 0) _ HQ_wz.out dund rfl dixA ?_)
        refine hbl.out.mono ?_
        rintro r wv ⟨t, ok, rfl, hyes, hno, htl5, hbx, hO⟩
        have HAv := Lib.hid (HAz.out.only hbx hO)
        have HQv := Lib.hid ((hO.block db (heap_lt HQ_wz.out) HdbS.out).trans HQ_wz.out)
        have HL0 := Lib.hid (HL.out.below HAv.out.2.2.2.2.2.2)
        have Hyes := Lib.hid hyes
        have Hno := Lib.hid hno
        have rdb : wv.rangeAt db 0 oc := fun j v hv => by rw [Lib.cell_of_heap HQv.out, Nat.zero_add]; simpa using hv
        have ldb : db < wv.heap.size := heap_lt HQv.out
        clear hyes hno hbx hO hbl HA8 HAy HAz HQ_wz HB_wz Hp_wz HdbS
        go_upto_region 28 with fail
        go_cut [113] from 37 to 139 (fun v wx => v = .bool false ∧ Below wv.heap.size wv wx)
        case first =>
          cases ok with
          | true =>
            have Hdg : Hid (digV (hashB KK t) = oc.toArray) := Lib.hid (by rw [Hyes.out rfl]; exact Hdo.out)
            have hbl48 : t.length ≤ 281474976710656 := by omega
            clear Hyes Hno
            refine wp_region_held_drew (S := fun w' => Below wv.heap.size wv w') (by kernel_rfl) ((Below.refl _ _).drew) (fun hH0 => ?_)
            obtain ⟨W0, hW0⟩ : ∃ W, W = wv.drew := ⟨_, rfl⟩
            rw [← hW0] at hH0 ⊢
            clear hW0
            refine wpAnyH_take (i := 0) (v := ?_) rfl (by kernel_rfl) (by kernel_rfl) (by kernel_rfl) (fun _ _ _ h => h) (Or.inl ⟨by kernel_rfl, ?_⟩) hH0 ?_
            rotate_left 1
            · intro w hSw
              go_simp
              try with_reducible rfl
            try simp only [Act.put, List.getElem_toArray, List.getElem_cons_zero, List.getElem_cons_succ, List.setIfInBounds_toArray, List.set_cons_zero, List.set_cons_succ]
            refine wpAnyH_take (i := 1) (v := ?_) rfl (by kernel_rfl) (by kernel_rfl) (by kernel_rfl) (fun _ _ _ h => h) (Or.inl ⟨by kernel_rfl, ?_⟩) hH0 ?_
            rotate_left 1
            · intro w hSw
              go_simp
              try with_reducible rfl
            try simp only [Act.put, List.getElem_toArray, List.getElem_cons_zero, List.getElem_cons_succ, List.setIfInBounds_toArray, List.set_cons_zero, List.set_cons_succ]
            refine wpAnyH_take (i := 2) (v := ?_) rfl (by kernel_rfl) (by kernel_rfl) (by kernel_rfl) (fun _ _ _ h => h) (Or.inl ⟨by kernel_rfl, ?_⟩) hH0 ?_
            rotate_left 1
            · intro w hSw
              go_simp
              try with_reducible rfl
            try simp only [Act.put, List.getElem_toArray, List.getElem_cons_zero, List.getElem_cons_succ, List.setIfInBounds_toArray, List.set_cons_zero, List.set_cons_succ]
            refine wpAnyH_take (i := 5) (v := _) rfl (by kernel_rfl) (by kernel_rfl) (by kernel_rfl) (fun _ _ _ h => h) (yieldsIf_load_mid (by kernel_rfl) _ _ rfl _ _ rfl oc _ (fun W hW => range_below rdb hW ldb) dund rfl dix) hH0 ?_
            try simp only [Act.put, List.getElem_toArray, List.getElem_cons_zero, List.getElem_cons_succ, List.setIfInBounds_toArray, List.set_cons_zero, List.set_cons_succ]
            refine wpAnyH_ready (rs := [3]) (by kernel_rfl) (by simp) ?_
            refine AllReadyH.cons rfl (fun K_ hK => ?_) ?_
            · go_simp
              have hb1 := (Below.refl W0.heap.size W0).alloc (Nat.le_refl _) (.cells #[.string ⟨(t).toArray⟩] 9)
              have cb1 : (W0.alloc (.cells #[.string ⟨(t).toArray⟩] 9)).cell? ⟨W0.heap.size, 0, none⟩ = some (.string ⟨(t).toArray⟩) := by rw [Lib.cell_of_heap (heap_alloc_new W0 _)]; rfl
              obtain ⟨W1, hW1⟩ : ∃ W, W = W0.alloc (.cells #[.string ⟨(t).toArray⟩] 9) := ⟨_, rfl⟩
              have hl1 : W0.heap.size < W1.heap.size := by rw [hW1]; simp
              rw [← hW1] at hb1 cb1 ⊢
              clear hW1
              refine hK.out _ _ ((hH0).trans (hb1.mono (hH0).size)) (fun hH1 => ?_)
              clear hK K_
              try simp only [Act.put, List.getElem_toArray, List.getElem_cons_zero, List.getElem_cons_succ, List.setIfInBounds_toArray, List.set_cons_zero, List.set_cons_succ]
              refine wpAnyH_ready (rs := [4]) (by kernel_rfl) (by simp) ?_
              refine AllReadyH.cons rfl (fun K_ hK => ?_) ?_
              · go_simp
                refine (of_hash KK _ 1 (t) _ (HL0.out.below hH1) ⟨_, rfl, cb1⟩ hbl48).mono ?_
                rintro e W2 ⟨rfl, hb2⟩
                rw [Hdg.out]
                have c3_2 := (hb2.cell (p := ⟨W0.heap.size, 0, none⟩) hl1).trans cb1
                have l3_2 : (⟨W0.heap.size, 0, none⟩ : Addr).block < W2.heap.size := Nat.lt_of_lt_of_le hl1 hb2.size
                refine hK.out _ _ ((hH1).trans (hb2.mono (hH1).size)) (fun hH2 => ?_)
                clear hK K_
                try simp only [Act.put, List.getElem_toArray, List.getElem_cons_zero, List.getElem_cons_succ, List.setIfInBounds_toArray, List.set_cons_zero, List.set_cons_succ]
                refine wpAnyH_take (i := 6) (v := ?_) rfl (by kernel_rfl) (by kernel_rfl) (by kernel_rfl) (fun _ _ _ h => h) (Or.inl ⟨by kernel_rfl, ?_⟩) hH2 ?_
                rotate_left 1
                · intro w hSw
                  go_simp
                  try with_reducible rfl
                try simp only [Act.put, List.getElem_toArray, List.getElem_cons_zero, List.getElem_cons_succ, List.setIfInBounds_toArray, List.set_cons_zero, List.set_cons_succ]
                refine wpAnyH_take (i := 7) (v := ?_) rfl (by kernel_rfl) (by kernel_rfl) (by kernel_rfl) (fun _ _ _ h => h) (Or.inl ⟨by kernel_rfl, ?_⟩) hH2 ?_
                rotate_left 1
                · intro w hSw
                  go_simp
                  try with_reducible rfl
                try simp only [Act.put, List.getElem_toArray, List.getElem_cons_zero, List.getElem_cons_succ, List.setIfInBounds_toArray, List.set_cons_zero, List.set_cons_succ]
                refine wpAnyH_take (i := 8) (v := ?_) rfl (by kernel_rfl) (by kernel_rfl) (by kernel_rfl) (fun _ _ _ h => h) (Or.inl ⟨by kernel_rfl, ?_⟩) hH2 ?_
                rotate_left 1
                · intro w hSw
                  go_simp
                  try with_reducible rfl
                try simp only [Act.put, List.getElem_toArray, List.getElem_cons_zero, List.getElem_cons_succ, List.setIfInBounds_toArray, List.set_cons_zero, List.set_cons_succ]
                refine wpAnyH_take (i := 9) (v := ?_) rfl (by kernel_rfl) (by kernel_rfl) (by kernel_rfl) (fun _ _ _ h => h) (Or.inl ⟨by kernel_rfl, ?_⟩) hH2 ?_
                rotate_left 1
                · intro w hSw
                  go_simp
                  try with_reducible rfl
                try simp only [Act.put, List.getElem_toArray, List.getElem_cons_zero, List.getElem_cons_succ, List.setIfInBounds_toArray, List.set_cons_zero, List.set_cons_succ]
                refine wpAnyH_take (i := 10) (v := ?_) rfl (by kernel_rfl) (by kernel_rfl) (by kernel_rfl) (fun _ _ _ h => h) (Or.inl ⟨by kernel_rfl, ?_⟩) hH2 ?_
                rotate_left 1
                · intro w hSw
                  go_simp
                  try with_reducible rfl
                try simp only [Act.put, List.getElem_toArray, List.getElem_cons_zero, List.getElem_cons_succ, List.setIfInBounds_toArray, List.set_cons_zero, List.set_cons_succ]
                refine wpAnyH_take (i := 11) (v := ?_) rfl (by kernel_rfl) (by kernel_rfl) (by kernel_rfl) (fun _ _ _ h => h) (Or.inl ⟨by kernel_rfl, ?_⟩) hH2 ?_
                rotate_left 1
                · intro w hSw
                  go_simp
                  try with_reducible rfl
                try simp only [Act.put, List.getElem_toArray, List.getElem_cons_zero, List.getElem_cons_succ, List.setIfInBounds_toArray, List.set_cons_zero, List.set_cons_succ]
                refine wpAnyH_take (i := 12) (v := undef) rfl (by kernel_rfl) (by kernel_rfl) (by kernel_rfl) (fun _ _ _ h => h) (Or.inr ⟨by kernel_rfl, rfl⟩) hH2 ?_
                try simp only [Act.put, List.getElem_toArray, List.getElem_cons_zero, List.getElem_cons_succ, List.setIfInBounds_toArray, List.set_cons_zero, List.set_cons_succ]
                refine wpAnyH_take (i := 13) (v := undef) rfl (by kernel_rfl) (by kernel_rfl) (by kernel_rfl) (fun _ _ _ h => h) (Or.inr ⟨by kernel_rfl, rfl⟩) hH2 ?_
                try simp only [Act.put, List.getElem_toArray, List.getElem_cons_zero, List.getElem_cons_succ, List.setIfInBounds_toArray, List.set_cons_zero, List.set_cons_succ]
                refine wpAnyH_take (i := 14) (v := ?_) rfl (by kernel_rfl) (by kernel_rfl) (by kernel_rfl) (fun _ _ _ h => h) (Or.inl ⟨by kernel_rfl, ?_⟩) hH2 ?_
                rotate_left 1
                · intro w hSw
                  go_simp
                  try with_reducible rfl
                try simp only [Act.put, List.getElem_toArray, List.getElem_cons_zero, List.getElem_cons_succ, List.setIfInBounds_toArray, List.set_cons_zero, List.set_cons_succ]
                refine wpAnyH_take (i := 15) (v := ?_) rfl (by kernel_rfl) (by kernel_rfl) (by kernel_rfl) (fun _ _ _ h => h) (Or.inl ⟨by kernel_rfl, ?_⟩) hH2 ?_
                rotate_left 1
                · intro w hSw
                  go_simp
                  try with_reducible rfl
                try simp only [Act.put, List.getElem_toArray, List.getElem_cons_zero, List.getElem_cons_succ, List.setIfInBounds_toArray, List.set_cons_zero, List.set_cons_succ]
                refine wpAnyH_done (by kernel_rfl) ?_ _
                have HH := Lib.hid hH2
                clear hH2
                go_wp2_with fail
                go_meet
                case rel => exact ⟨by simp, HH.out⟩
              exact AllReadyH.nil
            exact AllReadyH.nil
          | false =>
            obtain rfl := Hno.out rfl
            clear Hyes Hno
            refine wp_region_held_drew (S := fun w' => Below wv.heap.size wv w') (by kernel_rfl) ((Below.refl _ _).drew) (fun hH0 => ?_)
            obtain ⟨W0, hW0⟩ : ∃ W, W = wv.drew := ⟨_, rfl⟩
            rw [← hW0] at hH0 ⊢
            clear hW0
            refine wpAnyH_take (i := 0) (v := ?_) rfl (by kernel_rfl) (by kernel_rfl) (by kernel_rfl) (fun _ _ _ h => h) (Or.inl ⟨by kernel_rfl, ?_⟩) hH0 ?_
            rotate_left 1
            · intro w hSw
              go_simp
              try with_reducible rfl
            try simp only [Act.put, List.getElem_toArray, List.getElem_cons_zero, List.getElem_cons_succ, List.setIfInBounds_toArray, List.set_cons_zero, List.set_cons_succ]
            refine wpAnyH_take (i := 1) (v := ?_) rfl (by kernel_rfl) (by kernel_rfl) (by kernel_rfl) (fun _ _ _ h => h) (Or.inl ⟨by kernel_rfl, ?_⟩) hH0 ?_
            rotate_left 1
            · intro w hSw
              go_simp
              try with_reducible rfl
            try simp only [Act.put, List.getElem_toArray, List.getElem_cons_zero, List.getElem_cons_succ, List.setIfInBounds_toArray, List.set_cons_zero, List.set_cons_succ]
            refine wpAnyH_take (i := 2) (v := undef) rfl (by kernel_rfl) (by kernel_rfl) (by kernel_rfl) (fun _ _ _ h => h) (Or.inr ⟨by kernel_rfl, rfl⟩) hH0 ?_
            try simp only [Act.put, List.getElem_toArray, List.getElem_cons_zero, List.getElem_cons_succ, List.setIfInBounds_toArray, List.set_cons_zero, List.set_cons_succ]
            refine wpAnyH_take (i := 3) (v := undef) rfl (by kernel_rfl) (by kernel_rfl) (by kernel_rfl) (fun _ _ _ h => h) (Or.inr ⟨by kernel_rfl, rfl⟩) hH0 ?_
            try simp only [Act.put, List.getElem_toArray, List.getElem_cons_zero, List.getElem_cons_succ, List.setIfInBounds_toArray, List.set_cons_zero, List.set_cons_succ]
            refine wpAnyH_take (i := 4) (v := undef) rfl (by kernel_rfl) (by kernel_rfl) (by kernel_rfl) (fun _ _ _ h => h) (Or.inr ⟨by kernel_rfl, rfl⟩) hH0 ?_
            try simp only [Act.put, List.getElem_toArray, List.getElem_cons_zero, List.getElem_cons_succ, List.setIfInBounds_toArray, List.set_cons_zero, List.set_cons_succ]
            refine wpAnyH_take (i := 5) (v := undef) rfl (by kernel_rfl) (by kernel_rfl) (by kernel_rfl) (fun _ _ _ h => h) (Or.inr ⟨by kernel_rfl, rfl⟩) hH0 ?_
            try simp only [Act.put, List.getElem_toArray, List.getElem_cons_zero, List.getElem_cons_succ, List.setIfInBounds_toArray, List.set_cons_zero, List.set_cons_succ]
            refine wpAnyH_take (i := 6) (v := undef) rfl (by kernel_rfl) (by kernel_rfl) (by kernel_rfl) (fun _ _ _ h => h) (Or.inr ⟨by kernel_rfl, rfl⟩) hH0 ?_
            try simp only [Act.put, List.getElem_toArray, List.getElem_cons_zero, List.getElem_cons_succ, List.setIfInBounds_toArray, List.set_cons_zero, List.set_cons_succ]
            refine wpAnyH_take (i := 7) (v := ?_) rfl (by kernel_rfl) (by kernel_rfl) (by kernel_rfl) (fun _ _ _ h => h) (Or.inl ⟨by kernel_rfl, ?_⟩) hH0 ?_
            rotate_left 1
            · intro w hSw
              go_simp
              try with_reducible rfl
            try simp only [Act.put, List.getElem_toArray, List.getElem_cons_zero, List.getElem_cons_succ, List.setIfInBounds_toArray, List.set_cons_zero, List.set_cons_succ]
            refine wpAnyH_take (i := 8) (v := ?_) rfl (by kernel_rfl) (by kernel_rfl) (by kernel_rfl) (fun _ _ _ h => h) (Or.inl ⟨by kernel_rfl, ?_⟩) hH0 ?_
            rotate_left 1
            · intro w hSw
              go_simp
              try with_reducible rfl
            try simp only [Act.put, List.getElem_toArray, List.getElem_cons_zero, List.getElem_cons_succ, List.setIfInBounds_toArray, List.set_cons_zero, List.set_cons_succ]
            refine wpAnyH_take (i := 9) (v := ?_) rfl (by kernel_rfl) (by kernel_rfl) (by kernel_rfl) (fun _ _ _ h => h) (Or.inl ⟨by kernel_rfl, ?_⟩) hH0 ?_
            rotate_left 1
            · intro w hSw
              go_simp
              try with_reducible rfl
            try simp only [Act.put, List.getElem_toArray, List.getElem_cons_zero, List.getElem_cons_succ, List.setIfInBounds_toArray, List.set_cons_zero, List.set_cons_succ]
            refine wpAnyH_take (i := 10) (v := ?_) rfl (by kernel_rfl) (by kernel_rfl) (by kernel_rfl) (fun _ _ _ h => h) (Or.inl ⟨by kernel_rfl, ?_⟩) hH0 ?_
            rotate_left 1
            · intro w hSw
              go_simp
              try with_reducible rfl
            try simp only [Act.put, List.getElem_toArray, List.getElem_cons_zero, List.getElem_cons_succ, List.setIfInBounds_toArray, List.set_cons_zero, List.set_cons_succ]
            refine wpAnyH_take (i := 11) (v := ?_) rfl (by kernel_rfl) (by kernel_rfl) (by kernel_rfl) (fun _ _ _ h => h) (Or.inl ⟨by kernel_rfl, ?_⟩) hH0 ?_
            rotate_left 1
            · intro w hSw
              go_simp
              try with_reducible rfl
            try simp only [Act.put, List.getElem_toArray, List.getElem_cons_zero, List.getElem_cons_succ, List.setIfInBounds_toArray, List.set_cons_zero, List.set_cons_succ]
            refine wpAnyH_take (i := 12) (v := ?_) rfl (by kernel_rfl) (by kernel_rfl) (by kernel_rfl) (fun _ _ _ h => h) (Or.inl ⟨by kernel_rfl, ?_⟩) hH0 ?_
            rotate_left 1
            · intro w hSw
              go_simp
              try with_reducible rfl
            try simp only [Act.put, List.getElem_toArray, List.getElem_cons_zero, List.getElem_cons_succ, List.setIfInBounds_toArray, List.set_cons_zero, List.set_cons_succ]
            refine wpAnyH_take (i := 13) (v := ?_) rfl (by kernel_rfl) (by kernel_rfl) (by kernel_rfl) (fun _ _ _ h => h) (Or.inl ⟨by kernel_rfl, ?_⟩) hH0 ?_
            rotate_left 1
            · intro w hSw
              go_simp
              try with_reducible rfl
            try simp only [Act.put, List.getElem_toArray, List.getElem_cons_zero, List.getElem_cons_succ, List.setIfInBounds_toArray, List.set_cons_zero, List.set_cons_succ]
            refine wpAnyH_take (i := 14) (v := ?_) rfl (by kernel_rfl) (by kernel_rfl) (by kernel_rfl) (fun _ _ _ h => h) (Or.inl ⟨by kernel_rfl, ?_⟩) hH0 ?_
            rotate_left 1
            · intro w hSw
              go_simp
              try with_reducible rfl
            try simp only [Act.put, List.getElem_toArray, List.getElem_cons_zero, List.getElem_cons_succ, List.setIfInBounds_toArray, List.set_cons_zero, List.set_cons_succ]
            refine wpAnyH_take (i := 15) (v := ?_) rfl (by kernel_rfl) (by kernel_rfl) (by kernel_rfl) (fun _ _ _ h => h) (Or.inl ⟨by kernel_rfl, ?_⟩) hH0 ?_
            rotate_left 1
            · intro w hSw
              go_simp
              try with_reducible rfl
            try simp only [Act.put, List.getElem_toArray, List.getElem_cons_zero, List.getElem_cons_succ, List.setIfInBounds_toArray, List.set_cons_zero, List.set_cons_succ]
            refine wpAnyH_done (by kernel_rfl) ?_ _
            have HH := Lib.hid hH0
            clear hH0
            go_wp2_with fail
            go_meet
            case rel => exact ⟨by simp, HH.out⟩
        obtain ⟨rfl, hb28⟩ := hcut
        have HA9 := Lib.hid (HAv.out.below hb28)
        have hq9 := HA9.out.2.2.2.2.2.1
        rw [Hac.out] at hq9
        obtain ⟨-, -, -, xk, -, -⟩ := act_blk hq9 Hok.out.rfit
        rw [← Hrd.out] at xk
        have hrc := Lib.hid (g_rec KK q' n (40000 - 500 * k - 254) [] S' rd.key wc (HA9.out.2.2.1.less (by omega)) (HL.out.below HA9.out.2.2.2.2.2.2) hrf.out.k)
        clear rdb ldb hb28 hq9 dix dsz dszL dixA doneA heq
        obtain ⟨kc, hkc⟩ : ∃ kc, kc = byV rd.key := ⟨_, rfl⟩
        have hdk : digV rd.key = kc.toArray := by rw [hkc]; rfl
        have klen : kc.length = 32 := by rw [hkc, byV_length, hrf.out.k]
        have kdix : (Tryd.prog.info? 23).map (·.size) = some kc.length := by rw [dig_info, klen]
        have heq : ∀ W : World, (Op.equalIn 10000 23 (.agg kc.toArray) (.agg kc.toArray)).run Tryd.prog W = .ok true W := fun W => by
          have := eqIn_dig W rd.key rd.key hrf.out.k hrf.out.k
          rw [hdk] at this; rw [show (rd.key == rd.key) = true by simp] at this; exact this
        rw [← hkc] at xk
        rw [hdk] at hrc
        have Hkc := Lib.hid hkc
        clear hdk klen hkc
        go_wp2_with (refine wpList_load_mid rfl 23 _ rfl xb 2 rfl kc _ xk dund rfl kdix ?_)
        refine hrc.out.mono ?_
        rintro r wq ⟨x, was, rfl, hxf, hxy, hxn, hbx, hO⟩
        have HA10 := Lib.hid (HA9.out.only hbx hO)
        have Hxf := Lib.hid hxf
        have Hxy := Lib.hid hxy
        have Hxn := Lib.hid hxn
        have rsz : x.row.size = 65 := RecD.row_size hxf
        have rone := RecD.row_one x
        have rinf : (Tryd.prog.info? 26).map (·.size) = some x.row.size := by rw [rec_info, rsz]
        have hzr : Tryd.zeroCells26.size = 65 := by rw [zero_rec, RecD.row_size zeroRec_fit]
        obtain ⟨RV, hRV⟩ : ∃ y, y = x.row := ⟨_, rfl⟩
        rw [← hRV] at rsz rone rinf ⊢
        have HRV := Lib.hid hRV
        clear hxf hxy hxn hbx hO hrc hRV xk
        go_upto_region 31 with (first | (refine wpList_store_row rfl 26 _ _ rfl wq.heap.size RV rfl rfl 26 _ (heap_alloc_new wq _) rinf (by rw [rsz, hzr]) rone ?_))
        show Code.wp _ _ _ _ ((wq.alloc (.cells Tryd.zeroCells26 26)).setRow wq.heap.size RV)
        obtain ⟨hq_ws, hB_ws⟩ := put_newH wq Tryd.zeroCells26 RV 26
        obtain ⟨rb, hp_ws⟩ : ∃ q, q = wq.heap.size := ⟨_, rfl⟩
        obtain ⟨ws, hw_ws⟩ : ∃ y, y = ((wq.alloc (.cells Tryd.zeroCells26 26)).setRow wq.heap.size RV) := ⟨_, rfl⟩
        rw [← hw_ws] at hq_ws hB_ws ⊢
        rw [← hp_ws] at hq_ws ⊢
        have HQ_ws := Lib.hid hq_ws
        have HB_ws := Lib.hid hB_ws
        have Hp_ws := Lib.hid hp_ws
        clear hq_ws hB_ws hp_ws hw_ws
        have HA11 := Lib.hid (HA10.out.below HB_ws.out)
        have hqs := HQ_ws.out
        rw [HRV.out] at hqs
        obtain ⟨rk0, rk1⟩ := rec_blk hqs
        have lrb : rb < ws.heap.size := heap_lt hqs
        have hq9 := HA11.out.2.2.2.2.2.1
        have lxb : xb < ws.heap.size := heap_lt hq9
        rw [Hac.out] at hq9
        obtain ⟨-, -, -, xk, -, -⟩ := act_blk hq9 Hok.out.rfit
        rw [← Hrd.out, ← Hkc.out] at xk
        have eqz : ∀ W : World, (Op.equalIn 10000 26 (.agg zeroRec.row) (.agg zeroRec.row)).run Tryd.prog W = .ok true W := fun W => eqIn_zeroRec W
        have bz := built_rec0
        have zlen : zeroRec.cells.length = 65 := RecD.len zeroRec_fit
        have zrow : zeroRec.row = zeroRec.cells.toArray := rfl
        rw [zrow] at eqz bz
        have rund := Tryd.underlying26
        have zdix : (Tryd.prog.info? 26).map (·.size) = some zeroRec.cells.length := by rw [rec_info, zlen]
        clear hq9 hqs rsz rone rinf hzr zlen zrow HQ_ws HB_ws Hp_ws HA9 HA10 HRV
        cases was with
        | true =>
          have hxk := Hxy.out rfl
          rw [hxk, ← Hkc.out] at rk0
          clear hxk rk1 eqz bz rund zdix Hxy Hxn
          go_wp2_with (first
            | (refine wpList_load_midGR (by rfl) 23 _ rfl rb 0 rfl kc _ rk0 dund rfl kdix ?_)
            | (refine wpList_load_midGR (by rfl) 23 _ rfl xb 2 rfl kc _ xk dund rfl kdix ?_))
          go_roundw
          case rel => exact ⟨k + 1, q', S', by omega, by omega, rfl, by go_num, HA11.out.1, HA11.out.2.1, HA11.out.2.2.1.less (by omega), HA11.out.2.2.2.1, HA11.out.2.2.2.2.2.2⟩
          case measure => simp [intOf]; omega
        | false =>
          obtain rfl := Hxn.out rfl
          obtain ⟨zc, hzc⟩ : ∃ z, z = zeroRec.cells := ⟨_, rfl⟩
          rw [← hzc] at eqz bz zdix rk1
          clear hzc rk0 xk heq Hxy Hxn
          go_wp2_with (first
            | (refine wpList_load_midGR (by rfl) 26 _ rfl rb 0 rfl zc _ rk1 rund rfl zdix ?_)
            | (refine wpList_build0G (by rfl) 26 rfl zc.toArray bz ?_))
          go_roundw
          case rel => exact ⟨k + 1, q', S', by omega, by omega, rfl, by go_num, HA11.out.1, HA11.out.2.1, HA11.out.2.2.1.less (by omega), HA11.out.2.2.2.1, HA11.out.2.2.2.2.2.2⟩
          case measure => simp [intOf]; omega
      · have key : ((k : Int) < (nd : Int) ∧ ¬ (k : Int) < 70) ∨ ¬ (k : Int) < (nd : Int) := by omega
        have hpb := Lib.hid (nil_putblob [] wr)
        have hbd := built_dig0
        have dund := Tryd.underlying23
        have hF := fold_dig (List.replicate 32 0) (by simp)
        have hnb := Lib.hid (fun W => nil_blob (List.replicate 32 0) W (by simp))
        have hby : (byV (List.replicate 32 0)).toArray = digV (List.replicate 32 0) := rfl
        rw [hby] at hnb
        obtain ⟨DZ, hDZ⟩ : ∃ z, z = digV (List.replicate 32 0) := ⟨_, rfl⟩
        have dzs : DZ.size = 32 := by rw [hDZ]; simp [digV, byV_length]
        have dzi : (Tryd.prog.info? 23).map (·.size) = some DZ.size := by rw [dig_info, dzs]
        have dz1 : DZ.all (·.oneCell') = true := by rw [hDZ]; exact digV_one _
        rw [← hDZ] at hpb hbd hF hnb
        have hnp := Lib.hid (fun W v => nil_pin W v)
        have hnf := Lib.hid (fun W => nil_free W)
        have hnr := Lib.hid (fun W => nil_putrec zeroRec.row W)
        have hns := Lib.hid (fun W => nil_sync W)
        have hnl := Lib.hid (fun W => nil_len W)
        have hnk := Lib.hid (fun W => nil_keys W)
        have hz := built_rec0
        obtain ⟨zr, hzr⟩ : ∃ y, y = zeroRec.row := ⟨_, rfl⟩
        rw [← hzr] at hz hnr
        clear hzr hby hkn hDZ HB4 HSlo Hbox Hlo
        rcases key with ⟨j1, j2⟩ | j1
        all_goals
          go_wp2_with fail
          refine hpb.out.mono ?_
          rintro e wa ⟨rfl, hBa⟩
          have HBa := Lib.hid (Hb.out.trans (hBa.mono Hb.out.size))
          clear hBa
          go_upto_region 35 with (first | (refine wpList_store_row rfl 23 _ _ rfl wa.heap.size DZ rfl rfl 23 _ (heap_alloc_new wa _) dzi (by rw [dzs]; rfl) dz1 ?_))
          show Code.wp _ _ _ _ ((wa.alloc (.cells (digV (List.replicate 32 0)) 23)).setRow wa.heap.size DZ)
          obtain ⟨hq_wb, hB_wb⟩ := put_newH wa (digV (List.replicate 32 0)) DZ 23
          obtain ⟨nb, hp_wb⟩ : ∃ q, q = wa.heap.size := ⟨_, rfl⟩
          obtain ⟨wb, hw_wb⟩ : ∃ y, y = ((wa.alloc (.cells (digV (List.replicate 32 0)) 23)).setRow wa.heap.size DZ) := ⟨_, rfl⟩
          rw [← hw_wb] at hq_wb hB_wb ⊢
          rw [← hp_wb] at hq_wb ⊢
          have HQ_wb := Lib.hid hq_wb
          have HB_wb := Lib.hid hB_wb
          have Hp_wb := Lib.hid hp_wb
          clear hq_wb hB_wb hp_wb hw_wb
          have HBb := Lib.hid (HBa.out.trans (HB_wb.out.mono HBa.out.size))
          go_wp2_with (refine wpList_build0' rfl 23 rfl DZ hbd ?_)
          refine (hnb.out _).mono ?_
          rintro e w5 ⟨rfl, hB5⟩
          have HB5 := Lib.hid (HBb.out.trans (hB5.mono HBb.out.size))
          have HB6 := Lib.hid (HB5.out.trans (((Below.refl w5.heap.size w5).alloc (Nat.le_refl _) (.cells DZ 23)).mono HB5.out.size))
          clear hB5
          go_wp2_with (refine wpList_build0' rfl 23 rfl DZ hbd ?_)
          refine (hnp.out _ _).mono ?_
          rintro e w6 ⟨rfl, rfl⟩
          go_wp2_with fail
          refine (hnf.out _).mono ?_
          rintro e w6 ⟨rfl, rfl⟩
          go_wp2_with (refine wpList_build0G (by rfl) 26 rfl zr hz ?_)
          refine (hnr.out _).mono ?_
          rintro e w7 ⟨rfl, hB7⟩
          have HB7 := Lib.hid (HB6.out.trans (hB7.mono HB6.out.size))
          clear hB7
          go_wp2_with fail
          refine (hns.out _).mono ?_
          rintro e w8 ⟨rfl, rfl⟩
          go_wp2_with fail
          refine (hnl.out _).mono ?_
          rintro e w8 ⟨rfl, rfl⟩
          go_wp2_with fail
          refine (hnk.out _).mono ?_
          rintro e w8 ⟨rfl, rfl⟩
          go_wp2_with fail
          go_ret
          exact ⟨rfl, HB7.out⟩
theorem hiveTruth_law (x : Int) (A : Option Addr) (cap : Nat) (ds : List ActH) (w : World) (hL : Laid KK w) (xlo : -9223372036854775808 ≤ x) (xhi : x ≤ 9223372036854775807) (hS : ActsH w w.heap.size A ds) (hl : ds.length ≤ maxLen) :
    Calls Tryd.prog 10 #[.int .i64 x, .slice A ds.length cap] w fun e w' => e = .returned (.bool true) ∧ Below w.heap.size w w' :=
  hiveTruth_core x A cap ds w hL (awake05_any w hL) xlo xhi hS hl
namespace HiveTruthLaw
open Go.ChangeShapes Go.WideShapes Go.ChangeAt
open Go.ChangeMaps (open_string shut_string)
set_option maxRecDepth 100000 in
theorem contract (H : Type) (enc : TypeId × Value → H) (W : World) (base : Nat) (args : Array Value) (ds gs : List (DataW H)) (before : List MemPlace)
    (hval : ∀ (j : Nat) t v, Tryd.f10.params[j]? = some t → args[j]? = some v → Value.okWide Tryd.prog W .any base t v)
    (hW : DataW.Whole enc Tryd.prog Tryd.f10.params.toList Rows.hiveTruthSpec.vars false W args.toList ds gs before) (hsz0 : (DataW.weightsEach Tryd.prog (Tryd.f10.params.toList ++ Rows.hiveTruthSpec.plain.varTypes Tryd.prog) (ds ++ gs)).all (· ≤ reachBytes) = true) (hLd : laidMetH Tryd.prog laid1 W) :
    Calls Tryd.prog 10 args W fun e W' => ∃ v, e = .returned v ∧ Rows.hiveTruthSpec.post enc Tryd.prog Tryd.f10 false true false false W args v W' := by
  have hW' := hW
  obtain ⟨p, q, hA0, hV, rfl, hfz, hnd⟩ := hW
  have hA : DataW.TrodAll enc Tryd.prog W 0 (fun _ => true) true Tryd.f10.params.toList args.toList ds p := hA0
  rw [Tryd.params10] at hA hval
  obtain ⟨v0, vs0, d0, ds0, p0, q0, hargs, rfl, rfl, h0, r0⟩ := trodAll_cons hA
  obtain ⟨v1, vs1, d1, ds1, p1, q1, rfl, rfl, rfl, h1, r1⟩ := trodAll_cons r0
  obtain ⟨rfl, rfl, rfl⟩ := trodAll_nil r1
  obtain rfl : args = #[v0, v1] := by cases args; simp_all
  obtain ⟨rfl, rfl⟩ := trodVars_none hV
  obtain ⟨x0, rfl, hd0, _, w0⟩ := open_int Tryd.underlying3 (hval 0 3 v0 rfl rfl) h0
  obtain ⟨A1, c1, x1, rfl, hS1, hl1⟩ := open_actsH (hval 1 67 v1 rfl rfl) h1
  refine (hiveTruth_law x0 A1 c1 x1 W (of_laid hLd) (wf_bounds w0).1 (wf_bounds w0).2 hS1 hl1).mono fun e W' ⟨he, hg⟩ => ?_
  subst he
  exact ⟨_, rfl, law_post (tb := 4) laidOut_ (of_decide_eq_true (by kernel_rfl)) Tryd.underlying4 (by kernel_rfl) rfl rfl hW' hg⟩

theorem door_met (os : Os) (args : Array Value) : laidMetH Tryd.prog laid1 ((World.doorLaid Tryd.prog 400 os).forCall (fun _ _ => 0) ⟨#[], args, []⟩).memory :=
  laidMetH_of_parts3 (fuel := 8) (laidMet_of_run' 8 (by kernel_rfl) (by kernel_rfl)) (by kernel_rfl) (by kernel_rfl)

set_option maxRecDepth 100000 in
theorem lifted (os : Os) (started : os.Started) (H : Type) (enc : TypeId × Value → H) :
    ReturnsInHanded {} Tryd.checked os 10 .any (fun w args => (Rows.hiveTruthSpec.pre enc Tryd.prog Tryd.f10 [] false w args ∧ laidMetH Tryd.prog laid1 w) ∧ sizedMet enc Tryd.prog Tryd.f10 (OpenSpec.ofChange Rows.hiveTruthSpec) false w args)
      (Rows.hiveTruthSpec.post enc Tryd.prog Tryd.f10 false true false false) := by
  refine returnsInHanded_of_change_and (C := Tryd.checked) (X := fun w _ => laidMetH Tryd.prog laid1 w) (fun _ _ _ hh h => h.of_heap hh) ownKnob_ started (by kernel_rfl) Tryd.func10
    (ChangeSpec.witness_shaped (enc := enc) (C := Tryd.checked) (os := os) (X := fun w _ => laidMetH Tryd.prog laid1 w) false (World.doorLaid Tryd.prog 400 os) #[.int .i64 0, .slice none 0 0] 8 rfl (World.shaped_of_RefB (by kernel_rfl) (by kernel_rfl)) (by kernel_rfl) (by kernel_rfl) (by kernel_rfl) (door_met os _)) ?_
  intro W base args ds gs before hval hW _ hsz hLd _
  exact contract H enc W base args ds gs before hval hW hsz hLd

theorem said : Rows.HiveTruthSaid :=
  OpenClaim.holds_of_wide 10 Tryd.f10 rfl rfl rfl rfl rfl rfl rfl ⟨rfl, rfl, rfl, rfl, rfl⟩ rfl rfl rfl rfl rfl (by kernel_rfl) Tryd.func10 (by kernel_rfl)
    (of_decide_eq_true (by kernel_rfl)) (by unfold Func.isWrapper; first | (rw [if_pos (by decide +kernel)]; kernel_rfl) | (rw [if_neg (by decide +kernel)]; exact ⟨rfl, rfl⟩))
    (fun os started H enc _ => lifted os started H enc)

theorem proved : Rows.HiveTruthCardSaid :=
  Claim7.holds_tied_plain_at .later [] [.data] true Rows.hiveTruthCard.stood.harness false
    said (fun _ h => by cases h) (by kernel_rfl) (fun _ h => by cases h) hiveTruth_row_tie rfl ⟨rfl, rfl⟩ (by kernel_rfl) rfl
    (fun f fn hf hfn => by
      obtain rfl : f = 10 := Option.some.inj ((show Tryd.prog.funcNamed "apiary/apiarylaw05.HiveTruth" = some 10 by kernel_rfl).symm.trans hf) |>.symm
      obtain rfl : fn = Tryd.f10 := (Option.some.inj (Tryd.func10.symm.trans hfn)).symm
      exact ⟨by kernel_rfl, fun j t ht => by
        rw [Tryd.params10] at ht
        have hm : t ∈ [3, 67] := by simpa using Array.mem_of_getElem? ht
        have hall : ([3, 67].all fun u => !Tryd.prog.wantsStandIn u) = true := by kernel_rfl
        exact (show Tryd.prog.wantsStandIn t = false by simpa using List.all_eq_true.1 hall t hm)⟩)
    (by kernel_rfl)
end HiveTruthLaw
end Go.Proofs.YteihfoacdocgkaaDoor
