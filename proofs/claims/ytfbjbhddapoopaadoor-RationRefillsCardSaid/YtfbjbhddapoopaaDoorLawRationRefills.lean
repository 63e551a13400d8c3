/-
  RationRefills: what is refused costs nothing; each tick all answers are left again; without any nothing is served. No condition: every input.
-/
import Derived.Test.YtfbjbhddapoopaaDoorHvN
import Derived.Deep.Fields
import Derived.ChangeSame
import Derived.Test.YtfbjbhddapoopaaDoorCards
import Derived.Test.YtfbjbhddapoopaaDoorTie
set_option linter.unusedVariables false
set_option linter.unusedSimpArgs false
namespace Go.Proofs.YtfbjbhddapoopaaDoor
open Go.RowKit
attribute [local go_sem] Lb.ba_get Lb.ba_cut Lb.ba_add Lb.ba_size Lb.take_rest

theorem left_step {n B : Int} {is : Bool} (h0 : 0 ≤ n) (h1 : n ≤ B) (hz : n = 0 → is = false) : 0 ≤ left' n is ∧ left' n is ≤ B := by
  unfold left'
  cases is with
  | false => exact ⟨h0, h1⟩
  | true =>
    have : n ≠ 0 := fun h => by cases hz h
    simp; omega
set_option maxHeartbeats 8000000 in
set_option maxRecDepth 100000 in
theorem rationRefills_core (A : Option Addr) (cap : Nat) (ls : List (List UInt8)) (x : Int) (A2 : Option Addr) (cap2 : Nat) (ds : List ActG) (w : World) (hL : Laid KK w) (hS : Strs w w.heap.size A ls) (hl : ls.length ≤ maxLen) (he : ∀ s ∈ ls, s.length ≤ maxLen) (xlo : -9223372036854775808 ≤ x) (xhi : x ≤ 9223372036854775807) (hA : ActsG w w.heap.size A2 ds) (hl2 : ds.length ≤ maxLen) :
    Calls Tryd.prog 5 #[.slice A ls.length cap, .int .i64 x, .slice A2 ds.length cap2] w fun e w' => e = .returned (.bool true) ∧ Below w.heap.size w w' := by
  have HL := Lib.hid hL
  have HS := Lib.hid hS
  have HA := Lib.hid hA
  have haw := Lib.hid (awake18_any KK w hL)
  have hsto := Lib.hid (fun W (hW : Below w.heap.size w W) => stored_any KK A cap ls W (hL.below hW) ((hS.below hW (Nat.le_refl _)).more hW.size) hl)
  obtain ⟨m, hm⟩ : ∃ m, m = ls.length := ⟨_, rfl⟩
  obtain ⟨n, hn⟩ : ∃ n, n = ds.length := ⟨_, rfl⟩
  have hm63 : (m : Int) ≤ 9223372036854775807 := by unfold maxLen at hl; omega
  have hn63 : (n : Int) ≤ 9223372036854775807 := by unfold maxLen at hl2; omega
  rw [← hm] at hsto ⊢
  rw [← hn]
  have Hm := Lib.hid hm
  have Hn := Lib.hid hn
  clear hL hS hA hl hl2 he hm hn
  go_enter Tryd.func5, Tryd.ntmps5
  go_wp2_with fail
  refine haw.out.mono ?_
  rintro e w1 ⟨rfl, hB1⟩
  have HB1 := Lib.hid hB1
  clear hB1 haw
  by_cases hm60 : (60 : Int) < (m : Int)
  · go_wp2_with fail
    go_ret
    exact ⟨rfl, HB1.out⟩
  go_wp2_with fail
  refine (hsto.out w1 HB1.out).mono ?_
  rintro e w2 ⟨q, S, rfl, h2, hbig, hB2⟩
  obtain ⟨bl, hbl⟩ : ∃ bl, bl = stAt KK ls (min ls.length 60) := ⟨_, rfl⟩
  rw [← hbl] at h2
  have H2 := Lib.hid h2
  have HB2 := Lib.hid (HB1.out.trans (hB2.mono HB1.out.size))
  have Hbig : Hid (∀ x ∈ S, w.heap.size ≤ x) := Lib.hid (fun x hx => Nat.le_trans HB1.out.size (hbig x hx))
  clear h2 hbig hB2 hbl hsto
  go_wp2_with fail
  refine (rnew_any x w2).mono ?_
  rintro e w3 ⟨rfl, hr3, hB3⟩
  obtain ⟨B, hB⟩ : ∃ B, B = clampB x := ⟨_, rfl⟩
  rw [← hB] at hr3
  have hBmin : (B != min (max x 0) 1000) = false := by rw [hB]; unfold clampB; simp
  have B0 : 0 ≤ B := by rw [hB]; exact clampB_lo x
  have B1 : B ≤ 1000 := by rw [hB]; exact clampB_hi x
  have H3 := Lib.hid (H2.out.below hB3)
  have HB3 := Lib.hid (HB2.out.trans (hB3.mono HB2.out.size))
  obtain ⟨r, hr⟩ : ∃ r, r = w2.heap.size := ⟨_, rfl⟩
  rw [← hr] at hr3 ⊢
  have HrS : Hid (r ∉ S) := Lib.hid (fun hx => by have := H2.out.lt r hx; omega)
  have Hrw : Hid (w.heap.size ≤ r) := Lib.hid (by rw [hr]; exact HB2.out.size)
  have Hr3 := Lib.hid hr3
  have H0S : Hid (0 ∉ S) := Lib.hid (fun hx => by have := Hbig.out 0 hx; have := HL.out.lt; omega)
  clear hB3 hr hr3 hB
  go_wp2_with fail
  refine (rnew_any 0 w3).mono ?_
  rintro e w4 ⟨rfl, hn4, hB4⟩
  rw [show clampB 0 = 0 by decide] at hn4
  have H4 := Lib.hid (H3.out.below hB4)
  have Hr4 := Lib.hid (Hr3.out.below hB4)
  have HB4 := Lib.hid (HB3.out.trans (hB4.mono HB3.out.size))
  obtain ⟨rn, hrn⟩ : ∃ r, r = w3.heap.size := ⟨_, rfl⟩
  rw [← hrn] at hn4 ⊢
  have HnS : Hid (rn ∉ S) := Lib.hid (fun hx => by have := H3.out.lt rn hx; omega)
  have Hnr : Hid (rn ≠ r) := Lib.hid (fun hx => by have := Hr3.out.lt; omega)
  have Hnw : Hid (w.heap.size ≤ rn) := Lib.hid (by rw [hrn]; exact HB3.out.size)
  have Hn4 := Lib.hid hn4
  clear hB4 hrn hn4
  go_wp2_with fail
  refine (rleft_any w4 r B B Hr4.out).mono ?_
  rintro e w5 ⟨rfl, hw5⟩
  subst hw5
  go_wp2_with fail
  refine (rleft_any w5 rn 0 0 Hn4.out).mono ?_
  rintro e w6 ⟨rfl, hw6⟩
  subst hw6
  go_wp2_with fail
  go_loopw [11] (fun i wr => ∃ (j : Nat) (c : Int), j ≤ n ∧ j ≤ 100 ∧ i = .int .i64 j ∧ 0 ≤ c ∧ c ≤ B ∧ StoreAt KK wr q S bl (900000 - 2 * j) ∧ RatAt wr r B c ∧ RatAt wr rn 0 0 ∧ Below w.heap.size w wr) (fun i _ => 100 - (intOf i).toNat)
  case atStart => exact ⟨0, B, by omega, by omega, rfl, B0, by omega, H4.out, Hr4.out, Hn4.out, HB4.out⟩
  case round =>
    obtain ⟨j, c, hj, hj100, rfl, c0, c1, hst, hr, hn, hb⟩ := hrel
    have HSt := Lib.hid hst
    have Hr := Lib.hid hr
    have Hn' := Lib.hid hn
    have Hb := Lib.hid hb
    clear hst hr hn hb
    by_cases hjj : j < n ∧ j < 100
    · obtain ⟨h1, h2⟩ := hjj
      have j1 : (j : Int) < (n : Int) := by omega
      have j2 : (j : Int) < 100 := by omega
      have hid : j < ds.length := by rw [← Hn.out]; exact h1
      obtain ⟨b, o, rfl, hbl, hr, hfit⟩ := (HA.out.below Hb.out) j hid
      obtain ⟨a, ha⟩ : ∃ a, a = ds[j] := ⟨_, rfl⟩
      rw [← ha] at hr hfit
      have Hfit := Lib.hid hfit
      have asz : a.cells.length = 239 := ActG.len hfit
      have aone := ActG.one hfit
      have adix : (Tryd.prog.info? 68).map (·.size) = some a.cells.length := by rw [act_info, asz]
      have adixA : (Tryd.prog.info? 68).map (·.size) = some a.cells.toArray.size := by rw [act_info]; simp [asz]
      have asza : a.cells.toArray.size = 239 := by simp [asz]
      have aund := Tryd.underlying68
      have azero := act_zero
      obtain ⟨ac, hac⟩ : ∃ ac, ac = a.cells := ⟨_, rfl⟩
      rw [← hac] at hr asz aone adix adixA asza
      have Hac := Lib.hid hac
      clear ha hac hfit
      go_upto_region 15 with (first | (refine wpList_load_mid rfl 68 _ rfl b (o + j * 239) rfl ac _ hr aund rfl adix ?_) | (refine wpList_store_row rfl 68 _ _ rfl wr.heap.size ac.toArray rfl rfl 68 _ (heap_alloc_new wr _) adixA (by rw [asza, azero]) aone ?_))
      show Code.wp _ _ _ _ ((wr.alloc (.cells Tryd.zeroCells68 68)).setRow wr.heap.size ac.toArray)
      obtain ⟨hq_w7, hB_w7⟩ := put_new wr Tryd.zeroCells68 ac.toArray 68
      obtain ⟨xb, hp_w7⟩ : ∃ q, q = wr.heap.size := ⟨_, rfl⟩
      obtain ⟨w7, hw_w7⟩ : ∃ y, y = ((wr.alloc (.cells Tryd.zeroCells68 68)).setRow wr.heap.size ac.toArray) := ⟨_, rfl⟩
      rw [← hw_w7] at hq_w7 hB_w7 ⊢
      rw [← hp_w7] at hq_w7 ⊢
      have HQ_w7 := Lib.hid hq_w7
      have HB_w7 := Lib.hid hB_w7
      have Hp_w7 := Lib.hid hp_w7
      clear hq_w7 hB_w7 hp_w7 hw_w7
      have HB7 := Lib.hid (Hb.out.trans (HB_w7.out.mono Hb.out.size))
      have H7 := Lib.hid (HSt.out.below HB_w7.out)
      have Hr7 := Lib.hid (Hr.out.below HB_w7.out)
      have Hn7 := Lib.hid (Hn'.out.below HB_w7.out)
      have hq7 := HQ_w7.out
      rw [Hac.out] at hq7
      obtain ⟨x0, xf, xt⟩ := act_mem Hfit.out hq7
      clear hr asz aone adix adixA asza aund azero hq7
      obtain ⟨kd, hkd⟩ : ∃ kd, kd = a.kind := ⟨_, rfl⟩
      obtain ⟨tx, htx⟩ : ∃ tx, tx = a.text := ⟨_, rfl⟩
      obtain ⟨f, hf⟩ : ∃ f, f = a.f := ⟨_, rfl⟩
      rw [← hkd] at x0
      rw [← htx] at xt
      rw [← hf] at xf
      have Hff : Hid f.Fit := Lib.hid (by rw [hf]; exact Hfit.out)
      clear hkd htx hf Hac
      by_cases htl : (1000 : Int) < (tx.length : Int)
      · go_wp2_with fail
        go_ret
        exact ⟨rfl, HB7.out⟩
      by_cases hk1 : kd = 1
      · subst hk1
        go_wp2_with fail
        refine (rtick_any w7 r B c Hr7.out).mono ?_
        rintro e w8 ⟨rfl, hr8, hO8⟩
        have Hn8 := Lib.hid (Hn7.out.keep (hO8.block rn Hn7.out.lt (by simp; exact Hnr.out)))
        have H8 := Lib.hid (H7.out.keep (fun y hy => hO8.block y (H7.out.lt y hy) (by simp; exact fun e => HrS.out (e ▸ hy))))
        have HB8 := Lib.hid (HB7.out.trans (hO8.below HB7.out.size (by simp; exact Hrw.out)))
        have Hr8 := Lib.hid hr8
        clear hr8 hO8
        go_wp2_with fail
        refine (rtick_any w8 rn 0 0 Hn8.out).mono ?_
        rintro e w9 ⟨rfl, hn9, hO9⟩
        have Hr9 := Lib.hid (Hr8.out.keep (hO9.block r Hr8.out.lt (by simp; exact fun e => Hnr.out e.symm)))
        have H9 := Lib.hid (H8.out.keep (fun y hy => hO9.block y (H8.out.lt y hy) (by simp; exact fun e => HnS.out (e ▸ hy))))
        have HB9 := Lib.hid (HB8.out.trans (hO9.below HB8.out.size (by simp; exact Hnw.out)))
        have Hn9 := Lib.hid hn9
        clear hn9 hO9
        go_wp2_with fail
        refine (rleft_any w9 r B B Hr9.out).mono ?_
        rintro e w10 ⟨rfl, hw10⟩
        subst hw10
        go_wp2_with fail
        refine (rleft_any w10 rn 0 0 Hn9.out).mono ?_
        rintro e w11 ⟨rfl, hw11⟩
        subst hw11
        go_wp2_with fail
        go_roundw
        case rel => exact ⟨j + 1, B, by omega, by omega, by go_num, B0, by omega, H9.out.less (by omega), Hr9.out, Hn9.out, HB9.out⟩
        case measure => simp [intOf]; omega
      have hk1' : (kd == 1) = false := by simp [hk1]
      have fdix : (Tryd.prog.info? 44).map (·.size) = some f.cells.length := by rw [fr_info, FrD.len Hff.out]
      have fund := Tryd.underlying44
      have fsz : f.cells.toArray.size = 237 := by simp [FrD.len Hff.out]
      have fone : f.cells.toArray.all (·.oneCell') = true := FrD.row_one Hff.out
      have fdixA : (Tryd.prog.info? 44).map (·.size) = some f.cells.toArray.size := by rw [fdix]; simp
      have hzf : Tryd.zeroCells44.size = 237 := by rw [zero_frame, FrD.row_size zeroFr_fit]
      obtain ⟨fc, hfc⟩ : ∃ fc, fc = f.cells := ⟨_, rfl⟩
      rw [← hfc] at xf fdix fsz fone fdixA
      have Hfc := Lib.hid hfc
      clear hfc
      go_upto_region 23 with (first | (refine wpList_load_mid rfl 44 _ rfl xb 1 rfl fc _ xf fund rfl fdix ?_) | (refine wpList_store_row rfl 44 _ _ rfl w7.heap.size fc.toArray rfl rfl 44 _ (heap_alloc_new w7 _) fdixA (by rw [fsz, hzf]) fone ?_))
      show Code.wp _ _ _ _ ((w7.alloc (.cells Tryd.zeroCells44 44)).setRow w7.heap.size fc.toArray)
      obtain ⟨hq_w8, hB_w8⟩ := put_new w7 Tryd.zeroCells44 fc.toArray 44
      obtain ⟨fb, hp_w8⟩ : ∃ q, q = w7.heap.size := ⟨_, rfl⟩
      obtain ⟨w8, hw_w8⟩ : ∃ y, y = ((w7.alloc (.cells Tryd.zeroCells44 44)).setRow w7.heap.size fc.toArray) := ⟨_, rfl⟩
      rw [← hw_w8] at hq_w8 hB_w8 ⊢
      rw [← hp_w8] at hq_w8 ⊢
      have HQ_w8 := Lib.hid hq_w8
      have HB_w8 := Lib.hid hB_w8
      have Hp_w8 := Lib.hid hp_w8
      clear hq_w8 hB_w8 hp_w8 hw_w8
      have HB8 := Lib.hid (HB7.out.trans (HB_w8.out.mono HB7.out.size))
      have H8 := Lib.hid (H7.out.below HB_w8.out)
      have Hr8 := Lib.hid (Hr7.out.below HB_w8.out)
      have Hn8 := Lib.hid (Hn7.out.below HB_w8.out)
      have x0 := (HB_w8.out.cell (p := ⟨xb, 0, none⟩) (heap_lt HQ_w7.out)).trans x0
      have xt := (HB_w8.out.cell (p := ⟨xb, 238, none⟩) (heap_lt HQ_w7.out)).trans xt
      have HQf : Hid (w8.heap[fb]? = some (.cells f.row 44 (0, 0))) := Lib.hid (by have h := HQ_w8.out; rw [Hfc.out] at h; exact h)
      clear xf fdix fund fsz fone fdixA
      by_cases hk3 : kd = 3
      · subst hk3
        have hbs := (Below.refl w8.heap.size w8).alloc (Nat.le_refl _) (.cells #[.string ⟨tx.toArray⟩] 9)
        have hcs : (w8.alloc (.cells #[.string ⟨tx.toArray⟩] 9)).cell? ⟨w8.heap.size, 0, none⟩ = some (.string ⟨tx.toArray⟩) := by rw [Lib.cell_of_heap (heap_alloc_new w8 _)]; rfl
        have hof := Lib.hid (of_hash KK (some ⟨w8.heap.size, 0, none⟩) 1 tx _ ((HL.out.below HB8.out).below hbs) ⟨_, rfl, hcs⟩ (by omega))
        have hh := hashB_length KK tx
        obtain ⟨h, hhh⟩ : ∃ h, h = hashB KK tx := ⟨_, rfl⟩
        rw [← hhh] at hh hof
        have Hhh := Lib.hid hhh
        have HBs := Lib.hid hbs
        have Hh := Lib.hid hh
        clear hbs hcs hhh
        go_wp2_with fail
        refine hof.out.mono ?_
        rintro e w9 ⟨rfl, hbo⟩
        have HBo := Lib.hid (HBs.out.trans (hbo.mono HBs.out.size))
        have HQo := Lib.hid (below_keep HBo.out HQf.out)
        have dixD : (Tryd.prog.info? 23).map (·.size) = some (digV h).size := by rw [dig_info]; simp [digV, byV_length, Hh.out]
        have dszD : (digV h).size = 32 := by simp [digV, byV_length, Hh.out]
        have doneD := digV_one h
        have dth : w9.there fb 102 (digV h).size := fun k hk => by
          have ra := (fr_mem Hff.out HQo.out).out
          have hl : k < (byV f.out).length := by rw [byV_length, Hff.out.lo]; omega
          exact ⟨by rw [ra k _ (List.getElem?_eq_getElem hl)]; rfl, Lib.frozen_of_heap HQo.out _⟩
        have hput := fr_put_out Hff.out h Hh.out HQo.out
        have hO2 : Only [fb] w9 (w9.setCells fb 102 (byV h)) := seg_only (by simp) _ _ _ (Only.refl _ _)
        obtain ⟨f2, hf2⟩ : ∃ f2 : FrD, f2 = { f with out := h } := ⟨_, rfl⟩
        have Hf2f : Hid f2.Fit := Lib.hid (by rw [hf2]; exact fr_out_fit Hff.out h Hh.out)
        rw [← hf2] at hput
        have Hf2 := Lib.hid hf2
        have Hput := Lib.hid hput
        have HO2 := Lib.hid hO2
        obtain ⟨DV, hDV⟩ : ∃ D, D = digV h := ⟨_, rfl⟩
        rw [← hDV] at dixD dszD doneD dth ⊢
        have HDV : Hid (DV.toList = byV h) := Lib.hid (by rw [hDV]; rfl)
        clear hf2 hput hO2 hbo hof hDV
        go_upto_region 25 with (refine wpList_store_mid rfl 23 _ _ rfl fb 102 DV rfl rfl dth dixD doneD ?_)
        rw [HDV.out]
        obtain ⟨w10, hw10⟩ : ∃ y, y = w9.setCells fb 102 (byV h) := ⟨_, rfl⟩
        rw [← hw10] at Hput HO2 ⊢
        clear hw10 dth dixD dszD doneD
        have HB9 := Lib.hid (HB8.out.trans (HBo.out.mono HB8.out.size))
        have Hfw : Hid (w.heap.size ≤ fb) := Lib.hid (by rw [Hp_w8.out]; exact HB7.out.size)
        have HB10 := Lib.hid (HB9.out.trans (HO2.out.below HB9.out.size (by simp; exact Hfw.out)))
        have H10 := Lib.hid ((H8.out.below HBo.out).keep (fun y hy => HO2.out.block y ((H8.out.below HBo.out).lt y hy) (by simp; have := H7.out.lt y hy; have := Hp_w8.out; omega)))
        have Hr10 := Lib.hid ((Hr8.out.below HBo.out).keep (HO2.out.block r (Hr8.out.below HBo.out).lt (by simp; have := Hr7.out.lt; have := Hp_w8.out; omega)))
        have Hn10 := Lib.hid ((Hn8.out.below HBo.out).keep (HO2.out.block rn (Hn8.out.below HBo.out).lt (by simp; have := Hn7.out.lt; have := Hp_w8.out; omega)))
        have rfs := FrD.row_size Hf2f.out
        have rfi := fr_infoR Hf2f.out
        obtain ⟨R, hR⟩ : ∃ R, R = f2.row := ⟨_, rfl⟩
        have HQR : Hid (w10.heap[fb]? = some (.cells R 44 (0, 0))) := Lib.hid (by rw [hR]; exact Hput.out)
        rw [← hR] at rfs rfi
        have HR := Lib.hid hR
        have hzs : Tryd.zeroCells50.size = 238 := by rw [zero_sent, sentRow_size 0 zeroFr_fit]
        have Hfbn : Hid (fb ∉ r :: S ∧ fb ∉ rn :: S) := Lib.hid ⟨fun hx => by
          have e := Hp_w8.out
          rcases List.mem_cons.1 hx with e2 | hx
          · have := Hr7.out.lt; omega
          · have := H7.out.lt _ hx; omega, fun hx => by
          have e := Hp_w8.out
          rcases List.mem_cons.1 hx with e2 | hx
          · have := Hn7.out.lt; omega
          · have := H7.out.lt _ hx; omega⟩
        have hsv := Lib.hid (serve_any KK q S bl r B c f2 (900000 - 2 * j - 1) w10 (H10.out.less (by omega)) Hr10.out Hf2f.out (HL.out.below HB10.out) H0S.out HrS.out c0 (by omega))
        rw [← HR.out] at hsv
        clear hR
        go_wp2_with fail
        refine (rleft_any w10 r B c Hr10.out).mono ?_
        rintro e w11 ⟨rfl, hw11⟩
        subst hw11
        go_wp2_with (refine wpList_load_row rfl 44 _ rfl fb rfl 44 R (0, 0) _ HQR.out Tryd.underlying44 rfl rfi ?_)
        refine hsv.out.mono ?_
        rintro e w12 ⟨t1, g1, is1, rfl, hs1, h12, hr12, hO12⟩
        have gf1 := hs1.fit Hf2f.out
        have Hz1 : Hid (c = 0 → is1 = false) := Lib.hid (fun hc => by subst hc; exact serv_zero hs1)
        have H12 := Lib.hid h12
        have Hr12 := Lib.hid hr12
        have hlo12 : ∀ y ∈ r :: S, w.heap.size ≤ y := by intro y hy; rcases List.mem_cons.1 hy with rfl | hy; exact Hrw.out; exact Hbig.out y hy
        have HB12 := Lib.hid (HB10.out.trans (hO12.below HB10.out.size hlo12))
        have Hn12 := Lib.hid (Hn10.out.keep (hO12.block rn Hn10.out.lt (fun hy => by rcases List.mem_cons.1 hy with e | hy; exact Hnr.out e; exact HnS.out hy)))
        have HQ12 := Lib.hid (hO12.keep HQR.out Hfbn.out.1)
        have ss1 := sentRow_size t1 gf1
        have so1 := sent_one t1 gf1
        have si1 : (Tryd.prog.info? 50).map (·.size) = some (sentRow t1 g1).size := by rw [ss1]; exact sent_info
        obtain ⟨SR1, hSR1⟩ : ∃ R, R = sentRow t1 g1 := ⟨_, rfl⟩
        rw [← hSR1] at ss1 so1 si1 ⊢
        clear hs1 h12 hr12 hO12 gf1 hSR1 hsv hlo12
        go_upto_region 27 with (first | (refine wpList_store_row rfl 50 _ _ rfl w12.heap.size SR1 rfl rfl 50 _ (heap_alloc_new w12 _) si1 (by rw [ss1, hzs]) so1 ?_))
        show Code.wp _ _ _ _ ((w12.alloc (.cells Tryd.zeroCells50 50)).setRow w12.heap.size SR1)
        obtain ⟨hq_w13, hB_w13⟩ := put_new w12 Tryd.zeroCells50 SR1 50
        obtain ⟨b1, hp_w13⟩ : ∃ q, q = w12.heap.size := ⟨_, rfl⟩
        obtain ⟨w13, hw_w13⟩ : ∃ y, y = ((w12.alloc (.cells Tryd.zeroCells50 50)).setRow w12.heap.size SR1) := ⟨_, rfl⟩
        rw [← hw_w13] at hq_w13 hB_w13 ⊢
        rw [← hp_w13] at hq_w13 ⊢
        have HQ_w13 := Lib.hid hq_w13
        have HB_w13 := Lib.hid hB_w13
        have Hp_w13 := Lib.hid hp_w13
        clear hq_w13 hB_w13 hp_w13 hw_w13
        have H13 := Lib.hid (H12.out.below HB_w13.out)
        have Hr13 := Lib.hid (Hr12.out.below HB_w13.out)
        have Hn13 := Lib.hid (Hn12.out.below HB_w13.out)
        have HB13 := Lib.hid (HB12.out.trans (HB_w13.out.mono HB12.out.size))
        have HQ13 := Lib.hid (below_keep HB_w13.out HQ12.out)
        have hsv2 := Lib.hid (serve_any KK q S bl rn 0 0 f2 (900000 - 2 * j - 2) w13 (H13.out.less (by omega)) Hn13.out Hf2f.out (HL.out.below HB13.out) H0S.out HnS.out (by decide) (by decide))
        rw [← HR.out] at hsv2
        go_wp2_with (refine wpList_load_row rfl 44 _ rfl fb rfl 44 R (0, 0) _ HQ13.out Tryd.underlying44 rfl rfi ?_)
        refine hsv2.out.mono ?_
        rintro e w14 ⟨t2, g2, is2, rfl, hs2, h14, hr14, hO14⟩
        have gf2 := hs2.fit Hf2f.out
        obtain rfl := serv_zero hs2
        rw [show left' 0 false = 0 by decide] at hr14
        have H14 := Lib.hid h14
        have Hn14 := Lib.hid hr14
        have hlo14 : ∀ y ∈ rn :: S, w.heap.size ≤ y := by intro y hy; rcases List.mem_cons.1 hy with rfl | hy; exact Hnw.out; exact Hbig.out y hy
        have HB14 := Lib.hid (HB13.out.trans (hO14.below HB13.out.size hlo14))
        have Hr14 := Lib.hid (Hr13.out.keep (hO14.block r Hr13.out.lt (fun hy => by rcases List.mem_cons.1 hy with e | hy; exact Hnr.out e.symm; exact HrS.out hy)))
        have ss2 := sentRow_size t2 gf2
        have so2 := sent_one t2 gf2
        have si2 : (Tryd.prog.info? 50).map (·.size) = some (sentRow t2 g2).size := by rw [ss2]; exact sent_info
        obtain ⟨SR2, hSR2⟩ : ∃ R, R = sentRow t2 g2 := ⟨_, rfl⟩
        rw [← hSR2] at ss2 so2 si2 ⊢
        clear hs2 h14 hr14 hO14 gf2 hSR2 hsv2 hlo14 ss1 so1 si1 HQ12
        go_upto_region 28 with (first | (refine wpList_store_row rfl 50 _ _ rfl w14.heap.size SR2 rfl rfl 50 _ (heap_alloc_new w14 _) si2 (by rw [ss2, hzs]) so2 ?_))
        show Code.wp _ _ _ _ ((w14.alloc (.cells Tryd.zeroCells50 50)).setRow w14.heap.size SR2)
        obtain ⟨hq_w15, hB_w15⟩ := put_new w14 Tryd.zeroCells50 SR2 50
        obtain ⟨b2, hp_w15⟩ : ∃ q, q = w14.heap.size := ⟨_, rfl⟩
        obtain ⟨w15, hw_w15⟩ : ∃ y, y = ((w14.alloc (.cells Tryd.zeroCells50 50)).setRow w14.heap.size SR2) := ⟨_, rfl⟩
        rw [← hw_w15] at hq_w15 hB_w15 ⊢
        rw [← hp_w15] at hq_w15 ⊢
        have HQ_w15 := Lib.hid hq_w15
        have HB_w15 := Lib.hid hB_w15
        have Hp_w15 := Lib.hid hp_w15
        clear hq_w15 hB_w15 hp_w15 hw_w15
        have H15 := Lib.hid (H14.out.below HB_w15.out)
        have Hr15 := Lib.hid (Hr14.out.below HB_w15.out)
        have Hn15 := Lib.hid (Hn14.out.below HB_w15.out)
        have HB15 := Lib.hid (HB14.out.trans (HB_w15.out.mono HB14.out.size))
        have hls := left_step c0 c1 Hz1.out
        have Hls := Lib.hid hls
        have hw1 : IntKind.i64.wrap (c - 1) = c - 1 := IntWalk.i64_in _ (by omega)
        clear ss2 so2 si2 hls
        cases is1 with
        | true =>
          have hr16 : RatAt w15 r B (c - 1) := Hr15.out
          have Hr16 := Lib.hid hr16
          clear hr16
          go_wp2_with fail
          refine (rleft_any w15 r B (c - 1) Hr16.out).mono ?_
          rintro e w16 ⟨rfl, hw16⟩
          subst hw16
          go_wp2_with fail
          go_roundw
          case rel => exact ⟨j + 1, c - 1, by omega, by omega, by go_num, Hls.out.1, Hls.out.2, H15.out.less (by omega), Hr16.out, Hn15.out, HB15.out⟩
          case measure => simp [intOf]; omega
        | false =>
          have hr16 : RatAt w15 r B c := Hr15.out
          have Hr16 := Lib.hid hr16
          clear hr16
          go_wp2_with fail
          refine (rleft_any w15 r B c Hr16.out).mono ?_
          rintro e w16 ⟨rfl, hw16⟩
          subst hw16
          go_wp2_with fail
          go_roundw
          case rel => exact ⟨j + 1, c, by omega, by omega, by go_num, c0, c1, H15.out.less (by omega), Hr16.out, Hn15.out, HB15.out⟩
          case measure => simp [intOf]; omega
      · have hk3' : (kd == 3) = false := by simp [hk3]
        have rfs := FrD.row_size Hff.out
        have rfi := fr_infoR Hff.out
        obtain ⟨R, hR⟩ : ∃ R, R = f.row := ⟨_, rfl⟩
        have HQR : Hid (w8.heap[fb]? = some (.cells R 44 (0, 0))) := Lib.hid (by rw [hR]; exact HQf.out)
        rw [← hR] at rfs rfi
        have HR := Lib.hid hR
        have hzs : Tryd.zeroCells50.size = 238 := by rw [zero_sent, sentRow_size 0 zeroFr_fit]
        have Hfbn : Hid (fb ∉ r :: S ∧ fb ∉ rn :: S) := Lib.hid ⟨fun hx => by
          have e := Hp_w8.out
          rcases List.mem_cons.1 hx with e2 | hx
          · have := Hr7.out.lt; omega
          · have := H7.out.lt _ hx; omega, fun hx => by
          have e := Hp_w8.out
          rcases List.mem_cons.1 hx with e2 | hx
          · have := Hn7.out.lt; omega
          · have := H7.out.lt _ hx; omega⟩
        have hsv := Lib.hid (serve_any KK q S bl r B c f (900000 - 2 * j - 1) w8 (H8.out.less (by omega)) Hr8.out Hff.out (HL.out.below HB8.out) H0S.out HrS.out c0 (by omega))
        rw [← HR.out] at hsv
        clear hR
        go_wp2_with fail
        refine (rleft_any w8 r B c Hr8.out).mono ?_
        rintro e w11 ⟨rfl, hw11⟩
        subst hw11
        go_wp2_with (refine wpList_load_row rfl 44 _ rfl fb rfl 44 R (0, 0) _ HQR.out Tryd.underlying44 rfl rfi ?_)
        refine hsv.out.mono ?_
        rintro e w12 ⟨t1, g1, is1, rfl, hs1, h12, hr12, hO12⟩
        have gf1 := hs1.fit Hff.out
        have Hz1 : Hid (c = 0 → is1 = false) := Lib.hid (fun hc => by subst hc; exact serv_zero hs1)
        have H12 := Lib.hid h12
        have Hr12 := Lib.hid hr12
        have hlo12 : ∀ y ∈ r :: S, w.heap.size ≤ y := by intro y hy; rcases List.mem_cons.1 hy with rfl | hy; exact Hrw.out; exact Hbig.out y hy
        have HB12 := Lib.hid (HB8.out.trans (hO12.below HB8.out.size hlo12))
        have Hn12 := Lib.hid (Hn8.out.keep (hO12.block rn Hn8.out.lt (fun hy => by rcases List.mem_cons.1 hy with e | hy; exact Hnr.out e; exact HnS.out hy)))
        have HQ12 := Lib.hid (hO12.keep HQR.out Hfbn.out.1)
        have ss1 := sentRow_size t1 gf1
        have so1 := sent_one t1 gf1
        have si1 : (Tryd.prog.info? 50).map (·.size) = some (sentRow t1 g1).size := by rw [ss1]; exact sent_info
        obtain ⟨SR1, hSR1⟩ : ∃ R, R = sentRow t1 g1 := ⟨_, rfl⟩
        rw [← hSR1] at ss1 so1 si1 ⊢
        clear hs1 h12 hr12 hO12 gf1 hSR1 hsv hlo12
        go_upto_region 27 with (first | (refine wpList_store_row rfl 50 _ _ rfl w12.heap.size SR1 rfl rfl 50 _ (heap_alloc_new w12 _) si1 (by rw [ss1, hzs]) so1 ?_))
        show Code.wp _ _ _ _ ((w12.alloc (.cells Tryd.zeroCells50 50)).setRow w12.heap.size SR1)
        obtain ⟨hq_w13, hB_w13⟩ := put_new w12 Tryd.zeroCells50 SR1 50
        obtain ⟨b1, hp_w13⟩ : ∃ q, q = w12.heap.size := ⟨_, rfl⟩
        obtain ⟨w13, hw_w13⟩ : ∃ y, y = ((w12.alloc (.cells Tryd.zeroCells50 50)).setRow w12.heap.size SR1) := ⟨_, rfl⟩
        rw [← hw_w13] at hq_w13 hB_w13 ⊢
        rw [← hp_w13] at hq_w13 ⊢
        have HQ_w13 := Lib.hid hq_w13
        have HB_w13 := Lib.hid hB_w13
        have Hp_w13 := Lib.hid hp_w13
        clear hq_w13 hB_w13 hp_w13 hw_w13
        have H13 := Lib.hid (H12.out.below HB_w13.out)
        have Hr13 := Lib.hid (Hr12.out.below HB_w13.out)
        have Hn13 := Lib.hid (Hn12.out.below HB_w13.out)
        have HB13 := Lib.hid (HB12.out.trans (HB_w13.out.mono HB12.out.size))
        have HQ13 := Lib.hid (below_keep HB_w13.out HQ12.out)
        have hsv2 := Lib.hid (serve_any KK q S bl rn 0 0 f (900000 - 2 * j - 2) w13 (H13.out.less (by omega)) Hn13.out Hff.out (HL.out.below HB13.out) H0S.out HnS.out (by decide) (by decide))
        rw [← HR.out] at hsv2
        go_wp2_with (refine wpList_load_row rfl 44 _ rfl fb rfl 44 R (0, 0) _ HQ13.out Tryd.underlying44 rfl rfi ?_)
        refine hsv2.out.mono ?_
        rintro e w14 ⟨t2, g2, is2, rfl, hs2, h14, hr14, hO14⟩
        have gf2 := hs2.fit Hff.out
        obtain rfl := serv_zero hs2
        rw [show left' 0 false = 0 by decide] at hr14
        have H14 := Lib.hid h14
        have Hn14 := Lib.hid hr14
        have hlo14 : ∀ y ∈ rn :: S, w.heap.size ≤ y := by intro y hy; rcases List.mem_cons.1 hy with rfl | hy; exact Hnw.out; exact Hbig.out y hy
        have HB14 := Lib.hid (HB13.out.trans (hO14.below HB13.out.size hlo14))
        have Hr14 := Lib.hid (Hr13.out.keep (hO14.block r Hr13.out.lt (fun hy => by rcases List.mem_cons.1 hy with e | hy; exact Hnr.out e.symm; exact HrS.out hy)))
        have ss2 := sentRow_size t2 gf2
        have so2 := sent_one t2 gf2
        have si2 : (Tryd.prog.info? 50).map (·.size) = some (sentRow t2 g2).size := by rw [ss2]; exact sent_info
        obtain ⟨SR2, hSR2⟩ : ∃ R, R = sentRow t2 g2 := ⟨_, rfl⟩
        rw [← hSR2] at ss2 so2 si2 ⊢
        clear hs2 h14 hr14 hO14 gf2 hSR2 hsv2 hlo14 ss1 so1 si1 HQ12
        go_upto_region 28 with (first | (refine wpList_store_row rfl 50 _ _ rfl w14.heap.size SR2 rfl rfl 50 _ (heap_alloc_new w14 _) si2 (by rw [ss2, hzs]) so2 ?_))
        show Code.wp _ _ _ _ ((w14.alloc (.cells Tryd.zeroCells50 50)).setRow w14.heap.size SR2)
        obtain ⟨hq_w15, hB_w15⟩ := put_new w14 Tryd.zeroCells50 SR2 50
        obtain ⟨b2, hp_w15⟩ : ∃ q, q = w14.heap.size := ⟨_, rfl⟩
        obtain ⟨w15, hw_w15⟩ : ∃ y, y = ((w14.alloc (.cells Tryd.zeroCells50 50)).setRow w14.heap.size SR2) := ⟨_, rfl⟩
        rw [← hw_w15] at hq_w15 hB_w15 ⊢
        rw [← hp_w15] at hq_w15 ⊢
        have HQ_w15 := Lib.hid hq_w15
        have HB_w15 := Lib.hid hB_w15
        have Hp_w15 := Lib.hid hp_w15
        clear hq_w15 hB_w15 hp_w15 hw_w15
        have H15 := Lib.hid (H14.out.below HB_w15.out)
        have Hr15 := Lib.hid (Hr14.out.below HB_w15.out)
        have Hn15 := Lib.hid (Hn14.out.below HB_w15.out)
        have HB15 := Lib.hid (HB14.out.trans (HB_w15.out.mono HB14.out.size))
        have hls := left_step c0 c1 Hz1.out
        have Hls := Lib.hid hls
        have hw1 : IntKind.i64.wrap (c - 1) = c - 1 := IntWalk.i64_in _ (by omega)
        clear ss2 so2 si2 hls
        cases is1 with
        | true =>
          have hr16 : RatAt w15 r B (c - 1) := Hr15.out
          have Hr16 := Lib.hid hr16
          clear hr16
          go_wp2_with fail
          refine (rleft_any w15 r B (c - 1) Hr16.out).mono ?_
          rintro e w16 ⟨rfl, hw16⟩
          subst hw16
          go_wp2_with fail
          go_roundw
          case rel => exact ⟨j + 1, c - 1, by omega, by omega, by go_num, Hls.out.1, Hls.out.2, H15.out.less (by omega), Hr16.out, Hn15.out, HB15.out⟩
          case measure => simp [intOf]; omega
        | false =>
          have hr16 : RatAt w15 r B c := Hr15.out
          have Hr16 := Lib.hid hr16
          clear hr16
          go_wp2_with fail
          refine (rleft_any w15 r B c Hr16.out).mono ?_
          rintro e w16 ⟨rfl, hw16⟩
          subst hw16
          go_wp2_with fail
          go_roundw
          case rel => exact ⟨j + 1, c, by omega, by omega, by go_num, c0, c1, H15.out.less (by omega), Hr16.out, Hn15.out, HB15.out⟩
          case measure => simp [intOf]; omega
    · have key : ((j : Int) < (n : Int) ∧ ¬ ((j : Int) < 100)) ∨ ¬ ((j : Int) < (n : Int)) := by omega
      clear hjj
      rcases key with ⟨j1, j2⟩ | j1
      all_goals
        go_wp2_with fail
        go_ret
        exact ⟨rfl, Hb.out⟩
namespace RationRefillsLaw
open Go.ChangeShapes Go.WideShapes Go.ChangeAt
open Go.ChangeMaps (open_string shut_string)
set_option maxRecDepth 100000 in
theorem contract (H : Type) (enc : TypeId × Value → H) (W : World) (base : Nat) (args : Array Value) (ds gs : List (DataW H)) (before : List MemPlace)
    (hval : ∀ (j : Nat) t v, Tryd.f5.params[j]? = some t → args[j]? = some v → Value.okWide Tryd.prog W .any base t v)
    (hW : DataW.Whole enc Tryd.prog Tryd.f5.params.toList Rows.rationRefillsSpec.vars false W args.toList ds gs before) (hsz0 : (DataW.weightsEach Tryd.prog (Tryd.f5.params.toList ++ Rows.rationRefillsSpec.plain.varTypes Tryd.prog) (ds ++ gs)).all (· ≤ reachBytes) = true) (hLd : laidMetH Tryd.prog laid1 W) :
    Calls Tryd.prog 5 args W fun e W' => ∃ v, e = .returned v ∧ Rows.rationRefillsSpec.post enc Tryd.prog Tryd.f5 false true false false W args v W' := by
  have hW' := hW
  obtain ⟨p, q, hA0, hV, rfl, hfz, hnd⟩ := hW
  have hA : DataW.TrodAll enc Tryd.prog W 0 (fun _ => true) true Tryd.f5.params.toList args.toList ds p := hA0
  rw [Tryd.params5] at hA hval
  obtain ⟨v0, vs0, d0, ds0, p0, q0, hargs, rfl, rfl, h0, r0⟩ := trodAll_cons hA
  obtain ⟨v1, vs1, d1, ds1, p1, q1, rfl, rfl, rfl, h1, r1⟩ := trodAll_cons r0
  obtain ⟨v2, vs2, d2, ds2, p2, q2, rfl, rfl, rfl, h2, r2⟩ := trodAll_cons r1
  obtain ⟨rfl, rfl, rfl⟩ := trodAll_nil r2
  obtain rfl : args = #[v0, v1, v2] := by cases args; simp_all
  obtain ⟨rfl, rfl⟩ := trodVars_none hV
  obtain ⟨A0, c0, x0, rfl, hS0, hl0, he0, hb0⟩ := open_strs Tryd.underlying54 Tryd.underlying9 (by kernel_rfl) (hval 0 54 v0 rfl rfl) h0
  obtain ⟨x1, rfl, hd1, _, w1⟩ := open_int Tryd.underlying3 (hval 1 3 v1 rfl rfl) h1
  obtain ⟨A2, c2, x2, rfl, hS2, hl2⟩ := open_actsG (hval 2 59 v2 rfl rfl) h2
  refine (rationRefills_core A0 c0 x0 x1 A2 c2 x2 W (of_laid hLd) hS0 hl0 he0 (wf_bounds w1).1 (wf_bounds w1).2 hS2 hl2).mono fun e W' ⟨he, hg⟩ => ?_
  subst he
  exact ⟨_, rfl, law_post (tb := 4) laidOut_ (of_decide_eq_true (by kernel_rfl)) Tryd.underlying4 (by kernel_rfl) rfl rfl hW' hg⟩

theorem door_met (os : Os) (args : Array Value) : laidMetH Tryd.prog laid1 ((World.doorLaid Tryd.prog 400 os).forCall (fun _ _ => 0) ⟨#[], args, []⟩).memory :=
  laidMetH_of_parts3 (fuel := 8) (laidMet_of_run' 8 (by kernel_rfl) (by kernel_rfl)) (by kernel_rfl) (by kernel_rfl)

set_option maxRecDepth 100000 in
theorem lifted (os : Os) (started : os.Started) (H : Type) (enc : TypeId × Value → H) :
    ReturnsInHanded {} Tryd.checked os 5 .any (fun w args => (Rows.rationRefillsSpec.pre enc Tryd.prog Tryd.f5 [] false w args ∧ laidMetH Tryd.prog laid1 w) ∧ sizedMet enc Tryd.prog Tryd.f5 (OpenSpec.ofChange Rows.rationRefillsSpec) false w args)
      (Rows.rationRefillsSpec.post enc Tryd.prog Tryd.f5 false true false false) := by
  refine returnsInHanded_of_change_and (C := Tryd.checked) (X := fun w _ => laidMetH Tryd.prog laid1 w) (fun _ _ _ hh h => h.of_heap hh) ownKnob_ started (by kernel_rfl) Tryd.func5
    (ChangeSpec.witness_shaped (enc := enc) (C := Tryd.checked) (os := os) (X := fun w _ => laidMetH Tryd.prog laid1 w) false (World.doorLaid Tryd.prog 400 os) #[.slice none 0 0, .int .i64 0, .slice none 0 0] 8 rfl (World.shaped_of_RefB (by kernel_rfl) (by kernel_rfl)) (by kernel_rfl) (by kernel_rfl) (by kernel_rfl) (door_met os _)) ?_
  intro W base args ds gs before hval hW _ hsz hLd _
  exact contract H enc W base args ds gs before hval hW hsz hLd

theorem said : Rows.RationRefillsSaid :=
  OpenClaim.holds_of_wide 5 Tryd.f5 rfl rfl rfl rfl rfl rfl rfl ⟨rfl, rfl, rfl, rfl, rfl⟩ rfl rfl rfl rfl rfl (by kernel_rfl) Tryd.func5 (by kernel_rfl)
    (of_decide_eq_true (by kernel_rfl)) (by unfold Func.isWrapper; first | (rw [if_pos (by decide +kernel)]; kernel_rfl) | (rw [if_neg (by decide +kernel)]; exact ⟨rfl, rfl⟩))
    (fun os started H enc _ => lifted os started H enc)

theorem proved : Rows.RationRefillsCardSaid :=
  Claim7.holds_tied_plain_at .later [] [.data] true Rows.rationRefillsCard.stood.harness false
    said (fun _ h => by cases h) (by kernel_rfl) (fun _ h => by cases h) rationRefills_row_tie rfl ⟨rfl, rfl⟩ (by kernel_rfl) rfl
    (fun f fn hf hfn => by
      obtain rfl : f = 5 := Option.some.inj ((show Tryd.prog.funcNamed "apiary/apiarylaw18.RationRefills" = some 5 by kernel_rfl).symm.trans hf) |>.symm
      obtain rfl : fn = Tryd.f5 := (Option.some.inj (Tryd.func5.symm.trans hfn)).symm
      exact ⟨by kernel_rfl, fun j t ht => by
        rw [Tryd.params5] at ht
        have hm : t ∈ [54, 3, 59] := by simpa using Array.mem_of_getElem? ht
        have hall : ([54, 3, 59].all fun u => !Tryd.prog.wantsStandIn u) = true := by kernel_rfl
        exact (show Tryd.prog.wantsStandIn t = false by simpa using List.all_eq_true.1 hall t hm)⟩)
    (by kernel_rfl)
end RationRefillsLaw
end Go.Proofs.YtfbjbhddapoopaaDoor
