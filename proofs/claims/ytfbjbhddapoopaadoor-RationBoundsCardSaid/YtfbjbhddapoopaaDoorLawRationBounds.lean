/-
  RationBounds: never more than the budget in a tick; what is served is right. No condition: every input.
-/
import Derived.Test.YtfbjbhddapoopaaDoorHvN
import Derived.Test.YtfbjbhddapoopaaDoorFmS
import Derived.Deep.Fields
import Derived.ChangeSame
import Derived.Test.YtfbjbhddapoopaaDoorCards
import Derived.Test.YtfbjbhddapoopaaDoorTie
set_option linter.unusedVariables false
set_option linter.unusedSimpArgs false
namespace Go.Proofs.YtfbjbhddapoopaaDoor
open Go.RowKit
attribute [local go_sem] Lb.ba_get Lb.ba_cut Lb.ba_add Lb.ba_size Lb.take_rest

theorem built_ask1 : Tryd.prog.built 44 [(0, .int .i64 6), (1, .int .i64 1), (8, .int .i64 (-1))] = some (askF 1 (List.replicate 32 0) (-1)).row := by
  rw [built_fr, fr_fill0, fr_fill1, fr_fill8 _ ⟨rfl, rfl, rfl, rfl, rfl, rfl, rfl, rfl⟩, fill_nil]
  rfl
theorem serv_true {K : List Int} {B0 : Nat} {bl : List (List UInt8)} {f g : FrD} {w : World} {tt n : Int} (h : ServIs K B0 bl n f w tt g true) : ∃ b, AskOk n f ∧ blobS K bl f.out = (b, true) ∧ PlaceOk b f.at_ ∧ FoundIs K B0 b f w g true ∧ tt = f.from_ := by
  cases h with
  | yes b g h hb hp hg => exact ⟨b, h, hb, hp, hg, rfl⟩
theorem wpList_load_midG {P : Program} {ops : Array Oper} {rest : List Oper} {op : Oper} {a : Act} {w : World} {Q : Exit → Act → World → Prop} (hw : Region.wanted op (yielded ops a.tmps) = true) (ty : TypeId) (x : Operand) (ho : op.op = .load ty x)
    (b o : Nat) (hx : a.eval x = .pointer (some ⟨b, o, none⟩)) (cs : List Value) (d : TypeDesc) (hc : w.rangeAt b o cs)
    (hu : P.underlying ty = some d) (hd : d.isRow = true) (hi : (P.info? ty).map (·.size) = some cs.length)
    (h : wpList P ops Q rest (a.put op.dst (.agg cs.toArray)) w) : wpList P ops Q (op :: rest) a w :=
  BigFrame.wpList_want hw fun _ hK => wp_load_mid ty x ho b o hx cs d hc hu hd hi (hK _ _ h)

theorem u64_mod20 (x : Int) (h : -9223372036854775808 ≤ x ∧ x ≤ 9223372036854775807) : ∃ u k : Nat, IntKind.u64.wrap x = (u : Int) ∧ (u : Int) ≤ 18446744073709551615 ∧ (u : Int).tmod 20 = (k : Int) ∧ IntKind.i64.wrap (k : Int) = (k : Int) ∧ k < 20 := by
  by_cases hx : 0 ≤ x
  · obtain ⟨u, rfl⟩ : ∃ u : Nat, x = u := ⟨x.toNat, by omega⟩
    have hk : u % 20 < 20 := Nat.mod_lt _ (by decide)
    exact ⟨u, u % 20, by rw [IntWalk.u64_in _ (by omega)], by omega, rfl, IntWalk.i64_in _ (by omega), hk⟩
  · have hk : (x + 18446744073709551616).toNat % 20 < 20 := Nat.mod_lt _ (by decide)
    refine ⟨(x + 18446744073709551616).toNat, (x + 18446744073709551616).toNat % 20, ?_, by omega, rfl, IntWalk.i64_in _ (by omega), hk⟩
    simp only [IntKind.wrap_u64]; omega
set_option maxHeartbeats 8000000 in
set_option maxRecDepth 100000 in
theorem rationBounds_core (A : Option Addr) (cap : Nat) (ls : List (List UInt8)) (x : Int) (A2 : Option Addr) (cap2 : Nat) (ds : List ActG) (w : World) (hL : Laid KK w) (hS : Strs w w.heap.size A ls) (hl : ls.length ≤ maxLen) (he : ∀ s ∈ ls, s.length ≤ maxLen) (xlo : -9223372036854775808 ≤ x) (xhi : x ≤ 9223372036854775807) (hA : ActsG w w.heap.size A2 ds) (hl2 : ds.length ≤ maxLen) :
    Calls Tryd.prog 6 #[.slice A ls.length cap, .int .i64 x, .slice A2 ds.length cap2] w fun e w' => e = .returned (.bool true) ∧ Below w.heap.size w w' := by
  have HL := Lib.hid hL
  have HS := Lib.hid hS
  have HA := Lib.hid hA
  have haw := Lib.hid (awake18_any KK w hL)
  have hsto := Lib.hid (fun W (hW : Below w.heap.size w W) => stored_any KK A cap ls W (hL.below hW) ((hS.below hW (Nat.le_refl _)).more hW.size) hl)
  obtain ⟨m, hm⟩ : ∃ m, m = ls.length := ⟨_, rfl⟩
  obtain ⟨n, hn⟩ : ∃ n, n = ds.length := ⟨_, rfl⟩
  have hm63 : (m : Int) ≤ 9223372036854775807 := by unfold maxLen at hl; omega
  have hn63 : (n : Int) ≤ 9223372036854775807 := by unfold maxLen at hl2; omega
  rw [← hm] at hsto ⊢
  rw [← hn]
  have Hm := Lib.hid hm
  have Hn := Lib.hid hn
  clear hL hS hA hl hl2 he hm hn
  obtain ⟨u, B, hu, hub, hj, hjw, hB20⟩ := u64_mod20 x ⟨xlo, xhi⟩
  go_enter Tryd.func6, Tryd.ntmps6
  go_wp2_with fail
  refine haw.out.mono ?_
  rintro e w1 ⟨rfl, hB1⟩
  have HB1 := Lib.hid hB1
  clear hB1 haw
  by_cases hm60 : (60 : Int) < (m : Int)
  · go_wp2_with fail
    go_ret
    exact ⟨rfl, HB1.out⟩
  go_wp2_with fail
  refine (hsto.out w1 HB1.out).mono ?_
  rintro e w2 ⟨q, S, rfl, h2, hbig, hB2⟩
  obtain ⟨bl, hbl⟩ : ∃ bl, bl = stAt KK ls (min ls.length 60) := ⟨_, rfl⟩
  rw [← hbl] at h2
  have H2 := Lib.hid h2
  have HB2 := Lib.hid (HB1.out.trans (hB2.mono HB1.out.size))
  have Hbig : Hid (∀ x ∈ S, w.heap.size ≤ x) := Lib.hid (fun x hx => Nat.le_trans HB1.out.size (hbig x hx))
  clear h2 hbig hB2 hbl hsto
  go_wp2_with fail
  obtain ⟨Bi, hBi⟩ : ∃ b : Int, b = (B : Int) := ⟨_, rfl⟩
  rw [← hBi]
  have B0 : 0 ≤ Bi := by omega
  have B1 : Bi < 20 := by omega
  clear hu hub hj hjw hB20 hBi
  refine (rnew_any Bi w2).mono ?_
  rintro e w3 ⟨rfl, hr3, hB3⟩
  rw [show clampB Bi = Bi by unfold clampB; omega] at hr3
  have H3 := Lib.hid (H2.out.below hB3)
  have HB3 := Lib.hid (HB2.out.trans (hB3.mono HB2.out.size))
  obtain ⟨r, hr⟩ : ∃ r, r = w2.heap.size := ⟨_, rfl⟩
  rw [← hr] at hr3 ⊢
  have HrS : Hid (r ∉ S) := Lib.hid (fun hx => by have := H2.out.lt r hx; omega)
  have Hrw : Hid (w.heap.size ≤ r) := Lib.hid (by rw [hr]; exact HB2.out.size)
  have Hr3 := Lib.hid hr3
  have H0S : Hid (0 ∉ S) := Lib.hid (fun hx => by have := Hbig.out 0 hx; have := HL.out.lt; omega)
  have Hlo : Hid (∀ y ∈ r :: S, w.heap.size ≤ y) := Lib.hid (by intro y hy; rcases List.mem_cons.1 hy with rfl | hy; exact Hrw.out; exact Hbig.out y hy)
  clear hB3 hr hr3
  go_wp2_with fail
  go_loopw [9, 10] (fun nn i wr => ∃ (j : Nat) (c : Int), j ≤ n ∧ j ≤ 100 ∧ i = .int .i64 j ∧ nn = .int .i64 c ∧ 0 ≤ c ∧ c ≤ Bi ∧ StoreAt KK wr q S bl (900000 - 2 * j) ∧ RatAt wr r Bi (Bi - c) ∧ Below w.heap.size w wr) (fun _ i _ => 100 - (intOf i).toNat)
  case atStart => exact ⟨0, 0, by omega, by omega, rfl, rfl, by omega, B0, H3.out, by rw [Int.sub_zero]; exact Hr3.out, HB3.out⟩
  case round =>
    obtain ⟨j, c, hj, hj100, rfl, rfl, c0, c1, hst, hr, hb⟩ := hrel
    have HSt := Lib.hid hst
    have Hr := Lib.hid hr
    have Hb := Lib.hid hb
    clear hst hr hb
    by_cases hjj : j < n ∧ j < 100
    · obtain ⟨h1, h2⟩ := hjj
      have j1 : (j : Int) < (n : Int) := by omega
      have j2 : (j : Int) < 100 := by omega
      have hid : j < ds.length := by rw [← Hn.out]; exact h1
      obtain ⟨b, o, rfl, hbl, hr, hfit⟩ := (HA.out.below Hb.out) j hid
      obtain ⟨a, ha⟩ : ∃ a, a = ds[j] := ⟨_, rfl⟩
      rw [← ha] at hr hfit
      have Hfit := Lib.hid hfit
      have asz : a.cells.length = 239 := ActG.len hfit
      have aone := ActG.one hfit
      have adix : (Tryd.prog.info? 68).map (·.size) = some a.cells.length := by rw [act_info, asz]
      have adixA : (Tryd.prog.info? 68).map (·.size) = some a.cells.toArray.size := by rw [act_info]; simp [asz]
      have asza : a.cells.toArray.size = 239 := by simp [asz]
      have aund := Tryd.underlying68
      have azero := act_zero
      obtain ⟨ac, hac⟩ : ∃ ac, ac = a.cells := ⟨_, rfl⟩
      rw [← hac] at hr asz aone adix adixA asza
      have Hac := Lib.hid hac
      clear ha hac hfit
      go_upto_region 13 with (first | (refine wpList_load_mid rfl 68 _ rfl b (o + j * 239) rfl ac _ hr aund rfl adix ?_) | (refine wpList_store_row rfl 68 _ _ rfl wr.heap.size ac.toArray rfl rfl 68 _ (heap_alloc_new wr _) adixA (by rw [asza, azero]) aone ?_))
      show Code.wp _ _ _ _ ((wr.alloc (.cells Tryd.zeroCells68 68)).setRow wr.heap.size ac.toArray)
      obtain ⟨hq_w7, hB_w7⟩ := put_new wr Tryd.zeroCells68 ac.toArray 68
      obtain ⟨xb, hp_w7⟩ : ∃ q, q = wr.heap.size := ⟨_, rfl⟩
      obtain ⟨w7, hw_w7⟩ : ∃ y, y = ((wr.alloc (.cells Tryd.zeroCells68 68)).setRow wr.heap.size ac.toArray) := ⟨_, rfl⟩
      rw [← hw_w7] at hq_w7 hB_w7 ⊢
      rw [← hp_w7] at hq_w7 ⊢
      have HQ_w7 := Lib.hid hq_w7
      have HB_w7 := Lib.hid hB_w7
      have Hp_w7 := Lib.hid hp_w7
      clear hq_w7 hB_w7 hp_w7 hw_w7
      have HB7 := Lib.hid (Hb.out.trans (HB_w7.out.mono Hb.out.size))
      have H7 := Lib.hid (HSt.out.below HB_w7.out)
      have Hr7 := Lib.hid (Hr.out.below HB_w7.out)
      have hq7 := HQ_w7.out
      rw [Hac.out] at hq7
      obtain ⟨x0, xf, xt⟩ := act_mem Hfit.out hq7
      clear hr asz aone adix adixA asza aund azero hq7
      obtain ⟨kd, hkd⟩ : ∃ kd, kd = a.kind := ⟨_, rfl⟩
      obtain ⟨tx, htx⟩ : ∃ tx, tx = a.text := ⟨_, rfl⟩
      obtain ⟨f, hf⟩ : ∃ f, f = a.f := ⟨_, rfl⟩
      rw [← hkd] at x0
      rw [← htx] at xt
      rw [← hf] at xf
      have Hff : Hid f.Fit := Lib.hid (by rw [hf]; exact Hfit.out)
      clear hkd htx hf Hac
      by_cases htl : (1000 : Int) < (tx.length : Int)
      · go_wp2_with fail
        go_ret
        exact ⟨rfl, HB7.out⟩
      have fdix : (Tryd.prog.info? 44).map (·.size) = some f.cells.length := by rw [fr_info, FrD.len Hff.out]
      have fund := Tryd.underlying44
      have fsz : f.cells.toArray.size = 237 := by simp [FrD.len Hff.out]
      have fone : f.cells.toArray.all (·.oneCell') = true := FrD.row_one Hff.out
      have fdixA : (Tryd.prog.info? 44).map (·.size) = some f.cells.toArray.size := by rw [fdix]; simp
      have hzf : Tryd.zeroCells44.size = 237 := by rw [zero_frame, FrD.row_size zeroFr_fit]
      obtain ⟨fc, hfc⟩ : ∃ fc, fc = f.cells := ⟨_, rfl⟩
      rw [← hfc] at xf fdix fsz fone fdixA
      have Hfc := Lib.hid hfc
      clear hfc
      go_upto_region 16 with (first | (refine wpList_load_mid rfl 44 _ rfl xb 1 rfl fc _ xf fund rfl fdix ?_) | (refine wpList_store_row rfl 44 _ _ rfl w7.heap.size fc.toArray rfl rfl 44 _ (heap_alloc_new w7 _) fdixA (by rw [fsz, hzf]) fone ?_))
      show Code.wp _ _ _ _ ((w7.alloc (.cells Tryd.zeroCells44 44)).setRow w7.heap.size fc.toArray)
      obtain ⟨hq_w8, hB_w8⟩ := put_new w7 Tryd.zeroCells44 fc.toArray 44
      obtain ⟨fb, hp_w8⟩ : ∃ q, q = w7.heap.size := ⟨_, rfl⟩
      obtain ⟨w8, hw_w8⟩ : ∃ y, y = ((w7.alloc (.cells Tryd.zeroCells44 44)).setRow w7.heap.size fc.toArray) := ⟨_, rfl⟩
      rw [← hw_w8] at hq_w8 hB_w8 ⊢
      rw [← hp_w8] at hq_w8 ⊢
      have HQ_w8 := Lib.hid hq_w8
      have HB_w8 := Lib.hid hB_w8
      have Hp_w8 := Lib.hid hp_w8
      clear hq_w8 hB_w8 hp_w8 hw_w8
      have HB8 := Lib.hid (HB7.out.trans (HB_w8.out.mono HB7.out.size))
      have H8 := Lib.hid (H7.out.below HB_w8.out)
      have Hr8 := Lib.hid (Hr7.out.below HB_w8.out)
      have x0 := (HB_w8.out.cell (p := ⟨xb, 0, none⟩) (heap_lt HQ_w7.out)).trans x0
      have xt := (HB_w8.out.cell (p := ⟨xb, 238, none⟩) (heap_lt HQ_w7.out)).trans xt
      have HQf : Hid (w8.heap[fb]? = some (.cells f.row 44 (0, 0))) := Lib.hid (by have h := HQ_w8.out; rw [Hfc.out] at h; exact h)
      clear xf fdix fund fsz fone fdixA
      by_cases hk1 : kd = 1
      · subst hk1
        go_wp2_with fail
        refine (rtick_any w8 r Bi (Bi - c) Hr8.out).mono ?_
        rintro e w9 ⟨rfl, hr9, hO9⟩
        have H9 := Lib.hid (H8.out.keep (fun y hy => hO9.block y (H8.out.lt y hy) (by simp; exact fun e => HrS.out (e ▸ hy))))
        have HB9 := Lib.hid (HB8.out.trans (hO9.below HB8.out.size (by simp; exact Hrw.out)))
        have Hr9 := Lib.hid hr9
        clear hr9 hO9
        go_wp2_with fail
        go_roundw
        case rel => exact ⟨j + 1, 0, by omega, by omega, by go_num, rfl, by omega, B0, H9.out.less (by omega), by rw [Int.sub_zero]; exact Hr9.out, HB9.out⟩
        case measure => simp [intOf]; omega
      have hk1' : (kd == 1) = false := by simp [hk1]
      by_cases hk3 : kd = 3
      · subst hk3
        have hbs := (Below.refl w8.heap.size w8).alloc (Nat.le_refl _) (.cells #[.string ⟨tx.toArray⟩] 9)
        have hcs : (w8.alloc (.cells #[.string ⟨tx.toArray⟩] 9)).cell? ⟨w8.heap.size, 0, none⟩ = some (.string ⟨tx.toArray⟩) := by rw [Lib.cell_of_heap (heap_alloc_new w8 _)]; rfl
        have hof := Lib.hid (of_hash KK (some ⟨w8.heap.size, 0, none⟩) 1 tx _ ((HL.out.below HB8.out).below hbs) ⟨_, rfl, hcs⟩ (by omega))
        have hh := hashB_length KK tx
        obtain ⟨h, hhh⟩ : ∃ h, h = hashB KK tx := ⟨_, rfl⟩
        rw [← hhh] at hh hof
        have Hhh := Lib.hid hhh
        have HBs := Lib.hid hbs
        have Hh := Lib.hid hh
        clear hbs hcs hhh
        go_wp2_with fail
        refine hof.out.mono ?_
        rintro e w9 ⟨rfl, hbo⟩
        have HBo := Lib.hid (HBs.out.trans (hbo.mono HBs.out.size))
        have HQo := Lib.hid (below_keep HBo.out HQf.out)
        have dixD : (Tryd.prog.info? 23).map (·.size) = some (digV h).size := by rw [dig_info]; simp [digV, byV_length, Hh.out]
        have dszD : (digV h).size = 32 := by simp [digV, byV_length, Hh.out]
        have doneD := digV_one h
        have dth : w9.there fb 102 (digV h).size := fun k hk => by
          have ra := (fr_mem Hff.out HQo.out).out
          have hl : k < (byV f.out).length := by rw [byV_length, Hff.out.lo]; omega
          exact ⟨by rw [ra k _ (List.getElem?_eq_getElem hl)]; rfl, Lib.frozen_of_heap HQo.out _⟩
        have hput := fr_put_out Hff.out h Hh.out HQo.out
        have hO2 : Only [fb] w9 (w9.setCells fb 102 (byV h)) := seg_only (by simp) _ _ _ (Only.refl _ _)
        obtain ⟨f2, hf2⟩ : ∃ f2 : FrD, f2 = { f with out := h } := ⟨_, rfl⟩
        have Hf2f : Hid f2.Fit := Lib.hid (by rw [hf2]; exact fr_out_fit Hff.out h Hh.out)
        rw [← hf2] at hput
        have Hf2 := Lib.hid hf2
        have Hput := Lib.hid hput
        have HO2 := Lib.hid hO2
        obtain ⟨DV, hDV⟩ : ∃ D, D = digV h := ⟨_, rfl⟩
        rw [← hDV] at dixD dszD doneD dth ⊢
        have HDV : Hid (DV.toList = byV h) := Lib.hid (by rw [hDV]; rfl)
        clear hf2 hput hO2 hbo hof hDV
        go_upto_region 21 with (refine wpList_store_mid rfl 23 _ _ rfl fb 102 DV rfl rfl dth dixD doneD ?_)
        rw [HDV.out]
        obtain ⟨w10, hw10⟩ : ∃ y, y = w9.setCells fb 102 (byV h) := ⟨_, rfl⟩
        rw [← hw10] at Hput HO2 ⊢
        clear hw10 dth dixD dszD doneD
        have HB9 := Lib.hid (HB8.out.trans (HBo.out.mono HB8.out.size))
        have Hfw : Hid (w.heap.size ≤ fb) := Lib.hid (by rw [Hp_w8.out]; exact HB7.out.size)
        have HB10 := Lib.hid (HB9.out.trans (HO2.out.below HB9.out.size (by simp; exact Hfw.out)))
        have H10 := Lib.hid ((H8.out.below HBo.out).keep (fun y hy => HO2.out.block y ((H8.out.below HBo.out).lt y hy) (by simp; have := H7.out.lt y hy; have := Hp_w8.out; omega)))
        have Hr10 := Lib.hid ((Hr8.out.below HBo.out).keep (HO2.out.block r (Hr8.out.below HBo.out).lt (by simp; have := Hr7.out.lt; have := Hp_w8.out; omega)))
        have rfs := FrD.row_size Hf2f.out
        have rfi := fr_infoR Hf2f.out
        obtain ⟨R, hR⟩ : ∃ R, R = f2.row := ⟨_, rfl⟩
        have HQR : Hid (w10.heap[fb]? = some (.cells R 44 (0, 0))) := Lib.hid (by rw [hR]; exact Hput.out)
        rw [← hR] at rfs rfi
        have HR := Lib.hid hR
        have hzs : Tryd.zeroCells50.size = 238 := by rw [zero_sent, sentRow_size 0 zeroFr_fit]
        have Hfbn : Hid (fb ∉ r :: S) := Lib.hid (fun hx => by
          have e := Hp_w8.out
          rcases List.mem_cons.1 hx with e2 | hx
          · have := Hr7.out.lt; omega
          · have := H7.out.lt _ hx; omega)
        have hsv := Lib.hid (serve_any KK q S bl r Bi (Bi - c) f2 (900000 - 2 * j - 1) w10 (H10.out.less (by omega)) Hr10.out Hf2f.out (HL.out.below HB10.out) H0S.out HrS.out (by omega) (by omega))
        rw [← HR.out] at hsv
        clear hR
        go_wp2_with (refine wpList_load_row rfl 44 _ rfl fb rfl 44 R (0, 0) _ HQR.out Tryd.underlying44 rfl rfi ?_)
        refine hsv.out.mono ?_
        rintro e w12 ⟨t1, g1, is1, rfl, hs1, h12, hr12, hO12⟩
        have gf1 := hs1.fit Hf2f.out
        have Hs1 := Lib.hid hs1
        have Gf1 := Lib.hid gf1
        have H12 := Lib.hid h12
        have Hr12 := Lib.hid hr12
        have HB12 := Lib.hid (HB10.out.trans (hO12.below HB10.out.size Hlo.out))
        have HQ12 := Lib.hid (hO12.keep HQR.out Hfbn.out)
        have ss1 := sentRow_size t1 gf1
        have so1 := sent_one t1 gf1
        have si1 : (Tryd.prog.info? 50).map (·.size) = some (sentRow t1 g1).size := by rw [ss1]; exact sent_info
        obtain ⟨SR1, hSR1⟩ : ∃ R, R = sentRow t1 g1 := ⟨_, rfl⟩
        rw [← hSR1] at ss1 so1 si1 ⊢
        have HSR1 := Lib.hid hSR1
        clear hs1 h12 hr12 hO12 gf1 hSR1 hsv
        go_upto_region 22 with (first | (refine wpList_store_row rfl 50 _ _ rfl w12.heap.size SR1 rfl rfl 50 _ (heap_alloc_new w12 _) si1 (by rw [ss1, hzs]) so1 ?_))
        show Code.wp _ _ _ _ ((w12.alloc (.cells Tryd.zeroCells50 50)).setRow w12.heap.size SR1)
        obtain ⟨hq_w13, hB_w13⟩ := put_new w12 Tryd.zeroCells50 SR1 50
        obtain ⟨b1, hp_w13⟩ : ∃ q, q = w12.heap.size := ⟨_, rfl⟩
        obtain ⟨w13, hw_w13⟩ : ∃ y, y = ((w12.alloc (.cells Tryd.zeroCells50 50)).setRow w12.heap.size SR1) := ⟨_, rfl⟩
        rw [← hw_w13] at hq_w13 hB_w13 ⊢
        rw [← hp_w13] at hq_w13 ⊢
        have HQ_w13 := Lib.hid hq_w13
        have HB_w13 := Lib.hid hB_w13
        have Hp_w13 := Lib.hid hp_w13
        clear hq_w13 hB_w13 hp_w13 hw_w13
        have H13 := Lib.hid (H12.out.below HB_w13.out)
        have Hr13 := Lib.hid (Hr12.out.below HB_w13.out)
        have HB13 := Lib.hid (HB12.out.trans (HB_w13.out.mono HB12.out.size))
        have HQ13 := Lib.hid (below_keep HB_w13.out HQ12.out)
        have Hb1n : Hid (b1 ∉ S ∧ b1 ≠ r) := Lib.hid ⟨fun hx => by have := H12.out.lt _ hx; have := Hp_w13.out; omega, fun e => by have := Hr12.out.lt; have := Hp_w13.out; omega⟩
        clear ss1 so1 si1 HQ12
        cases is1 with
        | false =>
          have hr16 : RatAt w13 r Bi (Bi - c) := Hr13.out
          have Hr16 := Lib.hid hr16
          clear hr16
          go_wp2_with fail
          go_roundw
          case rel => exact ⟨j + 1, c, by omega, by omega, by go_num, rfl, c0, c1, H13.out.less (by omega), Hr16.out, HB13.out⟩
          case measure => simp [intOf]; omega
        | true =>
          obtain ⟨bb, hok, hbo, hpl, hfd, htt⟩ := serv_true Hs1.out
          have hbm := blobS_mem hbo
          have hb512 := H13.out.small bb hbm.1
          have c2 : c + 1 ≤ Bi := by have := hok.1; omega
          have hr13 : RatAt w13 r Bi (Bi - (c + 1)) := by have h := Hr13.out; rw [show left' (Bi - c) true = Bi - (c + 1) by unfold left'; simp; omega] at h; exact h
          have Hr13b := Lib.hid hr13
          have hwc : IntKind.i64.wrap (c + 1) = c + 1 := IntWalk.i64_in _ (by omega)
          have hwd : IntKind.i64.wrap (Bi - (c + 1)) = Bi - (c + 1) := IntWalk.i64_in _ (by omega)
          have Hbl := Lib.hid (hblob_any KK q S bl f2.out (900000 - 2 * j - 2) w13 (H13.out.less (by omega)) (HL.out.below HB13.out) Hf2f.out.lo)
          have fout := (fr_mem Hf2f.out (by rw [← HR.out]; exact HQ13.out)).out
          have dix : (Tryd.prog.info? 23).map (·.size) = some (byV f2.out).length := by rw [dig_info, byV_length, Hf2f.out.lo]
          have dund := Tryd.underlying23
          have heq : ∀ W : World, (Op.equalIn 10000 23 (.agg (byV f2.out).toArray) (.agg (byV f2.out).toArray)).run Tryd.prog W = .ok true W := fun W => by
            have h := eqIn_dig W f2.out f2.out Hf2f.out.lo Hf2f.out.lo
            rw [show (f2.out == f2.out) = true by simp] at h; exact h
          have Hoc : Hid (hashB KK bb = f2.out) := Lib.hid hbm.2
          have Hbo := Lib.hid hbo
          have Hpl := Lib.hid hpl
          have Hfd := Lib.hid hfd
          have Htt := Lib.hid htt
          obtain ⟨oc, hoc⟩ : ∃ oc, oc = byV f2.out := ⟨_, rfl⟩
          rw [← hoc] at fout dix heq Hbl
          have Hocv := Lib.hid hoc
          clear hok hbo hpl hfd htt hbm hr13 hoc
          go_wp2_with (refine wpList_load_mid rfl 23 _ rfl fb 102 rfl oc _ fout dund rfl dix ?_)
          refine Hbl.out.mono ?_
          rintro e w14 ⟨rfl, h14, hO14⟩
          rw [Hbo.out]
          have H14 := Lib.hid h14
          have HB14 := Lib.hid (HB13.out.trans (hO14.below HB13.out.size Hbig.out))
          have Hr14 := Lib.hid (Hr13b.out.keep (hO14.block r Hr13b.out.lt HrS.out))
          have HQ14 := Lib.hid (hO14.keep HQ13.out (fun hx => Hfbn.out (List.mem_cons_of_mem _ hx)))
          have HS14 := Lib.hid (hO14.keep HQ_w13.out Hb1n.out.1)
          have HO14 := Lib.hid hO14
          have Hma := Lib.hid (mani_any2 KK bb w14 (HL.out.below HB14.out) hb512)
          clear h14 hO14 Hbl fout
          go_wp2_with fail
          refine Hma.out.mono ?_
          rintro e w15 ⟨m2, rfl, hm2, k1, k2, k3, hB15, hup⟩
          have HOwn : Hid (OwnM KK m2 bb) := Lib.hid ⟨k1, k2, k3⟩
          have hmw := hm2.whole
          have hms : m2.row.size = 34 := m2.row_size hmw
          have mone := m2.row_one
          have minf : (Tryd.prog.info? 39).map (·.size) = some m2.row.size := by rw [hms]; exact mani_info
          have Hm2 := Lib.hid hm2
          have HB15 := Lib.hid hB15
          have HB15w := Lib.hid (HB14.out.trans (hB15.mono HB14.out.size))
          obtain ⟨MR, hMR⟩ : ∃ R, R = m2.row := ⟨_, rfl⟩
          rw [← hMR] at hms mone minf ⊢
          have HMR := Lib.hid hMR
          clear hm2 k1 k2 k3 hB15 hup hMR hmw Hma
          go_upto_region 26 with (first | (refine wpList_store_row rfl 39 _ _ rfl w15.heap.size MR rfl rfl 39 _ (heap_alloc_new w15 _) minf (by rw [hms]; rfl) mone ?_))
          show Code.wp _ _ _ _ ((w15.alloc (.cells zeroMani.row 39)).setRow w15.heap.size MR)
          obtain ⟨hq_w16, hB_w16⟩ := put_new w15 zeroMani.row MR 39
          obtain ⟨mb, hp_w16⟩ : ∃ q, q = w15.heap.size := ⟨_, rfl⟩
          obtain ⟨w16, hw_w16⟩ : ∃ y, y = ((w15.alloc (.cells zeroMani.row 39)).setRow w15.heap.size MR) := ⟨_, rfl⟩
          rw [← hw_w16] at hq_w16 hB_w16 ⊢
          rw [← hp_w16] at hq_w16 ⊢
          have HQ_w16 := Lib.hid hq_w16
          have HB_w16 := Lib.hid hB_w16
          have Hp_w16 := Lib.hid hp_w16
          clear hq_w16 hB_w16 hp_w16 hw_w16
          have HB16 := Lib.hid (HB15w.out.trans (HB_w16.out.mono HB15w.out.size))
          have H16 := Lib.hid ((H14.out.below HB15.out).below HB_w16.out)
          have Hr16 := Lib.hid ((Hr14.out.below HB15.out).below HB_w16.out)
          have HQ16 := Lib.hid (below_keep HB_w16.out (below_keep HB15.out HQ14.out))
          have HS16 := Lib.hid (below_keep HB_w16.out (below_keep HB15.out HS14.out))
          have hsn := sn_mem Gf1.out (by rw [← HSR1.out]; exact HS16.out)
          have hfr := fr_mem Hf2f.out (by rw [← HR.out]; exact HQ16.out)
          have rmw : w16.rangeAt mb 0 oc := by
            have h := range_row (m := m2) (by rw [← HMR.out]; exact HQ_w16.out)
            rw [HOwn.out.whole, Hoc.out, ← Hocv.out] at h; exact h
          have rfo : w16.rangeAt fb 102 oc := by rw [Hocv.out]; exact hfr.out
          have rmm : w16.rangeAt mb 0 m2.cells := fun k v hv => by rw [Nat.zero_add, Lib.cell_of_heap HQ_w16.out, HMR.out]; unfold ManiD.row; rw [List.getElem?_toArray]; exact hv
          have s0 := hsn.to_
          have f1 := hfr.from_
          rw [Htt.out] at s0
          have Hsn := Lib.hid hsn
          have Hfrm := Lib.hid hfr
          have Hm16 : Hid (m2.Ok w16 w16.heap.size) := Lib.hid ((Hm2.out.below HB_w16.out (Nat.le_refl _)).more HB_w16.out.size)
          obtain ⟨fx, hfx⟩ : ∃ x, x = f2.from_ := ⟨_, rfl⟩
          rw [← hfx] at s0 f1
          clear hsn hfr hms mone minf hfx
          have HLx := Lib.hid (HL.out.below HB16.out)
          have Ho46 : Hid (Only S w12 w16) := Lib.hid ((((Only.of_below HB_w13.out).trans HO14.out).trans (Only.of_below HB15.out)).trans (Only.of_below HB_w16.out))
          have Hf16 : Hid (FoundIs KK w10.heap.size bb f2 w16 g1 true) := Lib.hid (Hfd.out.only Ho46.out (fun y hy => H10.out.lt y hy))
          go_upto_region 28 with (first
            | (refine wpList_load_midG (by kernel_rfl) 23 _ rfl mb 0 rfl oc _ rmw dund rfl dix ?_)
            | (refine wpList_load_midG (by kernel_rfl) 23 _ rfl fb 102 rfl oc _ rfo dund rfl dix ?_))
          have fdixm : (Tryd.prog.info? 39).map (·.size) = some m2.cells.length := by rw [mani_cells_len _ Hm2.out.whole]; exact mani_info
          have mund := Tryd.underlying39
          have hr2 : m2.row = m2.cells.toArray := rfl
          by_cases ha1 : f2.at_ = -1
          · obtain ⟨m1, eg, ho1, hk1, -⟩ := found_mani Hf16.out ha1
            have s1 : w16.cell? ⟨b1, 1, none⟩ = some (.int .i64 7) := by have h := Hsn.out.kind; rw [eg] at h; exact h
            have sm : w16.rangeAt b1 201 m1.cells := by have h := Hsn.out.mani; rw [eg] at h; exact h
            have fat : w16.cell? ⟨fb, 134, none⟩ = some (.int .i64 (-1)) := by have h := Hfrm.out.at_; rw [ha1] at h; exact h
            have fdix1 : (Tryd.prog.info? 39).map (·.size) = some m1.cells.length := by rw [mani_cells_len _ hk1.whole]; exact mani_info
            have hsm : sameM m1 m2 = true := by unfold sameM; rw [ho1.whole, HOwn.out.whole, ho1.size, HOwn.out.size, ho1.parts, HOwn.out.parts]; simp
            have hmc := msame_any m1 m2 w16 hk1 Hm16.out
            rw [hsm] at hmc
            have hr1 : m1.row = m1.cells.toArray := rfl
            rw [hr1, hr2] at hmc
            have Hmc := Lib.hid hmc
            obtain ⟨mc1, hmc1⟩ : ∃ c, c = m1.cells := ⟨_, rfl⟩
            obtain ⟨mc2, hmc2⟩ : ∃ c, c = m2.cells := ⟨_, rfl⟩
            rw [← hmc1] at sm fdix1 Hmc
            rw [← hmc2] at rmm fdixm Hmc
            clear hmc hsm hr1 hr2 hmc1 hmc2 eg ho1 hk1 rmw rfo
            go_wp2_with (first
              | (refine wpList_load_midG (by kernel_rfl) 39 _ rfl b1 201 rfl mc1 _ sm mund rfl fdix1 ?_)
              | (refine wpList_load_midG (by kernel_rfl) 39 _ rfl mb 0 rfl mc2 _ rmm mund rfl fdixm ?_))
            refine Hmc.out.mono ?_
            rintro e w17 ⟨rfl, hB17⟩
            have fat := (hB17.cell (p := ⟨fb, 134, none⟩) (heap_lt HQ16.out)).trans fat
            have Hr17 := Lib.hid (Hr16.out.below hB17)
            have H17 := Lib.hid (H16.out.below hB17)
            have HB17 := Lib.hid (HB16.out.trans (hB17.mono HB16.out.size))
            clear hB17
            go_wp2_with fail
            refine (rleft_any w17 r Bi (Bi - (c + 1)) Hr17.out).mono ?_
            rintro e w18 ⟨rfl, hw18⟩
            subst hw18
            go_wp2_with fail
            go_roundw
            case rel => exact ⟨j + 1, c + 1, by omega, by omega, by go_num, by go_num, by omega, c2, H17.out.less (by omega), Hr17.out, HB17.out⟩
            case measure => simp [intOf]; omega
          · obtain ⟨i0, i1⟩ : 0 ≤ f2.at_ ∧ f2.at_ < (chunks bb).length := by rcases Hpl.out with h | h; exact absurd h ha1; exact h
            obtain ⟨k, hk⟩ : ∃ k : Nat, f2.at_ = (k : Int) := ⟨f2.at_.toNat, by omega⟩
            have hkl : k < (chunks bb).length := by omega
            have hk8 : k < 8 := by rw [chunks_length] at hkl; omega
            have eg := found_part Hf16.out k hk
            obtain ⟨ai, hai⟩ : ∃ x, x = f2.at_ := ⟨_, rfl⟩
            obtain ⟨tx2, htx2⟩ : ∃ x, x = chunk bb k := ⟨_, rfl⟩
            have s1 : w16.cell? ⟨b1, 1, none⟩ = some (.int .i64 8) := by have h := Hsn.out.kind; rw [eg] at h; exact h
            have so : w16.rangeAt b1 103 oc := by have h := Hsn.out.out; rw [eg] at h; rw [Hocv.out]; exact h
            have sat : w16.cell? ⟨b1, 135, none⟩ = some (.int .i64 ai) := by have h := Hsn.out.at_; rw [eg] at h; rw [hai]; exact h
            have sdt : w16.cell? ⟨b1, 136, none⟩ = some (.string ⟨tx2.toArray⟩) := by have h := Hsn.out.data; rw [eg] at h; rw [htx2]; exact h
            have fat : w16.cell? ⟨fb, 134, none⟩ = some (.int .i64 ai) := by have h := Hfrm.out.at_; rw [hai]; exact h
            have hf := HOwn.out.fits_own hb512 k hkl
            have hfc := fits_any KK m2 (k : Int) (chunk bb k) w16 HLx.out Hm16.out (by omega) (by omega) (by simp only [chunk, List.length_take]; omega)
            rw [hf] at hfc
            rw [← htx2, ← hk, ← hai, hr2] at hfc
            have Hfc2 := Lib.hid hfc
            have a1 : (ai == -1) = false := by rw [hai]; simpa using ha1
            have a0 : 0 ≤ ai := by rw [hai]; exact i0
            obtain ⟨mc2, hmc2⟩ : ∃ c, c = m2.cells := ⟨_, rfl⟩
            rw [← hmc2] at rmm fdixm Hfc2
            clear hfc hf hr2 hmc2 eg hk hkl hk8 hai htx2 ha1 i0 i1 rmw
            go_wp2_with (first
              | (with_reducible refine wpList_load_midG (by kernel_rfl) 23 _ rfl b1 103 (by with_unfolding_all rfl) oc _ so dund rfl dix ?_)
              | (with_reducible refine wpList_load_midG (by kernel_rfl) 23 _ rfl fb 102 (by with_unfolding_all rfl) oc _ rfo dund rfl dix ?_)
              | (with_reducible refine wpList_load_midG (by kernel_rfl) 39 _ rfl mb 0 (by with_unfolding_all rfl) mc2 _ rmm mund rfl fdixm ?_))
            refine Hfc2.out.mono ?_
            rintro e w17 ⟨rfl, hB17⟩
            have Hr17 := Lib.hid (Hr16.out.below hB17)
            have H17 := Lib.hid (H16.out.below hB17)
            have HB17 := Lib.hid (HB16.out.trans (hB17.mono HB16.out.size))
            clear hB17
            go_wp2_with fail
            refine (rleft_any w17 r Bi (Bi - (c + 1)) Hr17.out).mono ?_
            rintro e w18 ⟨rfl, hw18⟩
            subst hw18
            go_wp2_with fail
            go_roundw
            case rel => exact ⟨j + 1, c + 1, by omega, by omega, by go_num, by go_num, by omega, c2, H17.out.less (by omega), Hr17.out, HB17.out⟩
            case measure => simp [intOf]; omega
      · have hk3' : (kd == 3) = false := by simp [hk3]
        have rfs := FrD.row_size Hff.out
        have rfi := fr_infoR Hff.out
        obtain ⟨R, hR⟩ : ∃ R, R = f.row := ⟨_, rfl⟩
        have HQR : Hid (w8.heap[fb]? = some (.cells R 44 (0, 0))) := Lib.hid (by rw [hR]; exact HQf.out)
        rw [← hR] at rfs rfi
        have HR := Lib.hid hR
        have hzs : Tryd.zeroCells50.size = 238 := by rw [zero_sent, sentRow_size 0 zeroFr_fit]
        have Hfbn : Hid (fb ∉ r :: S) := Lib.hid (fun hx => by
          have e := Hp_w8.out
          rcases List.mem_cons.1 hx with e2 | hx
          · have := Hr7.out.lt; omega
          · have := H7.out.lt _ hx; omega)
        have hsv := Lib.hid (serve_any KK q S bl r Bi (Bi - c) f (900000 - 2 * j - 1) w8 (H8.out.less (by omega)) Hr8.out Hff.out (HL.out.below HB8.out) H0S.out HrS.out (by omega) (by omega))
        rw [← HR.out] at hsv
        clear hR
        go_wp2_with (refine wpList_load_row rfl 44 _ rfl fb rfl 44 R (0, 0) _ HQR.out Tryd.underlying44 rfl rfi ?_)
        refine hsv.out.mono ?_
        rintro e w12 ⟨t1, g1, is1, rfl, hs1, h12, hr12, hO12⟩
        have gf1 := hs1.fit Hff.out
        have Hs1 := Lib.hid hs1
        have Gf1 := Lib.hid gf1
        have H12 := Lib.hid h12
        have Hr12 := Lib.hid hr12
        have HB12 := Lib.hid (HB8.out.trans (hO12.below HB8.out.size Hlo.out))
        have HQ12 := Lib.hid (hO12.keep HQR.out Hfbn.out)
        have ss1 := sentRow_size t1 gf1
        have so1 := sent_one t1 gf1
        have si1 : (Tryd.prog.info? 50).map (·.size) = some (sentRow t1 g1).size := by rw [ss1]; exact sent_info
        obtain ⟨SR1, hSR1⟩ : ∃ R, R = sentRow t1 g1 := ⟨_, rfl⟩
        rw [← hSR1] at ss1 so1 si1 ⊢
        have HSR1 := Lib.hid hSR1
        clear hs1 h12 hr12 hO12 gf1 hSR1 hsv
        go_upto_region 22 with (first | (refine wpList_store_row rfl 50 _ _ rfl w12.heap.size SR1 rfl rfl 50 _ (heap_alloc_new w12 _) si1 (by rw [ss1, hzs]) so1 ?_))
        show Code.wp _ _ _ _ ((w12.alloc (.cells Tryd.zeroCells50 50)).setRow w12.heap.size SR1)
        obtain ⟨hq_w13, hB_w13⟩ := put_new w12 Tryd.zeroCells50 SR1 50
        obtain ⟨b1, hp_w13⟩ : ∃ q, q = w12.heap.size := ⟨_, rfl⟩
        obtain ⟨w13, hw_w13⟩ : ∃ y, y = ((w12.alloc (.cells Tryd.zeroCells50 50)).setRow w12.heap.size SR1) := ⟨_, rfl⟩
        rw [← hw_w13] at hq_w13 hB_w13 ⊢
        rw [← hp_w13] at hq_w13 ⊢
        have HQ_w13 := Lib.hid hq_w13
        have HB_w13 := Lib.hid hB_w13
        have Hp_w13 := Lib.hid hp_w13
        clear hq_w13 hB_w13 hp_w13 hw_w13
        have H13 := Lib.hid (H12.out.below HB_w13.out)
        have Hr13 := Lib.hid (Hr12.out.below HB_w13.out)
        have HB13 := Lib.hid (HB12.out.trans (HB_w13.out.mono HB12.out.size))
        have HQ13 := Lib.hid (below_keep HB_w13.out HQ12.out)
        have Hb1n : Hid (b1 ∉ S ∧ b1 ≠ r) := Lib.hid ⟨fun hx => by have := H12.out.lt _ hx; have := Hp_w13.out; omega, fun e => by have := Hr12.out.lt; have := Hp_w13.out; omega⟩
        clear ss1 so1 si1 HQ12
        cases is1 with
        | false =>
          have hr16 : RatAt w13 r Bi (Bi - c) := Hr13.out
          have Hr16 := Lib.hid hr16
          clear hr16
          go_wp2_with fail
          go_roundw
          case rel => exact ⟨j + 1, c, by omega, by omega, by go_num, rfl, c0, c1, H13.out.less (by omega), Hr16.out, HB13.out⟩
          case measure => simp [intOf]; omega
        | true =>
          obtain ⟨bb, hok, hbo, hpl, hfd, htt⟩ := serv_true Hs1.out
          have hbm := blobS_mem hbo
          have hb512 := H13.out.small bb hbm.1
          have c2 : c + 1 ≤ Bi := by have := hok.1; omega
          have hr13 : RatAt w13 r Bi (Bi - (c + 1)) := by have h := Hr13.out; rw [show left' (Bi - c) true = Bi - (c + 1) by unfold left'; simp; omega] at h; exact h
          have Hr13b := Lib.hid hr13
          have hwc : IntKind.i64.wrap (c + 1) = c + 1 := IntWalk.i64_in _ (by omega)
          have hwd : IntKind.i64.wrap (Bi - (c + 1)) = Bi - (c + 1) := IntWalk.i64_in _ (by omega)
          have Hbl := Lib.hid (hblob_any KK q S bl f.out (900000 - 2 * j - 2) w13 (H13.out.less (by omega)) (HL.out.below HB13.out) Hff.out.lo)
          have fout := (fr_mem Hff.out (by rw [← HR.out]; exact HQ13.out)).out
          have dix : (Tryd.prog.info? 23).map (·.size) = some (byV f.out).length := by rw [dig_info, byV_length, Hff.out.lo]
          have dund := Tryd.underlying23
          have heq : ∀ W : World, (Op.equalIn 10000 23 (.agg (byV f.out).toArray) (.agg (byV f.out).toArray)).run Tryd.prog W = .ok true W := fun W => by
            have h := eqIn_dig W f.out f.out Hff.out.lo Hff.out.lo
            rw [show (f.out == f.out) = true by simp] at h; exact h
          have Hoc : Hid (hashB KK bb = f.out) := Lib.hid hbm.2
          have Hbo := Lib.hid hbo
          have Hpl := Lib.hid hpl
          have Hfd := Lib.hid hfd
          have Htt := Lib.hid htt
          obtain ⟨oc, hoc⟩ : ∃ oc, oc = byV f.out := ⟨_, rfl⟩
          rw [← hoc] at fout dix heq Hbl
          have Hocv := Lib.hid hoc
          clear hok hbo hpl hfd htt hbm hr13 hoc
          go_wp2_with (refine wpList_load_mid rfl 23 _ rfl fb 102 rfl oc _ fout dund rfl dix ?_)
          refine Hbl.out.mono ?_
          rintro e w14 ⟨rfl, h14, hO14⟩
          rw [Hbo.out]
          have H14 := Lib.hid h14
          have HB14 := Lib.hid (HB13.out.trans (hO14.below HB13.out.size Hbig.out))
          have Hr14 := Lib.hid (Hr13b.out.keep (hO14.block r Hr13b.out.lt HrS.out))
          have HQ14 := Lib.hid (hO14.keep HQ13.out (fun hx => Hfbn.out (List.mem_cons_of_mem _ hx)))
          have HS14 := Lib.hid (hO14.keep HQ_w13.out Hb1n.out.1)
          have HO14 := Lib.hid hO14
          have Hma := Lib.hid (mani_any2 KK bb w14 (HL.out.below HB14.out) hb512)
          clear h14 hO14 Hbl fout
          go_wp2_with fail
          refine Hma.out.mono ?_
          rintro e w15 ⟨m2, rfl, hm2, k1, k2, k3, hB15, hup⟩
          have HOwn : Hid (OwnM KK m2 bb) := Lib.hid ⟨k1, k2, k3⟩
          have hmw := hm2.whole
          have hms : m2.row.size = 34 := m2.row_size hmw
          have mone := m2.row_one
          have minf : (Tryd.prog.info? 39).map (·.size) = some m2.row.size := by rw [hms]; exact mani_info
          have Hm2 := Lib.hid hm2
          have HB15 := Lib.hid hB15
          have HB15w := Lib.hid (HB14.out.trans (hB15.mono HB14.out.size))
          obtain ⟨MR, hMR⟩ : ∃ R, R = m2.row := ⟨_, rfl⟩
          rw [← hMR] at hms mone minf ⊢
          have HMR := Lib.hid hMR
          clear hm2 k1 k2 k3 hB15 hup hMR hmw Hma
          go_upto_region 26 with (first | (refine wpList_store_row rfl 39 _ _ rfl w15.heap.size MR rfl rfl 39 _ (heap_alloc_new w15 _) minf (by rw [hms]; rfl) mone ?_))
          show Code.wp _ _ _ _ ((w15.alloc (.cells zeroMani.row 39)).setRow w15.heap.size MR)
          obtain ⟨hq_w16, hB_w16⟩ := put_new w15 zeroMani.row MR 39
          obtain ⟨mb, hp_w16⟩ : ∃ q, q = w15.heap.size := ⟨_, rfl⟩
          obtain ⟨w16, hw_w16⟩ : ∃ y, y = ((w15.alloc (.cells zeroMani.row 39)).setRow w15.heap.size MR) := ⟨_, rfl⟩
          rw [← hw_w16] at hq_w16 hB_w16 ⊢
          rw [← hp_w16] at hq_w16 ⊢
          have HQ_w16 := Lib.hid hq_w16
          have HB_w16 := Lib.hid hB_w16
          have Hp_w16 := Lib.hid hp_w16
          clear hq_w16 hB_w16 hp_w16 hw_w16
          have HB16 := Lib.hid (HB15w.out.trans (HB_w16.out.mono HB15w.out.size))
          have H16 := Lib.hid ((H14.out.below HB15.out).below HB_w16.out)
          have Hr16 := Lib.hid ((Hr14.out.below HB15.out).below HB_w16.out)
          have HQ16 := Lib.hid (below_keep HB_w16.out (below_keep HB15.out HQ14.out))
          have HS16 := Lib.hid (below_keep HB_w16.out (below_keep HB15.out HS14.out))
          have hsn := sn_mem Gf1.out (by rw [← HSR1.out]; exact HS16.out)
          have hfr := fr_mem Hff.out (by rw [← HR.out]; exact HQ16.out)
          have rmw : w16.rangeAt mb 0 oc := by
            have h := range_row (m := m2) (by rw [← HMR.out]; exact HQ_w16.out)
            rw [HOwn.out.whole, Hoc.out, ← Hocv.out] at h; exact h
          have rfo : w16.rangeAt fb 102 oc := by rw [Hocv.out]; exact hfr.out
          have rmm : w16.rangeAt mb 0 m2.cells := fun k v hv => by rw [Nat.zero_add, Lib.cell_of_heap HQ_w16.out, HMR.out]; unfold ManiD.row; rw [List.getElem?_toArray]; exact hv
          have s0 := hsn.to_
          have f1 := hfr.from_
          rw [Htt.out] at s0
          have Hsn := Lib.hid hsn
          have Hfrm := Lib.hid hfr
          have Hm16 : Hid (m2.Ok w16 w16.heap.size) := Lib.hid ((Hm2.out.below HB_w16.out (Nat.le_refl _)).more HB_w16.out.size)
          obtain ⟨fx, hfx⟩ : ∃ x, x = f.from_ := ⟨_, rfl⟩
          rw [← hfx] at s0 f1
          clear hsn hfr hms mone minf hfx
          have HLx := Lib.hid (HL.out.below HB16.out)
          have Ho46 : Hid (Only S w12 w16) := Lib.hid ((((Only.of_below HB_w13.out).trans HO14.out).trans (Only.of_below HB15.out)).trans (Only.of_below HB_w16.out))
          have Hf16 : Hid (FoundIs KK w8.heap.size bb f w16 g1 true) := Lib.hid (Hfd.out.only Ho46.out (fun y hy => H8.out.lt y hy))
          go_upto_region 28 with (first
            | (refine wpList_load_midG (by kernel_rfl) 23 _ rfl mb 0 rfl oc _ rmw dund rfl dix ?_)
            | (refine wpList_load_midG (by kernel_rfl) 23 _ rfl fb 102 rfl oc _ rfo dund rfl dix ?_))
          have fdixm : (Tryd.prog.info? 39).map (·.size) = some m2.cells.length := by rw [mani_cells_len _ Hm2.out.whole]; exact mani_info
          have mund := Tryd.underlying39
          have hr2 : m2.row = m2.cells.toArray := rfl
          by_cases ha1 : f.at_ = -1
          · obtain ⟨m1, eg, ho1, hk1, -⟩ := found_mani Hf16.out ha1
            have s1 : w16.cell? ⟨b1, 1, none⟩ = some (.int .i64 7) := by have h := Hsn.out.kind; rw [eg] at h; exact h
            have sm : w16.rangeAt b1 201 m1.cells := by have h := Hsn.out.mani; rw [eg] at h; exact h
            have fat : w16.cell? ⟨fb, 134, none⟩ = some (.int .i64 (-1)) := by have h := Hfrm.out.at_; rw [ha1] at h; exact h
            have fdix1 : (Tryd.prog.info? 39).map (·.size) = some m1.cells.length := by rw [mani_cells_len _ hk1.whole]; exact mani_info
            have hsm : sameM m1 m2 = true := by unfold sameM; rw [ho1.whole, HOwn.out.whole, ho1.size, HOwn.out.size, ho1.parts, HOwn.out.parts]; simp
            have hmc := msame_any m1 m2 w16 hk1 Hm16.out
            rw [hsm] at hmc
            have hr1 : m1.row = m1.cells.toArray := rfl
            rw [hr1, hr2] at hmc
            have Hmc := Lib.hid hmc
            obtain ⟨mc1, hmc1⟩ : ∃ c, c = m1.cells := ⟨_, rfl⟩
            obtain ⟨mc2, hmc2⟩ : ∃ c, c = m2.cells := ⟨_, rfl⟩
            rw [← hmc1] at sm fdix1 Hmc
            rw [← hmc2] at rmm fdixm Hmc
            clear hmc hsm hr1 hr2 hmc1 hmc2 eg ho1 hk1 rmw rfo
            go_wp2_with (first
              | (refine wpList_load_midG (by kernel_rfl) 39 _ rfl b1 201 rfl mc1 _ sm mund rfl fdix1 ?_)
              | (refine wpList_load_midG (by kernel_rfl) 39 _ rfl mb 0 rfl mc2 _ rmm mund rfl fdixm ?_))
            refine Hmc.out.mono ?_
            rintro e w17 ⟨rfl, hB17⟩
            have fat := (hB17.cell (p := ⟨fb, 134, none⟩) (heap_lt HQ16.out)).trans fat
            have Hr17 := Lib.hid (Hr16.out.below hB17)
            have H17 := Lib.hid (H16.out.below hB17)
            have HB17 := Lib.hid (HB16.out.trans (hB17.mono HB16.out.size))
            clear hB17
            go_wp2_with fail
            refine (rleft_any w17 r Bi (Bi - (c + 1)) Hr17.out).mono ?_
            rintro e w18 ⟨rfl, hw18⟩
            subst hw18
            go_wp2_with fail
            go_roundw
            case rel => exact ⟨j + 1, c + 1, by omega, by omega, by go_num, by go_num, by omega, c2, H17.out.less (by omega), Hr17.out, HB17.out⟩
            case measure => simp [intOf]; omega
          · obtain ⟨i0, i1⟩ : 0 ≤ f.at_ ∧ f.at_ < (chunks bb).length := by rcases Hpl.out with h | h; exact absurd h ha1; exact h
            obtain ⟨k, hk⟩ : ∃ k : Nat, f.at_ = (k : Int) := ⟨f.at_.toNat, by omega⟩
            have hkl : k < (chunks bb).length := by omega
            have hk8 : k < 8 := by rw [chunks_length] at hkl; omega
            have eg := found_part Hf16.out k hk
            obtain ⟨ai, hai⟩ : ∃ x, x = f.at_ := ⟨_, rfl⟩
            obtain ⟨tx2, htx2⟩ : ∃ x, x = chunk bb k := ⟨_, rfl⟩
            have s1 : w16.cell? ⟨b1, 1, none⟩ = some (.int .i64 8) := by have h := Hsn.out.kind; rw [eg] at h; exact h
            have so : w16.rangeAt b1 103 oc := by have h := Hsn.out.out; rw [eg] at h; rw [Hocv.out]; exact h
            have sat : w16.cell? ⟨b1, 135, none⟩ = some (.int .i64 ai) := by have h := Hsn.out.at_; rw [eg] at h; rw [hai]; exact h
            have sdt : w16.cell? ⟨b1, 136, none⟩ = some (.string ⟨tx2.toArray⟩) := by have h := Hsn.out.data; rw [eg] at h; rw [htx2]; exact h
            have fat : w16.cell? ⟨fb, 134, none⟩ = some (.int .i64 ai) := by have h := Hfrm.out.at_; rw [hai]; exact h
            have hf := HOwn.out.fits_own hb512 k hkl
            have hfc := fits_any KK m2 (k : Int) (chunk bb k) w16 HLx.out Hm16.out (by omega) (by omega) (by simp only [chunk, List.length_take]; omega)
            rw [hf] at hfc
            rw [← htx2, ← hk, ← hai, hr2] at hfc
            have Hfc2 := Lib.hid hfc
            have a1 : (ai == -1) = false := by rw [hai]; simpa using ha1
            have a0 : 0 ≤ ai := by rw [hai]; exact i0
            obtain ⟨mc2, hmc2⟩ : ∃ c, c = m2.cells := ⟨_, rfl⟩
            rw [← hmc2] at rmm fdixm Hfc2
            clear hfc hf hr2 hmc2 eg hk hkl hk8 hai htx2 ha1 i0 i1 rmw
            go_wp2_with (first
              | (with_reducible refine wpList_load_midG (by kernel_rfl) 23 _ rfl b1 103 (by with_unfolding_all rfl) oc _ so dund rfl dix ?_)
              | (with_reducible refine wpList_load_midG (by kernel_rfl) 23 _ rfl fb 102 (by with_unfolding_all rfl) oc _ rfo dund rfl dix ?_)
              | (with_reducible refine wpList_load_midG (by kernel_rfl) 39 _ rfl mb 0 (by with_unfolding_all rfl) mc2 _ rmm mund rfl fdixm ?_))
            refine Hfc2.out.mono ?_
            rintro e w17 ⟨rfl, hB17⟩
            have Hr17 := Lib.hid (Hr16.out.below hB17)
            have H17 := Lib.hid (H16.out.below hB17)
            have HB17 := Lib.hid (HB16.out.trans (hB17.mono HB16.out.size))
            clear hB17
            go_wp2_with fail
            refine (rleft_any w17 r Bi (Bi - (c + 1)) Hr17.out).mono ?_
            rintro e w18 ⟨rfl, hw18⟩
            subst hw18
            go_wp2_with fail
            go_roundw
            case rel => exact ⟨j + 1, c + 1, by omega, by omega, by go_num, by go_num, by omega, c2, H17.out.less (by omega), Hr17.out, HB17.out⟩
            case measure => simp [intOf]; omega
    · have key : ((j : Int) < (n : Int) ∧ ¬ ((j : Int) < 100)) ∨ ¬ ((j : Int) < (n : Int)) := by omega
      clear hjj
      rcases key with ⟨j1, j2⟩ | j1
      all_goals
        have hbz := built_ask1
        have afit : (askF 1 (List.replicate 32 0) (-1)).Fit := askF_fit _ _ _ (by decide)
        have hsn := Lib.hid (fun W => serve_none (.pointer (some ⟨q.p, 0, none⟩)) (askF 1 (List.replicate 32 0) (-1)) W afit)
        have zs := sentRow_size 0 zeroFr_fit
        have zo := sent_one 0 zeroFr_fit
        have zi : (Tryd.prog.info? 50).map (·.size) = some (sentRow 0 zeroFr).size := by rw [zs]; exact sent_info
        have hzs : Tryd.zeroCells50.size = 238 := by rw [zero_sent, sentRow_size 0 zeroFr_fit]
        obtain ⟨FR, hFR⟩ : ∃ R, R = (askF 1 (List.replicate 32 0) (-1)).row := ⟨_, rfl⟩
        obtain ⟨ZR, hZR⟩ : ∃ R, R = sentRow 0 zeroFr := ⟨_, rfl⟩
        rw [← hFR] at hbz hsn
        rw [← hZR] at hsn zs zo zi
        clear hFR hZR afit
        go_wp2_with fail
        refine (rtick_none wr).mono ?_
        rintro e w5 ⟨rfl, hw5⟩
        subst hw5
        go_wp2_with (refine wpList_build3 rfl 44 _ _ _ _ _ _ rfl _ _ _ rfl rfl rfl FR hbz ?_)
        refine (hsn.out w5).mono ?_
        rintro e w6 ⟨rfl, hB6⟩
        have HB6 := Lib.hid (Hb.out.trans (hB6.mono Hb.out.size))
        clear hB6 hsn
        go_upto_region 35 with (first | (refine wpList_store_row rfl 50 _ _ rfl w6.heap.size ZR rfl rfl 50 _ (heap_alloc_new w6 _) zi (by rw [zs, hzs]) zo ?_))
        show Code.wp _ _ _ _ ((w6.alloc (.cells Tryd.zeroCells50 50)).setRow w6.heap.size ZR)
        obtain ⟨hq_w7, hB_w7⟩ := put_new w6 Tryd.zeroCells50 ZR 50
        obtain ⟨zb, hp_w7⟩ : ∃ q, q = w6.heap.size := ⟨_, rfl⟩
        obtain ⟨w7, hw_w7⟩ : ∃ y, y = ((w6.alloc (.cells Tryd.zeroCells50 50)).setRow w6.heap.size ZR) := ⟨_, rfl⟩
        rw [← hw_w7] at hq_w7 hB_w7 ⊢
        rw [← hp_w7] at hq_w7 ⊢
        have HQ_w7 := Lib.hid hq_w7
        have HB_w7 := Lib.hid hB_w7
        have Hp_w7 := Lib.hid hp_w7
        clear hq_w7 hB_w7 hp_w7 hw_w7
        go_wp2_with fail
        refine (rleft_none w7).mono ?_
        rintro e w8 ⟨rfl, hw8⟩
        subst hw8
        go_wp2_with fail
        go_ret
        exact ⟨rfl, HB6.out.trans (HB_w7.out.mono HB6.out.size)⟩
namespace RationBoundsLaw
open Go.ChangeShapes Go.WideShapes Go.ChangeAt
open Go.ChangeMaps (open_string shut_string)
set_option maxRecDepth 100000 in
theorem contract (H : Type) (enc : TypeId × Value → H) (W : World) (base : Nat) (args : Array Value) (ds gs : List (DataW H)) (before : List MemPlace)
    (hval : ∀ (j : Nat) t v, Tryd.f6.params[j]? = some t → args[j]? = some v → Value.okWide Tryd.prog W .any base t v)
    (hW : DataW.Whole enc Tryd.prog Tryd.f6.params.toList Rows.rationBoundsSpec.vars false W args.toList ds gs before) (hsz0 : (DataW.weightsEach Tryd.prog (Tryd.f6.params.toList ++ Rows.rationBoundsSpec.plain.varTypes Tryd.prog) (ds ++ gs)).all (· ≤ reachBytes) = true) (hLd : laidMetH Tryd.prog laid1 W) :
    Calls Tryd.prog 6 args W fun e W' => ∃ v, e = .returned v ∧ Rows.rationBoundsSpec.post enc Tryd.prog Tryd.f6 false true false false W args v W' := by
  have hW' := hW
  obtain ⟨p, q, hA0, hV, rfl, hfz, hnd⟩ := hW
  have hA : DataW.TrodAll enc Tryd.prog W 0 (fun _ => true) true Tryd.f6.params.toList args.toList ds p := hA0
  rw [Tryd.params6] at hA hval
  obtain ⟨v0, vs0, d0, ds0, p0, q0, hargs, rfl, rfl, h0, r0⟩ := trodAll_cons hA
  obtain ⟨v1, vs1, d1, ds1, p1, q1, rfl, rfl, rfl, h1, r1⟩ := trodAll_cons r0
  obtain ⟨v2, vs2, d2, ds2, p2, q2, rfl, rfl, rfl, h2, r2⟩ := trodAll_cons r1
  obtain ⟨rfl, rfl, rfl⟩ := trodAll_nil r2
  obtain rfl : args = #[v0, v1, v2] := by cases args; simp_all
  obtain ⟨rfl, rfl⟩ := trodVars_none hV
  obtain ⟨A0, c0, x0, rfl, hS0, hl0, he0, hb0⟩ := open_strs Tryd.underlying54 Tryd.underlying9 (by kernel_rfl) (hval 0 54 v0 rfl rfl) h0
  obtain ⟨x1, rfl, hd1, _, w1⟩ := open_int Tryd.underlying3 (hval 1 3 v1 rfl rfl) h1
  obtain ⟨A2, c2, x2, rfl, hS2, hl2⟩ := open_actsG (hval 2 59 v2 rfl rfl) h2
  refine (rationBounds_core A0 c0 x0 x1 A2 c2 x2 W (of_laid hLd) hS0 hl0 he0 (wf_bounds w1).1 (wf_bounds w1).2 hS2 hl2).mono fun e W' ⟨he, hg⟩ => ?_
  subst he
  exact ⟨_, rfl, law_post (tb := 4) laidOut_ (of_decide_eq_true (by kernel_rfl)) Tryd.underlying4 (by kernel_rfl) rfl rfl hW' hg⟩

theorem door_met (os : Os) (args : Array Value) : laidMetH Tryd.prog laid1 ((World.doorLaid Tryd.prog 400 os).forCall (fun _ _ => 0) ⟨#[], args, []⟩).memory :=
  laidMetH_of_parts3 (fuel := 8) (laidMet_of_run' 8 (by kernel_rfl) (by kernel_rfl)) (by kernel_rfl) (by kernel_rfl)

set_option maxRecDepth 100000 in
theorem lifted (os : Os) (started : os.Started) (H : Type) (enc : TypeId × Value → H) :
    ReturnsInHanded {} Tryd.checked os 6 .any (fun w args => (Rows.rationBoundsSpec.pre enc Tryd.prog Tryd.f6 [] false w args ∧ laidMetH Tryd.prog laid1 w) ∧ sizedMet enc Tryd.prog Tryd.f6 (OpenSpec.ofChange Rows.rationBoundsSpec) false w args)
      (Rows.rationBoundsSpec.post enc Tryd.prog Tryd.f6 false true false false) := by
  refine returnsInHanded_of_change_and (C := Tryd.checked) (X := fun w _ => laidMetH Tryd.prog laid1 w) (fun _ _ _ hh h => h.of_heap hh) ownKnob_ started (by kernel_rfl) Tryd.func6
    (ChangeSpec.witness_shaped (enc := enc) (C := Tryd.checked) (os := os) (X := fun w _ => laidMetH Tryd.prog laid1 w) false (World.doorLaid Tryd.prog 400 os) #[.slice none 0 0, .int .i64 0, .slice none 0 0] 8 rfl (World.shaped_of_RefB (by kernel_rfl) (by kernel_rfl)) (by kernel_rfl) (by kernel_rfl) (by kernel_rfl) (door_met os _)) ?_
  intro W base args ds gs before hval hW _ hsz hLd _
  exact contract H enc W base args ds gs before hval hW hsz hLd

theorem said : Rows.RationBoundsSaid :=
  OpenClaim.holds_of_wide 6 Tryd.f6 rfl rfl rfl rfl rfl rfl rfl ⟨rfl, rfl, rfl, rfl, rfl⟩ rfl rfl rfl rfl rfl (by kernel_rfl) Tryd.func6 (by kernel_rfl)
    (of_decide_eq_true (by kernel_rfl)) (by unfold Func.isWrapper; first | (rw [if_pos (by decide +kernel)]; kernel_rfl) | (rw [if_neg (by decide +kernel)]; exact ⟨rfl, rfl⟩))
    (fun os started H enc _ => lifted os started H enc)

theorem proved : Rows.RationBoundsCardSaid :=
  Claim7.holds_tied_plain_at .later [] [.data] true Rows.rationBoundsCard.stood.harness false
    said (fun _ h => by cases h) (by kernel_rfl) (fun _ h => by cases h) rationBounds_row_tie rfl ⟨rfl, rfl⟩ (by kernel_rfl) rfl
    (fun f fn hf hfn => by
      obtain rfl : f = 6 := Option.some.inj ((show Tryd.prog.funcNamed "apiary/apiarylaw18.RationBounds" = some 6 by kernel_rfl).symm.trans hf) |>.symm
      obtain rfl : fn = Tryd.f6 := (Option.some.inj (Tryd.func6.symm.trans hfn)).symm
      exact ⟨by kernel_rfl, fun j t ht => by
        rw [Tryd.params6] at ht
        have hm : t ∈ [54, 3, 59] := by simpa using Array.mem_of_getElem? ht
        have hall : ([54, 3, 59].all fun u => !Tryd.prog.wantsStandIn u) = true := by kernel_rfl
        exact (show Tryd.prog.wantsStandIn t = false by simpa using List.all_eq_true.1 hall t hm)⟩)
    (by kernel_rfl)
end RationBoundsLaw
end Go.Proofs.YtfbjbhddapoopaaDoor
