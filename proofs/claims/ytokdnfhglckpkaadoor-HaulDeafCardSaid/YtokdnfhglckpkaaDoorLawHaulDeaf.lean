/-
  HaulDeaf: what comes from another node, or of another blob, changes nothing. No condition: every input.
-/
import Derived.Test.YtokdnfhglckpkaaDoorHaT
import Derived.Test.YtokdnfhglckpkaaDoorRowB
import Derived.Test.YtokdnfhglckpkaaDoorCards
import Derived.Test.YtokdnfhglckpkaaDoorTie
set_option linter.unusedVariables false
set_option linter.unusedSimpArgs false
namespace Go.Proofs.YtokdnfhglckpkaaDoor
open Go.RowKit
attribute [local go_sem] Lb.ba_get Lb.ba_cut Lb.ba_add Lb.ba_size Lb.take_rest

/-- two fetches that a law has made, each by itself -/
structure Two (w1 w : World) (S1 S2 : List Nat) (p1 p2 : Nat) (d1 d2 : HlD) : Prop where
  a : HlAt w S1 p1 d1
  b : HlAt w S2 p2 d2
  dis : ∀ k ∈ S1, k ∉ S2
  s1 : ∀ k ∈ S1, w1.heap.size ≤ k
  s2 : ∀ k ∈ S2, w1.heap.size ≤ k
  old : Below w1.heap.size w1 w
theorem Two.below {w1 w w' : World} {S1 S2 : List Nat} {p1 p2 : Nat} {d1 d2 : HlD} (h : Two w1 w S1 S2 p1 p2 d1 d2) (hb : Below w.heap.size w w') : Two w1 w' S1 S2 p1 p2 d1 d2 :=
  ⟨h.a.below hb, h.b.below hb, h.dis, h.s1, h.s2, h.old.trans (hb.mono h.old.size)⟩
theorem Two.first {w1 w w' : World} {S1 S2 : List Nat} {p1 p2 : Nat} {d1 d2 d1' : HlD} {pe : Int} {out : List UInt8} {ats : List Int} {e : Ending} (h : Two w1 w S1 S2 p1 p2 d1 d2) (k : ActPost w S1 p1 pe out ats d1' e w') :
    ∃ A c S1', e = .returned (.slice A ats.length c) ∧ Two w1 w' S1' S2 p1 p2 d1' d2 := by
  obtain ⟨v, S', rfl, hA, hH, hO, hS, -⟩ := k
  obtain ⟨A, c, rfl, -, -⟩ := Bag0.shape hA
  refine ⟨A, c, S', rfl, hH, h.b.only hO (fun x hx hx1 => h.dis x hx1 hx), fun x hx hx2 => ?_, fun x hx => ?_, h.s2, h.old.trans (hO.below h.old.size h.s1)⟩
  · rcases hS x hx with h1 | h1
    · exact h.dis x h1 hx2
    · have := h.b.lt x hx2; omega
  · rcases hS x hx with h1 | h1
    · exact h.s1 x h1
    · exact Nat.le_trans h.old.size h1
theorem Two.swap {w1 w : World} {S1 S2 : List Nat} {p1 p2 : Nat} {d1 d2 : HlD} (h : Two w1 w S1 S2 p1 p2 d1 d2) : Two w1 w S2 S1 p2 p1 d2 d1 := ⟨h.b, h.a, fun k hk hk1 => h.dis k hk1 hk, h.s2, h.s1, h.old⟩
theorem Two.second {w1 w w' : World} {S1 S2 : List Nat} {p1 p2 : Nat} {d1 d2 d2' : HlD} {pe : Int} {out : List UInt8} {ats : List Int} {e : Ending} (h : Two w1 w S1 S2 p1 p2 d1 d2) (k : ActPost w S2 p2 pe out ats d2' e w') :
    ∃ A c S2', e = .returned (.slice A ats.length c) ∧ Two w1 w' S1 S2' p1 p2 d1 d2' := by
  obtain ⟨A, c, S2', e1, h2⟩ := h.swap.first k
  exact ⟨A, c, S2', e1, h2.swap⟩
/-- a fetch from node 4 that has heard nothing -/
structure Deaf (o : List UInt8) (d : HlD) : Prop where
  out : d.out = o
  peer : d.peer = 4
  mani : d.mani = none
  done : d.done = false
theorem deaf_tick {o : List UInt8} {d : HlD} (h : Deaf o d) : Deaf o (Hl.tick d).1 := by
  unfold Hl.tick
  split
  · exact h
  · split
    · exact ⟨h.out, h.peer, h.mani, h.done⟩
    · rw [h.mani]
      simp only
      split <;> exact ⟨h.out, h.peer, rfl, h.done⟩
theorem deaf_hear (K : List Int) {o : List UInt8} {d : HlD} (h : Deaf o d) (f : FrD) (hf : f.from_ ≠ 4 ∨ f.kind ≠ 7 ∨ f.mani.whole ≠ o) : hearOf K d f = (d, []) := by
  unfold hearOf Hl.hear
  split
  · rfl
  · rename_i hc
    have hp : f.from_ = d.peer := by
      by_cases hq : f.from_ = d.peer
      · exact hq
      · exact absurd (.inr (.inr hq)) hc
    rw [h.mani]
    split
    · rename_i h7
      simp only
      rw [if_neg]
      rintro ⟨-, hw⟩
      rcases hf with hf | hf | hf
      · exact hf (hp.trans h.peer)
      · exact hf h7
      · exact hf (hw.trans h.out)
    · split <;> rfl
theorem fr_set1 (f : FrD) (x : Int) : f.row.setIfInBounds 1 (.int .i64 x) = ({ f with from_ := x } : FrD).row := by
  unfold FrD.row FrD.cells
  rw [List.setIfInBounds_toArray]
  rfl

set_option maxHeartbeats 8000000 in
set_option maxRecDepth 100000 in
theorem haulDeaf_core (l m : List UInt8) (A : Option Addr) (cap : Nat) (ds : List ActF) (w : World) (hL : Laid KK w) (hl : l.length ≤ 140737488351232) (hm : m.length ≤ 140737488351232) (hA : ActsF w w.heap.size A ds) (hdl : ds.length ≤ maxLen) :
    Calls Tryd.prog 12 #[.string ⟨l.toArray⟩, .string ⟨m.toArray⟩, .slice A ds.length cap] w fun e w' => e = .returned (.bool true) ∧ Below w.heap.size w w' := by
  have HA := Lib.hid hA
  have HL := Lib.hid hL
  obtain ⟨n, hn⟩ : ∃ n, n = ds.length := ⟨_, rfl⟩
  have Hgr := Lib.hid (fun W h => great17_any A cap ds W h hdl)
  rw [← hn] at Hgr ⊢
  have hnl : (n : Int) ≤ 9223372036854775807 := by unfold maxLen at hdl; omega
  have Hn := Lib.hid hn
  clear hn hdl hA hL
  go_enter Tryd.func12, Tryd.ntmps12
  go_wp2_with fail
  refine (awake17_any KK w HL.out).mono ?_
  rintro e w1 ⟨rfl, hB1⟩
  have HA1 := Lib.hid (HA.out.below hB1)
  have HB1 := Lib.hid hB1
  clear hB1
  go_wp2_with fail
  refine (Hgr.out w1 HA1.out).mono ?_
  rintro e w2 ⟨hor, hB2⟩
  have HA2 := Lib.hid (HA1.out.below hB2)
  have HB2 := Lib.hid (HB1.out.trans (hB2.mono HB1.out.size))
  clear hB2 Hgr HA1
  rcases hor with rfl | ⟨rfl, hsm⟩
  · go_wp2_with fail
    go_ret
    exact ⟨rfl, HB2.out⟩
  have Hsm := Lib.hid hsm
  clear hsm
  by_cases hl5 : 512 < l.length
  · have i1 : (512 : Int) < (l.length : Int) := by omega
    go_wp2_with fail
    go_ret
    exact ⟨rfl, HB2.out⟩
  have i1 : ¬ (512 : Int) < (l.length : Int) := by omega
  by_cases hm5 : 512 < m.length
  · have i2 : (512 : Int) < (m.length : Int) := by omega
    go_wp2_with fail
    go_ret
    exact ⟨rfl, HB2.out⟩
  have i2 : ¬ (512 : Int) < (m.length : Int) := by omega
  have HL2 := Lib.hid (HL.out.below HB2.out)
  go_wp2_with fail
  refine (of_hash KK _ 1 l _ (HL2.out.alloc _) (fts_new w2 l _) (by omega)).mono ?_
  rintro e w3 ⟨rfl, hB3⟩
  have HB3 := Lib.hid (HB2.out.trans ((((Below.refl w2.heap.size w2).alloc (Nat.le_refl _) (.cells #[.string ⟨l.toArray⟩] 9)).trans (hB3.mono (by simp))).mono HB2.out.size))
  have HL3 := Lib.hid (HL.out.below HB3.out)
  clear hB3
  obtain ⟨x, hx⟩ : ∃ x, x = hashB KK l := ⟨_, rfl⟩
  obtain ⟨y, hy⟩ : ∃ y, y = hashB KK m := ⟨_, rfl⟩
  rw [← hx]
  have hx32 : x.length = 32 := by rw [hx]; exact hashB_length _ _
  have hy32 : y.length = 32 := by rw [hy]; exact hashB_length _ _
  have hof := Lib.hid (of_hash KK _ 1 m _ (HL3.out.alloc (.cells #[.string ⟨m.toArray⟩] 9)) (fts_new w3 m _) (by omega))
  rw [← hy] at hof
  have heq : ∀ W : World, (binOp .eql 24 (.agg (digV x)) (.agg (digV y))).run Tryd.prog W = .ok (.bool (x == y)) W := fun W => eql_dig W x y hx32 hy32
  have Hx := Lib.hid hx
  have Hy := Lib.hid hy
  clear hx hy
  go_wp2_with fail
  refine hof.out.mono ?_
  rintro e w4 ⟨rfl, hB4⟩
  have HB4 := Lib.hid (HB3.out.trans ((((Below.refl w3.heap.size w3).alloc (Nat.le_refl _) (.cells #[.string ⟨m.toArray⟩] 9)).trans (hB4.mono (by simp))).mono HB3.out.size))
  clear hB4 hof
  by_cases hxy : x = y
  · have hb : (x == y) = true := by simp [hxy]
    rw [hb] at heq
    clear hxy hb
    go_wp2_with fail
    go_ret
    exact ⟨rfl, HB4.out⟩
  have hb : (x == y) = false := by simpa using hxy
  rw [hb] at heq
  have Hxy := Lib.hid hxy
  clear hxy hb
  go_wp2_with fail
  have HL4 := Lib.hid (HL.out.below HB4.out)
  refine (mani_any KK l w4 HL4.out (by omega)).mono ?_
  rintro e w5 ⟨mm, rfl, hok, h1, h2, h3, hB5⟩
  have hmw := hok.whole
  have hms : mm.row.size = 34 := mm.row_size hmw
  have mone := mm.row_one
  obtain ⟨R, hR⟩ : ∃ R, R = mm.row := ⟨_, rfl⟩
  rw [← hR] at hms mone ⊢
  have minf : (Tryd.prog.info? 27).map (·.size) = some R.size := by rw [hms]; exact mani_info
  have HB5 := Lib.hid (HB4.out.trans (hB5.mono HB4.out.size))
  have HR := Lib.hid hR
  have hwx : mm.whole = x := by rw [h1, Hx.out]
  have Hwx := Lib.hid hwx
  clear hok h1 h2 h3 hB5 hR hwx heq
  go_upto_region 6 with (refine wpList_store_row rfl 27 _ _ rfl w5.heap.size R rfl rfl 27 _ (heap_alloc_new w5 _) minf (by rw [hms]; rfl) mone ?_)
  show Code.wp _ _ _ _ ((w5.alloc (.cells zeroMani.row 27)).setRow w5.heap.size R)
  have hq := setRow_heap _ _ _ R _ _ (heap_alloc_new w5 (.cells zeroMani.row 27))
  have hB6 : Below w5.heap.size w5 ((w5.alloc (.cells zeroMani.row 27)).setRow w5.heap.size R) := (Only.below (((Only.refl [w5.heap.size] w5).alloc _).setRow (by simp) _) (Nat.le_refl _) (by simp))
  obtain ⟨q, hq'⟩ : ∃ q, q = w5.heap.size := ⟨_, rfl⟩
  obtain ⟨w6, hw6⟩ : ∃ z, z = ((w5.alloc (.cells zeroMani.row 27)).setRow w5.heap.size R) := ⟨_, rfl⟩
  rw [← hw6] at hq hB6 ⊢
  rw [← hq'] at hq ⊢
  have HB6 := Lib.hid (HB5.out.trans (hB6.mono HB5.out.size))
  have rw0 := rangeW_of_mani hmw (by rw [← HR.out]; exact hq)
  have Hq := Lib.hid hq
  have dix : (Tryd.prog.info? 24).map (·.size) = some (byV mm.whole).length := by rw [dig_info, byV_length, hmw]
  have dund := Tryd.underlying24
  have hnew := Lib.hid (fun W => hnew_any mm.whole 4 W hmw (by decide) (by decide))
  have hwh : digV mm.whole = (byV mm.whole).toArray := rfl
  rw [hwh] at hnew
  rw [Hwx.out] at hnew dix rw0
  obtain ⟨wh, hwh2⟩ : ∃ z, z = byV x := ⟨_, rfl⟩
  rw [← hwh2] at rw0 dix hnew
  clear hw6 hq hB6 hq' hwh hwh2 hmw
  go_wp2_with (refine wpList_load_mid rfl 24 _ rfl q 0 rfl wh _ rw0 dund rfl dix ?_)
  refine (hnew.out w6).mono ?_
  rintro e w7 ⟨p1, rfl, hp1, hat1, hB7⟩
  have rw1 := range_below rw0 hB7 (heap_lt Hq.out)
  have HB7 := Lib.hid (HB6.out.trans (hB7.mono HB6.out.size))
  have Hat1 := Lib.hid hat1
  have Hp1 := Lib.hid (Nat.le_trans HB6.out.size hp1)
  have lp1 : p1 < w7.heap.size := hat1.lt p1 (by simp)
  clear rw0 hB7 hat1 hp1
  go_wp2_with (refine wpList_load_mid rfl 24 _ rfl q 0 rfl wh _ rw1 dund rfl dix ?_)
  refine (hnew.out w7).mono ?_
  rintro e w8 ⟨p2, rfl, hp2, hat2, hB8⟩
  have hT : Two w w8 [p1] [p2] p1 p2 (Hl.new x 4) (Hl.new x 4) :=
    ⟨Hat1.out.below hB8, hat2, by intro k hk; simp at hk ⊢; omega, by intro k hk; simp at hk; subst hk; exact Hp1.out, by intro k hk; simp at hk; subst hk; exact Nat.le_trans HB7.out.size hp2, HB7.out.trans (hB8.mono HB7.out.size)⟩
  have HT := Lib.hid hT
  have h0 : 0 < w.heap.size := HL.out.lt
  clear rw1 hnew hat2 hB8 hp2 lp1 hT dix dund Hp1 Hat1
  have HD0 : Hid (Deaf x (Hl.new x 4)) := Lib.hid ⟨rfl, rfl, rfl, rfl⟩
  go_wp2_with fail
  go_loopw [11] (fun i wr => ∃ (k : Nat) (d : HlD) (S1 S2 : List Nat), k ≤ n ∧ k ≤ 80 ∧ i = .int .i64 k ∧ Deaf x d ∧ Two w wr S1 S2 p1 p2 d d) (fun i _ => 80 - (intOf i).toNat)
  case atStart => exact ⟨0, _, _, _, by omega, by omega, rfl, HD0.out, HT.out⟩
  case round =>
    obtain ⟨k, d, S1, S2, hk, hk80, rfl, hd, hT⟩ := hrel
    have HD := Lib.hid hd
    have HT := Lib.hid hT
    clear hd hT HD0
    by_cases hkk : k < n ∧ k < 80
    · obtain ⟨g1, g2⟩ := hkk
      have j1 : (k : Int) < (n : Int) := by omega
      have j2 : (k : Int) < 80 := by omega
      have hid : k < ds.length := by rw [← Hn.out]; exact g1
      obtain ⟨b, o', rfl, hbl, hr, hk'⟩ := (HA.out.below HT.out.old) k hid
      obtain ⟨hsd, -⟩ := Hsm.out k hid g2
      obtain ⟨a, ha⟩ : ∃ a, a = ds[k] := ⟨_, rfl⟩
      rw [← ha] at hr hk' hsd
      have fok := hk'.ok hsd
      obtain ⟨-, rf, -, -⟩ := act_cells hk'.fit hr
      have fdix : (Tryd.prog.info? 64).map (·.size) = some a.f.cells.length := by rw [fr_info, FrD.len fok.fit]
      have fdixA : (Tryd.prog.info? 64).map (·.size) = some a.f.cells.toArray.size := by rw [fdix]; simp
      have fone : a.f.cells.toArray.all (·.oneCell') = true := FrD.row_one fok.fit
      have fsz : a.f.cells.toArray.size = 237 := by simp [FrD.len fok.fit]
      have fr1 : a.f.cells.toArray[1]? = some (.int .i64 a.f.from_) := rfl
      have fund := Tryd.underlying64
      obtain ⟨f, hf⟩ : ∃ f, f = a.f := ⟨_, rfl⟩
      rw [← hf] at rf fdix fdixA fone fsz fr1 fok
      have Hfok := Lib.hid fok
      have hzs : Tryd.zeroCells64.size = 237 := by rw [zero_frame, FrD.row_size zeroFr_fit]
      clear ha hf hr hk' fok hsd hid
      obtain ⟨fc, hfc⟩ : ∃ fc, fc = f.cells := ⟨_, rfl⟩
      rw [← hfc] at rf fdix fdixA fone fsz fr1
      have Hfc := Lib.hid hfc
      clear hfc
      go_upto_region 12 with (first
        | (refine wpList_load_mid rfl 64 _ rfl b (o' + k * 238 + 1) rfl fc _ rf fund rfl fdix ?_)
        | (refine wpList_store_row rfl 64 _ _ rfl wr.heap.size fc.toArray rfl rfl 64 _ (heap_alloc_new wr _) fdixA (by rw [fsz, hzs]) fone ?_))
      have hq := setRow_heap _ _ _ fc.toArray _ _ (heap_alloc_new wr (.cells Tryd.zeroCells64 64))
      have hBf : Below wr.heap.size wr ((wr.alloc (.cells Tryd.zeroCells64 64)).setRow wr.heap.size fc.toArray) := (Only.below (((Only.refl [wr.heap.size] wr).alloc _).setRow (by simp) _) (Nat.le_refl _) (by simp))
      obtain ⟨fb, hfb⟩ : ∃ z, z = wr.heap.size := ⟨_, rfl⟩
      obtain ⟨wf, hwf⟩ : ∃ z, z = ((wr.alloc (.cells Tryd.zeroCells64 64)).setRow wr.heap.size fc.toArray) := ⟨_, rfl⟩
      rw [← hwf] at hq hBf ⊢
      rw [← hfb] at hq ⊢
      have Hqf := Lib.hid hq
      have HBf := Lib.hid hBf
      have Hfb := Lib.hid hfb
      have cf1 : wf.cell? ⟨fb, 1, none⟩ = some (.int .i64 f.from_) := by rw [Lib.cell_of_heap hq]; exact fr1
      have zf1 : wf.frozen? ⟨fb, 1, none⟩ = false := Lib.frozen_of_heap hq _
      have hrow : fc.toArray = f.row := by rw [Hfc.out]; rfl
      have Hrow := Lib.hid hrow
      clear hwf hq hBf hfb fr1 hrow rf fdix fdixA fone fsz hzs
      obtain ⟨fm, hfm⟩ : ∃ z, z = f.from_ := ⟨_, rfl⟩
      rw [← hfm] at cf1
      have Hfm := Lib.hid hfm
      clear hfm
      go_upto_if 69 with fail
      go_cut [12] from 52 to 110 (fun v wx => v = .pointer (some ⟨fb, 0, none⟩) ∧ ∃ f' : FrD, wx.heap[fb]? = some (.cells f'.row 64 (0, 0)) ∧ f'.from_ ≠ 4 ∧ f'.Ok wr ∧ Below wr.heap.size wr wx)
      case first =>
        by_cases h4 : fm = 4
        · have e4 : (fm == 4) = true := by simp [h4]
          clear h4
          go_wp2_with fail
          go_meet
          case rel =>
            have hs := heap_setCell_same _ fb 1 _ _ (.int .i64 5) Hqf.out
            rw [Hrow.out, fr_set1] at hs
            refine ⟨rfl, { f with from_ := 5 }, hs, by show (5 : Int) ≠ 4; decide, ?_, HBf.out.trans (Only.below ((Only.refl [fb] wf).setCell (by simp) _) HBf.out.size (by simp; rw [Hfb.out]; exact Nat.le_refl _))⟩
            have k := Hfok.out
            exact ⟨⟨k.fit.l1, k.fit.lo, k.fit.l2, k.fit.lm, k.fit.l3, k.fit.o1, k.fit.o2, k.fit.o3⟩, k.klo, k.khi, k.alo, k.ahi, k.data, k.mani⟩
        · have e4 : (fm == 4) = false := by simp [h4]
          have H4 := Lib.hid h4
          clear h4
          go_wp2_with fail
          go_meet
          case rel => exact ⟨rfl, f, by rw [← Hrow.out]; exact Hqf.out, by rw [← Hfm.out]; exact H4.out, Hfok.out, HBf.out⟩
      obtain ⟨rfl, f', hf', hne, hok, hbx⟩ := hcut
      have HTc := Lib.hid (HT.out.below hbx)
      have hok2 := hok.step hbx
      have hrow : (f'.row).size = 237 := FrD.row_size hok.fit
      have finf : (Tryd.prog.info? 64).map (·.size) = some f'.row.size := fr_infoR hok.fit
      have Hok2 := Lib.hid hok2
      have Hf' := Lib.hid hf'
      have hh := hear_any KK p1 S1 d f' wc HTc.out.a hok2 (HL.out.below HTc.out.old) (fun h => by have := HTc.out.s1 0 h; omega)
      unfold HearPost at hh
      rw [deaf_hear KK HD.out f' (.inl hne)] at hh
      have Hhh := Lib.hid hh
      obtain ⟨fr, hfr⟩ : ∃ z, z = f'.row := ⟨_, rfl⟩
      rw [← hfr] at hrow finf Hf' Hhh
      clear hh hne hok hok2 hf' hbx HT hfr hrow Hqf HBf cf1 zf1 Hfok
      go_wp2_with (refine wpList_load_row rfl 64 _ rfl fb rfl 64 fr (0, 0) _ Hf'.out fund rfl finf ?_)
      refine Hhh.out.mono ?_
      rintro e w9 hact
      obtain ⟨A9, c9, S3, rfl, hT9⟩ := HTc.out.first hact
      have HT9 := Lib.hid hT9
      have hma := Lib.hid (mani17_any KK 4 m w9 (HL.out.below hT9.old) (by omega))
      clear hact hT9 HTc Hhh
      go_wp2_with fail
      refine hma.out.mono ?_
      rintro e w10 ⟨m2, rfl, hm2, hok2, hB10⟩
      have HT10 := Lib.hid (HT9.out.below hB10)
      have hh := hear_any KK p1 S3 d (maniFr 4 m2) w10 HT10.out.a (maniFr_ok 4 hok2) (HL.out.below HT10.out.old) (fun h => by have := HT10.out.s1 0 h; omega)
      unfold HearPost at hh
      rw [deaf_hear KK HD.out (maniFr 4 m2) (.inr (.inr (by show m2.whole ≠ x; rw [hm2.whole, ← Hy.out]; exact fun e => Hxy.out e.symm)))] at hh
      have Hhh := Lib.hid hh
      clear hh hm2 hok2 hB10 hma HT9
      go_wp2_with fail
      refine Hhh.out.mono ?_
      rintro e w11 hact
      obtain ⟨A11, c11, S4, rfl, hT11⟩ := HT10.out.first hact
      have HT11 := Lib.hid hT11
      clear hact hT11 HT10 Hhh
      go_wp2_with fail
      go_loopw [13] (fun i wr => ∃ (j : Nat) (S : List Nat), j ≤ 8 ∧ i = .int .i64 j ∧ Two w wr S S2 p1 p2 d d) (fun i _ => 8 - (intOf i).toNat)
      case atStart => exact ⟨0, _, by omega, rfl, HT11.out⟩
      case round =>
        obtain ⟨j, S, hj, rfl, hT⟩ := hrel
        have HT := Lib.hid hT
        clear hT HT11
        by_cases hj8 : j < 8
        · have jj : (j : Int) < 8 := by omega
          have hpa := Lib.hid (part17_any KK 4 m (j : Int) wr (HL.out.below HT.out.old) (by omega) (by omega) (by omega))
          go_wp2_with fail
          refine hpa.out.mono ?_
          rintro e w12 ⟨f12, rfl, hff, hB12⟩
          have HT12 := Lib.hid (HT.out.below hB12)
          have hcl : (chunk m (j : Int).toNat).length ≤ 140737488355328 := by rw [chunk_length]; omega
          have hfok : f12.Ok w12 ∧ f12.kind ≠ 7 := by
            rcases hff with ⟨-, -, rfl⟩ | ⟨-, rfl⟩
            · exact ⟨partFr_ok w12 4 _ j _ (hashB_length _ _) (by omega) hcl, by show (8 : Int) ≠ 7; decide⟩
            · exact ⟨zeroFr_ok w12, by show (0 : Int) ≠ 7; decide⟩
          have hh := hear_any KK p1 S d f12 w12 HT12.out.a hfok.1 (HL.out.below HT12.out.old) (fun h => by have := HT12.out.s1 0 h; omega)
          unfold HearPost at hh
          rw [deaf_hear KK HD.out f12 (.inr (.inl hfok.2))] at hh
          have Hhh := Lib.hid hh
          clear hh hff hfok hB12 hpa hcl HT
          go_wp2_with fail
          refine Hhh.out.mono ?_
          rintro e w13 hact
          obtain ⟨A13, c13, S5, rfl, hT13⟩ := HT12.out.first hact
          have HT13 := Lib.hid hT13
          clear hact hT13 HT12 Hhh
          go_wp2_with fail
          go_roundw
          case rel => exact ⟨j + 1, S5, by omega, by go_num, HT13.out⟩
          case measure => simp [intOf]; omega
        · have jj : ¬ (j : Int) < 8 := by omega
          have ht := Lib.hid (tick_any p1 S d wr HT.out.a)
          go_wp2_with fail
          refine ht.out.mono ?_
          rintro e w12 hact
          obtain ⟨A12, c12, S5, rfl, hT12⟩ := HT.out.first hact
          have HT12 := Lib.hid hT12
          clear hact hT12 ht HT
          have ht := Lib.hid (tick_any p2 S2 d w12 HT12.out.b)
          go_wp2_with fail
          refine ht.out.mono ?_
          rintro e w13 hact
          obtain ⟨A13, c13, S6, rfl, hT13⟩ := HT12.out.second hact
          have HT13 := Lib.hid hT13
          have HD2 := Lib.hid (deaf_tick HD.out)
          clear hact hT13 ht HT12 HD
          obtain ⟨tl, htl⟩ : ∃ z, z = (Hl.tick d).2.length := ⟨_, rfl⟩
          obtain ⟨d2, hd2⟩ : ∃ z, z = (Hl.tick d).1 := ⟨_, rfl⟩
          rw [← htl]
          rw [← hd2] at HT13 HD2
          have ett : ((tl : Int) != (tl : Int)) = false := by simp
          obtain ⟨mv1, cv1, hm1, -⟩ := HT13.out.a.mem
          obtain ⟨mv2, cv2, hm2, -⟩ := HT13.out.b.mem
          have hfa := Lib.hid (failed_any p1 d2 mv1 cv1 w13 HT13.out.a.ok.out hm1)
          have hfb := Lib.hid (failed_any p2 d2 mv2 cv2 w13 HT13.out.b.ok.out hm2)
          obtain ⟨fl, hfl⟩ : ∃ z, z = d2.failed := ⟨_, rfl⟩
          rw [← hfl] at hfa hfb
          have eff : (fl != fl) = false := by simp
          clear htl hd2 hm1 hm2 hfl
          go_wp2_with fail
          refine hfa.out.mono ?_
          rintro e w14 ⟨rfl, rfl⟩
          go_wp2_with fail
          refine hfb.out.mono ?_
          rintro e w15 ⟨rfl, rfl⟩
          go_wp2_with fail
          go_roundw
          case rel => exact ⟨k + 1, d2, S5, S6, by omega, by omega, by go_num, HD2.out, HT13.out⟩
          case measure => simp [intOf]; omega
    · have key : ((k : Int) < (n : Int) ∧ ¬ ((k : Int) < 80)) ∨ ¬ ((k : Int) < (n : Int)) := by omega
      obtain ⟨mv1, cv1, hm1, -⟩ := HT.out.a.mem
      have hbl := Lib.hid (blob_any p1 d mv1 cv1 wr HT.out.a.ok.out hm1)
      rw [HD.out.done] at hbl
      clear hkk hm1
      rcases key with ⟨j1, j2⟩ | j1
      all_goals
        go_wp2_with fail
        refine hbl.out.mono ?_
        rintro e w9 ⟨rfl, hB9⟩
        have HB9 := Lib.hid hB9
        clear hB9
        go_wp2_with fail
        go_ret
        exact ⟨rfl, HT.out.old.trans (HB9.out.mono HT.out.old.size)⟩
namespace HaulDeafLaw
open Go.ChangeShapes Go.WideShapes Go.ChangeAt
open Go.ChangeMaps (open_string shut_string)
set_option maxRecDepth 100000 in
theorem contract (H : Type) (enc : TypeId × Value → H) (W : World) (base : Nat) (args : Array Value) (ds gs : List (DataW H)) (before : List MemPlace)
    (hval : ∀ (j : Nat) t v, Tryd.f12.params[j]? = some t → args[j]? = some v → Value.okWide Tryd.prog W .any base t v)
    (hW : DataW.Whole enc Tryd.prog Tryd.f12.params.toList Rows.haulDeafSpec.vars false W args.toList ds gs before) (hsz0 : (DataW.weightsEach Tryd.prog (Tryd.f12.params.toList ++ Rows.haulDeafSpec.plain.varTypes Tryd.prog) (ds ++ gs)).all (· ≤ reachBytes) = true) (hLd : laidMetH Tryd.prog laid1 W) :
    Calls Tryd.prog 12 args W fun e W' => ∃ v, e = .returned v ∧ Rows.haulDeafSpec.post enc Tryd.prog Tryd.f12 false true false false W args v W' := by
  have hW' := hW
  obtain ⟨p, q, hA0, hV, rfl, hfz, hnd⟩ := hW
  have hA : DataW.TrodAll enc Tryd.prog W 0 (fun _ => true) true Tryd.f12.params.toList args.toList ds p := hA0
  rw [Tryd.params12] at hA hval
  obtain ⟨v0, vs0, d0, ds0, p0, q0, hargs, rfl, rfl, h0, r0⟩ := trodAll_cons hA
  obtain ⟨v1, vs1, d1, ds1, p1, q1, rfl, rfl, rfl, h1, r1⟩ := trodAll_cons r0
  obtain ⟨v2, vs2, d2, ds2, p2, q2, rfl, rfl, rfl, h2, r2⟩ := trodAll_cons r1
  obtain ⟨rfl, rfl, rfl⟩ := trodAll_nil r2
  obtain rfl : args = #[v0, v1, v2] := by cases args; simp_all
  obtain ⟨rfl, rfl⟩ := trodVars_none hV
  obtain ⟨s0, rfl, hd0, _, hs0⟩ := open_string Tryd.underlying9 (hval 0 9 v0 rfl rfl) h0
  obtain ⟨x0, rfl, hx0, hy0⟩ := as_list s0
  have z0 : x0.length ≤ 140737488351232 := by
    have := sized_string hsz0 (j := 0) (t := 9) (bytes := x0) (by simp [Tryd.params12]) (by rw [hd0, hx0]; rfl)
    simpa [reachBytes] using this
  obtain ⟨s1, rfl, hd1, _, hs1⟩ := open_string Tryd.underlying9 (hval 1 9 v1 rfl rfl) h1
  obtain ⟨x1, rfl, hx1, hy1⟩ := as_list s1
  have z1 : x1.length ≤ 140737488351232 := by
    have := sized_string hsz0 (j := 1) (t := 9) (bytes := x1) (by simp [Tryd.params12]) (by rw [hd1, hx1]; rfl)
    simpa [reachBytes] using this
  obtain ⟨A2, c2, x2, rfl, hS2, hl2⟩ := open_actsF (hval 2 49 v2 rfl rfl) h2
  refine (haulDeaf_core x0 x1 A2 c2 x2 W (of_laid hLd) z0 z1 hS2 hl2).mono fun e W' ⟨he, hg⟩ => ?_
  subst he
  exact ⟨_, rfl, law_post (tb := 4) laidOut_ (of_decide_eq_true (by kernel_rfl)) Tryd.underlying4 (by kernel_rfl) rfl rfl hW' hg⟩

theorem door_met (os : Os) (args : Array Value) : laidMetH Tryd.prog laid1 ((World.doorLaid Tryd.prog 400 os).forCall (fun _ _ => 0) ⟨#[], args, []⟩).memory :=
  laidMetH_of_parts3 (fuel := 8) (laidMet_of_run' 8 (by kernel_rfl) (by kernel_rfl)) (by kernel_rfl) (by kernel_rfl)

set_option maxRecDepth 100000 in
theorem lifted (os : Os) (started : os.Started) (H : Type) (enc : TypeId × Value → H) :
    ReturnsInHanded {} Tryd.checked os 12 .any (fun w args => (Rows.haulDeafSpec.pre enc Tryd.prog Tryd.f12 [] false w args ∧ laidMetH Tryd.prog laid1 w) ∧ sizedMet enc Tryd.prog Tryd.f12 (OpenSpec.ofChange Rows.haulDeafSpec) false w args)
      (Rows.haulDeafSpec.post enc Tryd.prog Tryd.f12 false true false false) := by
  refine returnsInHanded_of_change_and (C := Tryd.checked) (X := fun w _ => laidMetH Tryd.prog laid1 w) (fun _ _ _ hh h => h.of_heap hh) ownKnob_ started (by kernel_rfl) Tryd.func12
    (ChangeSpec.witness_shaped (enc := enc) (C := Tryd.checked) (os := os) (X := fun w _ => laidMetH Tryd.prog laid1 w) false (World.doorLaid Tryd.prog 400 os) #[.string .empty, .string .empty, .slice none 0 0] 8 rfl (World.shaped_of_RefB (by kernel_rfl) (by kernel_rfl)) (by kernel_rfl) (by kernel_rfl) (by kernel_rfl) (door_met os _)) ?_
  intro W base args ds gs before hval hW _ hsz hLd _
  exact contract H enc W base args ds gs before hval hW hsz hLd

theorem said : Rows.HaulDeafSaid :=
  OpenClaim.holds_of_wide 12 Tryd.f12 rfl rfl rfl rfl rfl rfl rfl ⟨rfl, rfl, rfl, rfl, rfl⟩ rfl rfl rfl rfl rfl (by kernel_rfl) Tryd.func12 (by kernel_rfl)
    (of_decide_eq_true (by kernel_rfl)) (by unfold Func.isWrapper; first | (rw [if_pos (by decide +kernel)]; kernel_rfl) | (rw [if_neg (by decide +kernel)]; exact ⟨rfl, rfl⟩))
    (fun os started H enc _ => lifted os started H enc)

theorem proved : Rows.HaulDeafCardSaid :=
  Claim7.holds_tied_plain_at .later [] [.data] true Rows.haulDeafCard.stood.harness false
    said (fun _ h => by cases h) (by kernel_rfl) (fun _ h => by cases h) haulDeaf_row_tie rfl ⟨rfl, rfl⟩ (by kernel_rfl) rfl
    (fun f fn hf hfn => by
      obtain rfl : f = 12 := Option.some.inj ((show Tryd.prog.funcNamed "apiary/apiarylaw17.HaulDeaf" = some 12 by kernel_rfl).symm.trans hf) |>.symm
      obtain rfl : fn = Tryd.f12 := (Option.some.inj (Tryd.func12.symm.trans hfn)).symm
      exact ⟨by kernel_rfl, fun j t ht => by
        rw [Tryd.params12] at ht
        have hm : t ∈ [9, 9, 49] := by simpa using Array.mem_of_getElem? ht
        have hall : ([9, 9, 49].all fun u => !Tryd.prog.wantsStandIn u) = true := by kernel_rfl
        exact (show Tryd.prog.wantsStandIn t = false by simpa using List.all_eq_true.1 hall t hm)⟩)
    (by kernel_rfl)
end HaulDeafLaw
end Go.Proofs.YtokdnfhglckpkaaDoor
