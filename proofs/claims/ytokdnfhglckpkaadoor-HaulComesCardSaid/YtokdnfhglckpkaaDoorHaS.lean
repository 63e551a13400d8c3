/-
  Layer 17's laws: the walk of awake.
-/
import Derived.Test.YtokdnfhglckpkaaDoorHaR
set_option linter.unusedVariables false
set_option linter.unusedSimpArgs false
namespace Go.Proofs.YtokdnfhglckpkaaDoor
open Go.RowKit
attribute [local go_sem] Lb.ba_get Lb.ba_cut Lb.ba_add Lb.ba_size Lb.take_rest

theorem wpList_load_midG {P : Program} {ops : Array Oper} {rest : List Oper} {op : Oper} {a : Act} {w : World} {Q : Exit → Act → World → Prop} (hw : Region.wanted op (yielded ops a.tmps) = true) (ty : TypeId) (x : Operand) (ho : op.op = .load ty x)
    (b o : Nat) (hx : a.eval x = .pointer (some ⟨b, o, none⟩)) (cs : List Value) (d : TypeDesc) (hc : w.rangeAt b o cs)
    (hu : P.underlying ty = some d) (hd : d.isRow = true) (hi : (P.info? ty).map (·.size) = some cs.length)
    (h : wpList P ops Q rest (a.put op.dst (.agg cs.toArray)) w) : wpList P ops Q (op :: rest) a w :=
  BigFrame.wpList_want hw fun _ hK => wp_load_mid ty x ho b o hx cs d hc hu hd hi (hK _ _ h)

set_option maxHeartbeats 4000000 in
set_option maxRecDepth 100000 in
theorem awake17_any (K : List Int) (w : World) (hL : Laid K w) :
    Calls Tryd.prog 34 #[] w fun e w' => e = .returned (.bool true) ∧ Below w.heap.size w w' := by
  go_enter Tryd.func34, Tryd.ntmps34
  go_upto_region 2 with fail
  obtain ⟨s, hs⟩ : ∃ s : List UInt8, s = ([48, 49, 50, 51, 52, 53, 54, 55, 56, 57, 48, 49, 50, 51, 52, 53, 54, 55, 56, 57, 48, 49, 50, 51, 52, 53, 54, 55, 56, 57, 48, 49, 50, 51, 52].append [53, 54, 55, 56, 57, 48, 49, 50, 51, 52, 53, 54, 55, 56, 57, 48, 49, 50, 51, 52, 53, 54, 55, 56, 57, 48, 49, 50, 51, 52, 53, 54, 55, 56, 57]) := ⟨_, rfl⟩
  rw [← hs]
  have hs70 : s.length = 70 := by rw [hs]; rfl
  clear hs
  have HL := Lib.hid hL
  have Hs := Lib.hid hs70
  clear hL hs70
  go_wp2_with fail
  refine (mani_any K s w HL.out (by rw [Hs.out]; omega)).mono ?_
  rintro e w1 ⟨m, rfl, hm, h1, h2, h3, hB1⟩
  have HOwn : Hid (OwnM K m s) := Lib.hid ⟨h1, h2, h3⟩
  have hmw := hm.whole
  have hms : m.row.size = 34 := m.row_size hmw
  have mone := m.row_one
  obtain ⟨R, hR⟩ : ∃ R, R = m.row := ⟨_, rfl⟩
  rw [← hR] at hms mone ⊢
  have minf : (Tryd.prog.info? 27).map (·.size) = some R.size := by rw [hms]; exact mani_info
  have HB1 := Lib.hid hB1
  have HR := Lib.hid hR
  have Hh := Lib.hid h1
  clear hm h1 h2 h3 hB1 hR
  go_upto_region 3 with (refine wpList_store_row rfl 27 _ _ rfl w1.heap.size R rfl rfl 27 _ (heap_alloc_new w1 _) minf (by rw [hms]; rfl) mone ?_)
  show Code.wp _ _ _ _ ((w1.alloc (.cells zeroMani.row 27)).setRow w1.heap.size R)
  have hq := setRow_heap _ _ _ R _ _ (heap_alloc_new w1 (.cells zeroMani.row 27))
  have hB2 : Below w1.heap.size w1 ((w1.alloc (.cells zeroMani.row 27)).setRow w1.heap.size R) := (Only.below (((Only.refl [w1.heap.size] w1).alloc _).setRow (by simp) _) (Nat.le_refl _) (by simp))
  obtain ⟨q, hq'⟩ : ∃ q, q = w1.heap.size := ⟨_, rfl⟩
  obtain ⟨w2, hw2⟩ : ∃ y, y = ((w1.alloc (.cells zeroMani.row 27)).setRow w1.heap.size R) := ⟨_, rfl⟩
  rw [← hw2] at hq hB2 ⊢
  rw [← hq'] at hq ⊢
  have HB2 := Lib.hid (HB1.out.trans (hB2.mono HB1.out.size))
  have rw0 := rangeW_of_mani hmw (by rw [← HR.out]; exact hq)
  have Hq := Lib.hid hq
  have dix : (Tryd.prog.info? 24).map (·.size) = some (byV m.whole).length := by rw [dig_info, byV_length, hmw]
  have dund := Tryd.underlying24
  have hnew := Lib.hid (fun W => hnew_any m.whole 2 W hmw (by decide) (by decide))
  have hnil := Lib.hid (fun W => hnew_nil m.whole 0 W hmw (by decide))
  have hwh : digV m.whole = (byV m.whole).toArray := rfl
  rw [hwh] at hnew hnil
  obtain ⟨wh, hwh2⟩ : ∃ y, y = byV m.whole := ⟨_, rfl⟩
  rw [← hwh2] at rw0 dix hnew hnil
  clear hw2 hq hB2 hq' hwh hwh2
  go_wp2_with (refine wpList_load_mid rfl 24 _ rfl q 0 rfl wh _ rw0 dund rfl dix ?_)
  refine (hnew.out w2).mono ?_
  rintro e w3 ⟨p, rfl, hp, hat, hB3⟩
  have rw1 := range_below rw0 hB3 (heap_lt Hq.out)
  have Hat := Lib.hid hat
  have HB3 := Lib.hid (HB2.out.trans (hB3.mono HB2.out.size))
  have HB23 := Lib.hid hB3
  have Hp := Lib.hid hp
  clear hat hB3 hp rw0 hnew
  go_wp2_with (refine wpList_load_midG (by rfl) 24 _ rfl q 0 rfl wh _ rw1 dund rfl dix ?_)
  refine (hnil.out w3).mono ?_
  rintro e w4 ⟨rfl, hB4⟩
  have Hat4 := Lib.hid (Hat.out.below hB4)
  have HB4 := Lib.hid (HB3.out.trans (hB4.mono HB3.out.size))
  clear hB4 rw1 hnil Hat dix dund
  obtain ⟨d1, d2, d3, d4, E1, E2, E3, E4, f4, f5, f6, ⟨p1, o1⟩, ⟨p2, o2⟩, ⟨p3, o3⟩⟩ := awake_plain K s Hs.out m HOwn.out
  have HE1 := Lib.hid E1
  have HE2 := Lib.hid E2
  have HE3 := Lib.hid E3
  have HE4 := Lib.hid E4
  have Hf := Lib.hid (And.intro f4 (And.intro f5 f6))
  have HP1 := Lib.hid (And.intro p1 o1)
  have HP2 := Lib.hid (And.intro p2 o2)
  have HP3 := Lib.hid (And.intro p3 o3)
  have HS0 : Hid (∀ k ∈ [p], w.heap.size ≤ k) := Lib.hid (by intro k hk; simp at hk; subst hk; exact Nat.le_trans HB2.out.size Hp.out)
  have w0pos : 0 < w.heap.size := HL.out.lt
  clear E1 E2 E3 E4 f4 f5 f6 p1 o1 p2 o2 p3 o3 Hp
  -- Tick
  have ht := tick_any p [p] (Hl.new m.whole 2) w4 Hat4.out
  rw [Hh.out, HE1.out] at ht
  have Ht := Lib.hid ht
  clear ht
  go_wp2_with fail
  refine Ht.out.mono ?_
  rintro e w5 ⟨v1, S1, rfl, hA, hH, hO, hS, hap⟩
  have HK1 : Hid (Kept w5 S1 v1 2 (hashB K s) [-1]) := Lib.hid ⟨⟨_, hA⟩, hap⟩
  have HS1 : Hid (∀ k ∈ S1, w.heap.size ≤ k) := Lib.hid (fun k hk => by rcases hS k hk with h | h; exact HS0.out k h; exact Nat.le_trans HB4.out.size h)
  have HH1 := Lib.hid hH
  have HB5 := Lib.hid (HB4.out.trans (hO.below HB4.out.size HS0.out))
  clear hA hH hO hS hap Ht HS0
  -- the manifest
  have hma := Lib.hid (mani17_any K 2 s w5 (HL.out.below HB5.out) (by rw [Hs.out]; omega))
  go_wp2_with fail
  refine hma.out.mono ?_
  rintro e w6 ⟨m2, rfl, hm2, hok2, hB6⟩
  have hsame : hearOf K d1 (maniFr 2 m2) = (d2, [0, 1]) := by
    rw [← HE2.out]
    unfold hearOf
    show Hl.hear K d1 7 2 _ _ _ (m2.whole, m2.size, m2.parts) = Hl.hear K d1 7 2 _ _ _ (m.whole, m.size, m.parts)
    rw [hm2.whole, hm2.size, hm2.parts, HOwn.out.whole, HOwn.out.size, HOwn.out.parts]
    rfl
  have HB6 := Lib.hid (HB5.out.trans (hB6.mono HB5.out.size))
  have hh := hear_any K p S1 d1 (maniFr 2 m2) w6 (HH1.out.below hB6) (maniFr_ok 2 hok2) (HL.out.below HB6.out) (fun h0 => by have := HS1.out 0 h0; omega)
  unfold HearPost at hh
  rw [hsame, HP1.out.1, HP1.out.2] at hh
  have HK16 := Lib.hid (HK1.out.below hB6)
  have Hh6 := Lib.hid hh
  clear hh hsame hm2 hok2 hB6 hma HH1 HK1 HB5
  go_wp2_with fail
  refine Hh6.out.mono ?_
  rintro e w7 ⟨v2, S2, rfl, hA, hH, hO, hS, hap⟩
  have HK1 := Lib.hid (HK16.out.step hO hS)
  have HK2 : Hid (Kept w7 S2 v2 2 (hashB K s) [0, 1]) := Lib.hid ⟨⟨_, hA⟩, hap⟩
  have HS2 : Hid (∀ k ∈ S2, w.heap.size ≤ k) := Lib.hid (fun k hk => by rcases hS k hk with h | h; exact HS1.out k h; exact Nat.le_trans HB6.out.size h)
  have HH2 := Lib.hid hH
  have HB7 := Lib.hid (HB6.out.trans (hO.below HB6.out.size HS1.out))
  clear hA hH hO hS hap HS1 Hh6 HK16
  -- part 1
  have hpa := Lib.hid (part17_any K 2 s 1 w7 (HL.out.below HB7.out) (by rw [Hs.out]; omega) (by decide) (by decide))
  go_wp2_with fail
  refine hpa.out.mono ?_
  rintro e w8 ⟨f, rfl, hff, hB⟩
  have hn2 : (chunks s).length = 2 := by rw [chunks_length, Hs.out]
  obtain rfl : f = partFr 2 (hashB K s) (1 : Nat) (chunk s 1) := by
    rcases hff with ⟨-, -, h⟩ | ⟨h, -⟩
    · exact h
    · exact absurd (by rw [hn2]; decide) h
  have HB8 := Lib.hid (HB7.out.trans (hB.mono HB7.out.size))
  have hcl : (chunk s 1).length ≤ 140737488355328 := by rw [chunk_length]; omega
  have hh := hear_any K p S2 d2 (partFr 2 (hashB K s) (1 : Nat) (chunk s 1)) w8 (HH2.out.below hB) (partFr_ok w8 2 _ 1 _ (hashB_length K s) (by decide) hcl) (HL.out.below HB8.out) (fun h0 => by have := HS2.out 0 h0; omega)
  unfold HearPost at hh
  rw [HE3.out, HP2.out.1, HP2.out.2] at hh
  have HK1b := Lib.hid (HK1.out.below hB)
  have HK2b := Lib.hid (HK2.out.below hB)
  have Hhh := Lib.hid hh
  clear hh hff hB hpa HH2 HK1 HK2  hn2 hcl
  go_wp2_with fail
  refine Hhh.out.mono ?_
  rintro e w9 ⟨v3, S3, rfl, hA, hH, hO, hS, hap⟩
  have HK1 := Lib.hid (HK1b.out.step hO hS)
  have HK2 := Lib.hid (HK2b.out.step hO hS)
  have HK3 : Hid (Kept w9 S3 v3 2 (hashB K s) []) := Lib.hid ⟨⟨_, hA⟩, hap⟩
  have HSn : Hid (∀ k ∈ S3, w.heap.size ≤ k) := Lib.hid (fun k hk => by rcases hS k hk with h | h; exact HS2.out k h; exact Nat.le_trans HB8.out.size h)
  have HH2 := Lib.hid hH
  have HB9 := Lib.hid (HB8.out.trans (hO.below HB8.out.size HS2.out))
  clear hA hH hO hS hap HS2 Hhh HK1b HK2b 
  have HS2 := Lib.hid HSn.out
  clear HSn
  -- part 0
  have hpa := Lib.hid (part17_any K 2 s 0 w9 (HL.out.below HB9.out) (by rw [Hs.out]; omega) (by decide) (by decide))
  go_wp2_with fail
  refine hpa.out.mono ?_
  rintro e w10 ⟨f, rfl, hff, hB⟩
  have hn2 : (chunks s).length = 2 := by rw [chunks_length, Hs.out]
  obtain rfl : f = partFr 2 (hashB K s) (0 : Nat) (chunk s 0) := by
    rcases hff with ⟨-, -, h⟩ | ⟨h, -⟩
    · exact h
    · exact absurd (by rw [hn2]; decide) h
  have HB10 := Lib.hid (HB9.out.trans (hB.mono HB9.out.size))
  have hcl : (chunk s 0).length ≤ 140737488355328 := by rw [chunk_length]; omega
  have hh := hear_any K p S3 d3 (partFr 2 (hashB K s) (0 : Nat) (chunk s 0)) w10 (HH2.out.below hB) (partFr_ok w10 2 _ 0 _ (hashB_length K s) (by decide) hcl) (HL.out.below HB10.out) (fun h0 => by have := HS2.out 0 h0; omega)
  unfold HearPost at hh
  rw [HE4.out, HP3.out.1, HP3.out.2] at hh
  have HK1b := Lib.hid (HK1.out.below hB)
  have HK2b := Lib.hid (HK2.out.below hB)
  have HK3b := Lib.hid (HK3.out.below hB)
  have Hhh := Lib.hid hh
  clear hh hff hB hpa HH2 HK1 HK2 HK3 hn2 hcl
  go_wp2_with fail
  refine Hhh.out.mono ?_
  rintro e w11 ⟨v4, S4, rfl, hA, hH, hO, hS, hap⟩
  have HK1 := Lib.hid (HK1b.out.step hO hS)
  have HK2 := Lib.hid (HK2b.out.step hO hS)
  have HK3 := Lib.hid (HK3b.out.step hO hS)
  have HK4 : Hid (Kept w11 S4 v4 2 (hashB K s) []) := Lib.hid ⟨⟨_, hA⟩, hap⟩
  have HSn : Hid (∀ k ∈ S4, w.heap.size ≤ k) := Lib.hid (fun k hk => by rcases hS k hk with h | h; exact HS2.out k h; exact Nat.le_trans HB10.out.size h)
  have HH2 := Lib.hid hH
  have HB11 := Lib.hid (HB10.out.trans (hO.below HB10.out.size HS2.out))
  clear hA hH hO hS hap HS2 Hhh HK1b HK2b HK3b
  have HS2 := Lib.hid HSn.out
  clear HSn
  -- the end
  obtain ⟨mv, cv, hmem, -⟩ := HH2.out.mem
  have ho4 := HH2.out.ok.out
  have hbl := Lib.hid (blob_any p d4 mv cv w11 ho4 hmem)
  rw [Hf.out.1, Hf.out.2.2] at hbl
  have hfa : ∀ W, Below w11.heap.size w11 W → Calls Tryd.prog 43 #[.pointer (some ⟨p, 0, none⟩)] W fun e w' => e = .returned (.bool false) ∧ W = w' := fun W hW => by
    have := failed_any p d4 mv cv W ho4 (below_keep hW hmem)
    rw [Hf.out.2.1] at this; exact this
  have Hfa := Lib.hid hfa
  clear hfa hmem ho4
  go_wp2_with fail
  refine hbl.out.mono ?_
  rintro e w12 ⟨rfl, hB12⟩
  obtain ⟨g1, c1, rfl, l1, a0, a1, a2, -⟩ := (HK1.out.below hB12).at (hashB_length K s) 0 (-1) rfl
  obtain ⟨g2, c2, rfl, l2, -, -, b2, -⟩ := (HK2.out.below hB12).at (hashB_length K s) 1 1 rfl
  obtain ⟨A3, c3, rfl, -, -⟩ := Bag0.shape HK3.out.1.choose_spec
  obtain ⟨A4, c4, rfl, -, -⟩ := Bag0.shape HK4.out.1.choose_spec
  have HB12 := Lib.hid (HB11.out.trans (hB12.mono HB11.out.size))
  have Hf12 := Lib.hid (Hfa.out w12 hB12)
  clear hB12 hbl Hfa HK1 HK2 HK3 HK4
  go_wp2_with fail
  refine Hf12.out.mono ?_
  rintro e w13 ⟨rfl, rfl⟩
  go_wp2_with fail
  go_ret
  exact ⟨rfl, HB12.out⟩
end Go.Proofs.YtokdnfhglckpkaaDoor
