/-
  HaulExact: of every row of ticks and frames, all that is sent, and what came, is what the document says. No condition: every input.
-/
import Derived.Test.YtfbjbhddapoopaaDoorHaR
import Derived.Test.YtfbjbhddapoopaaDoorHaO
import Derived.Test.YtfbjbhddapoopaaDoorHeFH
import Derived.Test.YtfbjbhddapoopaaDoorCards
import Derived.Test.YtfbjbhddapoopaaDoorTie
set_option linter.unusedVariables false
set_option linter.unusedSimpArgs false
namespace Go.Proofs.YtfbjbhddapoopaaDoor
open Go.RowKit
attribute [local go_sem] Lb.ba_get Lb.ba_cut Lb.ba_add Lb.ba_size Lb.take_rest

theorem wpList_load_midG {P : Program} {ops : Array Oper} {rest : List Oper} {op : Oper} {a : Act} {w : World} {Q : Exit → Act → World → Prop} (hw : Region.wanted op (yielded ops a.tmps) = true) (ty : TypeId) (x : Operand) (ho : op.op = .load ty x)
    (b o : Nat) (hx : a.eval x = .pointer (some ⟨b, o, none⟩)) (cs : List Value) (d : TypeDesc) (hc : w.rangeAt b o cs)
    (hu : P.underlying ty = some d) (hd : d.isRow = true) (hi : (P.info? ty).map (·.size) = some cs.length)
    (h : wpList P ops Q rest (a.put op.dst (.agg cs.toArray)) w) : wpList P ops Q (op :: rest) a w :=
  BigFrame.wpList_want hw fun _ hK => wp_load_mid ty x ho b o hx cs d hc hu hd hi (hK _ _ h)

set_option maxHeartbeats 4000000 in
set_option maxRecDepth 100000 in
theorem awake17_any (K : List Int) (w : World) (hL : Laid K w) :
    Calls Tryd.prog 13 #[] w fun e w' => e = .returned (.bool true) ∧ Below w.heap.size w w' := by
  go_enter Tryd.func13, Tryd.ntmps13
  go_upto_region 2 with fail
  obtain ⟨s, hs⟩ : ∃ s : List UInt8, s = ([48, 49, 50, 51, 52, 53, 54, 55, 56, 57, 48, 49, 50, 51, 52, 53, 54, 55, 56, 57, 48, 49, 50, 51, 52, 53, 54, 55, 56, 57, 48, 49, 50, 51, 52].append [53, 54, 55, 56, 57, 48, 49, 50, 51, 52, 53, 54, 55, 56, 57, 48, 49, 50, 51, 52, 53, 54, 55, 56, 57, 48, 49, 50, 51, 52, 53, 54, 55, 56, 57]) := ⟨_, rfl⟩
  rw [← hs]
  have hs70 : s.length = 70 := by rw [hs]; rfl
  clear hs
  have HL := Lib.hid hL
  have Hs := Lib.hid hs70
  clear hL hs70
  go_wp2_with fail
  refine (mani_any K s w HL.out (by rw [Hs.out]; omega)).mono ?_
  rintro e w1 ⟨m, rfl, hm, h1, h2, h3, hB1⟩
  have HOwn : Hid (OwnM K m s) := Lib.hid ⟨h1, h2, h3⟩
  have hmw := hm.whole
  have hms : m.row.size = 34 := m.row_size hmw
  have mone := m.row_one
  obtain ⟨R, hR⟩ : ∃ R, R = m.row := ⟨_, rfl⟩
  rw [← hR] at hms mone ⊢
  have minf : (Tryd.prog.info? 39).map (·.size) = some R.size := by rw [hms]; exact mani_info
  have HB1 := Lib.hid hB1
  have HR := Lib.hid hR
  have Hh := Lib.hid h1
  clear hm h1 h2 h3 hB1 hR
  go_upto_region 3 with (refine wpList_store_row rfl 39 _ _ rfl w1.heap.size R rfl rfl 39 _ (heap_alloc_new w1 _) minf (by rw [hms]; rfl) mone ?_)
  show Code.wp _ _ _ _ ((w1.alloc (.cells zeroMani.row 39)).setRow w1.heap.size R)
  have hq := setRow_heap _ _ _ R _ _ (heap_alloc_new w1 (.cells zeroMani.row 39))
  have hB2 : Below w1.heap.size w1 ((w1.alloc (.cells zeroMani.row 39)).setRow w1.heap.size R) := (Only.below (((Only.refl [w1.heap.size] w1).alloc _).setRow (by simp) _) (Nat.le_refl _) (by simp))
  obtain ⟨q, hq'⟩ : ∃ q, q = w1.heap.size := ⟨_, rfl⟩
  obtain ⟨w2, hw2⟩ : ∃ y, y = ((w1.alloc (.cells zeroMani.row 39)).setRow w1.heap.size R) := ⟨_, rfl⟩
  rw [← hw2] at hq hB2 ⊢
  rw [← hq'] at hq ⊢
  have HB2 := Lib.hid (HB1.out.trans (hB2.mono HB1.out.size))
  have rw0 := rangeW_of_mani hmw (by rw [← HR.out]; exact hq)
  have Hq := Lib.hid hq
  have dix : (Tryd.prog.info? 23).map (·.size) = some (byV m.whole).length := by rw [dig_info, byV_length, hmw]
  have dund := Tryd.underlying23
  have hnew := Lib.hid (fun W => hnew_any m.whole 2 W hmw (by decide) (by decide))
  have hnil := Lib.hid (fun W => hnew_nil m.whole 0 W hmw (by decide))
  have hwh : digV m.whole = (byV m.whole).toArray := rfl
  rw [hwh] at hnew hnil
  obtain ⟨wh, hwh2⟩ : ∃ y, y = byV m.whole := ⟨_, rfl⟩
  rw [← hwh2] at rw0 dix hnew hnil
  clear hw2 hq hB2 hq' hwh hwh2
  go_wp2_with (refine wpList_load_mid rfl 23 _ rfl q 0 rfl wh _ rw0 dund rfl dix ?_)
  refine (hnew.out w2).mono ?_
  rintro e w3 ⟨p, rfl, hp, hat, hB3⟩
  have rw1 := range_below rw0 hB3 (heap_lt Hq.out)
  have Hat := Lib.hid hat
  have HB3 := Lib.hid (HB2.out.trans (hB3.mono HB2.out.size))
  have HB23 := Lib.hid hB3
  have Hp := Lib.hid hp
  clear hat hB3 hp rw0 hnew
  go_wp2_with (refine wpList_load_midG (by rfl) 23 _ rfl q 0 rfl wh _ rw1 dund rfl dix ?_)
  refine (hnil.out w3).mono ?_
  rintro e w4 ⟨rfl, hB4⟩
  have Hat4 := Lib.hid (Hat.out.below hB4)
  have HB4 := Lib.hid (HB3.out.trans (hB4.mono HB3.out.size))
  clear hB4 rw1 hnil Hat dix dund
  obtain ⟨d1, d2, d3, d4, E1, E2, E3, E4, f4, f5, f6, ⟨p1, o1⟩, ⟨p2, o2⟩, ⟨p3, o3⟩⟩ := awake_plain K s Hs.out m HOwn.out
  have HE1 := Lib.hid E1
  have HE2 := Lib.hid E2
  have HE3 := Lib.hid E3
  have HE4 := Lib.hid E4
  have Hf := Lib.hid (And.intro f4 (And.intro f5 f6))
  have HP1 := Lib.hid (And.intro p1 o1)
  have HP2 := Lib.hid (And.intro p2 o2)
  have HP3 := Lib.hid (And.intro p3 o3)
  have HS0 : Hid (∀ k ∈ [p], w.heap.size ≤ k) := Lib.hid (by intro k hk; simp at hk; subst hk; exact Nat.le_trans HB2.out.size Hp.out)
  have w0pos : 0 < w.heap.size := HL.out.lt
  clear E1 E2 E3 E4 f4 f5 f6 p1 o1 p2 o2 p3 o3 Hp
  -- Tick
  have ht := tick_any p [p] (Hl.new m.whole 2) w4 Hat4.out
  rw [Hh.out, HE1.out] at ht
  have Ht := Lib.hid ht
  clear ht
  go_wp2_with fail
  refine Ht.out.mono ?_
  rintro e w5 ⟨v1, S1, rfl, hA, hH, hO, hS, hap⟩
  have HK1 : Hid (Kept w5 S1 v1 2 (hashB K s) [-1]) := Lib.hid ⟨⟨_, hA⟩, hap⟩
  have HS1 : Hid (∀ k ∈ S1, w.heap.size ≤ k) := Lib.hid (fun k hk => by rcases hS k hk with h | h; exact HS0.out k h; exact Nat.le_trans HB4.out.size h)
  have HH1 := Lib.hid hH
  have HB5 := Lib.hid (HB4.out.trans (hO.below HB4.out.size HS0.out))
  clear hA hH hO hS hap Ht HS0
  -- the manifest
  have hma := Lib.hid (mani17_any K 2 s w5 (HL.out.below HB5.out) (by rw [Hs.out]; omega))
  go_wp2_with fail
  refine hma.out.mono ?_
  rintro e w6 ⟨m2, rfl, hm2, hok2, hB6⟩
  have hsame : hearOf K d1 (maniFr 2 m2) = (d2, [0, 1]) := by
    rw [← HE2.out]
    unfold hearOf
    show Hl.hear K d1 7 2 _ _ _ (m2.whole, m2.size, m2.parts) = Hl.hear K d1 7 2 _ _ _ (m.whole, m.size, m.parts)
    rw [hm2.whole, hm2.size, hm2.parts, HOwn.out.whole, HOwn.out.size, HOwn.out.parts]
    rfl
  have HB6 := Lib.hid (HB5.out.trans (hB6.mono HB5.out.size))
  have hh := hear_any K p S1 d1 (maniFr 2 m2) w6 (HH1.out.below hB6) (maniFr_ok 2 hok2) (HL.out.below HB6.out) (fun h0 => by have := HS1.out 0 h0; omega)
  unfold HearPost at hh
  rw [hsame, HP1.out.1, HP1.out.2] at hh
  have HK16 := Lib.hid (HK1.out.below hB6)
  have Hh6 := Lib.hid hh
  clear hh hsame hm2 hok2 hB6 hma HH1 HK1 HB5
  go_wp2_with fail
  refine Hh6.out.mono ?_
  rintro e w7 ⟨v2, S2, rfl, hA, hH, hO, hS, hap⟩
  have HK1 := Lib.hid (HK16.out.step hO hS)
  have HK2 : Hid (Kept w7 S2 v2 2 (hashB K s) [0, 1]) := Lib.hid ⟨⟨_, hA⟩, hap⟩
  have HS2 : Hid (∀ k ∈ S2, w.heap.size ≤ k) := Lib.hid (fun k hk => by rcases hS k hk with h | h; exact HS1.out k h; exact Nat.le_trans HB6.out.size h)
  have HH2 := Lib.hid hH
  have HB7 := Lib.hid (HB6.out.trans (hO.below HB6.out.size HS1.out))
  clear hA hH hO hS hap HS1 Hh6 HK16
  -- part 1
  have hpa := Lib.hid (part17_any K 2 s 1 w7 (HL.out.below HB7.out) (by rw [Hs.out]; omega) (by decide) (by decide))
  go_wp2_with fail
  refine hpa.out.mono ?_
  rintro e w8 ⟨f, rfl, hff, hB⟩
  have hn2 : (chunks s).length = 2 := by rw [chunks_length, Hs.out]
  obtain rfl : f = partFr 2 (hashB K s) (1 : Nat) (chunk s 1) := by
    rcases hff with ⟨-, -, h⟩ | ⟨h, -⟩
    · exact h
    · exact absurd (by rw [hn2]; decide) h
  have HB8 := Lib.hid (HB7.out.trans (hB.mono HB7.out.size))
  have hcl : (chunk s 1).length ≤ 140737488355328 := by rw [chunk_length]; omega
  have hh := hear_any K p S2 d2 (partFr 2 (hashB K s) (1 : Nat) (chunk s 1)) w8 (HH2.out.below hB) (partFr_ok w8 2 _ 1 _ (hashB_length K s) (by decide) hcl) (HL.out.below HB8.out) (fun h0 => by have := HS2.out 0 h0; omega)
  unfold HearPost at hh
  rw [HE3.out, HP2.out.1, HP2.out.2] at hh
  have HK1b := Lib.hid (HK1.out.below hB)
  have HK2b := Lib.hid (HK2.out.below hB)
  have Hhh := Lib.hid hh
  clear hh hff hB hpa HH2 HK1 HK2  hn2 hcl
  go_wp2_with fail
  refine Hhh.out.mono ?_
  rintro e w9 ⟨v3, S3, rfl, hA, hH, hO, hS, hap⟩
  have HK1 := Lib.hid (HK1b.out.step hO hS)
  have HK2 := Lib.hid (HK2b.out.step hO hS)
  have HK3 : Hid (Kept w9 S3 v3 2 (hashB K s) []) := Lib.hid ⟨⟨_, hA⟩, hap⟩
  have HSn : Hid (∀ k ∈ S3, w.heap.size ≤ k) := Lib.hid (fun k hk => by rcases hS k hk with h | h; exact HS2.out k h; exact Nat.le_trans HB8.out.size h)
  have HH2 := Lib.hid hH
  have HB9 := Lib.hid (HB8.out.trans (hO.below HB8.out.size HS2.out))
  clear hA hH hO hS hap HS2 Hhh HK1b HK2b 
  have HS2 := Lib.hid HSn.out
  clear HSn
  -- part 0
  have hpa := Lib.hid (part17_any K 2 s 0 w9 (HL.out.below HB9.out) (by rw [Hs.out]; omega) (by decide) (by decide))
  go_wp2_with fail
  refine hpa.out.mono ?_
  rintro e w10 ⟨f, rfl, hff, hB⟩
  have hn2 : (chunks s).length = 2 := by rw [chunks_length, Hs.out]
  obtain rfl : f = partFr 2 (hashB K s) (0 : Nat) (chunk s 0) := by
    rcases hff with ⟨-, -, h⟩ | ⟨h, -⟩
    · exact h
    · exact absurd (by rw [hn2]; decide) h
  have HB10 := Lib.hid (HB9.out.trans (hB.mono HB9.out.size))
  have hcl : (chunk s 0).length ≤ 140737488355328 := by rw [chunk_length]; omega
  have hh := hear_any K p S3 d3 (partFr 2 (hashB K s) (0 : Nat) (chunk s 0)) w10 (HH2.out.below hB) (partFr_ok w10 2 _ 0 _ (hashB_length K s) (by decide) hcl) (HL.out.below HB10.out) (fun h0 => by have := HS2.out 0 h0; omega)
  unfold HearPost at hh
  rw [HE4.out, HP3.out.1, HP3.out.2] at hh
  have HK1b := Lib.hid (HK1.out.below hB)
  have HK2b := Lib.hid (HK2.out.below hB)
  have HK3b := Lib.hid (HK3.out.below hB)
  have Hhh := Lib.hid hh
  clear hh hff hB hpa HH2 HK1 HK2 HK3 hn2 hcl
  go_wp2_with fail
  refine Hhh.out.mono ?_
  rintro e w11 ⟨v4, S4, rfl, hA, hH, hO, hS, hap⟩
  have HK1 := Lib.hid (HK1b.out.step hO hS)
  have HK2 := Lib.hid (HK2b.out.step hO hS)
  have HK3 := Lib.hid (HK3b.out.step hO hS)
  have HK4 : Hid (Kept w11 S4 v4 2 (hashB K s) []) := Lib.hid ⟨⟨_, hA⟩, hap⟩
  have HSn : Hid (∀ k ∈ S4, w.heap.size ≤ k) := Lib.hid (fun k hk => by rcases hS k hk with h | h; exact HS2.out k h; exact Nat.le_trans HB10.out.size h)
  have HH2 := Lib.hid hH
  have HB11 := Lib.hid (HB10.out.trans (hO.below HB10.out.size HS2.out))
  clear hA hH hO hS hap HS2 Hhh HK1b HK2b HK3b
  have HS2 := Lib.hid HSn.out
  clear HSn
  -- the end
  obtain ⟨mv, cv, hmem, -⟩ := HH2.out.mem
  have ho4 := HH2.out.ok.out
  have hbl := Lib.hid (blob_any p d4 mv cv w11 ho4 hmem)
  rw [Hf.out.1, Hf.out.2.2] at hbl
  have hfa : ∀ W, Below w11.heap.size w11 W → Calls Tryd.prog 22 #[.pointer (some ⟨p, 0, none⟩)] W fun e w' => e = .returned (.bool false) ∧ W = w' := fun W hW => by
    have := failed_any p d4 mv cv W ho4 (below_keep hW hmem)
    rw [Hf.out.2.1] at this; exact this
  have Hfa := Lib.hid hfa
  clear hfa hmem ho4
  go_wp2_with fail
  refine hbl.out.mono ?_
  rintro e w12 ⟨rfl, hB12⟩
  obtain ⟨g1, c1, rfl, l1, a0, a1, a2, -⟩ := (HK1.out.below hB12).at (hashB_length K s) 0 (-1) rfl
  obtain ⟨g2, c2, rfl, l2, -, -, b2, -⟩ := (HK2.out.below hB12).at (hashB_length K s) 1 1 rfl
  obtain ⟨A3, c3, rfl, -, -⟩ := Bag0.shape HK3.out.1.choose_spec
  obtain ⟨A4, c4, rfl, -, -⟩ := Bag0.shape HK4.out.1.choose_spec
  have HB12 := Lib.hid (HB11.out.trans (hB12.mono HB11.out.size))
  have Hf12 := Lib.hid (Hfa.out w12 hB12)
  clear hB12 hbl Hfa HK1 HK2 HK3 HK4
  go_wp2_with fail
  refine Hf12.out.mono ?_
  rintro e w13 ⟨rfl, rfl⟩
  go_wp2_with fail
  go_ret
  exact ⟨rfl, HB12.out⟩
end Go.Proofs.YtfbjbhddapoopaaDoor

set_option linter.unusedVariables false
set_option linter.unusedSimpArgs false
namespace Go.Proofs.YtfbjbhddapoopaaDoor
open Go.RowKit Go.ChangeShapes Go.WideShapes Go.Deep
theorem okWide_array' {P : Program} {w : World} {r : Reach} {base : Nat} {t : TypeId} {v : Value} {n : Nat} {e : TypeId} (ht : P.underlying t = some (.array n e)) (h : Value.okWide P w r base t v) : ∃ cs, v = .agg cs := by
  simp only [Value.okWide, ht] at h
  obtain ⟨cs, h1, _⟩ := h
  exact ⟨cs, h1⟩
section
variable {H : Type} {enc : TypeId × Value → H} {w : World} {base : Nat} {held : Bool}
set_option maxRecDepth 100000 in
/-- an argument of type api.Digest -/
theorem open_digV {v : Value} {d : DataW H} {ps : List MemPlace} {r : Reach} {b0 : Nat} (hv : Value.okWide Tryd.prog w r b0 23 v) (h : DataW.Trod enc Tryd.prog w base (fun _ => true) held 23 v d ps) :
    ∃ o : List UInt8, v = .agg (digV o) ∧ o.length = 32 := by
  obtain ⟨cs, rfl⟩ := okWide_array' Tryd.underlying23 hv
  obtain ⟨fuel, hf⟩ := h
  obtain ⟨o, ho, e⟩ := open_dig hf
  refine ⟨o, ?_, ho⟩
  have e2 : cs = (byV o).toArray := by apply Array.ext'; exact e
  rw [e2]; rfl
end
end Go.Proofs.YtfbjbhddapoopaaDoor

set_option linter.unusedVariables false
set_option linter.unusedSimpArgs false
namespace Go.Proofs.YtfbjbhddapoopaaDoor
open Go.RowKit
attribute [local go_sem] Lb.ba_get Lb.ba_cut Lb.ba_add Lb.ba_size Lb.take_rest

theorem ba_bne (d : Array UInt8) : ((⟨d⟩ : ByteArray) != ⟨d⟩) = false := by
  have h : ((⟨d⟩ : ByteArray) == ⟨d⟩) = (d == d) := rfl
  unfold bne
  rw [h]; simp
/-- the two fetches, side by side -/
structure Both (B : Nat) (w : World) (S R : List Nat) (p q : Nat) (d : HlD) : Prop where
  hl : HlAt w S p d
  rf : RfAt w R q d
  sB : ∀ x ∈ S, B ≤ x
  rB : ∀ x ∈ R, B ≤ x
  ap : ∀ x ∈ S, x ∉ R
theorem Both.below {B : Nat} {w w' : World} {S R : List Nat} {p q : Nat} {d : HlD} (h : Both B w S R p q d) (hb : Below w.heap.size w w') : Both B w' S R p q d := ⟨h.hl.below hb, h.rf.below hb, h.sB, h.rB, h.ap⟩
/-- the lists that were sent -/
def Sents (w : World) (v : Value) (pe : Int) (o : List UInt8) (ats : List Int) : Prop := ∃ B, Asks w B v pe o ats
theorem Sents.below {w w' : World} {v : Value} {pe : Int} {o : List UInt8} {ats : List Int} (h : Sents w v pe o ats) (hb : Below w.heap.size w w') : Sents w' v pe o ats := by
  obtain ⟨B, hA⟩ := h
  exact ⟨B, Bag0.below hA hb⟩
/-- the first has done, then the other one -/
theorem both_act {B : Nat} {w w1 w2 : World} {S S1 R R1 : List Nat} {p q : Nat} {d d' : HlD} {v1 v2 : Value} {pe : Int} {o : List UInt8} {ats : List Int} (h : Both B w S R p q d) (hB : B ≤ w.heap.size)
    (a1 : Asks w1 w.heap.size v1 pe o ats) (h1 : HlAt w1 S1 p d') (o1 : Only S w w1) (s1 : ∀ k ∈ S1, k ∈ S ∨ w.heap.size ≤ k)
    (a2 : Asks w2 w1.heap.size v2 pe o ats) (h2 : RfAt w2 R1 q d') (o2 : Only R w1 w2) (s2 : ∀ k ∈ R1, k ∈ R ∨ w1.heap.size ≤ k) :
    Both B w2 S1 R1 p q d' ∧ Sents w2 v1 pe o ats ∧ Sents w2 v2 pe o ats := by
  have hr : ∀ k ∈ R, k < w.heap.size := h.rf.lt
  have hs1 : ∀ k ∈ S1, k ∉ R := fun k hk hR => by
    rcases s1 k hk with h' | h'
    · exact h.ap k h' hR
    · have := hr k hR; omega
  refine ⟨⟨h1.only o2 hs1, h2, fun x hx => ?_, fun x hx => ?_, fun x hx hR => ?_⟩, ⟨_, Bag0.apart a1 o2 (fun a n c e hm => ?_)⟩, ⟨_, a2⟩⟩
  · rcases s1 x hx with h' | h'
    · exact h.sB x h'
    · omega
  · rcases s2 x hx with h' | h'
    · exact h.rB x h'
    · have := o1.size; omega
  · rcases s2 x hR with h' | h'
    · exact hs1 x hx h'
    · have := h1.lt x hx; omega
  · exact apart_of_bag a1 hr _ _ _ e hm
theorem Sents.at {w : World} {v : Value} {pe : Int} {out : List UInt8} {ats : List Int} (h : Sents w v pe out ats) (ho : out.length = 32) (i : Nat) (x : Int) (hi : ats[i]? = some x) :
    ∃ g cap, v = .slice (some ⟨g, 0, none⟩) ats.length cap ∧ g < w.heap.size ∧ w.cell? ⟨g, i * 238, none⟩ = some (.int .i64 pe) ∧ w.cell? ⟨g, i * 238 + 1, none⟩ = some (.int .i64 6) ∧ w.cell? ⟨g, i * 238 + 135, none⟩ = some (.int .i64 x) ∧ w.rangeAt g (i * 238 + 103) (byV out) :=
  Kept.at (S := []) ⟨h, fun a n c e hm => by cases hm⟩ ho i x hi
theorem Sents.shape {w : World} {v : Value} {pe : Int} {out : List UInt8} {ats : List Int} (h : Sents w v pe out ats) : ∃ A cap, v = .slice A ats.length cap := by
  obtain ⟨B, hA⟩ := h
  obtain ⟨A, cap, e, -, -⟩ := Bag0.shape hA
  exact ⟨A, cap, e⟩
theorem sents_len {w : World} {A : Option Addr} {k cap : Nat} {pe : Int} {out : List UInt8} {ats : List Int} (h : Sents w (.slice A k cap) pe out ats) : ats.length ≤ maxLen := by
  obtain ⟨B, hA⟩ := h
  obtain ⟨A', cap', e, h1, h2⟩ := Bag0.shape hA
  exact Nat.le_trans h2 h1

/-- the nodes that don't send -/
theorem acts_apart {w1 : World} {A : Option Addr} {ds : List ActF} (h : ActsF w1 w1.heap.size A ds) (k : Nat) (hk : k < ds.length) {R : List Nat} (hR : ∀ x ∈ R, w1.heap.size ≤ x) : 0 < (ds[k]).f.mani.parts.length → ∀ a, (ds[k]).f.mani.A = some a → a.block ∉ R := by
  intro hp a ha hm
  obtain ⟨b, o, -, -, -, hok⟩ := h k hk
  obtain ⟨b0, o0, e0, hl0, -⟩ := hok.mani.digs 0 hp
  rw [ha] at e0
  obtain rfl := Option.some.inj e0
  have := hR _ hm
  simp only at this
  omega

set_option maxHeartbeats 8000000 in
set_option maxRecDepth 100000 in
theorem haulExact_core (o : List UInt8) (x : Int) (A : Option Addr) (cap : Nat) (ds : List ActF) (w : World) (hL : Laid KK w) (ho : o.length = 32) (xlo : -9223372036854775808 ≤ x) (xhi : x ≤ 9223372036854775807) (hA : ActsF w w.heap.size A ds) (hl : ds.length ≤ maxLen) :
    Calls Tryd.prog 3 #[.agg (digV o), .int .i64 x, .slice A ds.length cap] w fun e w' => e = .returned (.bool true) ∧ Below w.heap.size w w' := by
  have hdo : digV o = (byV o).toArray := rfl
  have hq := heap_alloc_new w (.cells (byV o).toArray 23)
  have hB := (Below.refl w.heap.size w).alloc (Nat.le_refl _) (.cells (byV o).toArray 23)
  have HA1 := Lib.hid (hA.below hB)
  have HL1 := Lib.hid (hL.below hB)
  have HLn := Lib.hid hl
  have HO := Lib.hid ho
  obtain ⟨q, hq'⟩ : ∃ q, q = w.heap.size := ⟨_, rfl⟩
  obtain ⟨w1, hw1⟩ : ∃ y, y = w.alloc (.cells (byV o).toArray 23) := ⟨_, rfl⟩
  go_enter Tryd.func3, Tryd.ntmps3
  rw [hdo]
  go_upto_region 1 with fail
  rw [← hw1] at hq hB HA1 HL1 ⊢
  rw [← hq'] at hq ⊢
  have Hq := Lib.hid hq
  have HB1 := Lib.hid hB
  obtain ⟨n, hn⟩ : ∃ n, n = ds.length := ⟨_, rfl⟩
  have Hgr := Lib.hid (fun W h => great17_any A cap ds W h HLn.out)
  rw [← hn] at Hgr ⊢
  have hnl : (n : Int) ≤ 9223372036854775807 := by have := HLn.out; unfold maxLen at this; omega
  have Hn := Lib.hid hn
  clear hw1 hq hB hq' hn hA hL hl ho hdo
  go_wp2_with fail
  refine (awake17_any KK w1 HL1.out).mono ?_
  rintro e w2 ⟨rfl, hB2⟩
  have HA2 := Lib.hid (HA1.out.below hB2)
  have HB2 := Lib.hid hB2
  clear hB2
  go_wp2_with fail
  refine (Hgr.out w2 HA2.out).mono ?_
  rintro e w3 ⟨hor, hB3⟩
  have HB3 := Lib.hid (HB2.out.trans (hB3.mono HB2.out.size))
  clear hB3 Hgr
  rcases hor with rfl | ⟨rfl, hsm⟩
  · go_wp2_with fail
    go_ret
    exact ⟨rfl, HB1.out.trans (HB3.out.mono HB1.out.size)⟩
  have Hsm := Lib.hid hsm
  have Hq3 := Lib.hid (below_keep HB3.out Hq.out)
  have dixA : (Tryd.prog.info? 23).map (·.size) = some (byV o).toArray.size := by rw [dig_info]; simp [byV_length, HO.out]
  have hwh : digV o = (byV o).toArray := rfl
  clear hsm HA2 HB2
  by_cases hx : 1 ≤ x ∧ x ≤ 6
  · have hnew := Lib.hid (fun W => hnew_any o x W HO.out hx.1 hx.2)
    have hnewR := Lib.hid (fun W => rnew_any o x W HO.out hx.1 hx.2)
    rw [hwh] at hnew hnewR
    clear hwh hx
    go_upto_region 6 with (first
      | (refine wpList_load_row rfl 23 _ rfl q rfl 23 (byV o).toArray (0, 0) _ Hq3.out Tryd.underlying23 rfl dixA ?_)
      | (go_at_call 15; refine (hnew.out w3).mono ?_; rintro e w4 ⟨p, rfl, hp, hat, hB4⟩))
    have Hat := Lib.hid hat
    have HB4 := Lib.hid hB4
    have hq4 := Lib.hid (below_keep hB4 Hq3.out)
    clear hat hB4 Hq3
    go_wp2_with (first
      | (refine wpList_load_row rfl 23 _ rfl q rfl 23 (byV o).toArray (0, 0) _ hq4.out Tryd.underlying23 rfl dixA ?_)
      | (go_at_call 16; refine (hnewR.out w4).mono ?_; rintro e w5 ⟨r, rfl, hr, hrat, hB5⟩))
    have hboth : Both w1.heap.size w5 [p] [r] p r (Hl.new o x) := by
      have h1 := HB3.out.size
      have h2 := HB4.out.size
      have h3 := Hat.out.lt p (by simp)
      exact ⟨Hat.out.below hB5, hrat, by intro y hy; simp at hy; omega, by intro y hy; simp at hy; omega, by intro y hy; simp at hy; simp; omega⟩
    have hb5 : Below w1.heap.size w1 w5 := (HB3.out.trans (HB4.out.mono HB3.out.size)).trans (hB5.mono (HB3.out.trans (HB4.out.mono HB3.out.size)).size)
    have Hbo := Lib.hid hboth
    have Hb5 := Lib.hid hb5
    clear hboth hb5 hrat hB5 hr hp Hat HB4 HB3 hq4 hnew hnewR
    go_loopw [9] (fun i wr => ∃ (k : Nat) (d : HlD) (S R : List Nat), k ≤ n ∧ k ≤ 80 ∧ i = .int .i64 k ∧ Both w1.heap.size wr S R p r d ∧ Below w1.heap.size w1 wr) (fun i _ => 80 - (intOf i).toNat)
    case atStart => exact ⟨0, _, _, _, by omega, by omega, rfl, Hbo.out, Hb5.out⟩
    case round =>
      obtain ⟨k, d, S, R, hk, hk80, rfl, hbo, hb⟩ := hrel
      have HBo := Lib.hid hbo
      have Hb := Lib.hid hb
      clear hbo hb Hbo Hb5
      by_cases hkk : k < n ∧ k < 80
      · obtain ⟨h1, h2⟩ := hkk
        have j1 : (k : Int) < (n : Int) := by omega
        have j2 : (k : Int) < 80 := by omega
        have hid : k < ds.length := by rw [← Hn.out]; exact h1
        have Hid' := Lib.hid hid
        have Hk80 := Lib.hid h2
        clear hid h1 h2
        go_upto_region 14 with fail
        have hb0 := ((Below.refl wr.heap.size wr).alloc (Nat.le_refl _) (.cells #[] 50)).alloc (by simp) (.cells #[] 50)
        obtain ⟨W0, hW0⟩ : ∃ y, y = (wr.alloc (.cells #[] 50)).alloc (.cells #[] 50) := ⟨_, rfl⟩
        rw [← hW0] at hb0 ⊢
        have HBo0 := Lib.hid (HBo.out.below hb0)
        have hb1 : Below w1.heap.size w1 W0 := Hb.out.trans (hb0.mono Hb.out.size)
        have Hb0 := Lib.hid hb1
        clear hW0 hb0 hb1 HBo Hb
        obtain ⟨b, o', rfl, hbl, hr, hk'⟩ := (HA1.out.below Hb0.out) k Hid'.out
        obtain ⟨b', o2, hAe, hbw, -, -⟩ := HA1.out k Hid'.out
        obtain ⟨rfl, rfl⟩ : b = b' ∧ o' = o2 := by simpa using hAe
        obtain ⟨hsd, -⟩ := Hsm.out k Hid'.out Hk80.out
        have hdsk := Lib.hid (fun W (hW : Below w1.heap.size w1 W) => by
          obtain ⟨_, _, _, _, _, hq⟩ := (HA1.out.below hW) k Hid'.out
          exact hq.ok hsd)
        have hapk := Lib.hid (fun R' => acts_apart HA1.out k Hid'.out (R := R'))
        obtain ⟨a, ha⟩ : ∃ a, a = ds[k]'Hid'.out := ⟨_, rfl⟩
        rw [← ha] at hr hk' hsd hdsk hapk
        have fok := hk'.ok hsd
        obtain ⟨ck, rf, -, -⟩ := act_cells hk'.fit hr
        have fdix : (Tryd.prog.info? 44).map (·.size) = some a.f.cells.length := by rw [fr_info, FrD.len fok.fit]
        have Hfok := Lib.hid fok
        have Hsd := Lib.hid hsd
        obtain ⟨kd, hkd⟩ : ∃ kd, kd = a.kind := ⟨_, rfl⟩
        rw [← hkd] at ck
        have Hbw := Lib.hid hbw
        clear ha hkd hr hk' fok hsd hAe hbl
        go_upto_if 51 with fail
        go_cut [10, 11] from 30 to 164 (fun v1 v2 wx => ∃ (d' : HlD) (S' R' : List Nat) (ats : List Int), Both w1.heap.size wx S' R' p r d' ∧ Sents wx v1 d.peer d.out ats ∧ Sents wx v2 d.peer d.out ats ∧ Below w1.heap.size w1 wx)
        case first =>
          by_cases hk1 : kd = 1
          · have e1 : (kd == 1) = true := by simp [hk1]
            have Ht := Lib.hid (tick_any p S d W0 HBo0.out.hl)
            clear hk1 rf fdix
            go_wp2_with fail
            refine Ht.out.mono ?_
            rintro e w6 ⟨v1, S1, rfl, a1, g1, o1, s1, -⟩
            have Hr := Lib.hid (rtick_any r R d w6 (HBo0.out.rf.only o1 (fun y hy hS => HBo0.out.ap y hS hy)))
            have Ha1 := Lib.hid a1
            have Hg1 := Lib.hid g1
            have Ho1 := Lib.hid o1
            have Hs1 := Lib.hid s1
            clear a1 g1 o1 s1 Ht
            go_wp2_with fail
            refine Hr.out.mono ?_
            rintro e w7 ⟨v2, R1, rfl, a2, g2, o2, s2, -⟩
            have hb7 : Below w1.heap.size w1 w7 := (Hb0.out.trans (Ho1.out.below Hb0.out.size HBo0.out.sB)).trans (o2.below (Hb0.out.trans (Ho1.out.below Hb0.out.size HBo0.out.sB)).size HBo0.out.rB)
            have Hres := Lib.hid (both_act HBo0.out Hb0.out.size Ha1.out Hg1.out Ho1.out Hs1.out a2 g2 o2 s2)
            have Hb7 := Lib.hid hb7
            clear a2 g2 o2 s2 hb7 Hr
            go_wp2_with fail
            go_meet
            case rel => exact ⟨_, _, _, _, Hres.out.1, Hres.out.2.1, Hres.out.2.2, Hb7.out⟩
          · have e1 : (kd == 1) = false := by simp [hk1]
            have h0S : 0 ∉ S := fun h0 => by have := HBo0.out.sB 0 h0; have := HL1.out.lt; omega
            have Ht := Lib.hid (hear_any KK p S d a.f W0 HBo0.out.hl Hfok.out (HL1.out.below Hb0.out) h0S)
            have hfr : a.f.row = a.f.cells.toArray := rfl
            have Hfr := Lib.hid hfr
            rw [hfr] at Ht
            obtain ⟨fc, hfc⟩ : ∃ fc, fc = a.f.cells := ⟨_, rfl⟩
            rw [← hfc] at rf fdix Ht Hfr
            clear hk1 hfc h0S hfr
            have fund := Tryd.underlying44
            have bS : ∀ y ∈ S, y ≠ b := fun y hy e => by have := HBo0.out.sB y hy; have := Hbw.out; omega
            have HbS := Lib.hid bS
            have lb0 : b < W0.heap.size := Nat.lt_of_lt_of_le Hbw.out Hb0.out.size
            have Hlb := Lib.hid lb0
            clear bS lb0
            go_upto_region 18 with (first
              | (refine wpList_load_mid rfl 44 _ rfl b (o' + k * 238 + 1) rfl fc _ rf fund rfl fdix ?_)
              | (go_at_call 19; refine Ht.out.mono ?_; rintro e w6 ⟨v1, S1, rfl, a1, g1, o1, s1, -⟩))
            have rf6 := range_keep rf (o1.block b Hlb.out (fun hm => HbS.out b hm rfl))
            have hb6 : Below w1.heap.size w1 w6 := Hb0.out.trans (o1.below Hb0.out.size HBo0.out.sB)
            have hr6 := rhear_any r R d a.f w6 (HBo0.out.rf.only o1 (fun y hy hS => HBo0.out.ap y hS hy)) (hdsk.out w6 hb6) (Nat.le_trans Hsd.out (by decide)) (hapk.out R HBo0.out.rB)
            rw [Hfr.out] at hr6
            have Hr := Lib.hid hr6
            have Ha1 := Lib.hid a1
            have Hg1 := Lib.hid g1
            have Ho1 := Lib.hid o1
            have Hs1 := Lib.hid s1
            have Hb6 := Lib.hid hb6
            clear a1 g1 o1 s1 Ht hr6 hb6 rf
            go_wp2_with (refine wpList_load_mid rfl 44 _ rfl b (o' + k * 238 + 1) rfl fc _ rf6 fund rfl fdix ?_)
            refine Hr.out.mono ?_
            rintro e w7 ⟨v2, R1, rfl, a2, g2, o2, s2, -⟩
            have hb7 : Below w1.heap.size w1 w7 := Hb6.out.trans (o2.below Hb6.out.size HBo0.out.rB)
            have Hres := Lib.hid (both_act HBo0.out Hb0.out.size Ha1.out Hg1.out Ho1.out Hs1.out a2 g2 o2 s2)
            have Hb7 := Lib.hid hb7
            clear a2 g2 o2 s2 hb7 Hr
            go_wp2_with fail
            go_meet
            case rel => exact ⟨_, _, _, _, Hres.out.1, Hres.out.2.1, Hres.out.2.2, Hb7.out⟩
        obtain ⟨d', S', R', ats, hbo, hs1, hs2, hb⟩ := hcut
        obtain ⟨A1, c1, rfl⟩ := hs1.shape
        obtain ⟨A2, c2, rfl⟩ := hs2.shape
        have hm9 := sents_len hs1
        have hpo : d.out.length = 32 := HBo0.out.hl.ok.out
        have Hpo := Lib.hid hpo
        have Hs1 := Lib.hid hs1
        have Hs2 := Lib.hid hs2
        have HBo2 := Lib.hid hbo
        have Hb2 := Lib.hid hb
        obtain ⟨m, hm⟩ : ∃ m, m = ats.length := ⟨_, rfl⟩
        rw [← hm] at hm9 ⊢
        unfold maxLen at hm9
        have m63 : (m : Int) ≤ 9223372036854775807 := by omega
        have Hm := Lib.hid hm
        have hne : ((m : Int) != (m : Int)) = false := by simp
        clear hs1 hs2 hbo hb hm hpo HBo0 Hb0 hdsk hapk Hsd Hfok Hbw ck rf fdix
        go_wp2_with fail
        go_loopw [12] (fun i wx => ∃ j : Nat, j ≤ m ∧ i = .int .i64 j ∧ Below wc.heap.size wc wx) (fun i _ => m - (intOf i).toNat)
        case atStart => exact ⟨0, by omega, rfl, Below.refl _ _⟩
        case round =>
          obtain ⟨j, hj, rfl, hbx⟩ := hrel
          have Hbx := Lib.hid hbx
          by_cases hjm : j < m
          · have hjl : j < ats.length := by rw [← Hm.out]; exact hjm
            obtain ⟨y, hy⟩ : ∃ y, ats[j]? = some y := ⟨_, List.getElem?_eq_getElem hjl⟩
            obtain ⟨g1, cc1, e1, l1, a0, a1, a2, ra⟩ := (Hs1.out.below hbx).at Hpo.out j y hy
            obtain ⟨g2, cc2, e2, l2, b0, b1, b2, rb⟩ := (Hs2.out.below hbx).at Hpo.out j y hy
            obtain rfl : A1 = some ⟨g1, 0, none⟩ := by injection e1
            obtain rfl : A2 = some ⟨g2, 0, none⟩ := by injection e2
            have dund := Tryd.underlying23
            have dix : (Tryd.prog.info? 23).map (·.size) = some (byV d.out).length := by rw [dig_info, byV_length, Hpo.out]
            have heq : ∀ W : World, (Op.equalIn 10000 23 (.agg (byV d.out).toArray) (.agg (byV d.out).toArray)).run Tryd.prog W = .ok (d.out == d.out) W := fun W => eqIn_dig W d.out d.out Hpo.out Hpo.out
            rw [show (d.out == d.out) = true by simp] at heq
            obtain ⟨oc, hoc⟩ : ∃ y, y = byV d.out := ⟨_, rfl⟩
            obtain ⟨pe, hpe⟩ : ∃ y, y = d.peer := ⟨_, rfl⟩
            rw [← hoc] at ra rb dix heq
            rw [← hpe] at a0 b0
            have jm : (j : Int) < (m : Int) := by omega
            have z1 : (pe != pe) = false := by simp
            have z2 : (y != y) = false := by simp
            clear hoc hpe hbx e1 e2 hy hjl
            go_upto_region 24 with fail
            refine wp_region_held_drew (S := fun w' => Below wr.heap.size wr w') (by kernel_rfl) ((Below.refl _ _).drew) (fun hH0 => ?_)
            obtain ⟨W0, hW0⟩ : ∃ W, W = wr.drew := ⟨_, rfl⟩
            rw [← hW0] at hH0 ⊢
            clear hW0
            refine wpAnyH_take (i := 0) (v := ?_) rfl (by kernel_rfl) (by kernel_rfl) (by kernel_rfl) (fun _ _ _ h => h) (Or.inl ⟨by kernel_rfl, ?_⟩) hH0 ?_
            rotate_left 1
            · intro w hSw
              go_simp
              try with_reducible rfl
            try simp only [Act.put, List.getElem_toArray, List.getElem_cons_zero, List.getElem_cons_succ, List.setIfInBounds_toArray, List.set_cons_zero, List.set_cons_succ]
            refine wpAnyH_take (i := 1) (v := ?_) rfl (by kernel_rfl) (by kernel_rfl) (by kernel_rfl) (fun _ _ _ h => h) (Or.inl ⟨by kernel_rfl, ?_⟩) hH0 ?_
            rotate_left 1
            · intro w hSw
              go_simp
              try with_reducible rfl
            try simp only [Act.put, List.getElem_toArray, List.getElem_cons_zero, List.getElem_cons_succ, List.setIfInBounds_toArray, List.set_cons_zero, List.set_cons_succ]
            refine wpAnyH_take (i := 2) (v := ?_) rfl (by kernel_rfl) (by kernel_rfl) (by kernel_rfl) (fun _ _ _ h => h) (Or.inl ⟨by kernel_rfl, ?_⟩) hH0 ?_
            rotate_left 1
            · intro w hSw
              go_simp
              try with_reducible rfl
            try simp only [Act.put, List.getElem_toArray, List.getElem_cons_zero, List.getElem_cons_succ, List.setIfInBounds_toArray, List.set_cons_zero, List.set_cons_succ]
            refine wpAnyH_take (i := 3) (v := ?_) rfl (by kernel_rfl) (by kernel_rfl) (by kernel_rfl) (fun _ _ _ h => h) (Or.inl ⟨by kernel_rfl, ?_⟩) hH0 ?_
            rotate_left 1
            · intro w hSw
              go_simp
              try with_reducible rfl
            try simp only [Act.put, List.getElem_toArray, List.getElem_cons_zero, List.getElem_cons_succ, List.setIfInBounds_toArray, List.set_cons_zero, List.set_cons_succ]
            refine wpAnyH_take (i := 4) (v := ?_) rfl (by kernel_rfl) (by kernel_rfl) (by kernel_rfl) (fun _ _ _ h => h) (Or.inl ⟨by kernel_rfl, ?_⟩) hH0 ?_
            rotate_left 1
            · intro w hSw
              have f0 := (hSw.cell (p := ⟨g1, j * 238, none⟩) l1).trans a0
              have f1 := (hSw.cell (p := ⟨g1, j * 238 + 1, none⟩) l1).trans a1
              have f2 := (hSw.cell (p := ⟨g1, j * 238 + 135, none⟩) l1).trans a2
              have f3 := (hSw.cell (p := ⟨g2, j * 238, none⟩) l2).trans b0
              have f4 := (hSw.cell (p := ⟨g2, j * 238 + 1, none⟩) l2).trans b1
              have f5 := (hSw.cell (p := ⟨g2, j * 238 + 135, none⟩) l2).trans b2
              go_simp
              try with_reducible rfl
            try simp only [Act.put, List.getElem_toArray, List.getElem_cons_zero, List.getElem_cons_succ, List.setIfInBounds_toArray, List.set_cons_zero, List.set_cons_succ]
            refine wpAnyH_take (i := 5) (v := ?_) rfl (by kernel_rfl) (by kernel_rfl) (by kernel_rfl) (fun _ _ _ h => h) (Or.inl ⟨by kernel_rfl, ?_⟩) hH0 ?_
            rotate_left 1
            · intro w hSw
              go_simp
              try with_reducible rfl
            try simp only [Act.put, List.getElem_toArray, List.getElem_cons_zero, List.getElem_cons_succ, List.setIfInBounds_toArray, List.set_cons_zero, List.set_cons_succ]
            refine wpAnyH_take (i := 6) (v := ?_) rfl (by kernel_rfl) (by kernel_rfl) (by kernel_rfl) (fun _ _ _ h => h) (Or.inl ⟨by kernel_rfl, ?_⟩) hH0 ?_
            rotate_left 1
            · intro w hSw
              go_simp
              try with_reducible rfl
            try simp only [Act.put, List.getElem_toArray, List.getElem_cons_zero, List.getElem_cons_succ, List.setIfInBounds_toArray, List.set_cons_zero, List.set_cons_succ]
            refine wpAnyH_take (i := 7) (v := ?_) rfl (by kernel_rfl) (by kernel_rfl) (by kernel_rfl) (fun _ _ _ h => h) (Or.inl ⟨by kernel_rfl, ?_⟩) hH0 ?_
            rotate_left 1
            · intro w hSw
              go_simp
              try with_reducible rfl
            try simp only [Act.put, List.getElem_toArray, List.getElem_cons_zero, List.getElem_cons_succ, List.setIfInBounds_toArray, List.set_cons_zero, List.set_cons_succ]
            refine wpAnyH_take (i := 8) (v := ?_) rfl (by kernel_rfl) (by kernel_rfl) (by kernel_rfl) (fun _ _ _ h => h) (Or.inl ⟨by kernel_rfl, ?_⟩) hH0 ?_
            rotate_left 1
            · intro w hSw
              go_simp
              try with_reducible rfl
            try simp only [Act.put, List.getElem_toArray, List.getElem_cons_zero, List.getElem_cons_succ, List.setIfInBounds_toArray, List.set_cons_zero, List.set_cons_succ]
            refine wpAnyH_take (i := 9) (v := ?_) rfl (by kernel_rfl) (by kernel_rfl) (by kernel_rfl) (fun _ _ _ h => h) (Or.inl ⟨by kernel_rfl, ?_⟩) hH0 ?_
            rotate_left 1
            · intro w hSw
              have f0 := (hSw.cell (p := ⟨g1, j * 238, none⟩) l1).trans a0
              have f1 := (hSw.cell (p := ⟨g1, j * 238 + 1, none⟩) l1).trans a1
              have f2 := (hSw.cell (p := ⟨g1, j * 238 + 135, none⟩) l1).trans a2
              have f3 := (hSw.cell (p := ⟨g2, j * 238, none⟩) l2).trans b0
              have f4 := (hSw.cell (p := ⟨g2, j * 238 + 1, none⟩) l2).trans b1
              have f5 := (hSw.cell (p := ⟨g2, j * 238 + 135, none⟩) l2).trans b2
              go_simp
              try with_reducible rfl
            try simp only [Act.put, List.getElem_toArray, List.getElem_cons_zero, List.getElem_cons_succ, List.setIfInBounds_toArray, List.set_cons_zero, List.set_cons_succ]
            refine wpAnyH_take (i := 10) (v := ?_) rfl (by kernel_rfl) (by kernel_rfl) (by kernel_rfl) (fun _ _ _ h => h) (Or.inl ⟨by kernel_rfl, ?_⟩) hH0 ?_
            rotate_left 1
            · intro w hSw
              go_simp
              try with_reducible rfl
            try simp only [Act.put, List.getElem_toArray, List.getElem_cons_zero, List.getElem_cons_succ, List.setIfInBounds_toArray, List.set_cons_zero, List.set_cons_succ]
            refine wpAnyH_take (i := 11) (v := ?_) rfl (by kernel_rfl) (by kernel_rfl) (by kernel_rfl) (fun _ _ _ h => h) (Or.inl ⟨by kernel_rfl, ?_⟩) hH0 ?_
            rotate_left 1
            · intro w hSw
              go_simp
              try with_reducible rfl
            try simp only [Act.put, List.getElem_toArray, List.getElem_cons_zero, List.getElem_cons_succ, List.setIfInBounds_toArray, List.set_cons_zero, List.set_cons_succ]
            refine wpAnyH_take (i := 12) (v := ?_) rfl (by kernel_rfl) (by kernel_rfl) (by kernel_rfl) (fun _ _ _ h => h) (Or.inl ⟨by kernel_rfl, ?_⟩) hH0 ?_
            rotate_left 1
            · intro w hSw
              go_simp
              try with_reducible rfl
            try simp only [Act.put, List.getElem_toArray, List.getElem_cons_zero, List.getElem_cons_succ, List.setIfInBounds_toArray, List.set_cons_zero, List.set_cons_succ]
            refine wpAnyH_take (i := 13) (v := ?_) rfl (by kernel_rfl) (by kernel_rfl) (by kernel_rfl) (fun _ _ _ h => h) (Or.inl ⟨by kernel_rfl, ?_⟩) hH0 ?_
            rotate_left 1
            · intro w hSw
              go_simp
              try with_reducible rfl
            try simp only [Act.put, List.getElem_toArray, List.getElem_cons_zero, List.getElem_cons_succ, List.setIfInBounds_toArray, List.set_cons_zero, List.set_cons_succ]
            refine wpAnyH_take (i := 14) (v := ?_) rfl (by kernel_rfl) (by kernel_rfl) (by kernel_rfl) (fun _ _ _ h => h) (Or.inl ⟨by kernel_rfl, ?_⟩) hH0 ?_
            rotate_left 1
            · intro w hSw
              go_simp
              try with_reducible rfl
            try simp only [Act.put, List.getElem_toArray, List.getElem_cons_zero, List.getElem_cons_succ, List.setIfInBounds_toArray, List.set_cons_zero, List.set_cons_succ]
            refine wpAnyH_take (i := 15) (v := ?_) rfl (by kernel_rfl) (by kernel_rfl) (by kernel_rfl) (fun _ _ _ h => h) (Or.inl ⟨by kernel_rfl, ?_⟩) hH0 ?_
            rotate_left 1
            · intro w hSw
              go_simp
              try with_reducible rfl
            try simp only [Act.put, List.getElem_toArray, List.getElem_cons_zero, List.getElem_cons_succ, List.setIfInBounds_toArray, List.set_cons_zero, List.set_cons_succ]
            refine wpAnyH_take (i := 16) (v := ?_) rfl (by kernel_rfl) (by kernel_rfl) (by kernel_rfl) (fun _ _ _ h => h) (Or.inl ⟨by kernel_rfl, ?_⟩) hH0 ?_
            rotate_left 1
            · intro w hSw
              go_simp
              try with_reducible rfl
            try simp only [Act.put, List.getElem_toArray, List.getElem_cons_zero, List.getElem_cons_succ, List.setIfInBounds_toArray, List.set_cons_zero, List.set_cons_succ]
            refine wpAnyH_take (i := 17) (v := ?_) rfl (by kernel_rfl) (by kernel_rfl) (by kernel_rfl) (fun _ _ _ h => h) (Or.inl ⟨by kernel_rfl, ?_⟩) hH0 ?_
            rotate_left 1
            · intro w hSw
              have f0 := (hSw.cell (p := ⟨g1, j * 238, none⟩) l1).trans a0
              have f1 := (hSw.cell (p := ⟨g1, j * 238 + 1, none⟩) l1).trans a1
              have f2 := (hSw.cell (p := ⟨g1, j * 238 + 135, none⟩) l1).trans a2
              have f3 := (hSw.cell (p := ⟨g2, j * 238, none⟩) l2).trans b0
              have f4 := (hSw.cell (p := ⟨g2, j * 238 + 1, none⟩) l2).trans b1
              have f5 := (hSw.cell (p := ⟨g2, j * 238 + 135, none⟩) l2).trans b2
              go_simp
              try with_reducible rfl
            try simp only [Act.put, List.getElem_toArray, List.getElem_cons_zero, List.getElem_cons_succ, List.setIfInBounds_toArray, List.set_cons_zero, List.set_cons_succ]
            refine wpAnyH_take (i := 18) (v := ?_) rfl (by kernel_rfl) (by kernel_rfl) (by kernel_rfl) (fun _ _ _ h => h) (Or.inl ⟨by kernel_rfl, ?_⟩) hH0 ?_
            rotate_left 1
            · intro w hSw
              go_simp
              try with_reducible rfl
            try simp only [Act.put, List.getElem_toArray, List.getElem_cons_zero, List.getElem_cons_succ, List.setIfInBounds_toArray, List.set_cons_zero, List.set_cons_succ]
            refine wpAnyH_take (i := 19) (v := ?_) rfl (by kernel_rfl) (by kernel_rfl) (by kernel_rfl) (fun _ _ _ h => h) (Or.inl ⟨by kernel_rfl, ?_⟩) hH0 ?_
            rotate_left 1
            · intro w hSw
              go_simp
              try with_reducible rfl
            try simp only [Act.put, List.getElem_toArray, List.getElem_cons_zero, List.getElem_cons_succ, List.setIfInBounds_toArray, List.set_cons_zero, List.set_cons_succ]
            refine wpAnyH_take (i := 20) (v := ?_) rfl (by kernel_rfl) (by kernel_rfl) (by kernel_rfl) (fun _ _ _ h => h) (Or.inl ⟨by kernel_rfl, ?_⟩) hH0 ?_
            rotate_left 1
            · intro w hSw
              go_simp
              try with_reducible rfl
            try simp only [Act.put, List.getElem_toArray, List.getElem_cons_zero, List.getElem_cons_succ, List.setIfInBounds_toArray, List.set_cons_zero, List.set_cons_succ]
            refine wpAnyH_take (i := 21) (v := ?_) rfl (by kernel_rfl) (by kernel_rfl) (by kernel_rfl) (fun _ _ _ h => h) (Or.inl ⟨by kernel_rfl, ?_⟩) hH0 ?_
            rotate_left 1
            · intro w hSw
              go_simp
              try with_reducible rfl
            try simp only [Act.put, List.getElem_toArray, List.getElem_cons_zero, List.getElem_cons_succ, List.setIfInBounds_toArray, List.set_cons_zero, List.set_cons_succ]
            refine wpAnyH_take (i := 22) (v := ?_) rfl (by kernel_rfl) (by kernel_rfl) (by kernel_rfl) (fun _ _ _ h => h) (Or.inl ⟨by kernel_rfl, ?_⟩) hH0 ?_
            rotate_left 1
            · intro w hSw
              go_simp
              try with_reducible rfl
            try simp only [Act.put, List.getElem_toArray, List.getElem_cons_zero, List.getElem_cons_succ, List.setIfInBounds_toArray, List.set_cons_zero, List.set_cons_succ]
            refine wpAnyH_take (i := 23) (v := ?_) rfl (by kernel_rfl) (by kernel_rfl) (by kernel_rfl) (fun _ _ _ h => h) (Or.inl ⟨by kernel_rfl, ?_⟩) hH0 ?_
            rotate_left 1
            · intro w hSw
              have f0 := (hSw.cell (p := ⟨g1, j * 238, none⟩) l1).trans a0
              have f1 := (hSw.cell (p := ⟨g1, j * 238 + 1, none⟩) l1).trans a1
              have f2 := (hSw.cell (p := ⟨g1, j * 238 + 135, none⟩) l1).trans a2
              have f3 := (hSw.cell (p := ⟨g2, j * 238, none⟩) l2).trans b0
              have f4 := (hSw.cell (p := ⟨g2, j * 238 + 1, none⟩) l2).trans b1
              have f5 := (hSw.cell (p := ⟨g2, j * 238 + 135, none⟩) l2).trans b2
              go_simp
              try with_reducible rfl
            try simp only [Act.put, List.getElem_toArray, List.getElem_cons_zero, List.getElem_cons_succ, List.setIfInBounds_toArray, List.set_cons_zero, List.set_cons_succ]
            refine wpAnyH_take (i := 24) (v := ?_) rfl (by kernel_rfl) (by kernel_rfl) (by kernel_rfl) (fun _ _ _ h => h) (Or.inl ⟨by kernel_rfl, ?_⟩) hH0 ?_
            rotate_left 1
            · intro w hSw
              go_simp
              try with_reducible rfl
            try simp only [Act.put, List.getElem_toArray, List.getElem_cons_zero, List.getElem_cons_succ, List.setIfInBounds_toArray, List.set_cons_zero, List.set_cons_succ]
            refine wpAnyH_take (i := 25) (v := ?_) rfl (by kernel_rfl) (by kernel_rfl) (by kernel_rfl) (fun _ _ _ h => h) (Or.inl ⟨by kernel_rfl, ?_⟩) hH0 ?_
            rotate_left 1
            · intro w hSw
              go_simp
              try with_reducible rfl
            try simp only [Act.put, List.getElem_toArray, List.getElem_cons_zero, List.getElem_cons_succ, List.setIfInBounds_toArray, List.set_cons_zero, List.set_cons_succ]
            refine wpAnyH_take (i := 26) (v := ?_) rfl (by kernel_rfl) (by kernel_rfl) (by kernel_rfl) (fun _ _ _ h => h) (Or.inl ⟨by kernel_rfl, ?_⟩) hH0 ?_
            rotate_left 1
            · intro w hSw
              go_simp
              try with_reducible rfl
            try simp only [Act.put, List.getElem_toArray, List.getElem_cons_zero, List.getElem_cons_succ, List.setIfInBounds_toArray, List.set_cons_zero, List.set_cons_succ]
            refine wpAnyH_take (i := 27) (v := ?_) rfl (by kernel_rfl) (by kernel_rfl) (by kernel_rfl) (fun _ _ _ h => h) (Or.inl ⟨by kernel_rfl, ?_⟩) hH0 ?_
            rotate_left 1
            · intro w hSw
              go_simp
              try with_reducible rfl
            try simp only [Act.put, List.getElem_toArray, List.getElem_cons_zero, List.getElem_cons_succ, List.setIfInBounds_toArray, List.set_cons_zero, List.set_cons_succ]
            refine wpAnyH_take (i := 28) (v := ?_) rfl (by kernel_rfl) (by kernel_rfl) (by kernel_rfl) (fun _ _ _ h => h) (Or.inl ⟨by kernel_rfl, ?_⟩) hH0 ?_
            rotate_left 1
            · intro w hSw
              go_simp
              try with_reducible rfl
            try simp only [Act.put, List.getElem_toArray, List.getElem_cons_zero, List.getElem_cons_succ, List.setIfInBounds_toArray, List.set_cons_zero, List.set_cons_succ]
            refine wpAnyH_take (i := 29) (v := ?_) rfl (by kernel_rfl) (by kernel_rfl) (by kernel_rfl) (fun _ _ _ h => h) (Or.inl ⟨by kernel_rfl, ?_⟩) hH0 ?_
            rotate_left 1
            · intro w hSw
              go_simp
              try with_reducible rfl
            try simp only [Act.put, List.getElem_toArray, List.getElem_cons_zero, List.getElem_cons_succ, List.setIfInBounds_toArray, List.set_cons_zero, List.set_cons_succ]
            refine wpAnyH_take (i := 30) (v := ?_) rfl (by kernel_rfl) (by kernel_rfl) (by kernel_rfl) (fun _ _ _ h => h) (Or.inl ⟨by kernel_rfl, ?_⟩) hH0 ?_
            rotate_left 1
            · intro w hSw
              go_simp
              try with_reducible rfl
            try simp only [Act.put, List.getElem_toArray, List.getElem_cons_zero, List.getElem_cons_succ, List.setIfInBounds_toArray, List.set_cons_zero, List.set_cons_succ]
            refine wpAnyH_take (i := 31) (v := ?_) rfl (by kernel_rfl) (by kernel_rfl) (by kernel_rfl) (fun _ _ _ h => h) (Or.inl ⟨by kernel_rfl, ?_⟩) hH0 ?_
            rotate_left 1
            · intro w hSw
              go_simp
              try with_reducible rfl
            try simp only [Act.put, List.getElem_toArray, List.getElem_cons_zero, List.getElem_cons_succ, List.setIfInBounds_toArray, List.set_cons_zero, List.set_cons_succ]
            refine wpAnyH_take (i := 32) (v := _) rfl (by kernel_rfl) (by kernel_rfl) (by kernel_rfl) (fun _ _ _ h => h) (yieldsIf_load_mid (by kernel_rfl) _ _ rfl _ _ rfl oc _ (fun W hW => range_below ra hW l1) dund rfl dix) hH0 ?_
            try simp only [Act.put, List.getElem_toArray, List.getElem_cons_zero, List.getElem_cons_succ, List.setIfInBounds_toArray, List.set_cons_zero, List.set_cons_succ]
            refine wpAnyH_take (i := 33) (v := ?_) rfl (by kernel_rfl) (by kernel_rfl) (by kernel_rfl) (fun _ _ _ h => h) (Or.inl ⟨by kernel_rfl, ?_⟩) hH0 ?_
            rotate_left 1
            · intro w hSw
              go_simp
              try with_reducible rfl
            try simp only [Act.put, List.getElem_toArray, List.getElem_cons_zero, List.getElem_cons_succ, List.setIfInBounds_toArray, List.set_cons_zero, List.set_cons_succ]
            refine wpAnyH_take (i := 34) (v := ?_) rfl (by kernel_rfl) (by kernel_rfl) (by kernel_rfl) (fun _ _ _ h => h) (Or.inl ⟨by kernel_rfl, ?_⟩) hH0 ?_
            rotate_left 1
            · intro w hSw
              go_simp
              try with_reducible rfl
            try simp only [Act.put, List.getElem_toArray, List.getElem_cons_zero, List.getElem_cons_succ, List.setIfInBounds_toArray, List.set_cons_zero, List.set_cons_succ]
            refine wpAnyH_take (i := 35) (v := ?_) rfl (by kernel_rfl) (by kernel_rfl) (by kernel_rfl) (fun _ _ _ h => h) (Or.inl ⟨by kernel_rfl, ?_⟩) hH0 ?_
            rotate_left 1
            · intro w hSw
              go_simp
              try with_reducible rfl
            try simp only [Act.put, List.getElem_toArray, List.getElem_cons_zero, List.getElem_cons_succ, List.setIfInBounds_toArray, List.set_cons_zero, List.set_cons_succ]
            refine wpAnyH_take (i := 36) (v := ?_) rfl (by kernel_rfl) (by kernel_rfl) (by kernel_rfl) (fun _ _ _ h => h) (Or.inl ⟨by kernel_rfl, ?_⟩) hH0 ?_
            rotate_left 1
            · intro w hSw
              go_simp
              try with_reducible rfl
            try simp only [Act.put, List.getElem_toArray, List.getElem_cons_zero, List.getElem_cons_succ, List.setIfInBounds_toArray, List.set_cons_zero, List.set_cons_succ]
            refine wpAnyH_take (i := 37) (v := ?_) rfl (by kernel_rfl) (by kernel_rfl) (by kernel_rfl) (fun _ _ _ h => h) (Or.inl ⟨by kernel_rfl, ?_⟩) hH0 ?_
            rotate_left 1
            · intro w hSw
              go_simp
              try with_reducible rfl
            try simp only [Act.put, List.getElem_toArray, List.getElem_cons_zero, List.getElem_cons_succ, List.setIfInBounds_toArray, List.set_cons_zero, List.set_cons_succ]
            refine wpAnyH_take (i := 38) (v := _) rfl (by kernel_rfl) (by kernel_rfl) (by kernel_rfl) (fun _ _ _ h => h) (yieldsIf_load_mid (by kernel_rfl) _ _ rfl _ _ rfl oc _ (fun W hW => range_below rb hW l2) dund rfl dix) hH0 ?_
            try simp only [Act.put, List.getElem_toArray, List.getElem_cons_zero, List.getElem_cons_succ, List.setIfInBounds_toArray, List.set_cons_zero, List.set_cons_succ]
            refine wpAnyH_take (i := 39) (v := ?_) rfl (by kernel_rfl) (by kernel_rfl) (by kernel_rfl) (fun _ _ _ h => h) (Or.inl ⟨by kernel_rfl, ?_⟩) hH0 ?_
            rotate_left 1
            · intro w hSw
              go_simp
              try with_reducible rfl
            try simp only [Act.put, List.getElem_toArray, List.getElem_cons_zero, List.getElem_cons_succ, List.setIfInBounds_toArray, List.set_cons_zero, List.set_cons_succ]
            refine wpAnyH_take (i := 40) (v := ?_) rfl (by kernel_rfl) (by kernel_rfl) (by kernel_rfl) (fun _ _ _ h => h) (Or.inl ⟨by kernel_rfl, ?_⟩) hH0 ?_
            rotate_left 1
            · intro w hSw
              go_simp
              try with_reducible rfl
            try simp only [Act.put, List.getElem_toArray, List.getElem_cons_zero, List.getElem_cons_succ, List.setIfInBounds_toArray, List.set_cons_zero, List.set_cons_succ]
            refine wpAnyH_take (i := 41) (v := ?_) rfl (by kernel_rfl) (by kernel_rfl) (by kernel_rfl) (fun _ _ _ h => h) (Or.inl ⟨by kernel_rfl, ?_⟩) hH0 ?_
            rotate_left 1
            · intro w hSw
              go_simp
              try with_reducible rfl
            try simp only [Act.put, List.getElem_toArray, List.getElem_cons_zero, List.getElem_cons_succ, List.setIfInBounds_toArray, List.set_cons_zero, List.set_cons_succ]
            refine wpAnyH_take (i := 42) (v := ?_) rfl (by kernel_rfl) (by kernel_rfl) (by kernel_rfl) (fun _ _ _ h => h) (Or.inl ⟨by kernel_rfl, ?_⟩) hH0 ?_
            rotate_left 1
            · intro w hSw
              go_simp
              try with_reducible rfl
            try simp only [Act.put, List.getElem_toArray, List.getElem_cons_zero, List.getElem_cons_succ, List.setIfInBounds_toArray, List.set_cons_zero, List.set_cons_succ]
            refine wpAnyH_take (i := 43) (v := ?_) rfl (by kernel_rfl) (by kernel_rfl) (by kernel_rfl) (fun _ _ _ h => h) (Or.inl ⟨by kernel_rfl, ?_⟩) hH0 ?_
            rotate_left 1
            · intro w hSw
              go_simp
              try with_reducible rfl
            try simp only [Act.put, List.getElem_toArray, List.getElem_cons_zero, List.getElem_cons_succ, List.setIfInBounds_toArray, List.set_cons_zero, List.set_cons_succ]
            refine wpAnyH_take (i := 44) (v := ?_) rfl (by kernel_rfl) (by kernel_rfl) (by kernel_rfl) (fun _ _ _ h => h) (Or.inl ⟨by kernel_rfl, ?_⟩) hH0 ?_
            rotate_left 1
            · intro w hSw
              go_simp
              try with_reducible rfl
            try simp only [Act.put, List.getElem_toArray, List.getElem_cons_zero, List.getElem_cons_succ, List.setIfInBounds_toArray, List.set_cons_zero, List.set_cons_succ]
            refine wpAnyH_take (i := 45) (v := ?_) rfl (by kernel_rfl) (by kernel_rfl) (by kernel_rfl) (fun _ _ _ h => h) (Or.inl ⟨by kernel_rfl, ?_⟩) hH0 ?_
            rotate_left 1
            · intro w hSw
              go_simp
              try with_reducible rfl
            try simp only [Act.put, List.getElem_toArray, List.getElem_cons_zero, List.getElem_cons_succ, List.setIfInBounds_toArray, List.set_cons_zero, List.set_cons_succ]
            refine wpAnyH_take (i := 46) (v := ?_) rfl (by kernel_rfl) (by kernel_rfl) (by kernel_rfl) (fun _ _ _ h => h) (Or.inl ⟨by kernel_rfl, ?_⟩) hH0 ?_
            rotate_left 1
            · intro w hSw
              go_simp
              try with_reducible rfl
            try simp only [Act.put, List.getElem_toArray, List.getElem_cons_zero, List.getElem_cons_succ, List.setIfInBounds_toArray, List.set_cons_zero, List.set_cons_succ]
            refine wpAnyH_take (i := 47) (v := ?_) rfl (by kernel_rfl) (by kernel_rfl) (by kernel_rfl) (fun _ _ _ h => h) (Or.inl ⟨by kernel_rfl, ?_⟩) hH0 ?_
            rotate_left 1
            · intro w hSw
              have f0 := (hSw.cell (p := ⟨g1, j * 238, none⟩) l1).trans a0
              have f1 := (hSw.cell (p := ⟨g1, j * 238 + 1, none⟩) l1).trans a1
              have f2 := (hSw.cell (p := ⟨g1, j * 238 + 135, none⟩) l1).trans a2
              have f3 := (hSw.cell (p := ⟨g2, j * 238, none⟩) l2).trans b0
              have f4 := (hSw.cell (p := ⟨g2, j * 238 + 1, none⟩) l2).trans b1
              have f5 := (hSw.cell (p := ⟨g2, j * 238 + 135, none⟩) l2).trans b2
              go_simp
              try with_reducible rfl
            try simp only [Act.put, List.getElem_toArray, List.getElem_cons_zero, List.getElem_cons_succ, List.setIfInBounds_toArray, List.set_cons_zero, List.set_cons_succ]
            refine wpAnyH_take (i := 48) (v := ?_) rfl (by kernel_rfl) (by kernel_rfl) (by kernel_rfl) (fun _ _ _ h => h) (Or.inl ⟨by kernel_rfl, ?_⟩) hH0 ?_
            rotate_left 1
            · intro w hSw
              go_simp
              try with_reducible rfl
            try simp only [Act.put, List.getElem_toArray, List.getElem_cons_zero, List.getElem_cons_succ, List.setIfInBounds_toArray, List.set_cons_zero, List.set_cons_succ]
            refine wpAnyH_take (i := 49) (v := ?_) rfl (by kernel_rfl) (by kernel_rfl) (by kernel_rfl) (fun _ _ _ h => h) (Or.inl ⟨by kernel_rfl, ?_⟩) hH0 ?_
            rotate_left 1
            · intro w hSw
              go_simp
              try with_reducible rfl
            try simp only [Act.put, List.getElem_toArray, List.getElem_cons_zero, List.getElem_cons_succ, List.setIfInBounds_toArray, List.set_cons_zero, List.set_cons_succ]
            refine wpAnyH_take (i := 50) (v := ?_) rfl (by kernel_rfl) (by kernel_rfl) (by kernel_rfl) (fun _ _ _ h => h) (Or.inl ⟨by kernel_rfl, ?_⟩) hH0 ?_
            rotate_left 1
            · intro w hSw
              go_simp
              try with_reducible rfl
            try simp only [Act.put, List.getElem_toArray, List.getElem_cons_zero, List.getElem_cons_succ, List.setIfInBounds_toArray, List.set_cons_zero, List.set_cons_succ]
            refine wpAnyH_take (i := 51) (v := ?_) rfl (by kernel_rfl) (by kernel_rfl) (by kernel_rfl) (fun _ _ _ h => h) (Or.inl ⟨by kernel_rfl, ?_⟩) hH0 ?_
            rotate_left 1
            · intro w hSw
              go_simp
              try with_reducible rfl
            try simp only [Act.put, List.getElem_toArray, List.getElem_cons_zero, List.getElem_cons_succ, List.setIfInBounds_toArray, List.set_cons_zero, List.set_cons_succ]
            refine wpAnyH_take (i := 52) (v := ?_) rfl (by kernel_rfl) (by kernel_rfl) (by kernel_rfl) (fun _ _ _ h => h) (Or.inl ⟨by kernel_rfl, ?_⟩) hH0 ?_
            rotate_left 1
            · intro w hSw
              go_simp
              try with_reducible rfl
            try simp only [Act.put, List.getElem_toArray, List.getElem_cons_zero, List.getElem_cons_succ, List.setIfInBounds_toArray, List.set_cons_zero, List.set_cons_succ]
            refine wpAnyH_take (i := 53) (v := ?_) rfl (by kernel_rfl) (by kernel_rfl) (by kernel_rfl) (fun _ _ _ h => h) (Or.inl ⟨by kernel_rfl, ?_⟩) hH0 ?_
            rotate_left 1
            · intro w hSw
              have f0 := (hSw.cell (p := ⟨g1, j * 238, none⟩) l1).trans a0
              have f1 := (hSw.cell (p := ⟨g1, j * 238 + 1, none⟩) l1).trans a1
              have f2 := (hSw.cell (p := ⟨g1, j * 238 + 135, none⟩) l1).trans a2
              have f3 := (hSw.cell (p := ⟨g2, j * 238, none⟩) l2).trans b0
              have f4 := (hSw.cell (p := ⟨g2, j * 238 + 1, none⟩) l2).trans b1
              have f5 := (hSw.cell (p := ⟨g2, j * 238 + 135, none⟩) l2).trans b2
              go_simp
              try with_reducible rfl
            try simp only [Act.put, List.getElem_toArray, List.getElem_cons_zero, List.getElem_cons_succ, List.setIfInBounds_toArray, List.set_cons_zero, List.set_cons_succ]
            refine wpAnyH_take (i := 54) (v := ?_) rfl (by kernel_rfl) (by kernel_rfl) (by kernel_rfl) (fun _ _ _ h => h) (Or.inl ⟨by kernel_rfl, ?_⟩) hH0 ?_
            rotate_left 1
            · intro w hSw
              go_simp
              try with_reducible rfl
            try simp only [Act.put, List.getElem_toArray, List.getElem_cons_zero, List.getElem_cons_succ, List.setIfInBounds_toArray, List.set_cons_zero, List.set_cons_succ]
            refine wpAnyH_take (i := 55) (v := ?_) rfl (by kernel_rfl) (by kernel_rfl) (by kernel_rfl) (fun _ _ _ h => h) (Or.inl ⟨by kernel_rfl, ?_⟩) hH0 ?_
            rotate_left 1
            · intro w hSw
              go_simp
              try with_reducible rfl
            try simp only [Act.put, List.getElem_toArray, List.getElem_cons_zero, List.getElem_cons_succ, List.setIfInBounds_toArray, List.set_cons_zero, List.set_cons_succ]
            refine wpAnyH_done (by kernel_rfl) ?_ _
            have HH := Lib.hid hH0
            clear hH0
            go_wp2_with fail
            go_roundw
            case rel => exact ⟨j + 1, by omega, by go_num, Hbx.out.trans (HH.out.mono Hbx.out.size)⟩
            case measure => simp [intOf]; omega
          · obtain rfl : m = j := by omega
            have hbo' := HBo2.out.below hbx
            obtain ⟨mv, cv, hmem, -⟩ := hbo'.hl.mem
            have hod := hbo'.hl.ok.out
            obtain ⟨rr, hrm, hrf, hri, -⟩ := hbo'.rf.mem
            have hbl := Lib.hid (blob_any p d' mv cv wr hod hmem)
            have hfl := Lib.hid (fun W (hW : Below wr.heap.size wr W) => failed_any p d' mv cv W hod (below_keep hW hmem))
            have hra := Lib.hid (fun W (hW : Below wr.heap.size wr W) => rf_all (w := W) (p := r) hrf (below_keep hW hrm))
            have lr : r < wr.heap.size := heap_lt hrm
            have Hri := Lib.hid hri
            obtain ⟨bl, hbl2⟩ : ∃ y, y = d'.blob := ⟨_, rfl⟩
            obtain ⟨dn, hdn⟩ : ∃ y, y = d'.done := ⟨_, rfl⟩
            obtain ⟨fl, hfl2⟩ : ∃ y, y = d'.failed := ⟨_, rfl⟩
            rw [← hbl2, ← hdn] at hbl
            rw [← hfl2] at hfl
            have Hbl2 := Lib.hid hbl2
            have Hdn := Lib.hid hdn
            have Hfl2 := Lib.hid hfl2
            clear hbo' hmem hod hrm hrf hri hbx hbl2 hdn hfl2 hj hjm
            go_wp2_with fail
            refine hbl.out.mono ?_
            rintro e w6 ⟨rfl, hB6⟩
            have ra6 := hra.out w6 hB6
            have t72 := ra6.text
            have t73 := ra6.done
            have t74 := ra6.fail
            rw [Hri.out.text, ← Hbl2.out] at t72
            rw [Hri.out.done, ← Hdn.out] at t73
            rw [Hri.out.fail, ← Hfl2.out] at t74
            have l6 : r < w6.heap.size := Nat.lt_of_lt_of_le lr hB6.size
            have HF6 : Hid (∀ W, Below w6.heap.size w6 W → Calls Tryd.prog 22 #[.pointer (some ⟨p, 0, none⟩)] W fun e w' => e = .returned (.bool fl) ∧ Below W.heap.size W w') := Lib.hid (fun W hW => (hfl.out W (hB6.trans (hW.mono hB6.size))).mono fun e w' h => And.intro h.1 (h.2 ▸ Below.refl W.heap.size W))
            have HB6 := Lib.hid (Hbx.out.trans (hB6.mono Hbx.out.size))
            have y1 : ((⟨bl.toArray⟩ : ByteArray) != ⟨bl.toArray⟩) = false := ba_bne _
            have y2 : (dn != dn) = false := by simp
            have y3 : (fl != fl) = false := by simp
            clear ra6 hB6 hbl hfl hra lr Hri
            go_upto_region 27 with fail
            refine wp_region_held_drew (S := fun w' => Below w6.heap.size w6 w') (by kernel_rfl) ((Below.refl _ _).drew) (fun hH0 => ?_)
            obtain ⟨W0, hW0⟩ : ∃ W, W = w6.drew := ⟨_, rfl⟩
            rw [← hW0] at hH0 ⊢
            clear hW0
            refine wpAnyH_take (i := 0) (v := ?_) rfl (by kernel_rfl) (by kernel_rfl) (by kernel_rfl) (fun _ _ _ h => h) (Or.inl ⟨by kernel_rfl, ?_⟩) hH0 ?_
            rotate_left 1
            · intro w hSw
              go_simp
              try with_reducible rfl
            try simp only [Act.put, List.getElem_toArray, List.getElem_cons_zero, List.getElem_cons_succ, List.setIfInBounds_toArray, List.set_cons_zero, List.set_cons_succ]
            refine wpAnyH_take (i := 1) (v := ?_) rfl (by kernel_rfl) (by kernel_rfl) (by kernel_rfl) (fun _ _ _ h => h) (Or.inl ⟨by kernel_rfl, ?_⟩) hH0 ?_
            rotate_left 1
            · intro w hSw
              go_simp
              try with_reducible rfl
            try simp only [Act.put, List.getElem_toArray, List.getElem_cons_zero, List.getElem_cons_succ, List.setIfInBounds_toArray, List.set_cons_zero, List.set_cons_succ]
            refine wpAnyH_take (i := 2) (v := ?_) rfl (by kernel_rfl) (by kernel_rfl) (by kernel_rfl) (fun _ _ _ h => h) (Or.inl ⟨by kernel_rfl, ?_⟩) hH0 ?_
            rotate_left 1
            · intro w hSw
              go_simp
              try with_reducible rfl
            try simp only [Act.put, List.getElem_toArray, List.getElem_cons_zero, List.getElem_cons_succ, List.setIfInBounds_toArray, List.set_cons_zero, List.set_cons_succ]
            refine wpAnyH_take (i := 3) (v := ?_) rfl (by kernel_rfl) (by kernel_rfl) (by kernel_rfl) (fun _ _ _ h => h) (Or.inl ⟨by kernel_rfl, ?_⟩) hH0 ?_
            rotate_left 1
            · intro w hSw
              go_simp
              try with_reducible rfl
            try simp only [Act.put, List.getElem_toArray, List.getElem_cons_zero, List.getElem_cons_succ, List.setIfInBounds_toArray, List.set_cons_zero, List.set_cons_succ]
            refine wpAnyH_take (i := 4) (v := ?_) rfl (by kernel_rfl) (by kernel_rfl) (by kernel_rfl) (fun _ _ _ h => h) (Or.inl ⟨by kernel_rfl, ?_⟩) hH0 ?_
            rotate_left 1
            · intro w hSw
              have f0 := (hSw.cell (p := ⟨r, 72, none⟩) l6).trans t72
              have f1 := (hSw.cell (p := ⟨r, 73, none⟩) l6).trans t73
              have f2 := (hSw.cell (p := ⟨r, 74, none⟩) l6).trans t74
              go_simp
              try with_reducible rfl
            try simp only [Act.put, List.getElem_toArray, List.getElem_cons_zero, List.getElem_cons_succ, List.setIfInBounds_toArray, List.set_cons_zero, List.set_cons_succ]
            refine wpAnyH_take (i := 5) (v := ?_) rfl (by kernel_rfl) (by kernel_rfl) (by kernel_rfl) (fun _ _ _ h => h) (Or.inl ⟨by kernel_rfl, ?_⟩) hH0 ?_
            rotate_left 1
            · intro w hSw
              go_simp
              try with_reducible rfl
            try simp only [Act.put, List.getElem_toArray, List.getElem_cons_zero, List.getElem_cons_succ, List.setIfInBounds_toArray, List.set_cons_zero, List.set_cons_succ]
            refine wpAnyH_take (i := 6) (v := ?_) rfl (by kernel_rfl) (by kernel_rfl) (by kernel_rfl) (fun _ _ _ h => h) (Or.inl ⟨by kernel_rfl, ?_⟩) hH0 ?_
            rotate_left 1
            · intro w hSw
              go_simp
              try with_reducible rfl
            try simp only [Act.put, List.getElem_toArray, List.getElem_cons_zero, List.getElem_cons_succ, List.setIfInBounds_toArray, List.set_cons_zero, List.set_cons_succ]
            refine wpAnyH_take (i := 7) (v := ?_) rfl (by kernel_rfl) (by kernel_rfl) (by kernel_rfl) (fun _ _ _ h => h) (Or.inl ⟨by kernel_rfl, ?_⟩) hH0 ?_
            rotate_left 1
            · intro w hSw
              go_simp
              try with_reducible rfl
            try simp only [Act.put, List.getElem_toArray, List.getElem_cons_zero, List.getElem_cons_succ, List.setIfInBounds_toArray, List.set_cons_zero, List.set_cons_succ]
            refine wpAnyH_take (i := 8) (v := ?_) rfl (by kernel_rfl) (by kernel_rfl) (by kernel_rfl) (fun _ _ _ h => h) (Or.inl ⟨by kernel_rfl, ?_⟩) hH0 ?_
            rotate_left 1
            · intro w hSw
              go_simp
              try with_reducible rfl
            try simp only [Act.put, List.getElem_toArray, List.getElem_cons_zero, List.getElem_cons_succ, List.setIfInBounds_toArray, List.set_cons_zero, List.set_cons_succ]
            refine wpAnyH_take (i := 9) (v := ?_) rfl (by kernel_rfl) (by kernel_rfl) (by kernel_rfl) (fun _ _ _ h => h) (Or.inl ⟨by kernel_rfl, ?_⟩) hH0 ?_
            rotate_left 1
            · intro w hSw
              go_simp
              try with_reducible rfl
            try simp only [Act.put, List.getElem_toArray, List.getElem_cons_zero, List.getElem_cons_succ, List.setIfInBounds_toArray, List.set_cons_zero, List.set_cons_succ]
            refine wpAnyH_take (i := 10) (v := ?_) rfl (by kernel_rfl) (by kernel_rfl) (by kernel_rfl) (fun _ _ _ h => h) (Or.inl ⟨by kernel_rfl, ?_⟩) hH0 ?_
            rotate_left 1
            · intro w hSw
              go_simp
              try with_reducible rfl
            try simp only [Act.put, List.getElem_toArray, List.getElem_cons_zero, List.getElem_cons_succ, List.setIfInBounds_toArray, List.set_cons_zero, List.set_cons_succ]
            refine wpAnyH_take (i := 11) (v := ?_) rfl (by kernel_rfl) (by kernel_rfl) (by kernel_rfl) (fun _ _ _ h => h) (Or.inl ⟨by kernel_rfl, ?_⟩) hH0 ?_
            rotate_left 1
            · intro w hSw
              have f0 := (hSw.cell (p := ⟨r, 72, none⟩) l6).trans t72
              have f1 := (hSw.cell (p := ⟨r, 73, none⟩) l6).trans t73
              have f2 := (hSw.cell (p := ⟨r, 74, none⟩) l6).trans t74
              go_simp
              try with_reducible rfl
            try simp only [Act.put, List.getElem_toArray, List.getElem_cons_zero, List.getElem_cons_succ, List.setIfInBounds_toArray, List.set_cons_zero, List.set_cons_succ]
            refine wpAnyH_take (i := 12) (v := ?_) rfl (by kernel_rfl) (by kernel_rfl) (by kernel_rfl) (fun _ _ _ h => h) (Or.inl ⟨by kernel_rfl, ?_⟩) hH0 ?_
            rotate_left 1
            · intro w hSw
              go_simp
              try with_reducible rfl
            try simp only [Act.put, List.getElem_toArray, List.getElem_cons_zero, List.getElem_cons_succ, List.setIfInBounds_toArray, List.set_cons_zero, List.set_cons_succ]
            refine wpAnyH_take (i := 13) (v := ?_) rfl (by kernel_rfl) (by kernel_rfl) (by kernel_rfl) (fun _ _ _ h => h) (Or.inl ⟨by kernel_rfl, ?_⟩) hH0 ?_
            rotate_left 1
            · intro w hSw
              go_simp
              try with_reducible rfl
            try simp only [Act.put, List.getElem_toArray, List.getElem_cons_zero, List.getElem_cons_succ, List.setIfInBounds_toArray, List.set_cons_zero, List.set_cons_succ]
            refine wpAnyH_take (i := 14) (v := ?_) rfl (by kernel_rfl) (by kernel_rfl) (by kernel_rfl) (fun _ _ _ h => h) (Or.inl ⟨by kernel_rfl, ?_⟩) hH0 ?_
            rotate_left 1
            · intro w hSw
              go_simp
              try with_reducible rfl
            try simp only [Act.put, List.getElem_toArray, List.getElem_cons_zero, List.getElem_cons_succ, List.setIfInBounds_toArray, List.set_cons_zero, List.set_cons_succ]
            refine wpAnyH_take (i := 15) (v := ?_) rfl (by kernel_rfl) (by kernel_rfl) (by kernel_rfl) (fun _ _ _ h => h) (Or.inl ⟨by kernel_rfl, ?_⟩) hH0 ?_
            rotate_left 1
            · intro w hSw
              go_simp
              try with_reducible rfl
            try simp only [Act.put, List.getElem_toArray, List.getElem_cons_zero, List.getElem_cons_succ, List.setIfInBounds_toArray, List.set_cons_zero, List.set_cons_succ]
            refine wpAnyH_take (i := 17) (v := ?_) rfl (by kernel_rfl) (by kernel_rfl) (by kernel_rfl) (fun _ _ _ h => h) (Or.inl ⟨by kernel_rfl, ?_⟩) hH0 ?_
            rotate_left 1
            · intro w hSw
              go_simp
              try with_reducible rfl
            try simp only [Act.put, List.getElem_toArray, List.getElem_cons_zero, List.getElem_cons_succ, List.setIfInBounds_toArray, List.set_cons_zero, List.set_cons_succ]
            refine wpAnyH_take (i := 18) (v := ?_) rfl (by kernel_rfl) (by kernel_rfl) (by kernel_rfl) (fun _ _ _ h => h) (Or.inl ⟨by kernel_rfl, ?_⟩) hH0 ?_
            rotate_left 1
            · intro w hSw
              go_simp
              try with_reducible rfl
            try simp only [Act.put, List.getElem_toArray, List.getElem_cons_zero, List.getElem_cons_succ, List.setIfInBounds_toArray, List.set_cons_zero, List.set_cons_succ]
            refine wpAnyH_take (i := 19) (v := ?_) rfl (by kernel_rfl) (by kernel_rfl) (by kernel_rfl) (fun _ _ _ h => h) (Or.inl ⟨by kernel_rfl, ?_⟩) hH0 ?_
            rotate_left 1
            · intro w hSw
              go_simp
              try with_reducible rfl
            try simp only [Act.put, List.getElem_toArray, List.getElem_cons_zero, List.getElem_cons_succ, List.setIfInBounds_toArray, List.set_cons_zero, List.set_cons_succ]
            refine wpAnyH_take (i := 20) (v := ?_) rfl (by kernel_rfl) (by kernel_rfl) (by kernel_rfl) (fun _ _ _ h => h) (Or.inl ⟨by kernel_rfl, ?_⟩) hH0 ?_
            rotate_left 1
            · intro w hSw
              have f0 := (hSw.cell (p := ⟨r, 72, none⟩) l6).trans t72
              have f1 := (hSw.cell (p := ⟨r, 73, none⟩) l6).trans t73
              have f2 := (hSw.cell (p := ⟨r, 74, none⟩) l6).trans t74
              go_simp
              try with_reducible rfl
            try simp only [Act.put, List.getElem_toArray, List.getElem_cons_zero, List.getElem_cons_succ, List.setIfInBounds_toArray, List.set_cons_zero, List.set_cons_succ]
            refine wpAnyH_ready (rs := [16]) (by kernel_rfl) (by simp) ?_
            refine AllReadyH.cons rfl (fun K_ hK => ?_) ?_
            · go_simp
              refine (HF6.out W0 hH0).mono ?_
              rintro e W1 ⟨rfl, hb1⟩
              refine hK.out _ _ ((hH0).trans (hb1.mono (hH0).size)) (fun hH1 => ?_)
              clear hK K_
              try simp only [Act.put, List.getElem_toArray, List.getElem_cons_zero, List.getElem_cons_succ, List.setIfInBounds_toArray, List.set_cons_zero, List.set_cons_succ]
              refine wpAnyH_take (i := 21) (v := ?_) rfl (by kernel_rfl) (by kernel_rfl) (by kernel_rfl) (fun _ _ _ h => h) (Or.inl ⟨by kernel_rfl, ?_⟩) hH1 ?_
              rotate_left 1
              · intro w hSw
                go_simp
                try with_reducible rfl
              try simp only [Act.put, List.getElem_toArray, List.getElem_cons_zero, List.getElem_cons_succ, List.setIfInBounds_toArray, List.set_cons_zero, List.set_cons_succ]
              refine wpAnyH_take (i := 22) (v := ?_) rfl (by kernel_rfl) (by kernel_rfl) (by kernel_rfl) (fun _ _ _ h => h) (Or.inl ⟨by kernel_rfl, ?_⟩) hH1 ?_
              rotate_left 1
              · intro w hSw
                go_simp
                try with_reducible rfl
              try simp only [Act.put, List.getElem_toArray, List.getElem_cons_zero, List.getElem_cons_succ, List.setIfInBounds_toArray, List.set_cons_zero, List.set_cons_succ]
              refine wpAnyH_done (by kernel_rfl) ?_ _
              have HH := Lib.hid (HB6.out.trans ((hH1).mono HB6.out.size))
              clear hH1
              go_wp2_with fail
              go_roundw
              case rel => exact ⟨k + 1, d', S', R', by have := Hid'.out; have := Hn.out; omega, by have := Hk80.out; omega, by go_num, HBo2.out.below HH.out, Hb2.out.trans (HH.out.mono Hb2.out.size)⟩
              case measure => simp [intOf]; omega
            exact AllReadyH.nil
      · have hc : (k : Int) < (n : Int) ∧ ¬ (k : Int) < 80 ∨ ¬ (k : Int) < (n : Int) := by omega
        clear hkk
        rcases hc with ⟨j1, j2⟩ | j1
        all_goals
          go_wp2_with fail
          go_ret
          exact ⟨rfl, HB1.out.trans (Hb.out.mono HB1.out.size)⟩
  · have hnew := Lib.hid (fun W => hnew_nil o x W HO.out hx)
    have hnewR := Lib.hid (fun W => rnew_nil o x W HO.out hx)
    rw [hwh] at hnew hnewR
    clear hwh hx
    go_wp2_with (refine wpList_load_row rfl 23 _ rfl q rfl 23 (byV o).toArray (0, 0) _ Hq3.out Tryd.underlying23 rfl dixA ?_)
    refine (hnew.out _).mono ?_
    rintro e w4 ⟨rfl, hB4⟩
    have hq4 := Lib.hid (below_keep hB4 Hq3.out)
    have HB4 := Lib.hid (HB3.out.trans (hB4.mono HB3.out.size))
    clear hB4 Hq3
    go_wp2_with (refine wpList_load_row rfl 23 _ rfl q rfl 23 (byV o).toArray (0, 0) _ hq4.out Tryd.underlying23 rfl dixA ?_)
    refine (hnewR.out _).mono ?_
    rintro e w5 ⟨rfl, hB5⟩
    have HB5 := Lib.hid (HB4.out.trans (hB5.mono HB4.out.size))
    clear hB5 HB4
    go_wp2_with fail
    go_loopw [9] (fun i wr => ∃ k : Nat, k ≤ n ∧ i = .int .i64 k ∧ w5 = wr) (fun i _ => n - (intOf i).toNat)
    case atStart => exact ⟨0, by omega, rfl, by first | trivial | rfl⟩
    case round =>
      obtain ⟨k, hk, rfl, rfl⟩ := hrel
      have hc : (k : Int) < (n : Int) ∧ (k : Int) < 80 ∨ (k : Int) < (n : Int) ∧ ¬ (k : Int) < 80 ∨ ¬ (k : Int) < (n : Int) := by omega
      rcases hc with ⟨j1, j2⟩ | ⟨j1, j2⟩ | j1
      all_goals
        go_wp2_with fail
        go_ret
        exact ⟨rfl, HB1.out.trans (HB5.out.mono HB1.out.size)⟩
namespace HaulExactLaw
open Go.ChangeShapes Go.WideShapes Go.ChangeAt
open Go.ChangeMaps (open_string shut_string)
set_option maxRecDepth 100000 in
theorem contract (H : Type) (enc : TypeId × Value → H) (W : World) (base : Nat) (args : Array Value) (ds gs : List (DataW H)) (before : List MemPlace)
    (hval : ∀ (j : Nat) t v, Tryd.f3.params[j]? = some t → args[j]? = some v → Value.okWide Tryd.prog W .any base t v)
    (hW : DataW.Whole enc Tryd.prog Tryd.f3.params.toList Rows.haulExactSpec.vars false W args.toList ds gs before) (hsz0 : (DataW.weightsEach Tryd.prog (Tryd.f3.params.toList ++ Rows.haulExactSpec.plain.varTypes Tryd.prog) (ds ++ gs)).all (· ≤ reachBytes) = true) (hLd : laidMetH Tryd.prog laid1 W) :
    Calls Tryd.prog 3 args W fun e W' => ∃ v, e = .returned v ∧ Rows.haulExactSpec.post enc Tryd.prog Tryd.f3 false true false false W args v W' := by
  have hW' := hW
  obtain ⟨p, q, hA0, hV, rfl, hfz, hnd⟩ := hW
  have hA : DataW.TrodAll enc Tryd.prog W 0 (fun _ => true) true Tryd.f3.params.toList args.toList ds p := hA0
  rw [Tryd.params3] at hA hval
  obtain ⟨v0, vs0, d0, ds0, p0, q0, hargs, rfl, rfl, h0, r0⟩ := trodAll_cons hA
  obtain ⟨v1, vs1, d1, ds1, p1, q1, rfl, rfl, rfl, h1, r1⟩ := trodAll_cons r0
  obtain ⟨v2, vs2, d2, ds2, p2, q2, rfl, rfl, rfl, h2, r2⟩ := trodAll_cons r1
  obtain ⟨rfl, rfl, rfl⟩ := trodAll_nil r2
  obtain rfl : args = #[v0, v1, v2] := by cases args; simp_all
  obtain ⟨rfl, rfl⟩ := trodVars_none hV
  obtain ⟨x0, rfl, l0⟩ := open_digV (hval 0 23 v0 rfl rfl) h0
  obtain ⟨x1, rfl, hd1, _, w1⟩ := open_int Tryd.underlying3 (hval 1 3 v1 rfl rfl) h1
  obtain ⟨A2, c2, x2, rfl, hS2, hl2⟩ := open_actsF (hval 2 24 v2 rfl rfl) h2
  refine (haulExact_core x0 x1 A2 c2 x2 W (of_laid hLd) l0 (wf_bounds w1).1 (wf_bounds w1).2 hS2 hl2).mono fun e W' ⟨he, hg⟩ => ?_
  subst he
  exact ⟨_, rfl, law_post (tb := 4) laidOut_ (of_decide_eq_true (by kernel_rfl)) Tryd.underlying4 (by kernel_rfl) rfl rfl hW' hg⟩

theorem door_met (os : Os) (args : Array Value) : laidMetH Tryd.prog laid1 ((World.doorLaid Tryd.prog 400 os).forCall (fun _ _ => 0) ⟨#[], args, []⟩).memory :=
  laidMetH_of_parts3 (fuel := 8) (laidMet_of_run' 8 (by kernel_rfl) (by kernel_rfl)) (by kernel_rfl) (by kernel_rfl)

set_option maxRecDepth 100000 in
theorem lifted (os : Os) (started : os.Started) (H : Type) (enc : TypeId × Value → H) :
    ReturnsInHanded {} Tryd.checked os 3 .any (fun w args => (Rows.haulExactSpec.pre enc Tryd.prog Tryd.f3 [] false w args ∧ laidMetH Tryd.prog laid1 w) ∧ sizedMet enc Tryd.prog Tryd.f3 (OpenSpec.ofChange Rows.haulExactSpec) false w args)
      (Rows.haulExactSpec.post enc Tryd.prog Tryd.f3 false true false false) := by
  refine returnsInHanded_of_change_and (C := Tryd.checked) (X := fun w _ => laidMetH Tryd.prog laid1 w) (fun _ _ _ hh h => h.of_heap hh) ownKnob_ started (by kernel_rfl) Tryd.func3
    (ChangeSpec.witness_shaped (enc := enc) (C := Tryd.checked) (os := os) (X := fun w _ => laidMetH Tryd.prog laid1 w) false (World.doorLaid Tryd.prog 400 os) #[.agg (digV (List.replicate 32 0)), .int .i64 0, .slice none 0 0] 8 rfl (World.shaped_of_RefB (by kernel_rfl) (by kernel_rfl)) (by kernel_rfl) (by kernel_rfl) (by kernel_rfl) (door_met os _)) ?_
  intro W base args ds gs before hval hW _ hsz hLd _
  exact contract H enc W base args ds gs before hval hW hsz hLd

theorem said : Rows.HaulExactSaid :=
  OpenClaim.holds_of_wide 3 Tryd.f3 rfl rfl rfl rfl rfl rfl rfl ⟨rfl, rfl, rfl, rfl, rfl⟩ rfl rfl rfl rfl rfl (by kernel_rfl) Tryd.func3 (by kernel_rfl)
    (of_decide_eq_true (by kernel_rfl)) (by unfold Func.isWrapper; first | (rw [if_pos (by decide +kernel)]; kernel_rfl) | (rw [if_neg (by decide +kernel)]; exact ⟨rfl, rfl⟩))
    (fun os started H enc _ => lifted os started H enc)

theorem proved : Rows.HaulExactCardSaid :=
  Claim7.holds_tied_plain_at .later [] [.data] true Rows.haulExactCard.stood.harness false
    said (fun _ h => by cases h) (by kernel_rfl) (fun _ h => by cases h) haulExact_row_tie rfl ⟨rfl, rfl⟩ (by kernel_rfl) rfl
    (fun f fn hf hfn => by
      obtain rfl : f = 3 := Option.some.inj ((show Tryd.prog.funcNamed "apiary/apiarylaw17.HaulExact" = some 3 by kernel_rfl).symm.trans hf) |>.symm
      obtain rfl : fn = Tryd.f3 := (Option.some.inj (Tryd.func3.symm.trans hfn)).symm
      exact ⟨by kernel_rfl, fun j t ht => by
        rw [Tryd.params3] at ht
        have hm : t ∈ [23, 3, 24] := by simpa using Array.mem_of_getElem? ht
        have hall : ([23, 3, 24].all fun u => !Tryd.prog.wantsStandIn u) = true := by kernel_rfl
        exact (show Tryd.prog.wantsStandIn t = false by simpa using List.all_eq_true.1 hall t hm)⟩)
    (by kernel_rfl)
end HaulExactLaw
end Go.Proofs.YtfbjbhddapoopaaDoor
