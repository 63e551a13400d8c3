/-
  Layer 18's laws: the walk of awake.
-/
import Derived.Test.YtfbjbhddapoopaaDoorHvM
set_option linter.unusedVariables false
set_option linter.unusedSimpArgs false
namespace Go.Proofs.YtfbjbhddapoopaaDoor
open Go.RowKit
attribute [local go_sem] Lb.ba_get Lb.ba_cut Lb.ba_add Lb.ba_size Lb.take_rest

theorem wpList_build4 {P : Program} {ops : Array Oper} {rest : List Oper} {o : Oper} {a : Act} {w : World} {Q : Exit → Act → World → Prop} (hg : o.guard = none) (t : TypeId) (i j k l : Nat) (x y z u : Operand) (ho : o.op = .build t #[(i, x), (j, y), (k, z), (l, u)])
    (vx vy vz vu : Value) (hx : a.eval x = vx) (hy : a.eval y = vy) (hz : a.eval z = vz) (hu : a.eval u = vu) (C : Array Value) (hB : P.built t [(i, vx), (j, vy), (k, vz), (l, vu)] = some C)
    (h : wpList P ops Q rest (a.put o.dst (.agg C)) w) : wpList P ops Q (o :: rest) a w := by
  have e : ((#[(i, x), (j, y), (k, z), (l, u)] : Array (Nat × Operand)).map fun (i, x) => (i, a.eval x)).toList = [(i, vx), (j, vy), (k, vz), (l, vu)] := by simp [hx, hy, hz, hu]
  refine wpList_build hg t _ ho ?_ ?_
  · rw [e, hB]; rfl
  · rw [e, hB]; exact h
def askF (x : Int) (o : List UInt8) (i : Int) : FrD := { zeroFr with kind := 6, from_ := x, out := o, at_ := i }
theorem askF_fit (x : Int) (o : List UInt8) (i : Int) (h : o.length = 32) : (askF x o i).Fit := ⟨rfl, h, rfl, rfl, rfl, rfl, rfl, rfl⟩
theorem built_askF (x : Int) (o : List UInt8) (i : Int) (h : o.length = 32) : Tryd.prog.built 44 [(0, .int .i64 6), (1, .int .i64 x), (7, .agg (digV o)), (8, .int .i64 i)] = some (askF x o i).row := by
  rw [built_fr, fr_fill0, fr_fill1, fr_fill7 _ ⟨rfl, rfl, rfl, rfl, rfl, rfl, rfl, rfl⟩ _ h, fr_fill8 _ ⟨rfl, h, rfl, rfl, rfl, rfl, rfl, rfl⟩, fill_nil]
  rfl
theorem stAt_one (K : List Int) (b : List UInt8) (hb : b.length ≤ 512) : stAt K [b] (min [b].length 60) = [b] := by
  show (putS K [] b).2.2 = [b]
  unfold putS
  rw [if_neg (by omega), if_neg (by simp [blobS])]
  rfl
theorem blobS_one (K : List Int) (b : List UInt8) : blobS K [b] (hashB K b) = (b, true) := by
  unfold blobS
  rw [List.find?_cons_of_pos (by simp)]
theorem chunks_go : chunks [103, 111] = [[103, 111]] := by decide

theorem serv_zero {K : List Int} {B0 : Nat} {bl : List (List UInt8)} {f g : FrD} {w : World} {tt : Int} {is : Bool} (h : ServIs K B0 bl 0 f w tt g is) : is = false := by
  cases h with
  | no h => rfl
  | yes b g h hb hp hg => exact absurd rfl h.1
theorem serv_yes {K : List Int} {B0 : Nat} {b : List UInt8} {f g : FrD} {w : World} {tt n : Int} {is : Bool} (h : ServIs K B0 [b] n f w tt g is) (hn : AskOk n f) (ho : f.out = hashB K b) (hp : PlaceOk b f.at_) : is = true ∧ tt = f.from_ ∧ FoundIs K B0 b f w g true := by
  have hb := blobS_one K b
  rw [← ho] at hb
  cases h with
  | no h => exact absurd ⟨hn, by rw [hb], by rw [hb]; exact hp⟩ h
  | yes b' g h hb' hp hg =>
    rw [hb] at hb'
    injection hb' with e1 e2
    subst e1
    exact ⟨rfl, rfl, hg⟩
theorem found_part {K : List Int} {B0 : Nat} {b : List UInt8} {f g : FrD} {w : World} (h : FoundIs K B0 b f w g true) (k : Nat) (hk : f.at_ = (k : Int)) : g = partFr 0 f.out f.at_ (chunk b k) := by
  cases h with
  | mani m h hm ho hup => omega
  | part k' h hk' =>
    obtain rfl : k' = k := by omega
    rfl
theorem found_mani {K : List Int} {B0 : Nat} {b : List UInt8} {f g : FrD} {w : World} (h : FoundIs K B0 b f w g true) (hk : f.at_ = -1) : ∃ m, g = maniFr 0 m ∧ OwnM K m b ∧ m.Ok w w.heap.size ∧ ∀ a, m.A = some a → B0 ≤ a.block := by
  cases h with
  | mani m h hm ho hup => exact ⟨m, rfl, hm, ho, hup⟩
  | part k' h hk' => omega

set_option maxHeartbeats 8000000 in
set_option maxRecDepth 100000 in
theorem awake18_any (K : List Int) (w : World) (hL : Laid K w) :
    Calls Tryd.prog 23 #[] w fun e w' => e = .returned (.bool true) ∧ Below w.heap.size w w' := by
  have HL := Lib.hid hL
  have hb1 := (Below.refl w.heap.size w).alloc (Nat.le_refl _) (.cells #[.string ⟨[103, 111].toArray⟩] 9)
  have hc1 : (w.alloc (.cells #[.string ⟨[103, 111].toArray⟩] 9)).cell? ⟨w.heap.size, 0, none⟩ = some (.string ⟨[103, 111].toArray⟩) := by rw [Lib.cell_of_heap (heap_alloc_new w _)]; rfl
  have hss : Strs (w.alloc (.cells #[.string ⟨[103, 111].toArray⟩] 9)) (w.alloc (.cells #[.string ⟨[103, 111].toArray⟩] 9)).heap.size (some ⟨w.heap.size, 0, none⟩) [[103, 111]] := by
    intro i hi
    obtain rfl : i = 0 := by simpa using hi
    exact ⟨_, rfl, by simp, hc1⟩
  have hst := Lib.hid (stored_any K (some ⟨w.heap.size, 0, none⟩) 1 [[103, 111]] _ (hL.below hb1) hss (by decide))
  have HB1 := Lib.hid hb1
  clear hL hb1 hc1 hss
  go_enter Tryd.func23, Tryd.ntmps23
  go_wp2_with fail
  refine hst.out.mono ?_
  rintro e w2 ⟨q, S, rfl, h2, hbig, hB2⟩
  rw [stAt_one K _ (by decide)] at h2
  have H2 := Lib.hid h2
  have Hbig : Hid (∀ x ∈ S, w.heap.size ≤ x) := Lib.hid (fun x hx => Nat.le_trans HB1.out.size (hbig x hx))
  have HB2 := Lib.hid (HB1.out.trans (hB2.mono HB1.out.size))
  clear hst h2 hbig hB2
  go_wp2_with fail
  refine (rnew_any 1 w2).mono ?_
  rintro e w3 ⟨rfl, hr3, hB3⟩
  rw [show clampB 1 = 1 by decide] at hr3
  have H3 := Lib.hid (H2.out.below hB3)
  have HB3 := Lib.hid (HB2.out.trans (hB3.mono HB2.out.size))
  obtain ⟨r, hr⟩ : ∃ r, r = w2.heap.size := ⟨_, rfl⟩
  rw [← hr] at hr3 ⊢
  have HrS : Hid (r ∉ S) := Lib.hid (fun hx => by have := H2.out.lt r hx; omega)
  have Hrw : Hid (w.heap.size ≤ r) := Lib.hid (by rw [hr]; exact HB2.out.size)
  have Hr3 := Lib.hid hr3
  have H0S : Hid (0 ∉ S) := Lib.hid (fun hx => by have := Hbig.out 0 hx; have := HL.out.lt; omega)
  clear hB3 hr hr3
  have hb4 := (Below.refl w3.heap.size w3).alloc (Nat.le_refl _) (.cells #[.string ⟨[103, 111].toArray⟩] 9)
  have hc4 : (w3.alloc (.cells #[.string ⟨[103, 111].toArray⟩] 9)).cell? ⟨w3.heap.size, 0, none⟩ = some (.string ⟨[103, 111].toArray⟩) := by rw [Lib.cell_of_heap (heap_alloc_new w3 _)]; rfl
  have hof := Lib.hid (of_hash K (some ⟨w3.heap.size, 0, none⟩) 1 [103, 111] _ ((HL.out.below HB3.out).below hb4) ⟨_, rfl, hc4⟩ (by decide))
  have hh := hashB_length K [103, 111]
  have hbo := Lib.hid (blobS_one K [103, 111])
  obtain ⟨h, hhh⟩ : ∃ h, h = hashB K [103, 111] := ⟨_, rfl⟩
  rw [← hhh] at hh hbo hof
  have HB4 := Lib.hid hb4
  have Hhh := Lib.hid hhh
  clear hb4 hc4 hhh
  go_wp2_with fail
  refine hof.out.mono ?_
  rintro e w4 ⟨rfl, hB4⟩
  have HB4' := Lib.hid ((HB3.out.trans (HB4.out.mono HB3.out.size)).trans (hB4.mono (HB3.out.trans (HB4.out.mono HB3.out.size)).size))
  have H4 := Lib.hid (H3.out.below (HB4.out.trans (hB4.mono HB4.out.size)))
  have Hr4 := Lib.hid (Hr3.out.below (HB4.out.trans (hB4.mono HB4.out.size)))
  have hbf := built_askF 4 h 0 hh
  obtain ⟨f0, hf0⟩ : ∃ f, f = askF 4 h 0 := ⟨_, rfl⟩
  rw [← hf0] at hbf
  have f0fit : f0.Fit := by rw [hf0]; exact askF_fit 4 h 0 hh
  have fs := FrD.row_size f0fit
  have fo := FrD.row_one f0fit
  have fi := fr_infoR f0fit
  have hzf : Tryd.zeroCells44.size = 237 := by rw [zero_frame, FrD.row_size zeroFr_fit]
  have hzs : Tryd.zeroCells50.size = 238 := by rw [zero_sent, sentRow_size 0 zeroFr_fit]
  have Hf0 := Lib.hid hf0
  have Hfit := Lib.hid f0fit
  obtain ⟨R, hR⟩ : ∃ R, R = f0.row := ⟨_, rfl⟩
  rw [← hR] at hbf fs fo fi
  have HR := Lib.hid hR
  clear hof hB4 hf0 hR f0fit
  go_upto_region 6 with (first | (refine wpList_build4 rfl 44 _ _ _ _ _ _ _ _ rfl _ _ _ _ rfl rfl rfl rfl R hbf ?_) | (refine wpList_store_row rfl 44 _ _ rfl w4.heap.size R rfl rfl 44 _ (heap_alloc_new w4 _) fi (by rw [fs, hzf]) fo ?_))
  show Code.wp _ _ _ _ ((w4.alloc (.cells Tryd.zeroCells44 44)).setRow w4.heap.size R)
  obtain ⟨hq_w5, hB_w5⟩ := put_new w4 Tryd.zeroCells44 R 44
  obtain ⟨fb, hp_w5⟩ : ∃ q, q = w4.heap.size := ⟨_, rfl⟩
  obtain ⟨w5, hw_w5⟩ : ∃ y, y = ((w4.alloc (.cells Tryd.zeroCells44 44)).setRow w4.heap.size R) := ⟨_, rfl⟩
  rw [← hw_w5] at hq_w5 hB_w5 ⊢
  rw [← hp_w5] at hq_w5 ⊢
  have HQ_w5 := Lib.hid hq_w5
  have HB_w5 := Lib.hid hB_w5
  have Hp_w5 := Lib.hid hp_w5
  clear hq_w5 hB_w5 hp_w5 hw_w5
  have HB5 := Lib.hid (HB4'.out.trans (HB_w5.out.mono HB4'.out.size))
  have H5 := Lib.hid (H4.out.below HB_w5.out)
  have Hr5 := Lib.hid (Hr4.out.below HB_w5.out)
  have Hfw : Hid (w.heap.size ≤ fb) := Lib.hid (by rw [Hp_w5.out]; exact HB4'.out.size)
  have hlo : ∀ x ∈ r :: S, w.heap.size ≤ x := by intro x hx; rcases List.mem_cons.1 hx with rfl | hx; exact Hrw.out; exact Hbig.out x hx
  have hfn : fb ∉ r :: S := by
    intro hx
    rcases List.mem_cons.1 hx with e | hx
    · have := Hr4.out.lt; have := Hp_w5.out; omega
    · have := H4.out.lt fb hx; have := Hp_w5.out; omega
  have Hlo := Lib.hid hlo
  have Hfn := Lib.hid hfn
  have ok0 : AskOk 1 f0 := by rw [Hf0.out]; exact ⟨by decide, rfl, by show (1 : Int) ≤ 4; decide, by show (4 : Int) ≤ 6; decide⟩
  have fo0 : f0.out = hashB K [103, 111] := by rw [Hf0.out]; exact Hhh.out
  have fa0 : f0.at_ = ((0 : Nat) : Int) := by rw [Hf0.out]; rfl
  have pl0 : PlaceOk [103, 111] f0.at_ := .inr ⟨by rw [fa0]; decide, by rw [fa0, chunks_go]; decide⟩
  have Ok0 := Lib.hid (And.intro ok0 (And.intro fo0 (And.intro fa0 pl0)))
  have ff0 : f0.from_ = 4 := by rw [Hf0.out]; rfl
  have Ff0 := Lib.hid ff0
  clear hlo hfn ok0 fo0 fa0 pl0 ff0
  have fi_f0 := fi
  have Hfit_f0 := Hfit
  have HR_f0 := HR
  have hsv1 := Lib.hid (serve_any K q S [[103, 111]] r 1 1 f0 899999 w5 H5.out Hr5.out Hfit_f0.out (HL.out.below HB5.out) H0S.out HrS.out (by decide) (by decide))
  rw [← HR_f0.out] at hsv1
  go_wp2_with (refine wpList_load_row rfl 44 _ rfl fb rfl 44 R (0, 0) _ HQ_w5.out Tryd.underlying44 rfl fi_f0 ?_)
  refine hsv1.out.mono ?_
  rintro e w6 ⟨t1, g1, is1, rfl, hs1, h1, hr1, hO1⟩
  have gf1 := hs1.fit Hfit_f0.out
  obtain ⟨rfl, et, hfd⟩ := serv_yes hs1 Ok0.out.1 Ok0.out.2.1 Ok0.out.2.2.2
  have eg := found_part hfd 0 Ok0.out.2.2.1
  rw [Ff0.out] at et
  have Et1 := Lib.hid et
  have Eg1 : Hid (g1.kind = 8 ∧ g1.data = [103, 111]) := Lib.hid ⟨by rw [eg]; rfl, by rw [eg]; rfl⟩
  rw [show left' 1 true = 0 by decide] at hr1
  clear hfd eg et
  have Gf1 := Lib.hid gf1
  have Hs1 := Lib.hid hs1
  have H6_1 := Lib.hid h1
  have Hr6_1 := Lib.hid hr1
  have HO_1 := Lib.hid hO1
  have HB6_1 := Lib.hid (HB5.out.trans (hO1.below HB5.out.size Hlo.out))
  have ss1 := sentRow_size t1 gf1
  have so1 := sent_one t1 gf1
  have si1 : (Tryd.prog.info? 50).map (·.size) = some (sentRow t1 g1).size := by rw [ss1]; exact sent_info
  obtain ⟨SR1, hSR1⟩ : ∃ R, R = sentRow t1 g1 := ⟨_, rfl⟩
  rw [← hSR1] at ss1 so1 si1 ⊢
  have HSR1 := Lib.hid hSR1
  clear hs1 h1 hr1 hO1 gf1 hSR1 hsv1
  go_upto_region 7 with (first | (refine wpList_store_row rfl 50 _ _ rfl w6.heap.size SR1 rfl rfl 50 _ (heap_alloc_new w6 _) si1 (by rw [ss1, hzs]) so1 ?_))
  show Code.wp _ _ _ _ ((w6.alloc (.cells Tryd.zeroCells50 50)).setRow w6.heap.size SR1)
  obtain ⟨hq_w7, hB_w7⟩ := put_new w6 Tryd.zeroCells50 SR1 50
  obtain ⟨b1, hp_w7⟩ : ∃ q, q = w6.heap.size := ⟨_, rfl⟩
  obtain ⟨w7, hw_w7⟩ : ∃ y, y = ((w6.alloc (.cells Tryd.zeroCells50 50)).setRow w6.heap.size SR1) := ⟨_, rfl⟩
  rw [← hw_w7] at hq_w7 hB_w7 ⊢
  rw [← hp_w7] at hq_w7 ⊢
  have HQ_w7 := Lib.hid hq_w7
  have HB_w7 := Lib.hid hB_w7
  have Hp_w7 := Lib.hid hp_w7
  clear hq_w7 hB_w7 hp_w7 hw_w7
  have H7_1 := Lib.hid (H6_1.out.below HB_w7.out)
  have Hr7_1 := Lib.hid (Hr6_1.out.below HB_w7.out)
  have HB7_1 := Lib.hid (HB6_1.out.trans (HB_w7.out.mono HB6_1.out.size))
  have HQ7_1 := Lib.hid (below_keep HB_w7.out (HO_1.out.keep HQ_w5.out Hfn.out))
  have Hbn_1 : Hid (b1 ∉ r :: S ∧ b1 ≠ fb) := Lib.hid ⟨fun hx => by
    have e := Hp_w7.out
    rcases List.mem_cons.1 hx with e2 | hx
    · have := Hr6_1.out.lt; omega
    · have := H6_1.out.lt _ hx; omega, by have e := Hp_w7.out; have := heap_lt (HO_1.out.keep HQ_w5.out Hfn.out); omega⟩
  clear H6_1 Hr6_1 HB6_1
  have hsv2 := Lib.hid (serve_any K q S [[103, 111]] r 1 0 f0 899998 w7 H7_1.out Hr7_1.out Hfit_f0.out (HL.out.below HB7_1.out) H0S.out HrS.out (by decide) (by decide))
  rw [← HR_f0.out] at hsv2
  go_wp2_with (refine wpList_load_row rfl 44 _ rfl fb rfl 44 R (0, 0) _ HQ7_1.out Tryd.underlying44 rfl fi_f0 ?_)
  refine hsv2.out.mono ?_
  rintro e w8 ⟨t2, g2, is2, rfl, hs2, h2, hr2, hO2⟩
  have gf2 := hs2.fit Hfit_f0.out
  obtain rfl := serv_zero hs2
  rw [show left' 0 false = 0 by decide] at hr2
  have Gf2 := Lib.hid gf2
  have Hs2 := Lib.hid hs2
  have H6_2 := Lib.hid h2
  have Hr6_2 := Lib.hid hr2
  have HO_2 := Lib.hid hO2
  have HB6_2 := Lib.hid (HB7_1.out.trans (hO2.below HB7_1.out.size Hlo.out))
  have ss2 := sentRow_size t2 gf2
  have so2 := sent_one t2 gf2
  have si2 : (Tryd.prog.info? 50).map (·.size) = some (sentRow t2 g2).size := by rw [ss2]; exact sent_info
  obtain ⟨SR2, hSR2⟩ : ∃ R, R = sentRow t2 g2 := ⟨_, rfl⟩
  rw [← hSR2] at ss2 so2 si2 ⊢
  have HSR2 := Lib.hid hSR2
  clear hs2 h2 hr2 hO2 gf2 hSR2 hsv2
  go_upto_region 8 with (first | (refine wpList_store_row rfl 50 _ _ rfl w8.heap.size SR2 rfl rfl 50 _ (heap_alloc_new w8 _) si2 (by rw [ss2, hzs]) so2 ?_))
  show Code.wp _ _ _ _ ((w8.alloc (.cells Tryd.zeroCells50 50)).setRow w8.heap.size SR2)
  obtain ⟨hq_w9, hB_w9⟩ := put_new w8 Tryd.zeroCells50 SR2 50
  obtain ⟨b2, hp_w9⟩ : ∃ q, q = w8.heap.size := ⟨_, rfl⟩
  obtain ⟨w9, hw_w9⟩ : ∃ y, y = ((w8.alloc (.cells Tryd.zeroCells50 50)).setRow w8.heap.size SR2) := ⟨_, rfl⟩
  rw [← hw_w9] at hq_w9 hB_w9 ⊢
  rw [← hp_w9] at hq_w9 ⊢
  have HQ_w9 := Lib.hid hq_w9
  have HB_w9 := Lib.hid hB_w9
  have Hp_w9 := Lib.hid hp_w9
  clear hq_w9 hB_w9 hp_w9 hw_w9
  have H7_2 := Lib.hid (H6_2.out.below HB_w9.out)
  have Hr7_2 := Lib.hid (Hr6_2.out.below HB_w9.out)
  have HB7_2 := Lib.hid (HB6_2.out.trans (HB_w9.out.mono HB6_2.out.size))
  have HQ7_2 := Lib.hid (below_keep HB_w9.out (HO_2.out.keep HQ7_1.out Hfn.out))
  have Hbn_2 : Hid (b2 ∉ r :: S ∧ b2 ≠ fb) := Lib.hid ⟨fun hx => by
    have e := Hp_w9.out
    rcases List.mem_cons.1 hx with e2 | hx
    · have := Hr6_2.out.lt; omega
    · have := H6_2.out.lt _ hx; omega, by have e := Hp_w9.out; have := heap_lt (HO_2.out.keep HQ7_1.out Hfn.out); omega⟩
  clear H6_2 Hr6_2 HB6_2
  have hB1_9 := below_keep HB_w9.out (HO_2.out.keep HQ_w7.out Hbn_1.out.1)
  have HB1_9 := Lib.hid hB1_9
  clear hB1_9
  go_wp2_with fail
  refine (rtick_any w9 r 1 0 Hr7_2.out).mono ?_
  rintro e w10 ⟨rfl, hr10, hO10⟩
  have HB10 := Lib.hid (HB7_2.out.trans (hO10.below HB7_2.out.size (by simp; exact Hrw.out)))
  have H10 := Lib.hid (H7_2.out.keep (fun x hx => hO10.block x (H7_2.out.lt x hx) (by simp; exact fun e => HrS.out (e ▸ hx))))
  have Hr10 := Lib.hid hr10
  have HQ10 := Lib.hid (hO10.keep HQ7_2.out (by simp; exact fun e => Hfn.out (by simp [e])))
  have HB1_10 := Lib.hid (hO10.keep HB1_9.out (by simp; exact fun e => Hbn_1.out.1 (by simp [e])))
  clear hr10 hO10
  have hat := heap_setCell_same _ fb 134 _ _ (.int .i64 (-1)) HQ10.out
  rw [HR.out, fr_set_at Hfit.out] at hat
  obtain ⟨f1, hf1⟩ : ∃ f : FrD, f = { f0 with at_ := -1 } := ⟨_, rfl⟩
  have f1fit : f1.Fit := by rw [hf1]; exact fr_at_fit Hfit.out _
  rw [← hf1] at hat
  have c134 := (fr_mem Hfit.out (by rw [← HR.out]; exact HQ10.out)).at_
  have zf134 : w10.frozen? ⟨fb, 134, none⟩ = false := Lib.frozen_of_heap HQ10.out _
  have Hf1 := Lib.hid hf1
  have Hfit_f1 := Lib.hid f1fit
  have Hat := Lib.hid hat
  clear hf1 f1fit hat
  have hO11 : Only [fb] w10 (w10.setCell ⟨fb, 134, none⟩ (.int .i64 (-1))) := (Only.refl [fb] w10).setCell (p := ⟨fb, 134, none⟩) (by simp) _
  have HO11 := Lib.hid hO11
  clear hO11
  go_upto_region 10 with fail
  obtain ⟨w11, hw11⟩ : ∃ y, y = w10.setCell ⟨fb, 134, none⟩ (.int .i64 (-1)) := ⟨_, rfl⟩
  rw [← hw11] at Hat HO11 ⊢
  clear hw11 c134 zf134
  have H11 := Lib.hid (H10.out.keep (fun x hx => HO11.out.block x (H10.out.lt x hx) (by simp; exact fun e => Hfn.out (by rw [← e]; exact List.mem_cons_of_mem _ hx))))
  have Hr11 := Lib.hid (Hr10.out.keep (HO11.out.block r Hr10.out.lt (by simp; exact fun e => Hfn.out (by simp [e]))))
  have HB11 := Lib.hid (HB10.out.trans (HO11.out.below HB10.out.size (by simp; exact Hfw.out)))
  have HB1_11 := Lib.hid (HO11.out.keep HB1_10.out (by simp; exact Hbn_1.out.2))
  have fs1 := FrD.row_size Hfit_f1.out
  have fi_f1 := fr_infoR Hfit_f1.out
  obtain ⟨R1, hR1⟩ : ∃ R, R = f1.row := ⟨_, rfl⟩
  have HQ11 : Hid (w11.heap[fb]? = some (.cells R1 44 (0, 0))) := Lib.hid (by rw [hR1]; exact Hat.out)
  rw [← hR1] at fs1 fi_f1
  have HR_f1 := Lib.hid hR1
  have Ok1 : Hid (AskOk 1 f1 ∧ f1.out = hashB K [103, 111] ∧ f1.at_ = -1) := Lib.hid (by rw [Hf1.out]; exact ⟨Ok0.out.1, Ok0.out.2.1, rfl⟩)
  clear hR1
  have hsv3 := Lib.hid (serve_any K q S [[103, 111]] r 1 1 f1 899997 w11 H11.out Hr11.out Hfit_f1.out (HL.out.below HB11.out) H0S.out HrS.out (by decide) (by decide))
  rw [← HR_f1.out] at hsv3
  go_wp2_with (refine wpList_load_row rfl 44 _ rfl fb rfl 44 R1 (0, 0) _ HQ11.out Tryd.underlying44 rfl fi_f1 ?_)
  refine hsv3.out.mono ?_
  rintro e w12 ⟨t3, g3, is3, rfl, hs3, h3, hr3, hO3⟩
  have gf3 := hs3.fit Hfit_f1.out
  obtain ⟨rfl, -, hfd⟩ := serv_yes hs3 Ok1.out.1 Ok1.out.2.1 (.inl Ok1.out.2.2)
  obtain ⟨m, eg, hown, -, -⟩ := found_mani hfd Ok1.out.2.2
  have Eg3 : Hid (g3.kind = 7 ∧ g3.mani.size = 2) := Lib.hid ⟨by rw [eg]; rfl, by rw [eg]; exact hown.size⟩
  rw [show left' 1 true = 0 by decide] at hr3
  clear hfd eg hown
  have Gf3 := Lib.hid gf3
  have Hs3 := Lib.hid hs3
  have H6_3 := Lib.hid h3
  have Hr6_3 := Lib.hid hr3
  have HO_3 := Lib.hid hO3
  have HB6_3 := Lib.hid (HB11.out.trans (hO3.below HB11.out.size Hlo.out))
  have ss3 := sentRow_size t3 gf3
  have so3 := sent_one t3 gf3
  have si3 : (Tryd.prog.info? 50).map (·.size) = some (sentRow t3 g3).size := by rw [ss3]; exact sent_info
  obtain ⟨SR3, hSR3⟩ : ∃ R, R = sentRow t3 g3 := ⟨_, rfl⟩
  rw [← hSR3] at ss3 so3 si3 ⊢
  have HSR3 := Lib.hid hSR3
  clear hs3 h3 hr3 hO3 gf3 hSR3 hsv3
  go_upto_region 11 with (first | (refine wpList_store_row rfl 50 _ _ rfl w12.heap.size SR3 rfl rfl 50 _ (heap_alloc_new w12 _) si3 (by rw [ss3, hzs]) so3 ?_))
  show Code.wp _ _ _ _ ((w12.alloc (.cells Tryd.zeroCells50 50)).setRow w12.heap.size SR3)
  obtain ⟨hq_w13, hB_w13⟩ := put_new w12 Tryd.zeroCells50 SR3 50
  obtain ⟨b3, hp_w13⟩ : ∃ q, q = w12.heap.size := ⟨_, rfl⟩
  obtain ⟨w13, hw_w13⟩ : ∃ y, y = ((w12.alloc (.cells Tryd.zeroCells50 50)).setRow w12.heap.size SR3) := ⟨_, rfl⟩
  rw [← hw_w13] at hq_w13 hB_w13 ⊢
  rw [← hp_w13] at hq_w13 ⊢
  have HQ_w13 := Lib.hid hq_w13
  have HB_w13 := Lib.hid hB_w13
  have Hp_w13 := Lib.hid hp_w13
  clear hq_w13 hB_w13 hp_w13 hw_w13
  have H7_3 := Lib.hid (H6_3.out.below HB_w13.out)
  have Hr7_3 := Lib.hid (Hr6_3.out.below HB_w13.out)
  have HB7_3 := Lib.hid (HB6_3.out.trans (HB_w13.out.mono HB6_3.out.size))
  have HQ7_3 := Lib.hid (below_keep HB_w13.out (HO_3.out.keep HQ11.out Hfn.out))
  have Hbn_3 : Hid (b3 ∉ r :: S ∧ b3 ≠ fb) := Lib.hid ⟨fun hx => by
    have e := Hp_w13.out
    rcases List.mem_cons.1 hx with e2 | hx
    · have := Hr6_3.out.lt; omega
    · have := H6_3.out.lt _ hx; omega, by have e := Hp_w13.out; have := heap_lt (HO_3.out.keep HQ11.out Hfn.out); omega⟩
  clear H6_3 Hr6_3 HB6_3
  have hb1 := below_keep HB_w13.out (HO_3.out.keep HB1_11.out Hbn_1.out.1)
  have hb3 := HQ_w13.out
  rw [HSR1.out] at hb1
  rw [HSR3.out] at hb3
  have s1 := sn_mem Gf1.out hb1
  have s3 := sn_mem Gf3.out hb3
  have a0 := s1.to_
  have a1 := s1.kind
  have a2 := s1.data
  have a3 := s3.kind
  have a4 := s3.size
  rw [Et1.out] at a0
  rw [Eg1.out.1] at a1
  rw [Eg1.out.2] at a2
  rw [Eg3.out.1] at a3
  rw [Eg3.out.2] at a4
  clear hb1 hb3 s1 s3
  have d1 : (⟨#[103, 111]⟩ == (⟨#[103, 111]⟩ : ByteArray)) = true := by decide
  go_wp2_with fail
  refine (rleft_any w13 r 1 0 Hr7_3.out).mono ?_
  rintro e w14 ⟨rfl, hw14⟩
  subst hw14
  go_wp2_with fail
  go_ret
  exact ⟨rfl, HB7_3.out⟩
end Go.Proofs.YtfbjbhddapoopaaDoor
