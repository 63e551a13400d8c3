/-
  Layer 19 (wing): what a frame's kind has is read.
-/
import Derived.Test.YthcmlbbbbcinkaaDoorWiV
set_option linter.unusedVariables false
set_option linter.unusedSimpArgs false
namespace Go.Proofs.YthcmlbbbbcinkaaDoor
open Go.RowKit Pl
attribute [local go_sem] Lb.ba_get Lb.ba_cut Lb.ba_add Lb.ba_size Lb.take_rest
namespace Wi

theorem digV_eq (d : Bs) : digV d = (byV d).toArray := rfl
theorem mani_infoL {m : ManiD} (h : m.whole.length = 32) : (Tryd.prog.info? 31).map (·.size) = some m.row.size := by rw [mani_info]; unfold ManiD.row; rw [List.size_toArray, mani_length m h]
set_option maxHeartbeats 16000000 in
set_option maxRecDepth 100000 in
theorem body_any {B : Nat} (q qf : Nat) (f : Fm) (x : Adr) (p : St) (w : World) (h : RwAt w B q p) (hi : FmIn w q qf f x) (hB : B ≤ qf) : Calls Tryd.prog 32 #[.pointer (some ⟨q, 0, none⟩), .pointer (some ⟨qf, 0, none⟩)] w (BodyR w B q qf f p) := by
  have hqf : qf ≠ q := by have := h.qB; omega
  have hwf := hi.ok.wf
  have c0 := (hi.fr.mem hwf).kind
  have K0 := Lib.hid h
  have I0 := Lib.hid hi
  have O0 : Hid (Only [q, qf] w w) := Lib.hid (Only.refl _ _)
  have HW := Lib.hid hwf
  obtain ⟨kd, hkd⟩ : ∃ k, k = f.kind := ⟨_, rfl⟩
  rw [← hkd] at c0
  have Hkd := Lib.hid hkd
  clear h hi hwf hkd
  go_enter Tryd.func32, Tryd.ntmps32
  go_upto_region 1 with fail
  by_cases k1 : kd = 1
  · subst k1
    have C1 := Lib.hid (one_any q p w K0.out)
    obtain ⟨n1, hn1⟩ : ∃ v, v = (oneS p).1 := ⟨_, rfl⟩
    obtain ⟨p1, hp1⟩ : ∃ v, v = (oneS p).2 := ⟨_, rfl⟩
    have in1 : I64 n1 := by rw [hn1]; exact numS_i64 _
    rw [← hn1, ← hp1] at C1
    have En1 := Lib.hid hn1
    have Ep1 := Lib.hid hp1
    clear hn1 hp1
    go_wp2_with fail
    refine C1.out.mono ?_
    rintro e w1 ⟨rfl, h, o⟩
    have K1 := Lib.hid h
    have I1 := Lib.hid (I0.out.word o hqf)
    have O1 := Lib.hid (O0.out.trans (o.mono (by simp)))
    clear h o C1 K0 I0 O0
    go_wp2_with (first
      | (refine wpList_fr_seq rfl HW.out I1.out.fr _ _ rfl rfl n1 rfl (fun w2 hf2 o2 => ?_)))
    have hI : FmIn w2 q qf ({ f with seq := n1 } : Fm) x := I1.out.put hf2 o2 (HW.out.put_seq in1)
    have I2 := Lib.hid hI
    have K2 := Lib.hid (K1.out.put o2 hB)
    have O2 := Lib.hid (O1.out.trans (o2.mono (by simp)))
    clear hI o2 hf2 K1 I1 O1
    have HR : bodyS f p = ({ f with seq := n1 }, p1) := by
      unfold bodyS
      rw [← Hkd.out]
      simp only [if_true]
      rw [En1.out, Ep1.out]
    have HRR := Lib.hid HR
    clear HR
    go_end0
    unfold BodyR
    rw [HRR.out]
    exact ⟨x, rfl, I2.out, K2.out, O2.out⟩
  have e1 : (kd == 1) = false := by simp [k1]
  by_cases k2 : kd = 2
  · subst k2
    have C1 := Lib.hid (one_any q p w K0.out)
    obtain ⟨n1, hn1⟩ : ∃ v, v = (oneS p).1 := ⟨_, rfl⟩
    obtain ⟨p1, hp1⟩ : ∃ v, v = (oneS p).2 := ⟨_, rfl⟩
    have in1 : I64 n1 := by rw [hn1]; exact numS_i64 _
    rw [← hn1, ← hp1] at C1
    have En1 := Lib.hid hn1
    have Ep1 := Lib.hid hp1
    clear hn1 hp1
    go_wp2_with fail
    refine C1.out.mono ?_
    rintro e w1 ⟨rfl, h, o⟩
    have K1 := Lib.hid h
    have I1 := Lib.hid (I0.out.word o hqf)
    have O1 := Lib.hid (O0.out.trans (o.mono (by simp)))
    clear h o C1 K0 I0 O0
    have C2 := Lib.hid (one_any q p1 w1 K1.out)
    obtain ⟨n2, hn2⟩ : ∃ v, v = (oneS p1).1 := ⟨_, rfl⟩
    obtain ⟨p2, hp2⟩ : ∃ v, v = (oneS p1).2 := ⟨_, rfl⟩
    have in2 : I64 n2 := by rw [hn2]; exact numS_i64 _
    rw [← hn2, ← hp2] at C2
    have En2 := Lib.hid hn2
    have Ep2 := Lib.hid hp2
    clear hn2 hp2
    go_wp2_with fail
    refine C2.out.mono ?_
    rintro e w2 ⟨rfl, h, o⟩
    have K2 := Lib.hid h
    have I2 := Lib.hid (I1.out.word o hqf)
    have O2 := Lib.hid (O1.out.trans (o.mono (by simp)))
    clear h o C2 K1 I1 O1
    go_upto_region 5 with (first
      | (refine wpList_fr_seq rfl HW.out I2.out.fr _ _ rfl rfl n1 rfl (fun w3 hf3 o3 => ?_))
      | (refine wpList_fr_node rfl (HW.out.put_seq in1) hf3 _ _ rfl rfl n2 rfl (fun w4 hf4 o4 => ?_)))
    have hI : FmIn w4 q qf ({ ({ f with seq := n1 } : Fm) with node := n2 } : Fm) x := I2.out.put hf4 (o3.trans o4) ((HW.out.put_seq in1).put_node in2)
    have I4 := Lib.hid hI
    have K4 := Lib.hid (K2.out.put (o3.trans o4) hB)
    have O4 := Lib.hid (O2.out.trans ((o3.trans o4).mono (by simp)))
    clear hI o3 o4 hf3 hf4 K2 I2 O2
    have C5 := Lib.hid (haze_any q p2 w4 K4.out)
    obtain ⟨d3, hd3⟩ : ∃ v, v = (hazeS p2).1 := ⟨_, rfl⟩
    obtain ⟨p3, hp3⟩ : ∃ v, v = (hazeS p2).2 := ⟨_, rfl⟩
    have ld3 : d3.length = 64 := by rw [hd3]; exact hazeOf_len _
    rw [← hd3, ← hp3] at C5
    have Ed3 := Lib.hid hd3
    have Ep3 := Lib.hid hp3
    clear hd3 hp3
    go_wp2_with fail
    refine C5.out.mono ?_
    rintro e w5 ⟨rfl, h, o⟩
    have K5 := Lib.hid h
    have I5 := Lib.hid (I4.out.word o hqf)
    have O5 := Lib.hid (O4.out.trans (o.mono (by simp)))
    clear h o C5 K4 I4 O4
    go_wp2_with (first
      | (refine wpList_fr_haze rfl ((HW.out.put_seq in1).put_node in2) I5.out.fr _ _ rfl rfl d3 ld3 rfl (fun w6 hf6 o6 => ?_)))
    have hI : FmIn w6 q qf ({ ({ ({ f with seq := n1 } : Fm) with node := n2 } : Fm) with haze := d3 } : Fm) x := I5.out.put hf6 o6 (((HW.out.put_seq in1).put_node in2).put_haze ld3)
    have I6 := Lib.hid hI
    have K6 := Lib.hid (K5.out.put o6 hB)
    have O6 := Lib.hid (O5.out.trans (o6.mono (by simp)))
    clear hI o6 hf6 K5 I5 O5
    have HR : bodyS f p = ({ f with seq := n1, node := n2, haze := d3 }, p3) := by
      unfold bodyS
      rw [← Hkd.out]
      simp only [show ¬ ((2 : Int) = 1) by omega, if_true, if_false]
      rw [En1.out, En2.out, Ed3.out, Ep3.out, Ep2.out, Ep1.out]
    have HRR := Lib.hid HR
    clear HR
    go_end0
    unfold BodyR
    rw [HRR.out]
    exact ⟨x, rfl, I6.out, K6.out, O6.out⟩
  have e2 : (kd == 2) = false := by simp [k2]
  by_cases k3 : kd = 3
  · subst k3
    have C1 := Lib.hid (one_any q p w K0.out)
    obtain ⟨n1, hn1⟩ : ∃ v, v = (oneS p).1 := ⟨_, rfl⟩
    obtain ⟨p1, hp1⟩ : ∃ v, v = (oneS p).2 := ⟨_, rfl⟩
    have in1 : I64 n1 := by rw [hn1]; exact numS_i64 _
    rw [← hn1, ← hp1] at C1
    have En1 := Lib.hid hn1
    have Ep1 := Lib.hid hp1
    clear hn1 hp1
    go_wp2_with fail
    refine C1.out.mono ?_
    rintro e w1 ⟨rfl, h, o⟩
    have K1 := Lib.hid h
    have I1 := Lib.hid (I0.out.word o hqf)
    have O1 := Lib.hid (O0.out.trans (o.mono (by simp)))
    clear h o C1 K0 I0 O0
    have C2 := Lib.hid (one_any q p1 w1 K1.out)
    obtain ⟨n2, hn2⟩ : ∃ v, v = (oneS p1).1 := ⟨_, rfl⟩
    obtain ⟨p2, hp2⟩ : ∃ v, v = (oneS p1).2 := ⟨_, rfl⟩
    have in2 : I64 n2 := by rw [hn2]; exact numS_i64 _
    rw [← hn2, ← hp2] at C2
    have En2 := Lib.hid hn2
    have Ep2 := Lib.hid hp2
    clear hn2 hp2
    go_wp2_with fail
    refine C2.out.mono ?_
    rintro e w2 ⟨rfl, h, o⟩
    have K2 := Lib.hid h
    have I2 := Lib.hid (I1.out.word o hqf)
    have O2 := Lib.hid (O1.out.trans (o.mono (by simp)))
    clear h o C2 K1 I1 O1
    go_wp2_with (first
      | (refine wpList_fr_seq rfl HW.out I2.out.fr _ _ rfl rfl n1 rfl (fun w3 hf3 o3 => ?_))
      | (refine wpList_fr_node rfl (HW.out.put_seq in1) hf3 _ _ rfl rfl n2 rfl (fun w4 hf4 o4 => ?_)))
    have hI : FmIn w4 q qf ({ ({ f with seq := n1 } : Fm) with node := n2 } : Fm) x := I2.out.put hf4 (o3.trans o4) ((HW.out.put_seq in1).put_node in2)
    have I4 := Lib.hid hI
    have K4 := Lib.hid (K2.out.put (o3.trans o4) hB)
    have O4 := Lib.hid (O2.out.trans ((o3.trans o4).mono (by simp)))
    clear hI o3 o4 hf3 hf4 K2 I2 O2
    have HR : bodyS f p = ({ f with seq := n1, node := n2 }, p2) := by
      unfold bodyS
      rw [← Hkd.out]
      simp only [show ¬ ((3 : Int) = 1) by omega, show ¬ ((3 : Int) = 2) by omega, if_true, if_false]
      rw [En1.out, En2.out, Ep2.out, Ep1.out]
    have HRR := Lib.hid HR
    clear HR
    go_end0
    unfold BodyR
    rw [HRR.out]
    exact ⟨x, rfl, I4.out, K4.out, O4.out⟩
  have e3 : (kd == 3) = false := by simp [k3]
  by_cases k4 : kd = 4
  · subst k4
    have C1 := Lib.hid (key_any q p w K0.out)
    obtain ⟨d1, hd1⟩ : ∃ v, v = (keyS p).1 := ⟨_, rfl⟩
    obtain ⟨p1, hp1⟩ : ∃ v, v = (keyS p).2 := ⟨_, rfl⟩
    have ld1 : d1.length = 32 := by rw [hd1]; exact (digS_len _).2
    rw [← hd1, ← hp1] at C1
    have Ed1 := Lib.hid hd1
    have Ep1 := Lib.hid hp1
    clear hd1 hp1
    go_wp2_with fail
    refine C1.out.mono ?_
    rintro e w1 ⟨rfl, h, o⟩
    have K1 := Lib.hid h
    have I1 := Lib.hid (I0.out.word o hqf)
    have O1 := Lib.hid (O0.out.trans (o.mono (by simp)))
    clear h o C1 K0 I0 O0
    go_wp2_with (first
      | (refine wpList_fr_key rfl HW.out I1.out.fr _ _ rfl rfl d1 ld1 rfl (fun w2 hf2 o2 => ?_)))
    have hI : FmIn w2 q qf ({ f with key := d1 } : Fm) x := I1.out.put hf2 o2 (HW.out.put_key ld1)
    have I2 := Lib.hid hI
    have K2 := Lib.hid (K1.out.put o2 hB)
    have O2 := Lib.hid (O1.out.trans (o2.mono (by simp)))
    clear hI o2 hf2 K1 I1 O1
    have HR : bodyS f p = ({ f with key := d1 }, p1) := by
      unfold bodyS
      rw [← Hkd.out]
      simp only [show ¬ ((4 : Int) = 1) by omega, show ¬ ((4 : Int) = 2) by omega, show ¬ ((4 : Int) = 3) by omega, if_true, if_false]
      rw [Ed1.out, Ep1.out]
    have HRR := Lib.hid HR
    clear HR
    go_end0
    unfold BodyR
    rw [HRR.out]
    exact ⟨x, rfl, I2.out, K2.out, O2.out⟩
  have e4 : (kd == 4) = false := by simp [k4]
  by_cases k6 : kd = 6
  · subst k6
    have C1 := Lib.hid (key_any q p w K0.out)
    obtain ⟨d1, hd1⟩ : ∃ v, v = (keyS p).1 := ⟨_, rfl⟩
    obtain ⟨p1, hp1⟩ : ∃ v, v = (keyS p).2 := ⟨_, rfl⟩
    have ld1 : d1.length = 32 := by rw [hd1]; exact (digS_len _).2
    rw [← hd1, ← hp1] at C1
    have Ed1 := Lib.hid hd1
    have Ep1 := Lib.hid hp1
    clear hd1 hp1
    go_wp2_with fail
    refine C1.out.mono ?_
    rintro e w1 ⟨rfl, h, o⟩
    have K1 := Lib.hid h
    have I1 := Lib.hid (I0.out.word o hqf)
    have O1 := Lib.hid (O0.out.trans (o.mono (by simp)))
    clear h o C1 K0 I0 O0
    have C2 := Lib.hid (one_any q p1 w1 K1.out)
    obtain ⟨n2, hn2⟩ : ∃ v, v = (oneS p1).1 := ⟨_, rfl⟩
    obtain ⟨p2, hp2⟩ : ∃ v, v = (oneS p1).2 := ⟨_, rfl⟩
    have in2 : I64 n2 := by rw [hn2]; exact numS_i64 _
    rw [← hn2, ← hp2] at C2
    have En2 := Lib.hid hn2
    have Ep2 := Lib.hid hp2
    clear hn2 hp2
    go_wp2_with fail
    refine C2.out.mono ?_
    rintro e w2 ⟨rfl, h, o⟩
    have K2 := Lib.hid h
    have I2 := Lib.hid (I1.out.word o hqf)
    have O2 := Lib.hid (O1.out.trans (o.mono (by simp)))
    clear h o C2 K1 I1 O1
    go_wp2_with (first
      | (refine wpList_fr_out rfl HW.out I2.out.fr _ _ rfl rfl d1 ld1 rfl (fun w3 hf3 o3 => ?_))
      | (refine wpList_fr_at rfl (HW.out.put_out ld1) hf3 _ _ rfl rfl n2 rfl (fun w4 hf4 o4 => ?_)))
    have hI : FmIn w4 q qf ({ ({ f with out := d1 } : Fm) with at_ := n2 } : Fm) x := I2.out.put hf4 (o3.trans o4) ((HW.out.put_out ld1).put_at in2)
    have I4 := Lib.hid hI
    have K4 := Lib.hid (K2.out.put (o3.trans o4) hB)
    have O4 := Lib.hid (O2.out.trans ((o3.trans o4).mono (by simp)))
    clear hI o3 o4 hf3 hf4 K2 I2 O2
    have HR : bodyS f p = ({ f with out := d1, at_ := n2 }, p2) := by
      unfold bodyS
      rw [← Hkd.out]
      simp only [show ¬ ((6 : Int) = 1) by omega, show ¬ ((6 : Int) = 2) by omega, show ¬ ((6 : Int) = 3) by omega, show ¬ ((6 : Int) = 4) by omega, show ¬ ((6 : Int) = 5) by omega, if_true, if_false]
      rw [Ed1.out, En2.out, Ep2.out, Ep1.out]
    have HRR := Lib.hid HR
    clear HR
    go_end0
    unfold BodyR
    rw [HRR.out]
    exact ⟨x, rfl, I4.out, K4.out, O4.out⟩
  have e6 : (kd == 6) = false := by simp [k6]
  by_cases k8 : kd = 8
  · subst k8
    have C1 := Lib.hid (key_any q p w K0.out)
    obtain ⟨d1, hd1⟩ : ∃ v, v = (keyS p).1 := ⟨_, rfl⟩
    obtain ⟨p1, hp1⟩ : ∃ v, v = (keyS p).2 := ⟨_, rfl⟩
    have ld1 : d1.length = 32 := by rw [hd1]; exact (digS_len _).2
    rw [← hd1, ← hp1] at C1
    have Ed1 := Lib.hid hd1
    have Ep1 := Lib.hid hp1
    clear hd1 hp1
    go_wp2_with fail
    refine C1.out.mono ?_
    rintro e w1 ⟨rfl, h, o⟩
    have K1 := Lib.hid h
    have I1 := Lib.hid (I0.out.word o hqf)
    have O1 := Lib.hid (O0.out.trans (o.mono (by simp)))
    clear h o C1 K0 I0 O0
    have C2 := Lib.hid (one_any q p1 w1 K1.out)
    obtain ⟨n2, hn2⟩ : ∃ v, v = (oneS p1).1 := ⟨_, rfl⟩
    obtain ⟨p2, hp2⟩ : ∃ v, v = (oneS p1).2 := ⟨_, rfl⟩
    have in2 : I64 n2 := by rw [hn2]; exact numS_i64 _
    rw [← hn2, ← hp2] at C2
    have En2 := Lib.hid hn2
    have Ep2 := Lib.hid hp2
    clear hn2 hp2
    go_wp2_with fail
    refine C2.out.mono ?_
    rintro e w2 ⟨rfl, h, o⟩
    have K2 := Lib.hid h
    have I2 := Lib.hid (I1.out.word o hqf)
    have O2 := Lib.hid (O1.out.trans (o.mono (by simp)))
    clear h o C2 K1 I1 O1
    go_upto_region 25 with (first
      | (refine wpList_fr_out rfl HW.out I2.out.fr _ _ rfl rfl d1 ld1 rfl (fun w3 hf3 o3 => ?_))
      | (refine wpList_fr_at rfl (HW.out.put_out ld1) hf3 _ _ rfl rfl n2 rfl (fun w4 hf4 o4 => ?_)))
    have hI : FmIn w4 q qf ({ ({ f with out := d1 } : Fm) with at_ := n2 } : Fm) x := I2.out.put hf4 (o3.trans o4) ((HW.out.put_out ld1).put_at in2)
    have I4 := Lib.hid hI
    have K4 := Lib.hid (K2.out.put (o3.trans o4) hB)
    have O4 := Lib.hid (O2.out.trans ((o3.trans o4).mono (by simp)))
    clear hI o3 o4 hf3 hf4 K2 I2 O2
    have hl3 := nextS_len K4.out
    have C5 := Lib.hid (bytes_any q p2 w4 K4.out)
    obtain ⟨t3, ht3⟩ : ∃ v, v = (nextS p2).s := ⟨_, rfl⟩
    obtain ⟨p3, hp3⟩ : ∃ v, v = nextS p2 := ⟨_, rfl⟩
    rw [← ht3] at hl3
    have hm3 : t3.length ≤ maxLen := by unfold maxLen; omega
    rw [← ht3, ← hp3] at C5
    have Et3 := Lib.hid ht3
    have Ep3 := Lib.hid hp3
    clear ht3 hp3
    go_wp2_with fail
    refine C5.out.mono ?_
    rintro e w5 ⟨rfl, h, o⟩
    have K5 := Lib.hid h
    have I5 := Lib.hid (I4.out.word o hqf)
    have O5 := Lib.hid (O4.out.trans (o.mono (by simp)))
    clear h o C5 K4 I4 O4
    go_wp2_with (first
      | (refine wpList_fr_data rfl ((HW.out.put_out ld1).put_at in2) I5.out.fr _ _ rfl rfl t3 rfl (fun w6 hf6 o6 => ?_)))
    have hI : FmIn w6 q qf ({ ({ ({ f with out := d1 } : Fm) with at_ := n2 } : Fm) with data := t3 } : Fm) x := I5.out.put hf6 o6 (((HW.out.put_out ld1).put_at in2).put_data hm3)
    have I6 := Lib.hid hI
    have K6 := Lib.hid (K5.out.put o6 hB)
    have O6 := Lib.hid (O5.out.trans (o6.mono (by simp)))
    clear hI o6 hf6 K5 I5 O5
    have HR : bodyS f p = ({ f with out := d1, at_ := n2, data := t3 }, p3) := by
      unfold bodyS
      rw [← Hkd.out]
      simp only [show ¬ ((8 : Int) = 1) by omega, show ¬ ((8 : Int) = 2) by omega, show ¬ ((8 : Int) = 3) by omega, show ¬ ((8 : Int) = 4) by omega, show ¬ ((8 : Int) = 5) by omega, show ¬ ((8 : Int) = 6) by omega, show ¬ ((8 : Int) = 7) by omega, if_true, if_false]
      rw [Ed1.out, En2.out, Et3.out, Ep3.out, Ep2.out, Ep1.out]
    have HRR := Lib.hid HR
    clear HR
    go_end0
    unfold BodyR
    rw [HRR.out]
    exact ⟨x, rfl, I6.out, K6.out, O6.out⟩
  have e8 : (kd == 8) = false := by simp [k8]
  by_cases k9 : kd = 9
  · subst k9
    have lq1 := K0.out.lt
    have lf1 := heap_lt I0.out.fr
    have C1 := Lib.hid (listRg_any q 16 p w K0.out (by omega))
    obtain ⟨l1, hl1⟩ : ∃ v, v = (listS rngS 16 p).1 := ⟨_, rfl⟩
    obtain ⟨p1, hp1⟩ : ∃ v, v = (listS rngS 16 p).2 := ⟨_, rfl⟩
    have wl1 : ∀ r ∈ l1, r.Wf := by rw [hl1]; exact listS_wf (one := rngS) (fun p => rngS_wf p) _ _ _ (fun y hy => by cases hy)
    have ml1 : l1.length ≤ maxLen := by have := loopS_len (one := rngS) (16 + 1) [] (nextS p); rw [hl1]; unfold listS; simp only [List.length_nil, Nat.zero_add] at this; unfold maxLen; omega
    unfold ListR at C1
    rw [← hl1, ← hp1] at C1
    have El1 := Lib.hid hl1
    have Ep1 := Lib.hid hp1
    clear hl1 hp1
    go_wp2_with fail
    refine C1.out.mono ?_
    rintro e w1 ⟨v1, rfl, hbag, h, o⟩
    obtain ⟨A1, c1, rfl, -, -⟩ := hbag.shape
    obtain ⟨hrows, hap⟩ := bag_rows hbag (fun y hy => Rg.len (wl1 y hy))
    have hapart : ∀ a, A1 = some a → a.block ≠ q ∧ qf < a.block := fun a ha => by have := hap a ha; constructor <;> omega
    have K1 := Lib.hid h
    have I1 := Lib.hid (I0.out.word o hqf)
    have O1 := Lib.hid (O0.out.trans (o.mono (by simp)))
    have Hrows := Lib.hid hrows
    have Hap := Lib.hid hapart
    clear h o C1 K0 I0 O0 hbag hrows hap hapart
    go_wp2_with (refine wpList_fr_rngs rfl HW.out I1.out.fr _ _ rfl rfl l1 A1 c1 rfl (fun w2 hf o => ?_))
    have I2 := Lib.hid (I1.out.put_rngs hf o wl1 ml1 Hrows.out Hap.out)
    have K2 := Lib.hid (K1.out.put o hB)
    have O2 := Lib.hid (O1.out.trans (o.mono (by simp)))
    clear hf o K1 I1 O1 Hrows Hap lq1 lf1
    have HR : bodyS f p = ({ f with rngs := l1 }, p1) := by
      unfold bodyS
      rw [← Hkd.out]
      simp only [show ¬ ((9 : Int) = 1) by omega, show ¬ ((9 : Int) = 2) by omega, show ¬ ((9 : Int) = 3) by omega, show ¬ ((9 : Int) = 4) by omega, show ¬ ((9 : Int) = 5) by omega, show ¬ ((9 : Int) = 6) by omega, show ¬ ((9 : Int) = 7) by omega, show ¬ ((9 : Int) = 8) by omega, if_true, if_false]
      rw [El1.out, Ep1.out]
    have HRR := Lib.hid HR
    clear HR
    go_end0
    unfold BodyR
    rw [HRR.out]
    exact ⟨{ x with RA := A1, rc := c1 }, rfl, I2.out, K2.out, O2.out⟩
  have e9 : (kd == 9) = false := by simp [k9]
  by_cases k10 : kd = 10
  · subst k10
    have lq1 := K0.out.lt
    have lf1 := heap_lt I0.out.fr
    have C1 := Lib.hid (listRc_any q 16 p w K0.out (by omega))
    obtain ⟨l1, hl1⟩ : ∃ v, v = (listS recS 16 p).1 := ⟨_, rfl⟩
    obtain ⟨p1, hp1⟩ : ∃ v, v = (listS recS 16 p).2 := ⟨_, rfl⟩
    have wl1 : ∀ r ∈ l1, r.Wf := by rw [hl1]; exact listS_wf (one := recS) (fun p => recS_wf p) _ _ _ (fun y hy => by cases hy)
    have ml1 : l1.length ≤ maxLen := by have := loopS_len (one := recS) (16 + 1) [] (nextS p); rw [hl1]; unfold listS; simp only [List.length_nil, Nat.zero_add] at this; unfold maxLen; omega
    unfold ListR at C1
    rw [← hl1, ← hp1] at C1
    have El1 := Lib.hid hl1
    have Ep1 := Lib.hid hp1
    clear hl1 hp1
    go_wp2_with fail
    refine C1.out.mono ?_
    rintro e w1 ⟨v1, rfl, hbag, h, o⟩
    obtain ⟨A1, c1, rfl, -, -⟩ := hbag.shape
    obtain ⟨hrows, hap⟩ := bag_rows hbag (fun y hy => Rc.len (wl1 y hy))
    have hapart : ∀ a, A1 = some a → a.block ≠ q ∧ qf < a.block := fun a ha => by have := hap a ha; constructor <;> omega
    have K1 := Lib.hid h
    have I1 := Lib.hid (I0.out.word o hqf)
    have O1 := Lib.hid (O0.out.trans (o.mono (by simp)))
    have Hrows := Lib.hid hrows
    have Hap := Lib.hid hapart
    clear h o C1 K0 I0 O0 hbag hrows hap hapart
    go_upto_region 30 with (refine wpList_fr_items rfl HW.out I1.out.fr _ _ rfl rfl l1 A1 c1 rfl (fun w2 hf o => ?_))
    have I2 := Lib.hid (I1.out.put_items hf o wl1 ml1 Hrows.out Hap.out)
    have K2 := Lib.hid (K1.out.put o hB)
    have O2 := Lib.hid (O1.out.trans (o.mono (by simp)))
    clear hf o K1 I1 O1 Hrows Hap lq1 lf1
    have lq2 := K2.out.lt
    have lf2 := heap_lt I2.out.fr
    have C3 := Lib.hid (listRg_any q 16 p1 w2 K2.out (by omega))
    obtain ⟨l2, hl2⟩ : ∃ v, v = (listS rngS 16 p1).1 := ⟨_, rfl⟩
    obtain ⟨p2, hp2⟩ : ∃ v, v = (listS rngS 16 p1).2 := ⟨_, rfl⟩
    have wl2 : ∀ r ∈ l2, r.Wf := by rw [hl2]; exact listS_wf (one := rngS) (fun p => rngS_wf p) _ _ _ (fun y hy => by cases hy)
    have ml2 : l2.length ≤ maxLen := by have := loopS_len (one := rngS) (16 + 1) [] (nextS p1); rw [hl2]; unfold listS; simp only [List.length_nil, Nat.zero_add] at this; unfold maxLen; omega
    unfold ListR at C3
    rw [← hl2, ← hp2] at C3
    have El2 := Lib.hid hl2
    have Ep2 := Lib.hid hp2
    clear hl2 hp2
    go_wp2_with fail
    refine C3.out.mono ?_
    rintro e w3 ⟨v2, rfl, hbag, h, o⟩
    obtain ⟨A2, c2, rfl, -, -⟩ := hbag.shape
    obtain ⟨hrows, hap⟩ := bag_rows hbag (fun y hy => Rg.len (wl2 y hy))
    have hapart : ∀ a, A2 = some a → a.block ≠ q ∧ qf < a.block := fun a ha => by have := hap a ha; constructor <;> omega
    have K3 := Lib.hid h
    have I3 := Lib.hid (I2.out.word o hqf)
    have O3 := Lib.hid (O2.out.trans (o.mono (by simp)))
    have Hrows := Lib.hid hrows
    have Hap := Lib.hid hapart
    clear h o C3 K2 I2 O2 hbag hrows hap hapart
    go_wp2_with (refine wpList_fr_rngs rfl (HW.out.put_items wl1 ml1) I3.out.fr _ _ rfl rfl l2 A2 c2 rfl (fun w4 hf o => ?_))
    have I4 := Lib.hid (I3.out.put_rngs hf o wl2 ml2 Hrows.out Hap.out)
    have K4 := Lib.hid (K3.out.put o hB)
    have O4 := Lib.hid (O3.out.trans (o.mono (by simp)))
    clear hf o K3 I3 O3 Hrows Hap lq2 lf2
    have HR : bodyS f p = ({ f with items := l1, rngs := l2 }, p2) := by
      unfold bodyS
      rw [← Hkd.out]
      simp only [show ¬ ((10 : Int) = 1) by omega, show ¬ ((10 : Int) = 2) by omega, show ¬ ((10 : Int) = 3) by omega, show ¬ ((10 : Int) = 4) by omega, show ¬ ((10 : Int) = 5) by omega, show ¬ ((10 : Int) = 6) by omega, show ¬ ((10 : Int) = 7) by omega, show ¬ ((10 : Int) = 8) by omega, show ¬ ((10 : Int) = 9) by omega, if_true, if_false]
      rw [El1.out, El2.out, Ep2.out, Ep1.out]
    have HRR := Lib.hid HR
    clear HR
    go_end0
    unfold BodyR
    rw [HRR.out]
    exact ⟨{ { x with IA := A1, ic := c1 } with RA := A2, rc := c2 }, rfl, I4.out, K4.out, O4.out⟩
  have e10 : (kd == 10) = false := by simp [k10]
  by_cases k5 : kd = 5
  · subst k5
    have C1 := Lib.hid (key_any q p w K0.out)
    obtain ⟨d1, hd1⟩ : ∃ v, v = (keyS p).1 := ⟨_, rfl⟩
    obtain ⟨p1, hp1⟩ : ∃ v, v = (keyS p).2 := ⟨_, rfl⟩
    have ld1 : d1.length = 32 := by rw [hd1]; exact (digS_len _).2
    rw [← hd1, ← hp1] at C1
    have Ed1 := Lib.hid hd1
    have Ep1 := Lib.hid hp1
    clear hd1 hp1
    go_wp2_with fail
    refine C1.out.mono ?_
    rintro e w1 ⟨rfl, h, o⟩
    have K1 := Lib.hid h
    have I1 := Lib.hid (I0.out.word o hqf)
    have O1 := Lib.hid (O0.out.trans (o.mono (by simp)))
    clear h o C1 K0 I0 O0
    go_upto_region 12 with (first
      | (refine wpList_fr_key rfl HW.out I1.out.fr _ _ rfl rfl d1 ld1 rfl (fun w2 hf2 o2 => ?_)))
    have hI : FmIn w2 q qf ({ f with key := d1 } : Fm) x := I1.out.put hf2 o2 (HW.out.put_key ld1)
    have I2 := Lib.hid hI
    have K2 := Lib.hid (K1.out.put o2 hB)
    have O2 := Lib.hid (O1.out.trans (o2.mono (by simp)))
    clear hI o2 hf2 K1 I1 O1
    have C3 := Lib.hid (found_any q p1 w2 K2.out)
    obtain ⟨b2, hb2⟩ : ∃ v, v = (foundS p1).1 := ⟨_, rfl⟩
    obtain ⟨p2, hp2⟩ : ∃ v, v = (foundS p1).2 := ⟨_, rfl⟩
    rw [← hb2, ← hp2] at C3
    have Eb2 := Lib.hid hb2
    have Ep2 := Lib.hid hp2
    clear hb2 hp2
    go_wp2_with fail
    refine C3.out.mono ?_
    rintro e w3 ⟨rfl, h, o⟩
    have K3 := Lib.hid h
    have I3 := Lib.hid (I2.out.word o hqf)
    have O3 := Lib.hid (O2.out.trans (o.mono (by simp)))
    clear h o C3 K2 I2 O2
    go_upto_region 13 with (first
      | (refine wpList_fr_found rfl (HW.out.put_key ld1) I3.out.fr _ _ rfl rfl b2 rfl (fun w4 hf4 o4 => ?_)))
    have hI : FmIn w4 q qf ({ ({ f with key := d1 } : Fm) with found := b2 } : Fm) x := I3.out.put hf4 o4 ((HW.out.put_key ld1).put_found)
    have I4 := Lib.hid hI
    have K4 := Lib.hid (K3.out.put o4 hB)
    have O4 := Lib.hid (O3.out.trans (o4.mono (by simp)))
    clear hI o4 hf4 K3 I3 O3
    have c36 := (I4.out.fr.mem I4.out.ok.wf).found
    simp only at c36
    cases b2 with
    | false =>
      go_wp2_with fail
      have HR : bodyS f p = ({ f with key := d1, found := false }, p2) := by
        unfold bodyS
        rw [← Hkd.out]
        simp only [show ¬ ((5 : Int) = 1) by omega, show ¬ ((5 : Int) = 2) by omega, show ¬ ((5 : Int) = 3) by omega, show ¬ ((5 : Int) = 4) by omega, if_true, if_false]
        rw [← Ed1.out, ← Ep1.out, ← Eb2.out, ← Ep2.out]
        simp
      have HRR := Lib.hid HR
      clear HR
      go_end0
      unfold BodyR
      rw [HRR.out]
      exact ⟨x, rfl, I4.out, K4.out, O4.out⟩
    | true =>
      have C5 := Lib.hid (one_any q p2 w4 K4.out)
      obtain ⟨n3, hn3⟩ : ∃ v, v = (oneS p2).1 := ⟨_, rfl⟩
      obtain ⟨p3, hp3⟩ : ∃ v, v = (oneS p2).2 := ⟨_, rfl⟩
      have in3 : I64 n3 := by rw [hn3]; exact numS_i64 _
      rw [← hn3, ← hp3] at C5
      have En3 := Lib.hid hn3
      have Ep3 := Lib.hid hp3
      clear hn3 hp3
      go_wp2_with fail
      refine C5.out.mono ?_
      rintro e w5 ⟨rfl, h, o⟩
      have K5 := Lib.hid h
      have I5 := Lib.hid (I4.out.word o hqf)
      have O5 := Lib.hid (O4.out.trans (o.mono (by simp)))
      clear h o C5 K4 I4 O4
      go_upto_region 15 with (first
        | (refine wpList_fr_node rfl ((HW.out.put_key ld1).put_found) I5.out.fr _ _ rfl rfl n3 rfl (fun w6 hf6 o6 => ?_)))
      have hI : FmIn w6 q qf ({ ({ ({ f with key := d1 } : Fm) with found := true } : Fm) with node := n3 } : Fm) x := I5.out.put hf6 o6 (((HW.out.put_key ld1).put_found).put_node in3)
      have I6 := Lib.hid hI
      have K6 := Lib.hid (K5.out.put o6 hB)
      have O6 := Lib.hid (O5.out.trans (o6.mono (by simp)))
      clear hI o6 hf6 K5 I5 O5
      have C7 := Lib.hid (next_any q p3 w6 K6.out)
      obtain ⟨p4, hp4⟩ : ∃ v, v = nextS p3 := ⟨_, rfl⟩
      unfold NextR at C7
      rw [← hp4] at C7
      have Ep4 := Lib.hid hp4
      clear hp4
      go_wp2_with fail
      refine C7.out.mono ?_
      rintro e w7 ⟨rfl, h, o⟩
      have K7 := Lib.hid h
      have I7 := Lib.hid (I6.out.word o hqf)
      have O7 := Lib.hid (O6.out.trans (o.mono (by simp)))
      clear h o C7 K6 I6 O6
      have C8 := Lib.hid (record_rw q p4 w7 K7.out)
      obtain ⟨r5, hr5⟩ : ∃ v, v = (recS p4).1 := ⟨_, rfl⟩
      obtain ⟨p5, hp5⟩ : ∃ v, v = (recS p4).2 := ⟨_, rfl⟩
      have wr5 : r5.Wf := by rw [hr5]; exact recS_wf _
      rw [← hr5, ← hp5] at C8
      have Er5 := Lib.hid hr5
      have Ep5 := Lib.hid hp5
      clear hr5 hp5
      go_wp2_with fail
      refine C8.out.mono ?_
      rintro e w8 ⟨rfl, h, o⟩
      have K8 := Lib.hid h
      have I8 := Lib.hid (I7.out.word o hqf)
      have O8 := Lib.hid (O7.out.trans (o.mono (by simp)))
      clear h o C8 K7 I7 O7
      go_upto_region 17 with (first
        | (refine wpList_fr_rcd rfl (((HW.out.put_key ld1).put_found).put_node in3) I8.out.fr _ _ rfl rfl r5 wr5 rfl (fun w9 hf9 o9 => ?_)))
      have hI : FmIn w9 q qf ({ ({ ({ ({ f with key := d1 } : Fm) with found := true } : Fm) with node := n3 } : Fm) with rcd := r5 } : Fm) x := I8.out.put hf9 o9 ((((HW.out.put_key ld1).put_found).put_node in3).put_rcd wr5)
      have I9 := Lib.hid hI
      have K9 := Lib.hid (K8.out.put o9 hB)
      have O9 := Lib.hid (O8.out.trans (o9.mono (by simp)))
      clear hI o9 hf9 K8 I8 O8
      have C10 := Lib.hid (end_any q p5 w9 K9.out)
      obtain ⟨p6, hp6⟩ : ∃ v, v = endS p5 := ⟨_, rfl⟩
      rw [← hp6] at C10
      have Ep6 := Lib.hid hp6
      clear hp6
      go_wp2_with fail
      refine C10.out.mono ?_
      rintro e w10 ⟨rfl, h, o⟩
      have K10 := Lib.hid h
      have I10 := Lib.hid (I9.out.word o hqf)
      have O10 := Lib.hid (O9.out.trans (o.mono (by simp)))
      clear h o C10 K9 I9 O9
      go_wp2_with fail
      have HR : bodyS f p = ({ f with key := d1, found := true, node := n3, rcd := r5 }, p6) := by
        unfold bodyS
        rw [← Hkd.out]
        simp only [show ¬ ((5 : Int) = 1) by omega, show ¬ ((5 : Int) = 2) by omega, show ¬ ((5 : Int) = 3) by omega, show ¬ ((5 : Int) = 4) by omega, if_true, if_false]
        rw [← Ed1.out, ← Ep1.out, ← Eb2.out, ← Ep2.out]
        simp only [if_true]
        rw [← En3.out, ← Ep3.out, ← Ep4.out, ← Er5.out, ← Ep5.out, ← Ep6.out]
      have HRR := Lib.hid HR
      clear HR
      go_end0
      unfold BodyR
      rw [HRR.out]
      exact ⟨x, rfl, I10.out, K10.out, O10.out⟩
  have e5 : (kd == 5) = false := by simp [k5]
  by_cases k7 : kd = 7
  · subst k7
    have hl1 := nextS_len K0.out
    have C1 := Lib.hid (bytes_any q p w K0.out)
    obtain ⟨t1, ht1⟩ : ∃ v, v = (nextS p).s := ⟨_, rfl⟩
    obtain ⟨p1, hp1⟩ : ∃ v, v = nextS p := ⟨_, rfl⟩
    rw [← ht1] at hl1
    rw [← ht1, ← hp1] at C1
    have Et1 := Lib.hid ht1
    have Ep1 := Lib.hid hp1
    clear ht1 hp1
    go_wp2_with fail
    refine C1.out.mono ?_
    rintro e w1 ⟨rfl, h, o⟩
    have K1 := Lib.hid h
    have I1 := Lib.hid (I0.out.word o hqf)
    have O1 := Lib.hid (O0.out.trans (o.mono (by simp)))
    clear h o C1 K0 I0 O0
    have HDec := Lib.hid (decode_new t1 w1 (by omega))
    go_wp2_with fail
    refine HDec.out.mono ?_
    rintro e w2 ⟨m, y, rfl, hdec, hmok, hmA, hb⟩
    have lq1 := K1.out.lt
    have lf1 := heap_lt I1.out.fr
    have K2 := Lib.hid (K1.out.below (hb.mono K1.out.bw))
    have I2 := Lib.hid (I1.out.word (Only.of_below (bs := [q]) hb) hqf)
    have O2 := Lib.hid (O1.out.trans (Only.of_below (bs := [q, qf]) hb))
    have hapart : ∀ a, m.A = some a → a.block ≠ q ∧ qf < a.block := fun a ha => by have := hmA a ha; constructor <;> omega
    have Hdec := Lib.hid hdec
    have Hap := Lib.hid hapart
    have hmw := hmok.whole
    have hn2 := heap_alloc_new w2 (.cells zeroMani.row 31)
    have hinf := mani_infoL hmw
    have hone := ManiD.row_one m
    have hsz : zeroMani.row.size = m.row.size := by unfold ManiD.row; rw [List.size_toArray, List.size_toArray, mani_length m hmw]; rfl
    have Hok := Lib.hid hmok
    clear hdec hapart hmok hmA hb HDec K1 I1 O1 lq1 lf1
    go_upto_region 22 with (refine wpList_store_row rfl 31 _ _ rfl w2.heap.size m.row rfl rfl 31 zeroMani.row hn2 hinf hsz hone ?_)
    show Code.wp _ _ _ _ ((w2.alloc (.cells zeroMani.row 31)).setRow w2.heap.size m.row)
    obtain ⟨w3, hw3⟩ : ∃ y, y = (w2.alloc (.cells zeroMani.row 31)).setRow w2.heap.size m.row := ⟨_, rfl⟩
    obtain ⟨g, hg⟩ : ∃ g, g = w2.heap.size := ⟨_, rfl⟩
    have l3 := setRow_heap _ _ _ m.row _ _ hn2
    have o3 := ((Only.refl [g] w2).alloc (.cells zeroMani.row 31)).setRow (g := g) (by simp) m.row
    rw [← hg] at hw3 l3 ⊢
    rw [← hw3] at l3 o3 ⊢
    have lq2 := K2.out.lt
    have lf2 := heap_lt I2.out.fr
    have gq : g ≠ q := by omega
    have gf : g ≠ qf := by omega
    have b3 : Below w2.heap.size w2 w3 := o3.below (Nat.le_refl _) (by simp; omega)
    have K3 := Lib.hid (K2.out.below (b3.mono K2.out.bw))
    have I3 := Lib.hid (I2.out.word (Only.of_below (bs := [q]) b3) hqf)
    have O3 := Lib.hid (O2.out.trans (Only.of_below (bs := [q, qf]) b3))
    have Hok3 := Lib.hid ((Hok.out.below b3 (Nat.le_refl _)).more b3.size)
    have L3 := Lib.hid l3
    clear hw3 hg l3 o3 hn2 lq2 lf2 b3 K2 I2 O2 Hok hsz hone
    obtain ⟨A, c, ht, hr⟩ := K3.out.ex
    have c1 := ht.c1
    have HT := Lib.hid ht
    have HR := Lib.hid hr
    clear ht hr
    obtain ⟨yb, hyb⟩ : ∃ b, b = decide (y ≠ 0) := ⟨_, rfl⟩
    have hy0 : (y != 0) = yb := by rw [hyb]; rw [Bool.eq_iff_iff]; simp
    have Hyb := Lib.hid hyb
    clear hyb
    obtain ⟨b1, hb1⟩ : ∃ b, b = p1.bad := ⟨_, rfl⟩
    rw [← hb1] at c1 HT
    have Hb1 := Lib.hid hb1
    clear hb1
    have mund := Tryd.underlying31
    have mrow : m.row = m.cells.toArray := rfl
    cases b1 with
    | true =>
      refine wp_region_any (by kernel_rfl) ?_
      try change wpAny _ _ _ _ _ _ _ (World.drew _)
      try simp only [Act.put, List.getElem_toArray, List.getElem_cons_zero, List.getElem_cons_succ, List.setIfInBounds_toArray, List.set_cons_zero, List.set_cons_succ]
      refine wpAny_take (i := 0) (v := ?_) rfl (by kernel_rfl) (by kernel_rfl) (by kernel_rfl) (fun _ _ _ h => h) (Or.inl ⟨by rfl, ?_⟩) ?_
      rotate_left 1
      · intro w
        go_simp
        try with_reducible rfl
      try simp only [Act.put, List.getElem_toArray, List.getElem_cons_zero, List.getElem_cons_succ, List.setIfInBounds_toArray, List.set_cons_zero, List.set_cons_succ]
      refine wpAny_take (i := 1) (v := ?_) rfl (by kernel_rfl) (by kernel_rfl) (by kernel_rfl) (fun _ _ _ h => h) (Or.inl ⟨by rfl, ?_⟩) ?_
      rotate_left 1
      · intro w
        go_simp
        try with_reducible rfl
      try simp only [Act.put, List.getElem_toArray, List.getElem_cons_zero, List.getElem_cons_succ, List.setIfInBounds_toArray, List.set_cons_zero, List.set_cons_succ]
      refine wpAny_take (i := 3) (v := ?_) rfl (by kernel_rfl) (by kernel_rfl) (by kernel_rfl) (fun _ _ _ h => h) (Or.inl ⟨by rfl, ?_⟩) ?_
      rotate_left 1
      · intro w
        go_simp
        try with_reducible rfl
      try simp only [Act.put, List.getElem_toArray, List.getElem_cons_zero, List.getElem_cons_succ, List.setIfInBounds_toArray, List.set_cons_zero, List.set_cons_succ]
      refine wpAny_take (i := 4) (v := ?_) rfl (by kernel_rfl) (by kernel_rfl) (by kernel_rfl) (fun _ _ _ h => h) (Or.inl ⟨by rfl, ?_⟩) ?_
      rotate_left 1
      · intro w
        go_simp
        try with_reducible rfl
      try simp only [Act.put, List.getElem_toArray, List.getElem_cons_zero, List.getElem_cons_succ, List.setIfInBounds_toArray, List.set_cons_zero, List.set_cons_succ]
      refine wpAny_take (i := 5) (v := ?_) rfl (by kernel_rfl) (by kernel_rfl) (by kernel_rfl) (fun _ _ _ h => h) (Or.inl ⟨by rfl, ?_⟩) ?_
      rotate_left 1
      · intro w
        go_simp
        try with_reducible rfl
      try simp only [Act.put, List.getElem_toArray, List.getElem_cons_zero, List.getElem_cons_succ, List.setIfInBounds_toArray, List.set_cons_zero, List.set_cons_succ]
      refine wpAny_take (i := 6) (v := ?_) rfl (by kernel_rfl) (by kernel_rfl) (by kernel_rfl) (fun _ _ _ h => h) (Or.inl ⟨by rfl, ?_⟩) ?_
      rotate_left 1
      · intro w
        go_simp
        try with_reducible rfl
      try simp only [Act.put, List.getElem_toArray, List.getElem_cons_zero, List.getElem_cons_succ, List.setIfInBounds_toArray, List.set_cons_zero, List.set_cons_succ]
      refine wpAny_ready (rs := [2, 7]) (by kernel_rfl) (by simp) ?_
      refine AllReady.cons rfl (fun K hK => ?_) ?_
      · rw [if_pos (by rfl)]
        refine wp_load_row 31 _ rfl g rfl 31 m.row (0, 0) _ (show w3.drew.heap[g]? = _ from L3.out) mund rfl hinf ?_
        refine hK _ _ ?_
        clear hK K
        try simp only [Act.put, List.getElem_toArray, List.getElem_cons_zero, List.getElem_cons_succ, List.setIfInBounds_toArray, List.set_cons_zero, List.set_cons_succ]
        refine wpAny_ready (rs := [7]) (by kernel_rfl) (by simp) ?_
        refine AllReady.cons rfl (fun K hK => ?_) ?_
        · go_simp
          refine hK _ _ ?_
          clear hK K
          try simp only [Act.put, List.getElem_toArray, List.getElem_cons_zero, List.getElem_cons_succ, List.setIfInBounds_toArray, List.set_cons_zero, List.set_cons_succ]
          refine wpAny_take (i := 8) (v := ?_) rfl (by kernel_rfl) (by kernel_rfl) (by kernel_rfl) (fun _ _ _ h => h) (Or.inl ⟨by rfl, ?_⟩) ?_
          rotate_left 1
          · intro w
            go_simp
            try with_reducible rfl
          try simp only [Act.put, List.getElem_toArray, List.getElem_cons_zero, List.getElem_cons_succ, List.setIfInBounds_toArray, List.set_cons_zero, List.set_cons_succ]
          refine wpAny_take (i := 9) (v := undef) rfl (by kernel_rfl) (by kernel_rfl) (by kernel_rfl) (fun _ _ _ h => h) (Or.inr ⟨by kernel_rfl, rfl⟩) ?_
          try simp only [Act.put, List.getElem_toArray, List.getElem_cons_zero, List.getElem_cons_succ, List.setIfInBounds_toArray, List.set_cons_zero, List.set_cons_succ]
          refine wpAny_take (i := 10) (v := undef) rfl (by kernel_rfl) (by kernel_rfl) (by kernel_rfl) (fun _ _ _ h => h) (Or.inr ⟨by kernel_rfl, rfl⟩) ?_
          try simp only [Act.put, List.getElem_toArray, List.getElem_cons_zero, List.getElem_cons_succ, List.setIfInBounds_toArray, List.set_cons_zero, List.set_cons_succ]
          refine wpAny_take (i := 11) (v := ?_) rfl (by kernel_rfl) (by kernel_rfl) (by kernel_rfl) (fun _ _ _ h => h) (Or.inl ⟨by rfl, ?_⟩) ?_
          rotate_left 1
          · intro w
            go_simp
            try with_reducible rfl
          try simp only [Act.put, List.getElem_toArray, List.getElem_cons_zero, List.getElem_cons_succ, List.setIfInBounds_toArray, List.set_cons_zero, List.set_cons_succ]
          refine wpAny_take (i := 12) (v := ?_) rfl (by kernel_rfl) (by kernel_rfl) (by kernel_rfl) (fun _ _ _ h => h) (Or.inl ⟨by rfl, ?_⟩) ?_
          rotate_left 1
          · intro w
            go_simp
            try with_reducible rfl
          try simp only [Act.put, List.getElem_toArray, List.getElem_cons_zero, List.getElem_cons_succ, List.setIfInBounds_toArray, List.set_cons_zero, List.set_cons_succ]
          refine wpAny_take (i := 13) (v := ?_) rfl (by kernel_rfl) (by kernel_rfl) (by kernel_rfl) (fun _ _ _ h => h) (Or.inl ⟨by rfl, ?_⟩) ?_
          rotate_left 1
          · intro w
            go_simp
            try with_reducible rfl
          try simp only [Act.put, List.getElem_toArray, List.getElem_cons_zero, List.getElem_cons_succ, List.setIfInBounds_toArray, List.set_cons_zero, List.set_cons_succ]
          refine wpAny_ready (rs := [14]) (by kernel_rfl) (by simp) ?_
          refine AllReady.cons rfl (fun K hK => ?_) ?_
          · rw [if_pos (by rfl)]
            refine wp_fr_mani I3.out.ok.wf (show FrAt w3.drew qf f x from I3.out.fr) _ _ rfl rfl m hmw rfl (fun w4 hf4 o4 => ?_)
            have T4 := Lib.hid (TxAt.keep (w := w3.drew) (show TxAt w3.drew q p1.s true (.slice A p1.rest.length c) from HT.out) o4 (by simpa using hqf.symm))
            have F4 := Lib.hid hf4
            clear hf4
            refine hK _ _ ?_
            clear hK K
            try simp only [Act.put, List.getElem_toArray, List.getElem_cons_zero, List.getElem_cons_succ, List.setIfInBounds_toArray, List.set_cons_zero, List.set_cons_succ]
            refine wpAny_take (i := 15) (v := ?_) rfl (by kernel_rfl) (by kernel_rfl) (by kernel_rfl) (fun _ _ _ h => h) (Or.inl ⟨by rfl, ?_⟩) ?_
            rotate_left 1
            · intro w
              go_simp
              try with_reducible rfl
            try simp only [Act.put, List.getElem_toArray, List.getElem_cons_zero, List.getElem_cons_succ, List.setIfInBounds_toArray, List.set_cons_zero, List.set_cons_succ]
            refine wpAny_take (i := 16) (v := ?_) rfl (by kernel_rfl) (by kernel_rfl) (by kernel_rfl) (fun _ _ _ h => h) (Or.inl ⟨by rfl, ?_⟩) ?_
            rotate_left 1
            · intro w
              go_simp
              try with_reducible rfl
            try simp only [Act.put, List.getElem_toArray, List.getElem_cons_zero, List.getElem_cons_succ, List.setIfInBounds_toArray, List.set_cons_zero, List.set_cons_succ]
            refine wpAny_take (i := 17) (v := ?_) rfl (by kernel_rfl) (by kernel_rfl) (by kernel_rfl) (fun _ _ _ h => h) (Or.inl ⟨by rfl, ?_⟩) ?_
            rotate_left 1
            · intro w
              go_simp
              try with_reducible rfl
            try simp only [Act.put, List.getElem_toArray, List.getElem_cons_zero, List.getElem_cons_succ, List.setIfInBounds_toArray, List.set_cons_zero, List.set_cons_succ]
            refine wpAny_ready (rs := [18]) (by kernel_rfl) (by simp) ?_
            refine AllReady.cons rfl (fun K hK => ?_) ?_
            · rw [if_pos (by rfl)]
              refine wp_tx1 T4.out _ _ rfl rfl true rfl (fun w5 t5 o5 => ?_)
              have F5 := Lib.hid (F4.out.keep o5 (by simpa using hqf))
              have T5 := Lib.hid t5
              clear t5 F4 T4
              refine hK _ _ ?_
              clear hK K
              refine wpAny_done (by kernel_rfl) ?_ _
              have o45 : Only [q, qf] w3 w5 := (((Only.refl [q, qf] w3).drew).trans (o4.mono (by simp))).trans (o5.mono (by simp))
              have hB5 : Only [q, qf] w w5 := O3.out.trans o45
              have hI5 := I3.out.put_mani F5.out o45 Hok3.out Hap.out
              have hK5 : RwAt w5 B q { p1 with bad := true } := ⟨⟨A, c, T5.out, (HR.out.below ((((Only.refl [qf] w3).drew).trans o4).below HR.out.bw (by simpa using hB))).keep o5⟩, K3.out.len⟩
              have HI5 := Lib.hid hI5
              have HK5 := Lib.hid hK5
              have HO5 := Lib.hid hB5
              clear o4 o5 o45 hB5 hI5 hK5 F5 T5 L3 c1 hinf mrow mund hy0
              have hms := maniS_of (p := p) (m := m) (e := y) (by rw [← Et1.out]; exact Hdec.out)
              rw [← Ep1.out, ← Hb1.out, ← Hyb.out] at hms
              have HRR : Hid (bodyS f p = ({ f with whole := m.whole, size := m.size, parts := m.parts }, { p1 with bad := true })) := Lib.hid (by
                unfold bodyS
                rw [← Hkd.out]
                simp only [show ¬ ((7 : Int) = 1) by omega, show ¬ ((7 : Int) = 2) by omega, show ¬ ((7 : Int) = 3) by omega, show ¬ ((7 : Int) = 4) by omega, show ¬ ((7 : Int) = 5) by omega, show ¬ ((7 : Int) = 6) by omega, if_true, if_false]
                rw [hms.1, hms.2]
                simp)
              clear hms
              go_wp2_with fail
              go_end0
              unfold BodyR
              rw [HRR.out]
              exact ⟨_, rfl, HI5.out, HK5.out, HO5.out⟩
            exact AllReady.nil
          exact AllReady.nil
        exact AllReady.nil
      refine AllReady.cons rfl (fun K hK => ?_) ?_
      · go_simp
        refine hK _ _ ?_
        clear hK K
        try simp only [Act.put, List.getElem_toArray, List.getElem_cons_zero, List.getElem_cons_succ, List.setIfInBounds_toArray, List.set_cons_zero, List.set_cons_succ]
        refine wpAny_take (i := 8) (v := ?_) rfl (by kernel_rfl) (by kernel_rfl) (by kernel_rfl) (fun _ _ _ h => h) (Or.inl ⟨by rfl, ?_⟩) ?_
        rotate_left 1
        · intro w
          go_simp
          try with_reducible rfl
        try simp only [Act.put, List.getElem_toArray, List.getElem_cons_zero, List.getElem_cons_succ, List.setIfInBounds_toArray, List.set_cons_zero, List.set_cons_succ]
        refine wpAny_take (i := 9) (v := undef) rfl (by kernel_rfl) (by kernel_rfl) (by kernel_rfl) (fun _ _ _ h => h) (Or.inr ⟨by kernel_rfl, rfl⟩) ?_
        try simp only [Act.put, List.getElem_toArray, List.getElem_cons_zero, List.getElem_cons_succ, List.setIfInBounds_toArray, List.set_cons_zero, List.set_cons_succ]
        refine wpAny_take (i := 10) (v := undef) rfl (by kernel_rfl) (by kernel_rfl) (by kernel_rfl) (fun _ _ _ h => h) (Or.inr ⟨by kernel_rfl, rfl⟩) ?_
        try simp only [Act.put, List.getElem_toArray, List.getElem_cons_zero, List.getElem_cons_succ, List.setIfInBounds_toArray, List.set_cons_zero, List.set_cons_succ]
        refine wpAny_take (i := 11) (v := ?_) rfl (by kernel_rfl) (by kernel_rfl) (by kernel_rfl) (fun _ _ _ h => h) (Or.inl ⟨by rfl, ?_⟩) ?_
        rotate_left 1
        · intro w
          go_simp
          try with_reducible rfl
        try simp only [Act.put, List.getElem_toArray, List.getElem_cons_zero, List.getElem_cons_succ, List.setIfInBounds_toArray, List.set_cons_zero, List.set_cons_succ]
        refine wpAny_ready (rs := [2]) (by kernel_rfl) (by simp) ?_
        refine AllReady.cons rfl (fun K hK => ?_) ?_
        · rw [if_pos (by rfl)]
          refine wp_load_row 31 _ rfl g rfl 31 m.row (0, 0) _ (show w3.drew.heap[g]? = _ from L3.out) mund rfl hinf ?_
          refine hK _ _ ?_
          clear hK K
          try simp only [Act.put, List.getElem_toArray, List.getElem_cons_zero, List.getElem_cons_succ, List.setIfInBounds_toArray, List.set_cons_zero, List.set_cons_succ]
          refine wpAny_take (i := 12) (v := ?_) rfl (by kernel_rfl) (by kernel_rfl) (by kernel_rfl) (fun _ _ _ h => h) (Or.inl ⟨by rfl, ?_⟩) ?_
          rotate_left 1
          · intro w
            go_simp
            try with_reducible rfl
          try simp only [Act.put, List.getElem_toArray, List.getElem_cons_zero, List.getElem_cons_succ, List.setIfInBounds_toArray, List.set_cons_zero, List.set_cons_succ]
          refine wpAny_take (i := 13) (v := ?_) rfl (by kernel_rfl) (by kernel_rfl) (by kernel_rfl) (fun _ _ _ h => h) (Or.inl ⟨by rfl, ?_⟩) ?_
          rotate_left 1
          · intro w
            go_simp
            try with_reducible rfl
          try simp only [Act.put, List.getElem_toArray, List.getElem_cons_zero, List.getElem_cons_succ, List.setIfInBounds_toArray, List.set_cons_zero, List.set_cons_succ]
          refine wpAny_ready (rs := [14]) (by kernel_rfl) (by simp) ?_
          refine AllReady.cons rfl (fun K hK => ?_) ?_
          · rw [if_pos (by rfl)]
            refine wp_fr_mani I3.out.ok.wf (show FrAt w3.drew qf f x from I3.out.fr) _ _ rfl rfl m hmw rfl (fun w4 hf4 o4 => ?_)
            have T4 := Lib.hid (TxAt.keep (w := w3.drew) (show TxAt w3.drew q p1.s true (.slice A p1.rest.length c) from HT.out) o4 (by simpa using hqf.symm))
            have F4 := Lib.hid hf4
            clear hf4
            refine hK _ _ ?_
            clear hK K
            try simp only [Act.put, List.getElem_toArray, List.getElem_cons_zero, List.getElem_cons_succ, List.setIfInBounds_toArray, List.set_cons_zero, List.set_cons_succ]
            refine wpAny_take (i := 15) (v := ?_) rfl (by kernel_rfl) (by kernel_rfl) (by kernel_rfl) (fun _ _ _ h => h) (Or.inl ⟨by rfl, ?_⟩) ?_
            rotate_left 1
            · intro w
              go_simp
              try with_reducible rfl
            try simp only [Act.put, List.getElem_toArray, List.getElem_cons_zero, List.getElem_cons_succ, List.setIfInBounds_toArray, List.set_cons_zero, List.set_cons_succ]
            refine wpAny_take (i := 16) (v := ?_) rfl (by kernel_rfl) (by kernel_rfl) (by kernel_rfl) (fun _ _ _ h => h) (Or.inl ⟨by rfl, ?_⟩) ?_
            rotate_left 1
            · intro w
              go_simp
              try with_reducible rfl
            try simp only [Act.put, List.getElem_toArray, List.getElem_cons_zero, List.getElem_cons_succ, List.setIfInBounds_toArray, List.set_cons_zero, List.set_cons_succ]
            refine wpAny_take (i := 17) (v := ?_) rfl (by kernel_rfl) (by kernel_rfl) (by kernel_rfl) (fun _ _ _ h => h) (Or.inl ⟨by rfl, ?_⟩) ?_
            rotate_left 1
            · intro w
              go_simp
              try with_reducible rfl
            try simp only [Act.put, List.getElem_toArray, List.getElem_cons_zero, List.getElem_cons_succ, List.setIfInBounds_toArray, List.set_cons_zero, List.set_cons_succ]
            refine wpAny_ready (rs := [18]) (by kernel_rfl) (by simp) ?_
            refine AllReady.cons rfl (fun K hK => ?_) ?_
            · rw [if_pos (by rfl)]
              refine wp_tx1 T4.out _ _ rfl rfl true rfl (fun w5 t5 o5 => ?_)
              have F5 := Lib.hid (F4.out.keep o5 (by simpa using hqf))
              have T5 := Lib.hid t5
              clear t5 F4 T4
              refine hK _ _ ?_
              clear hK K
              refine wpAny_done (by kernel_rfl) ?_ _
              have o45 : Only [q, qf] w3 w5 := (((Only.refl [q, qf] w3).drew).trans (o4.mono (by simp))).trans (o5.mono (by simp))
              have hB5 : Only [q, qf] w w5 := O3.out.trans o45
              have hI5 := I3.out.put_mani F5.out o45 Hok3.out Hap.out
              have hK5 : RwAt w5 B q { p1 with bad := true } := ⟨⟨A, c, T5.out, (HR.out.below ((((Only.refl [qf] w3).drew).trans o4).below HR.out.bw (by simpa using hB))).keep o5⟩, K3.out.len⟩
              have HI5 := Lib.hid hI5
              have HK5 := Lib.hid hK5
              have HO5 := Lib.hid hB5
              clear o4 o5 o45 hB5 hI5 hK5 F5 T5 L3 c1 hinf mrow mund hy0
              have hms := maniS_of (p := p) (m := m) (e := y) (by rw [← Et1.out]; exact Hdec.out)
              rw [← Ep1.out, ← Hb1.out, ← Hyb.out] at hms
              have HRR : Hid (bodyS f p = ({ f with whole := m.whole, size := m.size, parts := m.parts }, { p1 with bad := true })) := Lib.hid (by
                unfold bodyS
                rw [← Hkd.out]
                simp only [show ¬ ((7 : Int) = 1) by omega, show ¬ ((7 : Int) = 2) by omega, show ¬ ((7 : Int) = 3) by omega, show ¬ ((7 : Int) = 4) by omega, show ¬ ((7 : Int) = 5) by omega, show ¬ ((7 : Int) = 6) by omega, if_true, if_false]
                rw [hms.1, hms.2]
                simp)
              clear hms
              go_wp2_with fail
              go_end0
              unfold BodyR
              rw [HRR.out]
              exact ⟨_, rfl, HI5.out, HK5.out, HO5.out⟩
            exact AllReady.nil
          exact AllReady.nil
        exact AllReady.nil
      exact AllReady.nil
    | false =>
      refine wp_region_any (by kernel_rfl) ?_
      try change wpAny _ _ _ _ _ _ _ (World.drew _)
      try simp only [Act.put, List.getElem_toArray, List.getElem_cons_zero, List.getElem_cons_succ, List.setIfInBounds_toArray, List.set_cons_zero, List.set_cons_succ]
      refine wpAny_take (i := 0) (v := ?_) rfl (by kernel_rfl) (by kernel_rfl) (by kernel_rfl) (fun _ _ _ h => h) (Or.inl ⟨by rfl, ?_⟩) ?_
      rotate_left 1
      · intro w
        go_simp
        try with_reducible rfl
      try simp only [Act.put, List.getElem_toArray, List.getElem_cons_zero, List.getElem_cons_succ, List.setIfInBounds_toArray, List.set_cons_zero, List.set_cons_succ]
      refine wpAny_take (i := 1) (v := ?_) rfl (by kernel_rfl) (by kernel_rfl) (by kernel_rfl) (fun _ _ _ h => h) (Or.inl ⟨by rfl, ?_⟩) ?_
      rotate_left 1
      · intro w
        go_simp
        try with_reducible rfl
      try simp only [Act.put, List.getElem_toArray, List.getElem_cons_zero, List.getElem_cons_succ, List.setIfInBounds_toArray, List.set_cons_zero, List.set_cons_succ]
      refine wpAny_take (i := 3) (v := ?_) rfl (by kernel_rfl) (by kernel_rfl) (by kernel_rfl) (fun _ _ _ h => h) (Or.inl ⟨by rfl, ?_⟩) ?_
      rotate_left 1
      · intro w
        go_simp
        try with_reducible rfl
      try simp only [Act.put, List.getElem_toArray, List.getElem_cons_zero, List.getElem_cons_succ, List.setIfInBounds_toArray, List.set_cons_zero, List.set_cons_succ]
      refine wpAny_take (i := 4) (v := ?_) rfl (by kernel_rfl) (by kernel_rfl) (by kernel_rfl) (fun _ _ _ h => h) (Or.inl ⟨by rfl, ?_⟩) ?_
      rotate_left 1
      · intro w
        go_simp
        try with_reducible rfl
      try simp only [Act.put, List.getElem_toArray, List.getElem_cons_zero, List.getElem_cons_succ, List.setIfInBounds_toArray, List.set_cons_zero, List.set_cons_succ]
      refine wpAny_take (i := 5) (v := ?_) rfl (by kernel_rfl) (by kernel_rfl) (by kernel_rfl) (fun _ _ _ h => h) (Or.inl ⟨by rfl, ?_⟩) ?_
      rotate_left 1
      · intro w
        go_simp
        try with_reducible rfl
      try simp only [Act.put, List.getElem_toArray, List.getElem_cons_zero, List.getElem_cons_succ, List.setIfInBounds_toArray, List.set_cons_zero, List.set_cons_succ]
      refine wpAny_take (i := 6) (v := ?_) rfl (by kernel_rfl) (by kernel_rfl) (by kernel_rfl) (fun _ _ _ h => h) (Or.inl ⟨by rfl, ?_⟩) ?_
      rotate_left 1
      · intro w
        go_simp
        try with_reducible rfl
      try simp only [Act.put, List.getElem_toArray, List.getElem_cons_zero, List.getElem_cons_succ, List.setIfInBounds_toArray, List.set_cons_zero, List.set_cons_succ]
      refine wpAny_ready (rs := [2, 7]) (by kernel_rfl) (by simp) ?_
      refine AllReady.cons rfl (fun K hK => ?_) ?_
      · rw [if_pos (by rfl)]
        refine wp_load_row 31 _ rfl g rfl 31 m.row (0, 0) _ (show w3.drew.heap[g]? = _ from L3.out) mund rfl hinf ?_
        refine hK _ _ ?_
        clear hK K
        try simp only [Act.put, List.getElem_toArray, List.getElem_cons_zero, List.getElem_cons_succ, List.setIfInBounds_toArray, List.set_cons_zero, List.set_cons_succ]
        refine wpAny_ready (rs := [7]) (by kernel_rfl) (by simp) ?_
        refine AllReady.cons rfl (fun K hK => ?_) ?_
        · go_simp
          refine hK _ _ ?_
          clear hK K
          try simp only [Act.put, List.getElem_toArray, List.getElem_cons_zero, List.getElem_cons_succ, List.setIfInBounds_toArray, List.set_cons_zero, List.set_cons_succ]
          refine wpAny_take (i := 8) (v := ?_) rfl (by kernel_rfl) (by kernel_rfl) (by kernel_rfl) (fun _ _ _ h => h) (Or.inl ⟨by rfl, ?_⟩) ?_
          rotate_left 1
          · intro w
            go_simp
            try with_reducible rfl
          try simp only [Act.put, List.getElem_toArray, List.getElem_cons_zero, List.getElem_cons_succ, List.setIfInBounds_toArray, List.set_cons_zero, List.set_cons_succ]
          refine wpAny_take (i := 9) (v := ?_) rfl (by kernel_rfl) (by kernel_rfl) (by kernel_rfl) (fun _ _ _ h => h) (Or.inl ⟨by rfl, ?_⟩) ?_
          rotate_left 1
          · intro w
            go_simp
            try with_reducible rfl
          try simp only [Act.put, List.getElem_toArray, List.getElem_cons_zero, List.getElem_cons_succ, List.setIfInBounds_toArray, List.set_cons_zero, List.set_cons_succ]
          refine wpAny_take (i := 10) (v := ?_) rfl (by kernel_rfl) (by kernel_rfl) (by kernel_rfl) (fun _ _ _ h => h) (Or.inl ⟨by rfl, ?_⟩) ?_
          rotate_left 1
          · intro w
            go_simp
            try with_reducible rfl
          try simp only [Act.put, List.getElem_toArray, List.getElem_cons_zero, List.getElem_cons_succ, List.setIfInBounds_toArray, List.set_cons_zero, List.set_cons_succ]
          refine wpAny_take (i := 11) (v := ?_) rfl (by kernel_rfl) (by kernel_rfl) (by kernel_rfl) (fun _ _ _ h => h) (Or.inl ⟨by rfl, ?_⟩) ?_
          rotate_left 1
          · intro w
            go_simp
            try with_reducible rfl
          try simp only [Act.put, List.getElem_toArray, List.getElem_cons_zero, List.getElem_cons_succ, List.setIfInBounds_toArray, List.set_cons_zero, List.set_cons_succ]
          refine wpAny_take (i := 12) (v := ?_) rfl (by kernel_rfl) (by kernel_rfl) (by kernel_rfl) (fun _ _ _ h => h) (Or.inl ⟨by rfl, ?_⟩) ?_
          rotate_left 1
          · intro w
            go_simp
            try with_reducible rfl
          try simp only [Act.put, List.getElem_toArray, List.getElem_cons_zero, List.getElem_cons_succ, List.setIfInBounds_toArray, List.set_cons_zero, List.set_cons_succ]
          refine wpAny_take (i := 13) (v := ?_) rfl (by kernel_rfl) (by kernel_rfl) (by kernel_rfl) (fun _ _ _ h => h) (Or.inl ⟨by rfl, ?_⟩) ?_
          rotate_left 1
          · intro w
            go_simp
            try with_reducible rfl
          try simp only [Act.put, List.getElem_toArray, List.getElem_cons_zero, List.getElem_cons_succ, List.setIfInBounds_toArray, List.set_cons_zero, List.set_cons_succ]
          refine wpAny_ready (rs := [14]) (by kernel_rfl) (by simp) ?_
          refine AllReady.cons rfl (fun K hK => ?_) ?_
          · rw [if_pos (by rfl)]
            refine wp_fr_mani I3.out.ok.wf (show FrAt w3.drew qf f x from I3.out.fr) _ _ rfl rfl m hmw rfl (fun w4 hf4 o4 => ?_)
            have T4 := Lib.hid (TxAt.keep (w := w3.drew) (show TxAt w3.drew q p1.s false (.slice A p1.rest.length c) from HT.out) o4 (by simpa using hqf.symm))
            have F4 := Lib.hid hf4
            clear hf4
            refine hK _ _ ?_
            clear hK K
            try simp only [Act.put, List.getElem_toArray, List.getElem_cons_zero, List.getElem_cons_succ, List.setIfInBounds_toArray, List.set_cons_zero, List.set_cons_succ]
            refine wpAny_take (i := 15) (v := ?_) rfl (by kernel_rfl) (by kernel_rfl) (by kernel_rfl) (fun _ _ _ h => h) (Or.inl ⟨by rfl, ?_⟩) ?_
            rotate_left 1
            · intro w
              go_simp
              try with_reducible rfl
            try simp only [Act.put, List.getElem_toArray, List.getElem_cons_zero, List.getElem_cons_succ, List.setIfInBounds_toArray, List.set_cons_zero, List.set_cons_succ]
            refine wpAny_take (i := 16) (v := ?_) rfl (by kernel_rfl) (by kernel_rfl) (by kernel_rfl) (fun _ _ _ h => h) (Or.inl ⟨by rfl, ?_⟩) ?_
            rotate_left 1
            · intro w
              go_simp
              try with_reducible rfl
            try simp only [Act.put, List.getElem_toArray, List.getElem_cons_zero, List.getElem_cons_succ, List.setIfInBounds_toArray, List.set_cons_zero, List.set_cons_succ]
            refine wpAny_take (i := 17) (v := ?_) rfl (by kernel_rfl) (by kernel_rfl) (by kernel_rfl) (fun _ _ _ h => h) (Or.inl ⟨by rfl, ?_⟩) ?_
            rotate_left 1
            · intro w
              go_simp
              try with_reducible rfl
            try simp only [Act.put, List.getElem_toArray, List.getElem_cons_zero, List.getElem_cons_succ, List.setIfInBounds_toArray, List.set_cons_zero, List.set_cons_succ]
            refine wpAny_ready (rs := [18]) (by kernel_rfl) (by simp) ?_
            refine AllReady.cons rfl (fun K hK => ?_) ?_
            · rw [if_pos (by rfl)]
              refine wp_tx1 T4.out _ _ rfl rfl yb rfl (fun w5 t5 o5 => ?_)
              have F5 := Lib.hid (F4.out.keep o5 (by simpa using hqf))
              have T5 := Lib.hid t5
              clear t5 F4 T4
              refine hK _ _ ?_
              clear hK K
              refine wpAny_done (by kernel_rfl) ?_ _
              have o45 : Only [q, qf] w3 w5 := (((Only.refl [q, qf] w3).drew).trans (o4.mono (by simp))).trans (o5.mono (by simp))
              have hB5 : Only [q, qf] w w5 := O3.out.trans o45
              have hI5 := I3.out.put_mani F5.out o45 Hok3.out Hap.out
              have hK5 : RwAt w5 B q { p1 with bad := yb } := ⟨⟨A, c, T5.out, (HR.out.below ((((Only.refl [qf] w3).drew).trans o4).below HR.out.bw (by simpa using hB))).keep o5⟩, K3.out.len⟩
              have HI5 := Lib.hid hI5
              have HK5 := Lib.hid hK5
              have HO5 := Lib.hid hB5
              clear o4 o5 o45 hB5 hI5 hK5 F5 T5 L3 c1 hinf mrow mund hy0
              have hms := maniS_of (p := p) (m := m) (e := y) (by rw [← Et1.out]; exact Hdec.out)
              rw [← Ep1.out, ← Hb1.out, ← Hyb.out] at hms
              have HRR : Hid (bodyS f p = ({ f with whole := m.whole, size := m.size, parts := m.parts }, { p1 with bad := yb })) := Lib.hid (by
                unfold bodyS
                rw [← Hkd.out]
                simp only [show ¬ ((7 : Int) = 1) by omega, show ¬ ((7 : Int) = 2) by omega, show ¬ ((7 : Int) = 3) by omega, show ¬ ((7 : Int) = 4) by omega, show ¬ ((7 : Int) = 5) by omega, show ¬ ((7 : Int) = 6) by omega, if_true, if_false]
                rw [hms.1, hms.2]
                simp)
              clear hms
              go_wp2_with fail
              go_end0
              unfold BodyR
              rw [HRR.out]
              exact ⟨_, rfl, HI5.out, HK5.out, HO5.out⟩
            exact AllReady.nil
          exact AllReady.nil
        exact AllReady.nil
      refine AllReady.cons rfl (fun K hK => ?_) ?_
      · go_simp
        refine hK _ _ ?_
        clear hK K
        try simp only [Act.put, List.getElem_toArray, List.getElem_cons_zero, List.getElem_cons_succ, List.setIfInBounds_toArray, List.set_cons_zero, List.set_cons_succ]
        refine wpAny_take (i := 8) (v := ?_) rfl (by kernel_rfl) (by kernel_rfl) (by kernel_rfl) (fun _ _ _ h => h) (Or.inl ⟨by rfl, ?_⟩) ?_
        rotate_left 1
        · intro w
          go_simp
          try with_reducible rfl
        try simp only [Act.put, List.getElem_toArray, List.getElem_cons_zero, List.getElem_cons_succ, List.setIfInBounds_toArray, List.set_cons_zero, List.set_cons_succ]
        refine wpAny_take (i := 9) (v := ?_) rfl (by kernel_rfl) (by kernel_rfl) (by kernel_rfl) (fun _ _ _ h => h) (Or.inl ⟨by rfl, ?_⟩) ?_
        rotate_left 1
        · intro w
          go_simp
          try with_reducible rfl
        try simp only [Act.put, List.getElem_toArray, List.getElem_cons_zero, List.getElem_cons_succ, List.setIfInBounds_toArray, List.set_cons_zero, List.set_cons_succ]
        refine wpAny_take (i := 10) (v := ?_) rfl (by kernel_rfl) (by kernel_rfl) (by kernel_rfl) (fun _ _ _ h => h) (Or.inl ⟨by rfl, ?_⟩) ?_
        rotate_left 1
        · intro w
          go_simp
          try with_reducible rfl
        try simp only [Act.put, List.getElem_toArray, List.getElem_cons_zero, List.getElem_cons_succ, List.setIfInBounds_toArray, List.set_cons_zero, List.set_cons_succ]
        refine wpAny_take (i := 11) (v := ?_) rfl (by kernel_rfl) (by kernel_rfl) (by kernel_rfl) (fun _ _ _ h => h) (Or.inl ⟨by rfl, ?_⟩) ?_
        rotate_left 1
        · intro w
          go_simp
          try with_reducible rfl
        try simp only [Act.put, List.getElem_toArray, List.getElem_cons_zero, List.getElem_cons_succ, List.setIfInBounds_toArray, List.set_cons_zero, List.set_cons_succ]
        refine wpAny_ready (rs := [2]) (by kernel_rfl) (by simp) ?_
        refine AllReady.cons rfl (fun K hK => ?_) ?_
        · rw [if_pos (by rfl)]
          refine wp_load_row 31 _ rfl g rfl 31 m.row (0, 0) _ (show w3.drew.heap[g]? = _ from L3.out) mund rfl hinf ?_
          refine hK _ _ ?_
          clear hK K
          try simp only [Act.put, List.getElem_toArray, List.getElem_cons_zero, List.getElem_cons_succ, List.setIfInBounds_toArray, List.set_cons_zero, List.set_cons_succ]
          refine wpAny_take (i := 12) (v := ?_) rfl (by kernel_rfl) (by kernel_rfl) (by kernel_rfl) (fun _ _ _ h => h) (Or.inl ⟨by rfl, ?_⟩) ?_
          rotate_left 1
          · intro w
            go_simp
            try with_reducible rfl
          try simp only [Act.put, List.getElem_toArray, List.getElem_cons_zero, List.getElem_cons_succ, List.setIfInBounds_toArray, List.set_cons_zero, List.set_cons_succ]
          refine wpAny_take (i := 13) (v := ?_) rfl (by kernel_rfl) (by kernel_rfl) (by kernel_rfl) (fun _ _ _ h => h) (Or.inl ⟨by rfl, ?_⟩) ?_
          rotate_left 1
          · intro w
            go_simp
            try with_reducible rfl
          try simp only [Act.put, List.getElem_toArray, List.getElem_cons_zero, List.getElem_cons_succ, List.setIfInBounds_toArray, List.set_cons_zero, List.set_cons_succ]
          refine wpAny_ready (rs := [14]) (by kernel_rfl) (by simp) ?_
          refine AllReady.cons rfl (fun K hK => ?_) ?_
          · rw [if_pos (by rfl)]
            refine wp_fr_mani I3.out.ok.wf (show FrAt w3.drew qf f x from I3.out.fr) _ _ rfl rfl m hmw rfl (fun w4 hf4 o4 => ?_)
            have T4 := Lib.hid (TxAt.keep (w := w3.drew) (show TxAt w3.drew q p1.s false (.slice A p1.rest.length c) from HT.out) o4 (by simpa using hqf.symm))
            have F4 := Lib.hid hf4
            clear hf4
            refine hK _ _ ?_
            clear hK K
            try simp only [Act.put, List.getElem_toArray, List.getElem_cons_zero, List.getElem_cons_succ, List.setIfInBounds_toArray, List.set_cons_zero, List.set_cons_succ]
            refine wpAny_take (i := 15) (v := ?_) rfl (by kernel_rfl) (by kernel_rfl) (by kernel_rfl) (fun _ _ _ h => h) (Or.inl ⟨by rfl, ?_⟩) ?_
            rotate_left 1
            · intro w
              go_simp
              try with_reducible rfl
            try simp only [Act.put, List.getElem_toArray, List.getElem_cons_zero, List.getElem_cons_succ, List.setIfInBounds_toArray, List.set_cons_zero, List.set_cons_succ]
            refine wpAny_take (i := 16) (v := ?_) rfl (by kernel_rfl) (by kernel_rfl) (by kernel_rfl) (fun _ _ _ h => h) (Or.inl ⟨by rfl, ?_⟩) ?_
            rotate_left 1
            · intro w
              go_simp
              try with_reducible rfl
            try simp only [Act.put, List.getElem_toArray, List.getElem_cons_zero, List.getElem_cons_succ, List.setIfInBounds_toArray, List.set_cons_zero, List.set_cons_succ]
            refine wpAny_take (i := 17) (v := ?_) rfl (by kernel_rfl) (by kernel_rfl) (by kernel_rfl) (fun _ _ _ h => h) (Or.inl ⟨by rfl, ?_⟩) ?_
            rotate_left 1
            · intro w
              go_simp
              try with_reducible rfl
            try simp only [Act.put, List.getElem_toArray, List.getElem_cons_zero, List.getElem_cons_succ, List.setIfInBounds_toArray, List.set_cons_zero, List.set_cons_succ]
            refine wpAny_ready (rs := [18]) (by kernel_rfl) (by simp) ?_
            refine AllReady.cons rfl (fun K hK => ?_) ?_
            · rw [if_pos (by rfl)]
              refine wp_tx1 T4.out _ _ rfl rfl yb rfl (fun w5 t5 o5 => ?_)
              have F5 := Lib.hid (F4.out.keep o5 (by simpa using hqf))
              have T5 := Lib.hid t5
              clear t5 F4 T4
              refine hK _ _ ?_
              clear hK K
              refine wpAny_done (by kernel_rfl) ?_ _
              have o45 : Only [q, qf] w3 w5 := (((Only.refl [q, qf] w3).drew).trans (o4.mono (by simp))).trans (o5.mono (by simp))
              have hB5 : Only [q, qf] w w5 := O3.out.trans o45
              have hI5 := I3.out.put_mani F5.out o45 Hok3.out Hap.out
              have hK5 : RwAt w5 B q { p1 with bad := yb } := ⟨⟨A, c, T5.out, (HR.out.below ((((Only.refl [qf] w3).drew).trans o4).below HR.out.bw (by simpa using hB))).keep o5⟩, K3.out.len⟩
              have HI5 := Lib.hid hI5
              have HK5 := Lib.hid hK5
              have HO5 := Lib.hid hB5
              clear o4 o5 o45 hB5 hI5 hK5 F5 T5 L3 c1 hinf mrow mund hy0
              have hms := maniS_of (p := p) (m := m) (e := y) (by rw [← Et1.out]; exact Hdec.out)
              rw [← Ep1.out, ← Hb1.out, ← Hyb.out] at hms
              have HRR : Hid (bodyS f p = ({ f with whole := m.whole, size := m.size, parts := m.parts }, { p1 with bad := yb })) := Lib.hid (by
                unfold bodyS
                rw [← Hkd.out]
                simp only [show ¬ ((7 : Int) = 1) by omega, show ¬ ((7 : Int) = 2) by omega, show ¬ ((7 : Int) = 3) by omega, show ¬ ((7 : Int) = 4) by omega, show ¬ ((7 : Int) = 5) by omega, show ¬ ((7 : Int) = 6) by omega, if_true, if_false]
                rw [hms.1, hms.2]
                simp)
              clear hms
              go_wp2_with fail
              go_end0
              unfold BodyR
              rw [HRR.out]
              exact ⟨_, rfl, HI5.out, HK5.out, HO5.out⟩
            exact AllReady.nil
          exact AllReady.nil
        exact AllReady.nil
      exact AllReady.nil
  have e7 : (kd == 7) = false := by simp [k7]
  have HRR : Hid (bodyS f p = (f, p)) := Lib.hid (by
    unfold bodyS
    rw [← Hkd.out]
    rw [if_neg k1, if_neg k2, if_neg k3, if_neg k4, if_neg k5, if_neg k6, if_neg k7, if_neg k8, if_neg k9, if_neg k10])
  clear k1 k2 k3 k4 k5 k6 k7 k8 k9 k10
  go_wp2_with fail
  go_end0
  unfold BodyR
  rw [HRR.out]
  exact ⟨x, rfl, I0.out, K0.out, O0.out⟩
end Wi
end Go.Proofs.YthcmlbbbbcinkaaDoor
