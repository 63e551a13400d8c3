/-
  CombForms: a manifest has one form only, and there and back it's the same. No condition: every input.
-/
import Derived.Test.YtokdnfhglckpkaaDoorFmH
import Derived.Test.YtokdnfhglckpkaaDoorFmF
import Derived.Test.YtokdnfhglckpkaaDoorRcG
import Derived.Test.YtokdnfhglckpkaaDoorCoG
import Derived.Test.YtokdnfhglckpkaaDoorLwSt
import Derived.Test.YtokdnfhglckpkaaDoorCards
import Derived.Test.YtokdnfhglckpkaaDoorTie
set_option linter.unusedVariables false
set_option linter.unusedSimpArgs false
namespace Go.Proofs.YtokdnfhglckpkaaDoor
open Go.RowKit Pl
attribute [local go_sem] Lb.ba_get Lb.ba_cut Lb.ba_add Lb.ba_size Lb.take_rest

theorem wf_of_ok {m : ManiD} {w : World} {B : Nat} (h : m.Ok w B) : ManiWf m := ⟨h.whole, h.each, h.lo, h.hi⟩

set_option maxHeartbeats 4000000 in
set_option maxRecDepth 100000 in
theorem combForms_core (m n : ManiD) (s : List UInt8) (w : World) (hL : Laid KK w) (hm : m.Ok w w.heap.size) (hn : n.Ok w w.heap.size) (hs : s.length ≤ 140737488351232) :
    Calls Tryd.prog 8 #[.agg m.row, .agg n.row, .string ⟨s.toArray⟩] w fun e w' => e = .returned (.bool true) ∧ Below w.heap.size w w' := by
  have hmw := hm.whole
  have hnw := hn.whole
  have minf := mani_infoR m hmw
  have ninf := mani_infoR n hnw
  have mc := mani_infoC m hmw
  have nc := mani_infoC n hnw
  have mund := Tryd.underlying27
  have hst := lw_start m n w hL hm hn
  have HMwf := Lib.hid (wf_of_ok hm)
  have HNwf := Lib.hid (wf_of_ok hn)
  have HDec : Hid (∀ W : World, Calls Tryd.prog 31 #[.string ⟨s.toArray⟩] W (DecPost s W)) := Lib.hid (fun W => decode_any s W hs)
  clear hL hm hn hs
  go_enter Tryd.func8, Tryd.ntmps8
  go_upto_region 1 with fail
  obtain ⟨q, hq⟩ : ∃ q, q = w.heap.size := ⟨_, rfl⟩
  obtain ⟨p, hp⟩ : ∃ p, p = w.heap.size + 1 := ⟨_, rfl⟩
  obtain ⟨w1, hw1⟩ : ∃ w1, w1 = ((w.alloc (.cells m.row 27)).alloc (.cells n.row 27)) := ⟨_, rfl⟩
  rw [← hw1] at hst ⊢
  rw [← hp, ← hq] at hst
  rw [← hp, ← hq]
  have S1 := Lib.hid hst
  clear hw1 hst hq hp
  go_wp2_with fail
  refine (awake_any KK w1 S1.out.laid).mono ?_
  rintro e w2 ⟨rfl, hB⟩
  have S2 := Lib.hid (S1.out.step hB)
  clear hB S1
  have G2 := Lib.hid (great_any m none 0 [] w2 S2.out.om (strs_nil _ _) (by simp) (by simp))
  go_wp2_with (refine wpList_load_row rfl 27 _ rfl q rfl 27 _ (0, 0) _ S2.out.hq Tryd.underlying27 rfl minf ?_)
  refine G2.out.mono ?_
  rintro e w3 ⟨hor, hB⟩
  have S3 := Lib.hid (S2.out.step hB)
  clear hB S2 G2
  rcases hor with rfl | ⟨rfl, h40, -, -⟩
  · go_wp2_with fail
    go_ret
    exact ⟨rfl, S3.out.below⟩

  have G3 := Lib.hid (great_any n none 0 [] w3 S3.out.on (strs_nil _ _) (by simp) (by simp))
  go_wp2_with (refine wpList_load_rowG (by rfl) 27 _ rfl p rfl 27 _ (0, 0) _ S3.out.hp Tryd.underlying27 rfl ninf ?_)
  refine G3.out.mono ?_
  rintro e w4 ⟨hor, hB⟩
  have S4 := Lib.hid (S3.out.step hB)
  clear hB S3 G3
  rcases hor with rfl | ⟨rfl, h40, -, -⟩
  · go_wp2_with fail
    go_ret
    exact ⟨rfl, S4.out.below⟩
  have HE := Lib.hid (encode_any m w4 S4.out.om)
  have HF := Lib.hid (fun W h => encode_any n W h)
  obtain ⟨a, ha⟩ : ∃ a, a = (encS m).1 := ⟨_, rfl⟩
  obtain ⟨e1, he1⟩ : ∃ x, x = (encS m).2 := ⟨_, rfl⟩
  obtain ⟨b, hb⟩ : ∃ a, a = (encS n).1 := ⟨_, rfl⟩
  obtain ⟨f1, hf1⟩ : ∃ x, x = (encS n).2 := ⟨_, rfl⟩
  rw [← ha, ← he1] at HE
  rw [← hb, ← hf1] at HF
  have Ha := Lib.hid ha
  have He1 := Lib.hid he1
  have Hb := Lib.hid hb
  have Hf1 := Lib.hid hf1
  clear ha he1 hb hf1
  go_wp2_with (refine wpList_load_row rfl 27 _ rfl q rfl 27 _ (0, 0) _ S4.out.hq Tryd.underlying27 rfl minf ?_)
  refine (HE.out).mono ?_
  rintro e w5 ⟨rfl, hB⟩
  have S5 := Lib.hid (S4.out.step hB)
  clear hB S4
  go_wp2_with (refine wpList_load_row rfl 27 _ rfl p rfl 27 _ (0, 0) _ S5.out.hp Tryd.underlying27 rfl ninf ?_)
  refine (HF.out w5 S5.out.on).mono ?_
  rintro e w6 ⟨rfl, hB⟩
  have S6 := Lib.hid (S5.out.step hB)
  clear hB S5
  have Rm := Lib.hid (range_mani S6.out.hq)
  have Rn := Lib.hid (range_mani S6.out.hp)
  have hq6 : q < w6.heap.size := heap_lt S6.out.hq
  have hp6 : p < w6.heap.size := heap_lt S6.out.hp
  cases gm : goodS m.size m.parts.length with
  | false =>
    have hea : a = [] ∧ e1 = 1 := by rw [Ha.out, He1.out]; unfold encS; rw [gm]; exact ⟨rfl, rfl⟩
    obtain ⟨rfl, rfl⟩ := hea
    have HG : Hid (∀ W : World, Calls Tryd.prog 24 #[.agg m.row] W fun e w' => e = .returned (.bool false) ∧ Below W.heap.size W w') := Lib.hid (fun W => by rw [← gm]; exact good_any m W hmw S6.out.om.lo S6.out.om.hi S6.out.om.len)
    clear gm HE HF Ha He1 Hb Hf1
    go_wp2_with (refine wpList_load_rowG (by rfl) 27 _ rfl q rfl 27 _ (0, 0) _ S6.out.hq Tryd.underlying27 rfl minf ?_)
    refine (HG.out _).mono ?_
    rintro e w7 ⟨rfl, hB⟩
    have S7 := Lib.hid (S6.out.step hB)
    clear hB S6 Rm Rn HG
    go_wp2_with fail
    refine (HDec.out w7).mono ?_
    rintro e v1 ⟨x, g, rfl, hdx, hox, hB⟩
    have S17 := Lib.hid (S7.out.step hB)
    have hxw := hox.whole
    have xinf := mani_infoR x hxw
    have hx1 := x.row_one
    have hxs := x.row_size hxw
    have Hox := Lib.hid hox
    have Hdx := Lib.hid hdx
    clear hB S7 hox hdx HDec
    go_upto_region 14 with (refine wpList_store_row rfl 27 _ _ rfl v1.heap.size x.row rfl rfl 27 _ (heap_alloc_new v1 _) xinf (by rw [hxs]; rfl) hx1 ?_)
    show Code.wp _ _ _ _ ((v1.alloc (.cells zeroMani.row 27)).setRow v1.heap.size x.row)
    have hput := lw_put S17.out x hxw
    obtain ⟨u, hu⟩ : ∃ u, u = v1.heap.size := ⟨_, rfl⟩
    obtain ⟨v2, hv2⟩ : ∃ v2, v2 = ((v1.alloc (.cells zeroMani.row 27)).setRow v1.heap.size x.row) := ⟨_, rfl⟩
    rw [← hv2] at hput ⊢
    rw [← hu] at hput ⊢
    have S27 := Lib.hid (S17.out.step (by rw [← hu]; exact hput.1))
    have Hox8 := Lib.hid (ok_step Hox.out (by rw [← hu]; exact hput.1))
    have Hx8 := Lib.hid hput.2
    clear hput hv2 hu S17 Hox hx1 hxs
    rcases Hdx.out with ⟨rfl, hy⟩ | ⟨rfl, rfl, hn⟩
    · have hex : encS x = (s, 0) := by unfold encS; rw [hy.2.2, if_pos rfl, hy.1]
      have HEx := Lib.hid (encode_any x v2 Hox8.out)
      rw [hex] at HEx
      clear hex hy Hdx
      have hs1 : (s == s) = true := by simp
      go_wp2_with (refine wpList_load_row rfl 27 _ rfl u rfl 27 _ (0, 0) _ Hx8.out Tryd.underlying27 rfl xinf ?_)
      refine HEx.out.mono ?_
      rintro e v3 ⟨rfl, hB⟩
      have S37 := Lib.hid (S27.out.step hB)
      clear hB S27 HEx Hx8
      go_wp2_with fail
      go_ret
      exact ⟨rfl, S37.out.below⟩
    · have HSz := Lib.hid (msame_any zeroMani zeroMani v2 (zeroMani_ok _ _) (zeroMani_ok _ _))
      rw [sameM_self] at HSz
      clear hn Hdx
      go_wp2_with (refine wpList_load_rowG (by rfl) 27 _ rfl u rfl 27 _ (0, 0) _ Hx8.out Tryd.underlying27 rfl xinf ?_)
      refine HSz.out.mono ?_
      rintro e v3 ⟨rfl, hB⟩
      have S37 := Lib.hid (S27.out.step hB)
      clear hB S27 HSz Hx8
      go_wp2_with fail
      go_ret
      exact ⟨rfl, S37.out.below⟩
  | true =>
    have hea : a = encB m ∧ e1 = 0 := by rw [Ha.out, He1.out]; unfold encS; rw [gm]; exact ⟨rfl, rfl⟩
    obtain ⟨hae, rfl⟩ := hea
    have HG : Hid (∀ W : World, Calls Tryd.prog 24 #[.agg m.row] W fun e w' => e = .returned (.bool true) ∧ Below W.heap.size W w') := Lib.hid (fun W => by rw [← gm]; exact good_any m W hmw S6.out.om.lo S6.out.om.hi S6.out.om.len)
    have HDa : Hid (∀ W : World, Calls Tryd.prog 31 #[.string ⟨a.toArray⟩] W (DecPost a W)) := Lib.hid (fun W => decode_any a W (by rw [hae]; exact encB_le m hmw HMwf.out.each gm))
    have HDo : Hid (∀ k e, DecOf a k e → e = 0 ∧ sameM k m = true) := Lib.hid (fun k e h => decOf_enc HMwf.out gm (by rw [← hae]; exact h))
    cases gn : goodS n.size n.parts.length with
    | false =>
      have heb : f1 = 1 := by rw [Hf1.out]; unfold encS; rw [gn]; rfl
      subst heb
      clear gm gn hae HE HF Ha He1 Hb Hf1
      go_wp2_with (refine wpList_load_rowG (by rfl) 27 _ rfl q rfl 27 _ (0, 0) _ S6.out.hq Tryd.underlying27 rfl minf ?_)
      refine (HG.out _).mono ?_
      rintro e w7 ⟨rfl, hB⟩
      have S7 := Lib.hid (S6.out.step hB)
      clear hB S6 Rm Rn HG
      go_wp2_with fail
      refine (HDa.out w7).mono ?_
      rintro e w8 ⟨y, g, rfl, hdy, hoy, hB⟩
      obtain ⟨rfl, hsame⟩ := HDo.out y g hdy
      have S8 := Lib.hid (S7.out.step hB)
      have hyw := hoy.whole
      have yinf := mani_infoR y hyw
      have hx1 := y.row_one
      have hxs := y.row_size hyw
      have Hoy := Lib.hid hoy
      clear hB S7 hoy hdy HDa HDo
      go_upto_region 11 with (refine wpList_store_row rfl 27 _ _ rfl w8.heap.size y.row rfl rfl 27 _ (heap_alloc_new w8 _) yinf (by rw [hxs]; rfl) hx1 ?_)
      show Code.wp _ _ _ _ ((w8.alloc (.cells zeroMani.row 27)).setRow w8.heap.size y.row)
      have hput := lw_put S8.out y hyw
      obtain ⟨u0, hu⟩ : ∃ u, u = w8.heap.size := ⟨_, rfl⟩
      obtain ⟨w9, hw9⟩ : ∃ w9, w9 = ((w8.alloc (.cells zeroMani.row 27)).setRow w8.heap.size y.row) := ⟨_, rfl⟩
      rw [← hw9] at hput ⊢
      rw [← hu] at hput ⊢
      have S9 := Lib.hid (S8.out.step (by rw [← hu]; exact hput.1))
      have Hoy9 := Lib.hid (ok_step Hoy.out (by rw [← hu]; exact hput.1))
      have Hy9 := Lib.hid hput.2
      have HSm := Lib.hid (msame_any y m w9 Hoy9.out S9.out.om)
      rw [hsame] at HSm
      clear hput hw9 hu S8 Hoy hx1 hxs hsame
      go_wp2_with (first
        | (refine wpList_load_rowG (by rfl) 27 _ rfl u0 rfl 27 _ (0, 0) _ Hy9.out Tryd.underlying27 rfl yinf ?_)
        | (refine wpList_load_rowG (by rfl) 27 _ rfl q rfl 27 _ (0, 0) _ S9.out.hq Tryd.underlying27 rfl minf ?_))
      refine HSm.out.mono ?_
      rintro e w10 ⟨rfl, hB⟩
      have S10 := Lib.hid (S9.out.step hB)
      clear hB S9 HSm Hy9 Hoy9
      go_wp2_with fail
      refine (HDec.out w10).mono ?_
      rintro e v1 ⟨x, g, rfl, hdx, hox, hB⟩
      have S110 := Lib.hid (S10.out.step hB)
      have hxw := hox.whole
      have xinf := mani_infoR x hxw
      have hx1 := x.row_one
      have hxs := x.row_size hxw
      have Hox := Lib.hid hox
      have Hdx := Lib.hid hdx
      clear hB S10 hox hdx HDec
      go_upto_region 14 with (refine wpList_store_row rfl 27 _ _ rfl v1.heap.size x.row rfl rfl 27 _ (heap_alloc_new v1 _) xinf (by rw [hxs]; rfl) hx1 ?_)
      show Code.wp _ _ _ _ ((v1.alloc (.cells zeroMani.row 27)).setRow v1.heap.size x.row)
      have hput := lw_put S110.out x hxw
      obtain ⟨u, hu⟩ : ∃ u, u = v1.heap.size := ⟨_, rfl⟩
      obtain ⟨v2, hv2⟩ : ∃ v2, v2 = ((v1.alloc (.cells zeroMani.row 27)).setRow v1.heap.size x.row) := ⟨_, rfl⟩
      rw [← hv2] at hput ⊢
      rw [← hu] at hput ⊢
      have S210 := Lib.hid (S110.out.step (by rw [← hu]; exact hput.1))
      have Hox8 := Lib.hid (ok_step Hox.out (by rw [← hu]; exact hput.1))
      have Hx8 := Lib.hid hput.2
      clear hput hv2 hu S110 Hox hx1 hxs
      rcases Hdx.out with ⟨rfl, hy⟩ | ⟨rfl, rfl, hn⟩
      · have hex : encS x = (s, 0) := by unfold encS; rw [hy.2.2, if_pos rfl, hy.1]
        have HEx := Lib.hid (encode_any x v2 Hox8.out)
        rw [hex] at HEx
        clear hex hy Hdx
        have hs1 : (s == s) = true := by simp
        go_wp2_with (refine wpList_load_row rfl 27 _ rfl u rfl 27 _ (0, 0) _ Hx8.out Tryd.underlying27 rfl xinf ?_)
        refine HEx.out.mono ?_
        rintro e v3 ⟨rfl, hB⟩
        have S310 := Lib.hid (S210.out.step hB)
        clear hB S210 HEx Hx8
        go_wp2_with fail
        go_ret
        exact ⟨rfl, S310.out.below⟩
      · have HSz := Lib.hid (msame_any zeroMani zeroMani v2 (zeroMani_ok _ _) (zeroMani_ok _ _))
        rw [sameM_self] at HSz
        clear hn Hdx
        go_wp2_with (refine wpList_load_rowG (by rfl) 27 _ rfl u rfl 27 _ (0, 0) _ Hx8.out Tryd.underlying27 rfl xinf ?_)
        refine HSz.out.mono ?_
        rintro e v3 ⟨rfl, hB⟩
        have S310 := Lib.hid (S210.out.step hB)
        clear hB S210 HSz Hx8
        go_wp2_with fail
        go_ret
        exact ⟨rfl, S310.out.below⟩
    | true =>
      have heb : b = encB n ∧ f1 = 0 := by rw [Hb.out, Hf1.out]; unfold encS; rw [gn]; exact ⟨rfl, rfl⟩
      obtain ⟨hbe, rfl⟩ := heb
      obtain ⟨r, hr⟩ : ∃ r, r = sameM m n := ⟨_, rfl⟩
      have hab : (a == b) = r := by rw [hae, hbe, hr]; exact encB_iff HMwf.out HNwf.out gm gn
      have HS : Hid (∀ W : World, Below w6.heap.size w6 W → Calls Tryd.prog 33 #[.agg m.row, .agg n.row] W fun e w' => e = .returned (.bool r) ∧ Below W.heap.size W w') := Lib.hid (fun W hW => by
        rw [hr]; exact msame_any m n W (ok_step S6.out.om hW) (ok_step S6.out.on hW))
      have hrr : (r != r) = false := by simp
      clear gm gn hae hbe hr HE HF Ha He1 Hb Hf1
      go_wp2_with (refine wpList_load_rowG (by rfl) 27 _ rfl q rfl 27 _ (0, 0) _ S6.out.hq Tryd.underlying27 rfl minf ?_)
      refine (HG.out _).mono ?_
      rintro e w6b ⟨rfl, hB⟩
      have S6b := Lib.hid (S6.out.step hB)
      have HSb := Lib.hid (HS.out w6b hB)
      clear hB S6 Rm Rn HG HS
      go_wp2_with (first
        | (refine wpList_load_rowG (by rfl) 27 _ rfl q rfl 27 _ (0, 0) _ S6b.out.hq Tryd.underlying27 rfl minf ?_)
        | (refine wpList_load_rowG (by rfl) 27 _ rfl p rfl 27 _ (0, 0) _ S6b.out.hp Tryd.underlying27 rfl ninf ?_))
      refine HSb.out.mono ?_
      rintro e w7 ⟨rfl, hB⟩
      have S7 := Lib.hid (S6b.out.step hB)
      clear hB S6b HSb
      go_wp2_with fail
      refine (HDa.out w7).mono ?_
      rintro e w8 ⟨y, g, rfl, hdy, hoy, hB⟩
      obtain ⟨rfl, hsame⟩ := HDo.out y g hdy
      have S8 := Lib.hid (S7.out.step hB)
      have hyw := hoy.whole
      have yinf := mani_infoR y hyw
      have hx1 := y.row_one
      have hxs := y.row_size hyw
      have Hoy := Lib.hid hoy
      clear hB S7 hoy hdy HDa HDo
      go_upto_region 11 with (refine wpList_store_row rfl 27 _ _ rfl w8.heap.size y.row rfl rfl 27 _ (heap_alloc_new w8 _) yinf (by rw [hxs]; rfl) hx1 ?_)
      show Code.wp _ _ _ _ ((w8.alloc (.cells zeroMani.row 27)).setRow w8.heap.size y.row)
      have hput := lw_put S8.out y hyw
      obtain ⟨u0, hu⟩ : ∃ u, u = w8.heap.size := ⟨_, rfl⟩
      obtain ⟨w9, hw9⟩ : ∃ w9, w9 = ((w8.alloc (.cells zeroMani.row 27)).setRow w8.heap.size y.row) := ⟨_, rfl⟩
      rw [← hw9] at hput ⊢
      rw [← hu] at hput ⊢
      have S9 := Lib.hid (S8.out.step (by rw [← hu]; exact hput.1))
      have Hoy9 := Lib.hid (ok_step Hoy.out (by rw [← hu]; exact hput.1))
      have Hy9 := Lib.hid hput.2
      have HSm := Lib.hid (msame_any y m w9 Hoy9.out S9.out.om)
      rw [hsame] at HSm
      clear hput hw9 hu S8 Hoy hx1 hxs hsame
      go_wp2_with (first
        | (refine wpList_load_rowG (by rfl) 27 _ rfl u0 rfl 27 _ (0, 0) _ Hy9.out Tryd.underlying27 rfl yinf ?_)
        | (refine wpList_load_rowG (by rfl) 27 _ rfl q rfl 27 _ (0, 0) _ S9.out.hq Tryd.underlying27 rfl minf ?_))
      refine HSm.out.mono ?_
      rintro e w10 ⟨rfl, hB⟩
      have S10 := Lib.hid (S9.out.step hB)
      clear hB S9 HSm Hy9 Hoy9
      go_wp2_with fail
      refine (HDec.out w10).mono ?_
      rintro e v1 ⟨x, g, rfl, hdx, hox, hB⟩
      have S110 := Lib.hid (S10.out.step hB)
      have hxw := hox.whole
      have xinf := mani_infoR x hxw
      have hx1 := x.row_one
      have hxs := x.row_size hxw
      have Hox := Lib.hid hox
      have Hdx := Lib.hid hdx
      clear hB S10 hox hdx HDec
      go_upto_region 14 with (refine wpList_store_row rfl 27 _ _ rfl v1.heap.size x.row rfl rfl 27 _ (heap_alloc_new v1 _) xinf (by rw [hxs]; rfl) hx1 ?_)
      show Code.wp _ _ _ _ ((v1.alloc (.cells zeroMani.row 27)).setRow v1.heap.size x.row)
      have hput := lw_put S110.out x hxw
      obtain ⟨u, hu⟩ : ∃ u, u = v1.heap.size := ⟨_, rfl⟩
      obtain ⟨v2, hv2⟩ : ∃ v2, v2 = ((v1.alloc (.cells zeroMani.row 27)).setRow v1.heap.size x.row) := ⟨_, rfl⟩
      rw [← hv2] at hput ⊢
      rw [← hu] at hput ⊢
      have S210 := Lib.hid (S110.out.step (by rw [← hu]; exact hput.1))
      have Hox8 := Lib.hid (ok_step Hox.out (by rw [← hu]; exact hput.1))
      have Hx8 := Lib.hid hput.2
      clear hput hv2 hu S110 Hox hx1 hxs
      rcases Hdx.out with ⟨rfl, hy⟩ | ⟨rfl, rfl, hn⟩
      · have hex : encS x = (s, 0) := by unfold encS; rw [hy.2.2, if_pos rfl, hy.1]
        have HEx := Lib.hid (encode_any x v2 Hox8.out)
        rw [hex] at HEx
        clear hex hy Hdx
        have hs1 : (s == s) = true := by simp
        go_wp2_with (refine wpList_load_row rfl 27 _ rfl u rfl 27 _ (0, 0) _ Hx8.out Tryd.underlying27 rfl xinf ?_)
        refine HEx.out.mono ?_
        rintro e v3 ⟨rfl, hB⟩
        have S310 := Lib.hid (S210.out.step hB)
        clear hB S210 HEx Hx8
        go_wp2_with fail
        go_ret
        exact ⟨rfl, S310.out.below⟩
      · have HSz := Lib.hid (msame_any zeroMani zeroMani v2 (zeroMani_ok _ _) (zeroMani_ok _ _))
        rw [sameM_self] at HSz
        clear hn Hdx
        go_wp2_with (refine wpList_load_rowG (by rfl) 27 _ rfl u rfl 27 _ (0, 0) _ Hx8.out Tryd.underlying27 rfl xinf ?_)
        refine HSz.out.mono ?_
        rintro e v3 ⟨rfl, hB⟩
        have S310 := Lib.hid (S210.out.step hB)
        clear hB S210 HSz Hx8
        go_wp2_with fail
        go_ret
        exact ⟨rfl, S310.out.below⟩

namespace CombFormsLaw
open Go.ChangeShapes Go.WideShapes Go.ChangeAt
open Go.ChangeMaps (open_string shut_string)
set_option maxRecDepth 100000 in
theorem contract (H : Type) (enc : TypeId × Value → H) (W : World) (base : Nat) (args : Array Value) (ds gs : List (DataW H)) (before : List MemPlace)
    (hval : ∀ (j : Nat) t v, Tryd.f8.params[j]? = some t → args[j]? = some v → Value.okWide Tryd.prog W .any base t v)
    (hW : DataW.Whole enc Tryd.prog Tryd.f8.params.toList Rows.combFormsSpec.vars false W args.toList ds gs before) (hsz0 : (DataW.weightsEach Tryd.prog (Tryd.f8.params.toList ++ Rows.combFormsSpec.plain.varTypes Tryd.prog) (ds ++ gs)).all (· ≤ reachBytes) = true) (hLd : laidMetH Tryd.prog laid1 W) :
    Calls Tryd.prog 8 args W fun e W' => ∃ v, e = .returned v ∧ Rows.combFormsSpec.post enc Tryd.prog Tryd.f8 false true false false W args v W' := by
  have hW' := hW
  obtain ⟨p, q, hA0, hV, rfl, hfz, hnd⟩ := hW
  have hA : DataW.TrodAll enc Tryd.prog W 0 (fun _ => true) true Tryd.f8.params.toList args.toList ds p := hA0
  rw [Tryd.params8] at hA hval
  obtain ⟨v0, vs0, d0, ds0, p0, q0, hargs, rfl, rfl, h0, r0⟩ := trodAll_cons hA
  obtain ⟨v1, vs1, d1, ds1, p1, q1, rfl, rfl, rfl, h1, r1⟩ := trodAll_cons r0
  obtain ⟨v2, vs2, d2, ds2, p2, q2, rfl, rfl, rfl, h2, r2⟩ := trodAll_cons r1
  obtain ⟨rfl, rfl, rfl⟩ := trodAll_nil r2
  obtain rfl : args = #[v0, v1, v2] := by cases args; simp_all
  obtain ⟨rfl, rfl⟩ := trodVars_none hV
  obtain ⟨m0, rfl, hm0⟩ := open_mani (hval 0 27 v0 rfl rfl) h0
  obtain ⟨m1, rfl, hm1⟩ := open_mani (hval 1 27 v1 rfl rfl) h1
  obtain ⟨s2, rfl, hd2, _, hs2⟩ := open_string Tryd.underlying9 (hval 2 9 v2 rfl rfl) h2
  obtain ⟨x2, rfl, hx2, hy2⟩ := as_list s2
  have z2 : x2.length ≤ 140737488351232 := by
    have := sized_string hsz0 (j := 2) (t := 9) (bytes := x2) (by simp [Tryd.params8]) (by rw [hd2, hx2]; rfl)
    simpa [reachBytes] using this
  refine (combForms_core m0 m1 x2 W (of_laid hLd) hm0 hm1 z2).mono fun e W' ⟨he, hg⟩ => ?_
  subst he
  exact ⟨_, rfl, law_post (tb := 4) laidOut_ (of_decide_eq_true (by kernel_rfl)) Tryd.underlying4 (by kernel_rfl) rfl rfl hW' hg⟩

theorem door_met (os : Os) (args : Array Value) : laidMetH Tryd.prog laid1 ((World.doorLaid Tryd.prog 400 os).forCall (fun _ _ => 0) ⟨#[], args, []⟩).memory :=
  laidMetH_of_parts3 (fuel := 8) (laidMet_of_run' 8 (by kernel_rfl) (by kernel_rfl)) (by kernel_rfl) (by kernel_rfl)

set_option maxRecDepth 100000 in
theorem lifted (os : Os) (started : os.Started) (H : Type) (enc : TypeId × Value → H) :
    ReturnsInHanded {} Tryd.checked os 8 .any (fun w args => (Rows.combFormsSpec.pre enc Tryd.prog Tryd.f8 [] false w args ∧ laidMetH Tryd.prog laid1 w) ∧ sizedMet enc Tryd.prog Tryd.f8 (OpenSpec.ofChange Rows.combFormsSpec) false w args)
      (Rows.combFormsSpec.post enc Tryd.prog Tryd.f8 false true false false) := by
  refine returnsInHanded_of_change_and (C := Tryd.checked) (X := fun w _ => laidMetH Tryd.prog laid1 w) (fun _ _ _ hh h => h.of_heap hh) ownKnob_ started (by kernel_rfl) Tryd.func8
    (ChangeSpec.witness_shaped (enc := enc) (C := Tryd.checked) (os := os) (X := fun w _ => laidMetH Tryd.prog laid1 w) false (World.doorLaid Tryd.prog 400 os) #[.agg zeroMani.row, .agg zeroMani.row, .string .empty] 8 rfl (World.shaped_of_RefB (by kernel_rfl) (by kernel_rfl)) (by kernel_rfl) (by kernel_rfl) (by kernel_rfl) (door_met os _)) ?_
  intro W base args ds gs before hval hW _ hsz hLd _
  exact contract H enc W base args ds gs before hval hW hsz hLd

theorem said : Rows.CombFormsSaid :=
  OpenClaim.holds_of_wide 8 Tryd.f8 rfl rfl rfl rfl rfl rfl rfl ⟨rfl, rfl, rfl, rfl, rfl⟩ rfl rfl rfl rfl rfl (by kernel_rfl) Tryd.func8 (by kernel_rfl)
    (of_decide_eq_true (by kernel_rfl)) (by unfold Func.isWrapper; first | (rw [if_pos (by decide +kernel)]; kernel_rfl) | (rw [if_neg (by decide +kernel)]; exact ⟨rfl, rfl⟩))
    (fun os started H enc _ => lifted os started H enc)

theorem proved : Rows.CombFormsCardSaid :=
  Claim7.holds_tied_plain_at .later [] [.data] true Rows.combFormsCard.stood.harness false
    said (fun _ h => by cases h) (by kernel_rfl) (fun _ h => by cases h) combForms_row_tie rfl ⟨rfl, rfl⟩ (by kernel_rfl) rfl
    (fun f fn hf hfn => by
      obtain rfl : f = 8 := Option.some.inj ((show Tryd.prog.funcNamed "apiary/apiarylaw03.CombForms" = some 8 by kernel_rfl).symm.trans hf) |>.symm
      obtain rfl : fn = Tryd.f8 := (Option.some.inj (Tryd.func8.symm.trans hfn)).symm
      exact ⟨by kernel_rfl, fun j t ht => by
        rw [Tryd.params8] at ht
        have hm : t ∈ [27, 27, 9] := by simpa using Array.mem_of_getElem? ht
        have hall : ([27, 27, 9].all fun u => !Tryd.prog.wantsStandIn u) = true := by kernel_rfl
        exact (show Tryd.prog.wantsStandIn t = false by simpa using List.all_eq_true.1 hall t hm)⟩)
    (by kernel_rfl)
end CombFormsLaw

end Go.Proofs.YtokdnfhglckpkaaDoor
