/-
  Layer 18 (ration): the walk of found.
-/
import Derived.Test.YtfbjbhddapoopaaDoorHvCJ
import Derived.Test.YtfbjbhddapoopaaDoorFrP
set_option linter.unusedVariables false
set_option linter.unusedSimpArgs false
namespace Go.Proofs.YtfbjbhddapoopaaDoor
open Go.RowKit
attribute [local go_sem] Lb.ba_get Lb.ba_cut Lb.ba_add Lb.ba_size Lb.take_rest

/-- what a blob is asked for, as a frame; none: it isn't -/
inductive FoundIs (K : List Int) (B0 : Nat) (b : List UInt8) (f : FrD) (w' : World) : FrD → Bool → Prop
  | mani (m : ManiD) (h : f.at_ = -1) (hm : OwnM K m b) (ho : m.Ok w' w'.heap.size) (hup : ∀ a, m.A = some a → B0 ≤ a.block) : FoundIs K B0 b f w' (maniFr 0 m) true
  | part (k : Nat) (h : f.at_ = (k : Int)) (hk : k < (chunks b).length) : FoundIs K B0 b f w' (partFr 0 f.out f.at_ (chunk b k)) true
  | no (h : f.at_ ≠ -1) (h2 : ¬ (0 ≤ f.at_ ∧ f.at_ < (chunks b).length)) : FoundIs K B0 b f w' zeroFr false
/-- it outlives what turns in blocks that were there before -/
theorem FoundIs.only {K : List Int} {B0 : Nat} {b : List UInt8} {f g : FrD} {is : Bool} {w w' : World} {bs : List Nat} (h : FoundIs K B0 b f w g is) (ho : Only bs w w') (hbs : ∀ x ∈ bs, x < B0) : FoundIs K B0 b f w' g is := by
  cases h with
  | mani m h hm hk hup => exact .mani m h hm { hk with digs := (hk.digs.only ho (fun a ha hx => by have := hup a ha; have := hbs _ hx; omega)).more ho.size } hup
  | part k h hk => exact .part k h hk
  | no h h2 => exact .no h h2
theorem FoundIs.fit {K : List Int} {B0 : Nat} {b : List UInt8} {f g : FrD} {is : Bool} {w : World} (h : FoundIs K B0 b f w g is) (hf : f.Fit) : g.Fit := by
  cases h with
  | mani m h hm hk hup => exact maniFr_fit 0 m hk.whole
  | part k h hk => exact partFr_fit 0 _ _ _ hf.lo
  | no h h2 => exact zeroFr_fit
def FoundPost (K : List Int) (b : List UInt8) (f : FrD) (w : World) (e : Ending) (w' : World) : Prop :=
  ∃ g is, e = .returned (.tuple #[.agg (FrD.row g), .bool is]) ∧ FoundIs K w.heap.size b f w' g is ∧ Below w.heap.size w w'
theorem built_mani2 (m : ManiD) (h : m.whole.length = 32) : Tryd.prog.built 44 [(0, .int .i64 7), (11, .agg m.row)] = some (maniFr 0 m).row := by
  rw [built_fr, fr_fill0, fr_fill11 _ ⟨rfl, rfl, rfl, rfl, rfl, rfl, rfl, rfl⟩ _ h, fill_nil]; rfl
theorem built_part2 (o : List UInt8) (i : Int) (t : List UInt8) (h : o.length = 32) : Tryd.prog.built 44 [(0, .int .i64 8), (7, .agg (byV o).toArray), (8, .int .i64 i), (9, .string ⟨t.toArray⟩)] = some (partFr 0 o i t).row := by
  rw [built_fr, fr_fill0, show (byV o).toArray = digV o from rfl, fr_fill7 _ ⟨rfl, rfl, rfl, rfl, rfl, rfl, rfl, rfl⟩ _ h, fr_fill8 _ ⟨rfl, h, rfl, rfl, rfl, rfl, rfl, rfl⟩, fr_fill9 _ ⟨rfl, h, rfl, rfl, rfl, rfl, rfl, rfl⟩, fill_nil]
  rfl

set_option maxHeartbeats 4000000 in
set_option maxRecDepth 100000 in
theorem found_any (K : List Int) (b : List UInt8) (f : FrD) (w : World) (hL : Laid K w) (hb : b.length ≤ 512) (hf : f.Fit) :
    Calls Tryd.prog 76 #[.string ⟨b.toArray⟩, .agg f.row] w (FoundPost K b f w) := by
  have hfr := heap_alloc_new w (.cells f.row 44)
  have hb1 := (Below.refl w.heap.size w).alloc (Nat.le_refl _) (.cells f.row 44)
  obtain ⟨wf, hwf⟩ : ∃ y, y = w.alloc (.cells f.row 44) := ⟨_, rfl⟩
  obtain ⟨fb, hfb⟩ : ∃ y, y = w.heap.size := ⟨_, rfl⟩
  rw [← hwf] at hfr hb1
  rw [← hfb] at hfr
  have hz : (wf.alloc (.cells Tryd.zeroCells44 44)).heap[wf.heap.size]? = some (.cells Tryd.zeroCells44 44 (0, 0)) := heap_alloc_new wf _
  have hbz : Below wf.heap.size wf (wf.alloc (.cells Tryd.zeroCells44 44)) := (Below.refl _ wf).alloc (Nat.le_refl _) _
  have hzs : Tryd.zeroCells44.size = 237 := by rw [zero_frame, FrD.row_size zeroFr_fit]
  obtain ⟨g, hg⟩ : ∃ g, g = wf.heap.size := ⟨_, rfl⟩
  obtain ⟨w1, hw1⟩ : ∃ y, y = wf.alloc (.cells Tryd.zeroCells44 44) := ⟨_, rfl⟩
  have hsf : wf.heap.size = fb + 1 := by rw [hwf, hfb]; simp
  rw [← hw1] at hz hbz
  rw [← hg] at hz
  have hfr1 := below_keep hbz hfr
  have hb01 : Below w.heap.size w w1 := hb1.trans (hbz.mono hb1.size)
  have hsp := Lib.hid (split_any b w1 (by omega))
  have HL1 := Lib.hid (hL.below hb01)
  have Hwf := Lib.hid hwf
  have Hfb := Lib.hid hfb
  have Hw1 := Lib.hid hw1
  have Hg := Lib.hid hg
  have Hsf := Lib.hid hsf
  have HB01 := Lib.hid hb01
  have Hfr1 := Lib.hid hfr1
  obtain ⟨Z, hZ⟩ : ∃ Z, Z = Tryd.zeroCells44 := ⟨_, rfl⟩
  rw [← hZ] at hz hzs
  have Hgl := Lib.hid (heap_lt hz)
  have Hz := Lib.hid hz
  have Hf := Lib.hid hf
  have hgf : g ≠ fb := by rw [hg, hsf]; omega
  have Hgf := Lib.hid hgf
  have hg1 : Hid (g = fb + 1) := Lib.hid (by rw [hg, hsf])
  clear hL hwf hfb hw1 hg hsf hb01 hfr1 hz hbz hb1 hfr hZ hf hgf
  go_enter Tryd.func76, Tryd.ntmps76
  go_upto_region 1 with fail
  rw [← Hwf.out, ← Hfb.out, ← Hw1.out]
  rw [← hg1.out]
  go_wp2_with fail
  refine hsp.out.mono ?_
  rintro e w2 ⟨v, rfl, hT, hB2⟩
  obtain ⟨A, cap, rfl, hcap, hncap⟩ := Bag0.shape hT
  have hlen : (chunks b).length = (b.length + 63) / 64 := chunks_length b
  have HT := Lib.hid hT
  have Hz2 := Lib.hid (below_keep hB2 Hz.out)
  have Hfr2 := Lib.hid (below_keep hB2 Hfr1.out)
  have HB2 := Lib.hid (HB01.out.trans (hB2.mono HB01.out.size))
  have HL2 := Lib.hid (HL1.out.below hB2)
  obtain ⟨n, hn⟩ : ∃ n, n = (chunks b).length := ⟨_, rfl⟩
  rw [← hn] at hlen ⊢
  have hn8 : n ≤ 8 := by omega
  have Hn := Lib.hid hn
  clear hT hB2 hsp Hz Hfr1 hn hlen hncap
  have fa := fr_mem Hf.out Hfr2.out
  have fat := fa.at_
  obtain ⟨i, hi⟩ : ∃ i, i = f.at_ := ⟨_, rfl⟩
  rw [← hi] at fat
  have Hi := Lib.hid hi
  have hgw : w.heap.size ≤ g := by rw [Hg.out, Hsf.out, Hfb.out]; omega
  have Hgw := Lib.hid hgw
  clear hi fa hgw
  by_cases hm1 : i = -1
  · subst hm1
    have hM := Lib.hid (mani_any2 K b w2 HL2.out hb)
    go_wp2_with fail
    refine hM.out.mono ?_
    rintro e w3 ⟨m, rfl, hm, h1, h2, h3, hB, hup⟩
    have hmw := hm.whole
    have Hm := Lib.hid hm
    have Hup := Lib.hid hup
    have hlg : g < w2.heap.size := heap_lt Hz2.out
    have HB := Lib.hid (HB2.out.trans (hB.mono HB2.out.size))
    have Hz3 := Lib.hid (below_keep hB Hz2.out)
    have HOwn : Hid (OwnM K m b) := Lib.hid ⟨h1, h2, h3⟩
    have hms : m.row.size = 34 := m.row_size hmw
    have mone := m.row_one
    obtain ⟨R, hR⟩ : ∃ R, R = m.row := ⟨_, rfl⟩
    have hbm := built_mani2 m hmw
    have hfs := FrD.row_size (maniFr_fit 0 m hmw)
    have hfo := FrD.row_one (maniFr_fit 0 m hmw)
    have hfi := fr_infoR (maniFr_fit 0 m hmw)
    obtain ⟨F, hF⟩ : ∃ F, F = (maniFr 0 m).row := ⟨_, rfl⟩
    rw [← hR] at hms mone hbm ⊢
    rw [← hF] at hbm hfs hfo hfi
    have minf : (Tryd.prog.info? 39).map (·.size) = some R.size := by rw [hms]; exact mani_info
    have HR := Lib.hid hR
    have HF := Lib.hid hF
    clear hup hM hm h1 h2 h3 hB hR hF hmw Hz2
    go_upto_region 4 with (refine wpList_store_row rfl 39 _ _ rfl w3.heap.size R rfl rfl 39 _ (heap_alloc_new w3 _) minf (by rw [hms]; rfl) mone ?_)
    show Code.wp _ _ _ _ ((w3.alloc (.cells zeroMani.row 39)).setRow w3.heap.size R)
    have hq := setRow_heap _ _ _ R _ _ (heap_alloc_new w3 (.cells zeroMani.row 39))
    have hB3 : Below w3.heap.size w3 ((w3.alloc (.cells zeroMani.row 39)).setRow w3.heap.size R) := (Only.below (((Only.refl [w3.heap.size] w3).alloc _).setRow (by simp) _) (Nat.le_refl _) (by simp))
    obtain ⟨q, hq'⟩ : ∃ q, q = w3.heap.size := ⟨_, rfl⟩
    obtain ⟨w4, hw4⟩ : ∃ y, y = ((w3.alloc (.cells zeroMani.row 39)).setRow w3.heap.size R) := ⟨_, rfl⟩
    rw [← hw4] at hq hB3 ⊢
    rw [← hq'] at hq ⊢
    have HB4 := Lib.hid (HB.out.trans (hB3.mono HB.out.size))
    have Hz4 := Lib.hid (below_keep hB3 Hz3.out)
    have HB34 := Lib.hid hB3
    have Hq := Lib.hid hq
    clear hw4 hq hB3 hq' Hz3
    go_wp2_with (first
      | (refine wpList_load_row rfl 39 _ rfl q rfl 39 R (0, 0) _ Hq.out Tryd.underlying39 rfl minf ?_)
      | (refine wpList_build2 rfl 44 _ _ _ _ rfl _ _ rfl rfl F hbm ?_)
      | (refine wpList_store_row rfl 44 _ _ rfl g F rfl rfl 44 Z Hz4.out hfi (by rw [hfs, hzs]) hfo ?_))
    (try simp only [Exit.inBlock, Exit.then])
    refine bodyPost_ret (results_cell_row2 rfl _ _ g 44 F (0, 0) _ rfl (setRow_heap _ _ _ _ _ _ Hz4.out) Tryd.underlying44 rfl hfi) rfl ?_
    have hO : Only [g] w4 (w4.setRow g F) := (Only.refl _ _).setRow (by simp) _
    have hbb : Below w.heap.size w (w4.setRow g F) := HB4.out.trans (hO.below HB4.out.size (by simp; exact Hgw.out))
    refine ⟨maniFr 0 m, true, by rw [← HF.out]; rfl, .mani m Hi.out.symm HOwn.out ?_ ?_, hbb⟩
    have mok3 := (Hm.out.below HB34.out (Nat.le_refl _)).more HB34.out.size
    · exact { mok3 with digs := (mok3.digs.only hO (fun a ha => by have := Hup.out a ha; simp; omega)).more (by simp) }
    · exact fun a ha => Nat.le_trans HB2.out.size (Hup.out a ha)
  · clear fat
    by_cases hin : 0 ≤ i ∧ i < n
    · obtain ⟨i0, i1⟩ := hin
      obtain ⟨k, hk⟩ : ∃ k : Nat, i = (k : Int) := ⟨i.toNat, by omega⟩
      have kn : k < n := by omega
      have hkt : k < (chunks b).length := by rw [← Hn.out]; exact kn
      obtain ⟨g9, rfl, hg9, hg94, hc9⟩ := HT.out.cell k hkt
      rw [chunks_get] at hc9
      have c9 := hc9
      obtain ⟨tx, htx⟩ : ∃ tx, tx = chunk b k := ⟨_, rfl⟩
      rw [← htx] at c9
      obtain ⟨ow, how⟩ : ∃ ow, ow = f.out := ⟨_, rfl⟩
      have hol : ow.length = 32 := by rw [how]; exact Hf.out.lo
      have fa := fr_mem Hf.out Hfr2.out
      have fout := fa.out
      rw [← how] at fout
      have fat := fa.at_
      rw [← Hi.out] at fat
      have hbm := built_part2 ow i tx hol
      have hft := partFr_fit 0 ow i tx hol
      have hfs := FrD.row_size hft
      have hfo := FrD.row_one hft
      have hfi := fr_infoR hft
      obtain ⟨F, hF⟩ : ∃ F, F = (partFr 0 ow i tx).row := ⟨_, rfl⟩
      rw [← hF] at hbm hfs hfo hfi
      have dix : (Tryd.prog.info? 23).map (·.size) = some (byV ow).length := by rw [dig_info, byV_length, hol]
      have dund := Tryd.underlying23
      have lg : g < w2.heap.size := heap_lt Hz2.out
      have lf : fb < w2.heap.size := heap_lt Hfr2.out
      have hfg : fb ∉ [g] := by simp; exact fun e => Hgf.out e.symm
      have hg9g : g9 ∉ [g] := by simp; have := Hgl.out; omega
      have HF := Lib.hid hF
      have Htx := Lib.hid htx
      have How := Lib.hid how
      clear hF htx hc9 hft how fa
      subst hk
      go_upto_region 6 with fail
      refine wp_region_held_drew (S := HeldO w2 g 237 44) (by kernel_rfl) (HeldO.start hzs Hz2.out) (fun hH0 => ?_)
      obtain ⟨W0, hW0⟩ : ∃ W, W = w2.drew := ⟨_, rfl⟩
      rw [← hW0] at hH0 ⊢
      clear hW0
      refine wpAnyH_take (i := 0) (v := ?_) rfl (by kernel_rfl) (by kernel_rfl) (by kernel_rfl) (fun _ _ _ h => h) (Or.inl ⟨by kernel_rfl, ?_⟩) hH0 ?_
      rotate_left 1
      · intro w hSw
        go_simp
        try with_reducible rfl
      try simp only [Act.put, List.getElem_toArray, List.getElem_cons_zero, List.getElem_cons_succ, List.setIfInBounds_toArray, List.set_cons_zero, List.set_cons_succ]
      refine wpAnyH_take (i := 1) (v := _) rfl (by kernel_rfl) (by kernel_rfl) (by kernel_rfl) (fun _ _ _ h => h) (yieldsIf_load_mid (by kernel_rfl) _ _ rfl _ _ rfl (byV ow) _ (fun W hW => range_only fout hW.1 ⟨lf, hfg⟩) dund rfl dix) hH0 ?_
      try simp only [Act.put, List.getElem_toArray, List.getElem_cons_zero, List.getElem_cons_succ, List.setIfInBounds_toArray, List.set_cons_zero, List.set_cons_succ]
      refine wpAnyH_take (i := 2) (v := ?_) rfl (by kernel_rfl) (by kernel_rfl) (by kernel_rfl) (fun _ _ _ h => h) (Or.inl ⟨by kernel_rfl, ?_⟩) hH0 ?_
      rotate_left 1
      · intro w hSw
        go_simp
        try with_reducible rfl
      try simp only [Act.put, List.getElem_toArray, List.getElem_cons_zero, List.getElem_cons_succ, List.setIfInBounds_toArray, List.set_cons_zero, List.set_cons_succ]
      refine wpAnyH_take (i := 3) (v := ?_) rfl (by kernel_rfl) (by kernel_rfl) (by kernel_rfl) (fun _ _ _ h => h) (Or.inl ⟨by kernel_rfl, ?_⟩) hH0 ?_
      rotate_left 1
      · intro w hSw
        have f0 := (hSw.1.cell (p := ⟨g9, k, none⟩) hg94 hg9g).trans c9
        have f1 := (hSw.1.cell (p := ⟨fb, 134, none⟩) lf hfg).trans fat
        go_simp
        try with_reducible rfl
      try simp only [Act.put, List.getElem_toArray, List.getElem_cons_zero, List.getElem_cons_succ, List.setIfInBounds_toArray, List.set_cons_zero, List.set_cons_succ]
      refine wpAnyH_take (i := 4) (v := ?_) rfl (by kernel_rfl) (by kernel_rfl) (by kernel_rfl) (fun _ _ _ h => h) (Or.inl ⟨by kernel_rfl, ?_⟩) hH0 ?_
      rotate_left 1
      · intro w hSw
        go_simp
        try with_reducible rfl
      try simp only [Act.put, List.getElem_toArray, List.getElem_cons_zero, List.getElem_cons_succ, List.setIfInBounds_toArray, List.set_cons_zero, List.set_cons_succ]
      refine wpAnyH_take (i := 5) (v := ?_) rfl (by kernel_rfl) (by kernel_rfl) (by kernel_rfl) (fun _ _ _ h => h) (Or.inl ⟨by kernel_rfl, ?_⟩) hH0 ?_
      rotate_left 1
      · intro w hSw
        go_simp
        try with_reducible rfl
      try simp only [Act.put, List.getElem_toArray, List.getElem_cons_zero, List.getElem_cons_succ, List.setIfInBounds_toArray, List.set_cons_zero, List.set_cons_succ]
      refine wpAnyH_take (i := 6) (v := ?_) rfl (by kernel_rfl) (by kernel_rfl) (by kernel_rfl) (fun _ _ _ h => h) (Or.inl ⟨by kernel_rfl, ?_⟩) hH0 ?_
      rotate_left 1
      · intro w hSw
        have f0 := (hSw.1.cell (p := ⟨g9, k, none⟩) hg94 hg9g).trans c9
        have f1 := (hSw.1.cell (p := ⟨fb, 134, none⟩) lf hfg).trans fat
        go_simp
        try with_reducible rfl
      try simp only [Act.put, List.getElem_toArray, List.getElem_cons_zero, List.getElem_cons_succ, List.setIfInBounds_toArray, List.set_cons_zero, List.set_cons_succ]
      refine wpAnyH_take (i := 7) (v := ?_) rfl (by kernel_rfl) (by kernel_rfl) (by kernel_rfl) (fun _ _ _ h => h) (Or.inl ⟨by kernel_rfl, ?_⟩) hH0 ?_
      rotate_left 1
      · intro w hSw
        go_simp
        try with_reducible rfl
      try simp only [Act.put, List.getElem_toArray, List.getElem_cons_zero, List.getElem_cons_succ, List.setIfInBounds_toArray, List.set_cons_zero, List.set_cons_succ]
      refine wpAnyH_take (i := 8) (v := ?_) rfl (by kernel_rfl) (by kernel_rfl) (by kernel_rfl) (fun _ _ _ h => h) (Or.inl ⟨by kernel_rfl, ?_⟩) hH0 ?_
      rotate_left 1
      · intro w hSw
        have f0 := (hSw.1.cell (p := ⟨g9, k, none⟩) hg94 hg9g).trans c9
        have f1 := (hSw.1.cell (p := ⟨fb, 134, none⟩) lf hfg).trans fat
        go_simp
        try with_reducible rfl
      try simp only [Act.put, List.getElem_toArray, List.getElem_cons_zero, List.getElem_cons_succ, List.setIfInBounds_toArray, List.set_cons_zero, List.set_cons_succ]
      refine wpAnyH_take (i := 9) (v := _) rfl (by kernel_rfl) (by kernel_rfl) (by kernel_rfl) (fun _ _ _ h => h) (yieldsIf_build (by kernel_rfl) 44 _ rfl F (by simpa [Act.eval] using hbm)) hH0 ?_
      try simp only [Act.put, List.getElem_toArray, List.getElem_cons_zero, List.getElem_cons_succ, List.setIfInBounds_toArray, List.set_cons_zero, List.set_cons_succ]
      refine wpAnyH_ready (rs := [10]) (by kernel_rfl) (by simp) ?_
      refine AllReadyH.cons rfl (fun K_ hK => ?_) ?_
      · rw [if_pos (by rfl)]
        obtain ⟨C, hC, hg2⟩ := hH0.2
        refine wp_store_row 44 _ _ rfl g F rfl rfl 44 C hg2 hfi (by rw [hfs, hC]) hfo ?_
        refine hK.out _ _ (hH0.put F hfs) (fun hH1 => ?_)
        clear hK K_
        try simp only [Act.put, List.getElem_toArray, List.getElem_cons_zero, List.getElem_cons_succ, List.setIfInBounds_toArray, List.set_cons_zero, List.set_cons_succ]
        refine wpAnyH_take (i := 11) (v := ?_) rfl (by kernel_rfl) (by kernel_rfl) (by kernel_rfl) (fun _ _ _ h => h) (Or.inl ⟨by kernel_rfl, ?_⟩) hH1 ?_
        rotate_left 1
        · intro w hSw
          go_simp
          try with_reducible rfl
        try simp only [Act.put, List.getElem_toArray, List.getElem_cons_zero, List.getElem_cons_succ, List.setIfInBounds_toArray, List.set_cons_zero, List.set_cons_succ]
        refine wpAnyH_done (by kernel_rfl) ?_ _
        have HH := Lib.hid hH1
        have HG := Lib.hid (setRow_heap _ g _ F _ _ hg2)
        clear hH1 hg2
        go_wp2_with fail
        (try simp only [Exit.inBlock, Exit.then])
        refine bodyPost_ret (results_cell_row2 rfl _ _ g 44 F (0, 0) _ rfl HG.out Tryd.underlying44 rfl hfi) rfl ?_
        refine ⟨partFr 0 ow (k : Int) tx, true, by rw [← HF.out]; rfl, (by rw [Htx.out, How.out, Hi.out]; exact .part k Hi.out.symm hkt), HB2.out.trans (HH.out.1.below HB2.out.size (by simp; exact Hgw.out))⟩
      exact AllReadyH.nil
    · have hfs := FrD.row_size zeroFr_fit
      have hfo := FrD.row_one zeroFr_fit
      have hfi := fr_infoR zeroFr_fit
      have hbm := built_zeroFr
      obtain ⟨F, hF⟩ : ∃ F, F = zeroFr.row := ⟨_, rfl⟩
      rw [← hF] at hbm hfs hfo hfi
      have HF := Lib.hid hF
      clear hF
      have hno : ¬ (0 ≤ f.at_ ∧ f.at_ < (chunks b).length) := by rw [← Hi.out, ← Hn.out]; exact hin
      have hn1 : f.at_ ≠ -1 := by rw [← Hi.out]; exact hm1
      have fin2 : ∀ w', w' = w2.setRow g F → FoundPost K b f w (.returned (.tuple #[.agg F, .bool false])) w' := by
        intro w' hw'
        subst hw'
        exact ⟨zeroFr, false, by rw [HF.out], .no hn1 hno, HB2.out.trans (((Only.refl [g] w2).setRow (by simp) F).below HB2.out.size (by simp; exact Hgw.out))⟩
      have Fin2 := Lib.hid fin2
      clear fin2 hno hn1
      have fa := fr_mem Hf.out Hfr2.out
      have fat := fa.at_
      rw [← Hi.out] at fat
      clear fa
      by_cases h0 : i < 0
      · clear hin
        go_wp2_with (first
          | (refine wpList_build0 rfl 44 rfl F hbm ?_)
          | (refine wpList_store_row rfl 44 _ _ rfl g F rfl rfl 44 Z Hz2.out hfi (by rw [hfs, hzs]) hfo ?_))
        (try simp only [Exit.inBlock, Exit.then])
        refine bodyPost_ret (results_cell_row2 rfl _ _ g 44 F (0, 0) _ rfl (setRow_heap _ _ _ _ _ _ Hz2.out) Tryd.underlying44 rfl hfi) rfl ?_
        exact Fin2.out _ rfl
      · have hge : (n : Int) ≤ i := by omega
        clear hin
        go_wp2_with (first
          | (refine wpList_build0 rfl 44 rfl F hbm ?_)
          | (refine wpList_store_row rfl 44 _ _ rfl g F rfl rfl 44 Z Hz2.out hfi (by rw [hfs, hzs]) hfo ?_))
        (try simp only [Exit.inBlock, Exit.then])
        refine bodyPost_ret (results_cell_row2 rfl _ _ g 44 F (0, 0) _ rfl (setRow_heap _ _ _ _ _ _ Hz2.out) Tryd.underlying44 rfl hfi) rfl ?_
        exact Fin2.out _ rfl
end Go.Proofs.YtfbjbhddapoopaaDoor
