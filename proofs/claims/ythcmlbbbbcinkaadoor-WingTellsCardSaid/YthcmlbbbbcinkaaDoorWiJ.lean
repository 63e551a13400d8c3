/-
  Layer 19 (wing): whether two frames are the same.
-/
import Derived.Test.YthcmlbbbbcinkaaDoorWiI
import Derived.Test.YthcmlbbbbcinkaaDoorWiH
import Derived.Test.YthcmlbbbbcinkaaDoorFmF
set_option linter.unusedVariables false
set_option linter.unusedSimpArgs false
namespace Go.Proofs.YthcmlbbbbcinkaaDoor
open Go.RowKit Pl
attribute [local go_sem] Lb.ba_get Lb.ba_cut Lb.ba_add Lb.ba_size Lb.take_rest
namespace Wi

def plainP (f g : Fm) : Prop := f.kind = g.kind ∧ f.from_ = g.from_ ∧ f.seq = g.seq ∧ f.node = g.node ∧ f.found = g.found ∧ f.at_ = g.at_ ∧ f.data = g.data
def keyedP (f g : Fm) : Prop := f.key = g.key ∧ f.rcd = g.rcd ∧ f.out = g.out ∧ f.haze = g.haze ∧ (f.whole = g.whole ∧ f.size = g.size ∧ f.parts = g.parts)
theorem fm_eq (f g : Fm) : f = g ↔ plainP f g ∧ keyedP f g ∧ f.rngs = g.rngs ∧ f.items = g.items ∧ f.mems = g.mems := by
  obtain ⟨a1, a2, a3, a4, a5, a6, a7, a8, a9, a10, a11, a12, a13, a14, a15, a16, a17⟩ := f
  obtain ⟨b1, b2, b3, b4, b5, b6, b7, b8, b9, b10, b11, b12, b13, b14, b15, b16, b17⟩ := g
  simp only [plainP, keyedP, Fm.mk.injEq]
  constructor
  · rintro ⟨h1, h2, h3, h4, h5, h6, h7, h8, h9, h10, h11, h12, h13, h14, h15, h16, h17⟩
    exact ⟨⟨h1, h2, h3, h4, h6, h9, h10⟩, ⟨h5, h7, h8, h11, h12, h13, h14⟩, h15, h16, h17⟩
  · rintro ⟨⟨h1, h2, h3, h4, h6, h9, h10⟩, ⟨h5, h7, h8, h11, h12, h13, h14⟩, h15, h16, h17⟩
    exact ⟨h1, h2, h3, h4, h5, h6, h7, h8, h9, h10, h11, h12, h13, h14, h15, h16, h17⟩
theorem haze_info : (Tryd.prog.info? 28).map (·.size) = some 64 := by kernel_rfl
theorem eqIn_haze (w : World) (a b : List UInt8) (ha : a.length = 64) (hb : b.length = 64) : (Op.equalIn 10000 28 (.agg (digV a)) (.agg (digV b))).run Tryd.prog w = .ok (a == b) w := run_equalIn_bytes (P := Tryd.prog) w 9998 28 5 64 Tryd.underlying28 Tryd.underlying5 u8_size a b ha hb
set_option maxHeartbeats 8000000 in
set_option maxRecDepth 100000 in
open Classical in
theorem same_any (f g : Fm) (x y : Adr) (w : World) (hf : FmOk w w.heap.size f x) (hg : FmOk w w.heap.size g y) : Calls Tryd.prog 10 #[.agg (f.cells x).toArray, .agg (g.cells y).toArray] w fun e w' => e = .returned (.bool (decide (f = g))) ∧ Below w.heap.size w w' := by
  have hn1 := heap_alloc_new w (.cells (f.cells x).toArray 36)
  have hb1 := (Below.refl w.heap.size w).alloc (Nat.le_refl _) (.cells (f.cells x).toArray 36)
  have hm1 := fm_mem (x := x) hf.wf hn1
  have hl1 := heap_lt hn1
  obtain ⟨R1, hR1⟩ : ∃ R, R = (f.cells x).toArray := ⟨_, rfl⟩
  rw [← hR1] at hn1 hb1 hm1 hl1 ⊢
  obtain ⟨w1, hw1⟩ : ∃ y, y = w.alloc (.cells R1 36) := ⟨_, rfl⟩
  rw [← hw1] at hn1 hb1 hm1 hl1
  have hn2 := heap_alloc_new w1 (.cells (g.cells y).toArray 36)
  have hb2 := (Below.refl w1.heap.size w1).alloc (Nat.le_refl _) (.cells (g.cells y).toArray 36)
  have hm2 := fm_mem (x := y) hg.wf hn2
  have hl2 := heap_lt hn2
  obtain ⟨R2, hR2⟩ : ∃ R, R = (g.cells y).toArray := ⟨_, rfl⟩
  rw [← hR2] at hn2 hb2 hm2 hl2 ⊢
  obtain ⟨w2, hw2⟩ : ∃ y, y = w1.alloc (.cells R2 36) := ⟨_, rfl⟩
  rw [← hw2] at hn2 hb2 hm2 hl2
  have hm1' := hm1.below hb2 hl1
  have hB2 := hb1.trans (hb2.mono hb1.size)
  have HB2 := Lib.hid hB2
  have Hf := Lib.hid ((hf.below hB2 (Nat.le_refl _)).more hB2.size)
  have Hg := Lib.hid ((hg.below hB2 (Nat.le_refl _)).more hB2.size)
  have Hm1 := Lib.hid hm1'
  have Hm2 := Lib.hid hm2
  have l1 : w.heap.size < w2.heap.size := Nat.lt_of_lt_of_le hl1 hb2.size
  obtain ⟨q1, hq1⟩ : ∃ q, q = w.heap.size := ⟨_, rfl⟩
  obtain ⟨q2, hq2⟩ : ∃ q, q = w1.heap.size := ⟨_, rfl⟩
  rw [← hq1] at Hm1 l1
  rw [← hq2] at Hm2 hl2
  have Hq1 := Lib.hid hq1
  have Hq2 := Lib.hid hq2
  have Hw1 := Lib.hid hw1
  have Hw2 := Lib.hid hw2
  obtain ⟨res, hres⟩ : ∃ r, r = decide (f = g) := ⟨_, rfl⟩
  rw [← hres]
  have Hres := Lib.hid hres
  clear hn1 hb1 hm1 hl1 hn2 hb2 hm2 hm1' hB2 hR1 hR2 hq1 hq2 hw1 hw2 hf hg hres
  go_enter Tryd.func10, Tryd.ntmps10
  go_upto_region 1 with fail
  have eq2 : q1 + 1 = q2 := by rw [Hq2.out, Hw1.out, Hq1.out]; simp
  rw [← Hw1.out, ← Hw2.out, ← Hq1.out, eq2]
  obtain ⟨P, hP⟩ : ∃ P, P = decide (plainP f g) := ⟨_, rfl⟩
  have HP := Lib.hid hP
  clear hP
  go_cut [5] from 7 to 53 (fun v wz => v = .bool P ∧ wz = w2)
  case first =>
    have a0 := Hm1.out.kind
    have b0 := Hm2.out.kind
    have a1 := Hm1.out.from_
    have b1 := Hm2.out.from_
    have a2 := Hm1.out.seq
    have b2 := Hm2.out.seq
    have a3 := Hm1.out.node
    have b3 := Hm2.out.node
    have a4 := Hm1.out.found
    have b4 := Hm2.out.found
    have a5 := Hm1.out.at_
    have b5 := Hm2.out.at_
    have a6 := Hm1.out.data
    have b6 := Hm2.out.data
    obtain ⟨s0, hs0⟩ : ∃ n, n = f.kind := ⟨_, rfl⟩
    obtain ⟨t0, ht0⟩ : ∃ n, n = g.kind := ⟨_, rfl⟩
    rw [← hs0] at a0
    rw [← ht0] at b0
    have Hs0 := Lib.hid hs0
    have Ht0 := Lib.hid ht0
    obtain ⟨s1, hs1⟩ : ∃ n, n = f.from_ := ⟨_, rfl⟩
    obtain ⟨t1, ht1⟩ : ∃ n, n = g.from_ := ⟨_, rfl⟩
    rw [← hs1] at a1
    rw [← ht1] at b1
    have Hs1 := Lib.hid hs1
    have Ht1 := Lib.hid ht1
    obtain ⟨s2, hs2⟩ : ∃ n, n = f.seq := ⟨_, rfl⟩
    obtain ⟨t2, ht2⟩ : ∃ n, n = g.seq := ⟨_, rfl⟩
    rw [← hs2] at a2
    rw [← ht2] at b2
    have Hs2 := Lib.hid hs2
    have Ht2 := Lib.hid ht2
    obtain ⟨s3, hs3⟩ : ∃ n, n = f.node := ⟨_, rfl⟩
    obtain ⟨t3, ht3⟩ : ∃ n, n = g.node := ⟨_, rfl⟩
    rw [← hs3] at a3
    rw [← ht3] at b3
    have Hs3 := Lib.hid hs3
    have Ht3 := Lib.hid ht3
    obtain ⟨s4, hs4⟩ : ∃ n, n = f.found := ⟨_, rfl⟩
    obtain ⟨t4, ht4⟩ : ∃ n, n = g.found := ⟨_, rfl⟩
    rw [← hs4] at a4
    rw [← ht4] at b4
    have Hs4 := Lib.hid hs4
    have Ht4 := Lib.hid ht4
    obtain ⟨s5, hs5⟩ : ∃ n, n = f.at_ := ⟨_, rfl⟩
    obtain ⟨t5, ht5⟩ : ∃ n, n = g.at_ := ⟨_, rfl⟩
    rw [← hs5] at a5
    rw [← ht5] at b5
    have Hs5 := Lib.hid hs5
    have Ht5 := Lib.hid ht5
    obtain ⟨s6, hs6⟩ : ∃ n, n = f.data := ⟨_, rfl⟩
    obtain ⟨t6, ht6⟩ : ∃ n, n = g.data := ⟨_, rfl⟩
    rw [← hs6] at a6
    rw [← ht6] at b6
    have Hs6 := Lib.hid hs6
    have Ht6 := Lib.hid ht6
    clear hs0 ht0 hs1 ht1 hs2 ht2 hs3 ht3 hs4 ht4 hs5 ht5 hs6 ht6
    by_cases h0 : s0 = t0
    rotate_left 1
    · have e0 : (s0 == t0) = false := by simp [h0]
      have hp : P = false := by rw [HP.out]; exact decide_eq_false (fun h => h0 (by rw [Hs0.out, Ht0.out]; exact h.1))
      subst hp
      clear h0
      go_wp2_with fail
      go_meet
      case rel => exact ⟨rfl, rfl⟩
    have e0 : (s0 == t0) = true := by simp [h0]
    have H0 := Lib.hid h0
    clear h0
    by_cases h1 : s1 = t1
    rotate_left 1
    · have e1 : (s1 == t1) = false := by simp [h1]
      have hp : P = false := by rw [HP.out]; exact decide_eq_false (fun h => h1 (by rw [Hs1.out, Ht1.out]; exact h.2.1))
      subst hp
      clear h1
      go_wp2_with fail
      go_meet
      case rel => exact ⟨rfl, rfl⟩
    have e1 : (s1 == t1) = true := by simp [h1]
    have H1 := Lib.hid h1
    clear h1
    by_cases h2 : s2 = t2
    rotate_left 1
    · have e2 : (s2 == t2) = false := by simp [h2]
      have hp : P = false := by rw [HP.out]; exact decide_eq_false (fun h => h2 (by rw [Hs2.out, Ht2.out]; exact h.2.2.1))
      subst hp
      clear h2
      go_wp2_with fail
      go_meet
      case rel => exact ⟨rfl, rfl⟩
    have e2 : (s2 == t2) = true := by simp [h2]
    have H2 := Lib.hid h2
    clear h2
    by_cases h3 : s3 = t3
    rotate_left 1
    · have e3 : (s3 == t3) = false := by simp [h3]
      have hp : P = false := by rw [HP.out]; exact decide_eq_false (fun h => h3 (by rw [Hs3.out, Ht3.out]; exact h.2.2.2.1))
      subst hp
      clear h3
      go_wp2_with fail
      go_meet
      case rel => exact ⟨rfl, rfl⟩
    have e3 : (s3 == t3) = true := by simp [h3]
    have H3 := Lib.hid h3
    clear h3
    by_cases h4 : s4 = t4
    rotate_left 1
    · have e4 : (s4 == t4) = false := by simp [h4]
      have hp : P = false := by rw [HP.out]; exact decide_eq_false (fun h => h4 (by rw [Hs4.out, Ht4.out]; exact h.2.2.2.2.1))
      subst hp
      clear h4
      go_wp2_with fail
      go_meet
      case rel => exact ⟨rfl, rfl⟩
    have e4 : (s4 == t4) = true := by simp [h4]
    have H4 := Lib.hid h4
    clear h4
    by_cases h5 : s5 = t5
    rotate_left 1
    · have e5 : (s5 == t5) = false := by simp [h5]
      have hp : P = false := by rw [HP.out]; exact decide_eq_false (fun h => h5 (by rw [Hs5.out, Ht5.out]; exact h.2.2.2.2.2.1))
      subst hp
      clear h5
      go_wp2_with fail
      go_meet
      case rel => exact ⟨rfl, rfl⟩
    have e5 : (s5 == t5) = true := by simp [h5]
    have H5 := Lib.hid h5
    clear h5
    by_cases h6 : s6 = t6
    rotate_left 1
    · have e6 : (s6 == t6) = false := by simp [h6]
      have hp : P = false := by rw [HP.out]; exact decide_eq_false (fun h => h6 (by rw [Hs6.out, Ht6.out]; exact h.2.2.2.2.2.2))
      subst hp
      clear h6
      go_wp2_with fail
      go_meet
      case rel => exact ⟨rfl, rfl⟩
    have e6 : (s6 == t6) = true := by simp [h6]
    have H6 := Lib.hid h6
    clear h6
    have hp : P = true := by rw [HP.out]; exact decide_eq_true ⟨by rw [← Hs0.out, ← Ht0.out]; exact H0.out, by rw [← Hs1.out, ← Ht1.out]; exact H1.out, by rw [← Hs2.out, ← Ht2.out]; exact H2.out, by rw [← Hs3.out, ← Ht3.out]; exact H3.out, by rw [← Hs4.out, ← Ht4.out]; exact H4.out, by rw [← Hs5.out, ← Ht5.out]; exact H5.out, by rw [← Hs6.out, ← Ht6.out]; exact H6.out⟩
    subst hp
    go_wp2_with fail
    go_meet
    case rel => exact ⟨rfl, rfl⟩
  obtain ⟨rfl, hwc⟩ := hcut
  subst hwc
  go_upto_region 2 with fail
  have hT0 : ∃ T, T = decide (keyedP f g) := ⟨_, rfl⟩
  obtain ⟨T, hT⟩ := hT0
  have HT := Lib.hid hT
  clear hT
  go_cut [6] from 54 to 86 (fun v wz => v = .bool T ∧ Below wc.heap.size wc wz)
  case first =>
    have hms := Lib.hid (msame_any (f.mani x) (g.mani y) _ Hf.out.mani Hg.out.mani)
    have hk1 := Hf.out.wf.key; have hk2 := Hg.out.wf.key
    have ho1 := Hf.out.wf.out; have ho2 := Hg.out.wf.out
    have hz1 := Hf.out.wf.haze; have hz2 := Hg.out.wf.haze
    have hr1 := Hf.out.wf.rcd; have hr2 := Hg.out.wf.rcd
    have q4a := Hm1.out.key; have q4b := Hm2.out.key
    have q37a := Hm1.out.rcd; have q37b := Hm2.out.rcd
    have q102a := Hm1.out.out; have q102b := Hm2.out.out
    have q136a := Hm1.out.haze; have q136b := Hm2.out.haze
    have q200a := Hm1.out.mani; have q200b := Hm2.out.mani
    have h1 : ∀ W : World, (Op.equalIn 10000 23 (.agg (byV f.key).toArray) (.agg (byV g.key).toArray)).run Tryd.prog W = .ok (f.key == g.key) W := fun W => eqIn_dig W _ _ hk1 hk2
    have h2 : ∀ W : World, (Op.equalIn 10000 26 (.agg f.rcd.cells.toArray) (.agg g.rcd.cells.toArray)).run Tryd.prog W = .ok (decide (f.rcd = g.rcd)) W := fun W => eqIn_rc' 9997 W _ _ hr1 hr2
    have h3 : ∀ W : World, (Op.equalIn 10000 23 (.agg (byV f.out).toArray) (.agg (byV g.out).toArray)).run Tryd.prog W = .ok (f.out == g.out) W := fun W => eqIn_dig W _ _ ho1 ho2
    have h4 : ∀ W : World, (Op.equalIn 10000 28 (.agg (byV f.haze).toArray) (.agg (byV g.haze).toArray)).run Tryd.prog W = .ok (f.haze == g.haze) W := fun W => eqIn_haze W _ _ hz1 hz2
    have dund := Tryd.underlying23
    have rund := Tryd.underlying26
    have zund := Tryd.underlying28
    have mund := Tryd.underlying31
    have d4a : (Tryd.prog.info? 23).map (·.size) = some (byV f.key).length := by rw [dig_info, byV_length, hk1]
    have d4b : (Tryd.prog.info? 23).map (·.size) = some (byV g.key).length := by rw [dig_info, byV_length, hk2]
    have d37a : (Tryd.prog.info? 26).map (·.size) = some f.rcd.cells.length := by rw [rc_info, Rc.len hr1]
    have d37b : (Tryd.prog.info? 26).map (·.size) = some g.rcd.cells.length := by rw [rc_info, Rc.len hr2]
    have d102a : (Tryd.prog.info? 23).map (·.size) = some (byV f.out).length := by rw [dig_info, byV_length, ho1]
    have d102b : (Tryd.prog.info? 23).map (·.size) = some (byV g.out).length := by rw [dig_info, byV_length, ho2]
    have d136a : (Tryd.prog.info? 28).map (·.size) = some (byV f.haze).length := by rw [haze_info, byV_length, hz1]
    have d136b : (Tryd.prog.info? 28).map (·.size) = some (byV g.haze).length := by rw [haze_info, byV_length, hz2]
    have d200a : (Tryd.prog.info? 31).map (·.size) = some (f.mani x).cells.length := by rw [mani_info, mani_len f x Hf.out.wf.whole]
    have d200b : (Tryd.prog.info? 31).map (·.size) = some (g.mani y).cells.length := by rw [mani_info, mani_len g y Hg.out.wf.whole]
    have hrow1 : (f.mani x).row = (f.mani x).cells.toArray := rfl
    have hrow2 : (g.mani y).row = (g.mani y).cells.toArray := rfl
    rw [hrow1, hrow2] at hms
    have hTT : T = ((f.key == g.key) && (decide (f.rcd = g.rcd) && ((f.out == g.out) && ((f.haze == g.haze) && sameM (f.mani x) (g.mani y))))) := by
      rw [HT.out, Bool.eq_iff_iff]
      simp only [decide_eq_true_eq, Bool.and_eq_true, beq_iff_eq, sameM_iff]
      rfl
    obtain ⟨y1, hy1⟩ : ∃ b, b = (f.key == g.key) := ⟨_, rfl⟩
    obtain ⟨y2, hy2⟩ : ∃ b, b = decide (f.rcd = g.rcd) := ⟨_, rfl⟩
    obtain ⟨y3, hy3⟩ : ∃ b, b = (f.out == g.out) := ⟨_, rfl⟩
    obtain ⟨y4, hy4⟩ : ∃ b, b = (f.haze == g.haze) := ⟨_, rfl⟩
    obtain ⟨y5, hy5⟩ : ∃ b, b = sameM (f.mani x) (g.mani y) := ⟨_, rfl⟩
    rw [← hy1] at h1
    rw [← hy2] at h2
    rw [← hy3] at h3
    rw [← hy4] at h4
    rw [← hy5] at hms
    rw [← hy1, ← hy2, ← hy3, ← hy4, ← hy5] at hTT
    obtain ⟨c1, hc1⟩ : ∃ c, c = byV f.key := ⟨_, rfl⟩
    obtain ⟨c2, hc2⟩ : ∃ c, c = byV g.key := ⟨_, rfl⟩
    obtain ⟨c3, hc3⟩ : ∃ c, c = f.rcd.cells := ⟨_, rfl⟩
    obtain ⟨c4, hc4⟩ : ∃ c, c = g.rcd.cells := ⟨_, rfl⟩
    obtain ⟨c5, hc5⟩ : ∃ c, c = byV f.out := ⟨_, rfl⟩
    obtain ⟨c6, hc6⟩ : ∃ c, c = byV g.out := ⟨_, rfl⟩
    obtain ⟨c7, hc7⟩ : ∃ c, c = byV f.haze := ⟨_, rfl⟩
    obtain ⟨c8, hc8⟩ : ∃ c, c = byV g.haze := ⟨_, rfl⟩
    obtain ⟨c9, hc9⟩ : ∃ c, c = (f.mani x).cells := ⟨_, rfl⟩
    obtain ⟨c10, hc10⟩ : ∃ c, c = (g.mani y).cells := ⟨_, rfl⟩
    rw [← hc1] at q4a h1 d4a
    rw [← hc2] at q4b h1 d4b
    rw [← hc3] at q37a h2 d37a
    rw [← hc4] at q37b h2 d37b
    rw [← hc5] at q102a h3 d102a
    rw [← hc6] at q102b h3 d102b
    rw [← hc7] at q136a h4 d136a
    rw [← hc8] at q136b h4 d136b
    rw [← hc9] at q200a hms d200a
    rw [← hc10] at q200b hms d200b
    have HTT := Lib.hid hTT
    clear hTT hy1 hy2 hy3 hy4 hy5 hc1 hc2 hc3 hc4 hc5 hc6 hc7 hc8 hc9 hc10 hk1 hk2 ho1 ho2 hz1 hz2 hr1 hr2 hrow1 hrow2
    cases y1 with
    | false =>
      have hp : T = false := by rw [HTT.out]; rfl
      subst hp
      go_wp2_with (with_reducible first
        | (refine wpList_load_mid rfl 23 _ rfl q1 4 rfl c1 _ q4a dund rfl d4a ?_)
        | (refine wpList_load_mid rfl 23 _ rfl q2 4 rfl c2 _ q4b dund rfl d4b ?_)
        | (refine wpList_load_midGR (by kernel_rfl) 26 _ rfl q1 37 rfl c3 _ q37a rund rfl d37a ?_)
        | (refine wpList_load_midGR (by kernel_rfl) 26 _ rfl q2 37 rfl c4 _ q37b rund rfl d37b ?_)
        | (refine wpList_load_midGR (by kernel_rfl) 23 _ rfl q1 102 rfl c5 _ q102a dund rfl d102a ?_)
        | (refine wpList_load_midGR (by kernel_rfl) 23 _ rfl q2 102 rfl c6 _ q102b dund rfl d102b ?_)
        | (refine wpList_load_midGR (by kernel_rfl) 28 _ rfl q1 136 rfl c7 _ q136a zund rfl d136a ?_)
        | (refine wpList_load_midGR (by kernel_rfl) 28 _ rfl q2 136 rfl c8 _ q136b zund rfl d136b ?_)
        | (refine wpList_load_midGR (by kernel_rfl) 31 _ rfl q1 200 rfl c9 _ q200a mund rfl d200a ?_)
        | (refine wpList_load_midGR (by kernel_rfl) 31 _ rfl q2 200 rfl c10 _ q200b mund rfl d200b ?_))
      go_meet
      case rel => exact ⟨rfl, Below.refl _ _⟩
    | true =>
    cases y2 with
    | false =>
      have hp : T = false := by rw [HTT.out]; rfl
      subst hp
      go_wp2_with (with_reducible first
        | (refine wpList_load_mid rfl 23 _ rfl q1 4 rfl c1 _ q4a dund rfl d4a ?_)
        | (refine wpList_load_mid rfl 23 _ rfl q2 4 rfl c2 _ q4b dund rfl d4b ?_)
        | (refine wpList_load_midGR (by kernel_rfl) 26 _ rfl q1 37 rfl c3 _ q37a rund rfl d37a ?_)
        | (refine wpList_load_midGR (by kernel_rfl) 26 _ rfl q2 37 rfl c4 _ q37b rund rfl d37b ?_)
        | (refine wpList_load_midGR (by kernel_rfl) 23 _ rfl q1 102 rfl c5 _ q102a dund rfl d102a ?_)
        | (refine wpList_load_midGR (by kernel_rfl) 23 _ rfl q2 102 rfl c6 _ q102b dund rfl d102b ?_)
        | (refine wpList_load_midGR (by kernel_rfl) 28 _ rfl q1 136 rfl c7 _ q136a zund rfl d136a ?_)
        | (refine wpList_load_midGR (by kernel_rfl) 28 _ rfl q2 136 rfl c8 _ q136b zund rfl d136b ?_)
        | (refine wpList_load_midGR (by kernel_rfl) 31 _ rfl q1 200 rfl c9 _ q200a mund rfl d200a ?_)
        | (refine wpList_load_midGR (by kernel_rfl) 31 _ rfl q2 200 rfl c10 _ q200b mund rfl d200b ?_))
      go_meet
      case rel => exact ⟨rfl, Below.refl _ _⟩
    | true =>
    cases y3 with
    | false =>
      have hp : T = false := by rw [HTT.out]; rfl
      subst hp
      go_wp2_with (with_reducible first
        | (refine wpList_load_mid rfl 23 _ rfl q1 4 rfl c1 _ q4a dund rfl d4a ?_)
        | (refine wpList_load_mid rfl 23 _ rfl q2 4 rfl c2 _ q4b dund rfl d4b ?_)
        | (refine wpList_load_midGR (by kernel_rfl) 26 _ rfl q1 37 rfl c3 _ q37a rund rfl d37a ?_)
        | (refine wpList_load_midGR (by kernel_rfl) 26 _ rfl q2 37 rfl c4 _ q37b rund rfl d37b ?_)
        | (refine wpList_load_midGR (by kernel_rfl) 23 _ rfl q1 102 rfl c5 _ q102a dund rfl d102a ?_)
        | (refine wpList_load_midGR (by kernel_rfl) 23 _ rfl q2 102 rfl c6 _ q102b dund rfl d102b ?_)
        | (refine wpList_load_midGR (by kernel_rfl) 28 _ rfl q1 136 rfl c7 _ q136a zund rfl d136a ?_)
        | (refine wpList_load_midGR (by kernel_rfl) 28 _ rfl q2 136 rfl c8 _ q136b zund rfl d136b ?_)
        | (refine wpList_load_midGR (by kernel_rfl) 31 _ rfl q1 200 rfl c9 _ q200a mund rfl d200a ?_)
        | (refine wpList_load_midGR (by kernel_rfl) 31 _ rfl q2 200 rfl c10 _ q200b mund rfl d200b ?_))
      go_meet
      case rel => exact ⟨rfl, Below.refl _ _⟩
    | true =>
    cases y4 with
    | false =>
      have hp : T = false := by rw [HTT.out]; rfl
      subst hp
      go_wp2_with (with_reducible first
        | (refine wpList_load_mid rfl 23 _ rfl q1 4 rfl c1 _ q4a dund rfl d4a ?_)
        | (refine wpList_load_mid rfl 23 _ rfl q2 4 rfl c2 _ q4b dund rfl d4b ?_)
        | (refine wpList_load_midGR (by kernel_rfl) 26 _ rfl q1 37 rfl c3 _ q37a rund rfl d37a ?_)
        | (refine wpList_load_midGR (by kernel_rfl) 26 _ rfl q2 37 rfl c4 _ q37b rund rfl d37b ?_)
        | (refine wpList_load_midGR (by kernel_rfl) 23 _ rfl q1 102 rfl c5 _ q102a dund rfl d102a ?_)
        | (refine wpList_load_midGR (by kernel_rfl) 23 _ rfl q2 102 rfl c6 _ q102b dund rfl d102b ?_)
        | (refine wpList_load_midGR (by kernel_rfl) 28 _ rfl q1 136 rfl c7 _ q136a zund rfl d136a ?_)
        | (refine wpList_load_midGR (by kernel_rfl) 28 _ rfl q2 136 rfl c8 _ q136b zund rfl d136b ?_)
        | (refine wpList_load_midGR (by kernel_rfl) 31 _ rfl q1 200 rfl c9 _ q200a mund rfl d200a ?_)
        | (refine wpList_load_midGR (by kernel_rfl) 31 _ rfl q2 200 rfl c10 _ q200b mund rfl d200b ?_))
      go_meet
      case rel => exact ⟨rfl, Below.refl _ _⟩
    | true =>
    have hp : T = y5 := by rw [HTT.out]; rfl
    subst hp
    go_wp2_with (with_reducible first
        | (refine wpList_load_mid rfl 23 _ rfl q1 4 rfl c1 _ q4a dund rfl d4a ?_)
        | (refine wpList_load_mid rfl 23 _ rfl q2 4 rfl c2 _ q4b dund rfl d4b ?_)
        | (refine wpList_load_midGR (by kernel_rfl) 26 _ rfl q1 37 rfl c3 _ q37a rund rfl d37a ?_)
        | (refine wpList_load_midGR (by kernel_rfl) 26 _ rfl q2 37 rfl c4 _ q37b rund rfl d37b ?_)
        | (refine wpList_load_midGR (by kernel_rfl) 23 _ rfl q1 102 rfl c5 _ q102a dund rfl d102a ?_)
        | (refine wpList_load_midGR (by kernel_rfl) 23 _ rfl q2 102 rfl c6 _ q102b dund rfl d102b ?_)
        | (refine wpList_load_midGR (by kernel_rfl) 28 _ rfl q1 136 rfl c7 _ q136a zund rfl d136a ?_)
        | (refine wpList_load_midGR (by kernel_rfl) 28 _ rfl q2 136 rfl c8 _ q136b zund rfl d136b ?_)
        | (refine wpList_load_midGR (by kernel_rfl) 31 _ rfl q1 200 rfl c9 _ q200a mund rfl d200a ?_)
        | (refine wpList_load_midGR (by kernel_rfl) 31 _ rfl q2 200 rfl c10 _ q200b mund rfl d200b ?_))
    refine hms.out.mono ?_
    rintro e w5 ⟨rfl, hB⟩
    have HB := Lib.hid hB
    clear hB
    go_wp2_with fail
    go_meet
    case rel => exact ⟨rfl, HB.out⟩
  obtain ⟨rfl, hb3⟩ := hcut
  have HB3 := Lib.hid (HB2.out.trans (hb3.mono HB2.out.size))
  have hf3 := (Hf.out.below hb3 (Nat.le_refl _)).more hb3.size
  have hg3 := (Hg.out.below hb3 (Nat.le_refl _)).more hb3.size
  have hm1 := Hm1.out.below hb3 l1
  have hm2 := Hm2.out.below hb3 hl2
  have k1 : q1 < wc.heap.size := Nat.lt_of_lt_of_le l1 hb3.size
  have k2 : q2 < wc.heap.size := Nat.lt_of_lt_of_le hl2 hb3.size
  obtain ⟨e1, he1, hq1⟩ : ∃ e1 : Bool, (e1 = true ↔ f.rngs = g.rngs) ∧ ∀ W, Below wc.heap.size wc W → Calls Tryd.prog 25 #[.slice x.RA f.rngs.length x.rc, .slice y.RA g.rngs.length y.rc] W fun e w' => e = .returned (.bool e1) ∧ Below W.heap.size W w' := ⟨_, decide_eq_true_iff, fun W hW => equalRg_any x.RA y.RA x.rc y.rc f.rngs g.rngs W ((hf3.rngs.below hW (Nat.le_refl _)).more hW.size) ((hg3.rngs.below hW (Nat.le_refl _)).more hW.size) hf3.wf.nr hg3.wf.nr hf3.wf.rngs hg3.wf.rngs⟩
  obtain ⟨e2, he2, hq2⟩ : ∃ e1 : Bool, (e1 = true ↔ f.items = g.items) ∧ ∀ W, Below wc.heap.size wc W → Calls Tryd.prog 26 #[.slice x.IA f.items.length x.ic, .slice y.IA g.items.length y.ic] W fun e w' => e = .returned (.bool e1) ∧ Below W.heap.size W w' := ⟨_, decide_eq_true_iff, fun W hW => equalRc_any x.IA y.IA x.ic y.ic f.items g.items W ((hf3.items.below hW (Nat.le_refl _)).more hW.size) ((hg3.items.below hW (Nat.le_refl _)).more hW.size) hf3.wf.ni hg3.wf.ni hf3.wf.items hg3.wf.items⟩
  obtain ⟨e3, he3, hq3⟩ : ∃ e1 : Bool, (e1 = true ↔ f.mems = g.mems) ∧ ∀ W, Below wc.heap.size wc W → Calls Tryd.prog 27 #[.slice x.MA f.mems.length x.mc, .slice y.MA g.mems.length y.mc] W fun e w' => e = .returned (.bool e1) ∧ Below W.heap.size W w' := ⟨_, decide_eq_true_iff, fun W hW => equalMb_any x.MA y.MA x.mc y.mc f.mems g.mems W ((hf3.mems.below hW (Nat.le_refl _)).more hW.size) ((hg3.mems.below hW (Nat.le_refl _)).more hW.size) hf3.wf.nm hg3.wf.nm hf3.wf.mems hg3.wf.mems⟩
  have hrs : res = (P && (T && (e1 && (e2 && e3)))) := by
    rw [Hres.out, HP.out, HT.out, Bool.eq_iff_iff]
    simp only [decide_eq_true_eq, Bool.and_eq_true, he1, he2, he3]
    exact fm_eq f g
  have Hrs := Lib.hid hrs
  have Hq1' := Lib.hid hq1
  have Hq2' := Lib.hid hq2
  have Hq3' := Lib.hid hq3
  have a1 := hm1.rngs
  have b1 := hm2.rngs
  have a2 := Lib.hid hm1.items
  have b2 := Lib.hid hm2.items
  have a3 := Lib.hid hm1.mems
  have b3 := Lib.hid hm2.mems
  obtain ⟨n1, hn1⟩ : ∃ n, n = f.rngs.length := ⟨_, rfl⟩
  obtain ⟨m1, hm1'⟩ : ∃ n, n = g.rngs.length := ⟨_, rfl⟩
  obtain ⟨n2, hn2⟩ : ∃ n, n = f.items.length := ⟨_, rfl⟩
  obtain ⟨m2, hm2'⟩ : ∃ n, n = g.items.length := ⟨_, rfl⟩
  obtain ⟨n3, hn3⟩ : ∃ n, n = f.mems.length := ⟨_, rfl⟩
  obtain ⟨m3, hm3'⟩ : ∃ n, n = g.mems.length := ⟨_, rfl⟩
  rw [← hn1] at a1 Hq1'
  rw [← hm1'] at b1 Hq1'
  rw [← hn2] at a2 Hq2'
  rw [← hm2'] at b2 Hq2'
  rw [← hn3] at a3 Hq3'
  rw [← hm3'] at b3 Hq3'
  clear hrs hq1 hq2 hq3 hf3 hg3 hm1 hm2 he1 he2 he3 hb3 hn1 hm1' hn2 hm2' hn3 hm3'
  go_upto_region 3 with fail
  cases P with
  | false =>
    have hr : res = false := by rw [Hrs.out]; rfl
    subst hr
    go_wp2_with fail
    go_ret
    exact ⟨rfl, HB3.out⟩
  | true =>
  cases T with
  | false =>
    have hr : res = false := by rw [Hrs.out]; rfl
    subst hr
    go_wp2_with fail
    go_ret
    exact ⟨rfl, HB3.out⟩
  | true =>
  go_wp2_with fail
  refine (Hq1'.out _ (Below.refl _ _)).mono ?_
  rintro e w5 ⟨rfl, hB5⟩
  have HB5 := Lib.hid hB5
  have HW5 := Lib.hid (HB3.out.trans (hB5.mono HB3.out.size))
  cases e1 with
  | false =>
    have hr : res = false := by rw [Hrs.out]; rfl
    subst hr
    clear hB5
    go_wp2_with fail
    go_ret
    exact ⟨rfl, HW5.out⟩
  | true =>
  have a2' := (hB5.cell (p := ⟨q1, 235, none⟩) k1).trans a2.out
  have b2' := (hB5.cell (p := ⟨q2, 235, none⟩) k2).trans b2.out
  clear hB5 a1 b1
  go_wp2_with fail
  refine (Hq2'.out _ HB5.out).mono ?_
  rintro e w6 ⟨rfl, hB6⟩
  have hB6' := HB5.out.trans (hB6.mono HB5.out.size)
  have HB6 := Lib.hid hB6'
  have HW6 := Lib.hid (HW5.out.trans (hB6.mono HW5.out.size))
  cases e2 with
  | false =>
    have hr : res = false := by rw [Hrs.out]; rfl
    subst hr
    clear hB6 hB6' a2' b2'
    go_wp2_with fail
    go_ret
    exact ⟨rfl, HW6.out⟩
  | true =>
  have a3' := (hB6'.cell (p := ⟨q1, 236, none⟩) k1).trans a3.out
  have b3' := (hB6'.cell (p := ⟨q2, 236, none⟩) k2).trans b3.out
  clear hB6 hB6' a2' b2'
  go_wp2_with fail
  refine (Hq3'.out _ HB6.out).mono ?_
  rintro e w7 ⟨rfl, hB7⟩
  have HW7 := Lib.hid (HW6.out.trans (hB7.mono HW6.out.size))
  have hr : res = e3 := by rw [Hrs.out]; rfl
  subst hr
  clear hB7 a3' b3'
  go_wp2_with fail
  go_ret
  exact ⟨rfl, HW7.out⟩
end Wi
end Go.Proofs.YthcmlbbbbcinkaaDoor
