/-
  Layer 17's reference: the walk of Tick.
-/
import Derived.Test.YtfbjbhddapoopaaDoorHeB
set_option linter.unusedVariables false
set_option linter.unusedSimpArgs false
namespace Go.Proofs.YtfbjbhddapoopaaDoor
open Go.RowKit
attribute [local go_sem] Lb.ba_get Lb.ba_cut Lb.ba_add Lb.ba_size Lb.take_rest

/-- nothing but the fetch's own block has turned -/
theorem rf_own {w w' : World} {S : List Nat} {p : Nat} {d d' : HlD} {r r' : RfD} (lt : ∀ k ∈ S, k < w.heap.size) (pS : p ∈ S) (hx : RfNone r d ∨ ∃ c1 c2 c3, RfHas w S p d c1 c2 c3 r) (ho : Only [p] w w') (hm' : RfMem w' p r') (hf' : r'.Fit) (hi' : RfIs r' d') (ok' : Hl.Ok d') (und' : d'.done = false → d'.blob = [])
    (e1 : d'.mani = d.mani) (e2 : d'.out = d.out) (e3 : d'.cks = d.cks) (rm : r'.m = r.m) (rh : r'.has = r.has) (r1 : r'.vc = r.vc) (r2 : r'.vd = r.vd) (r3 : r'.va = r.va) : RfAt w' S p d' := by
  refine ⟨ok', und', fun k hk => Nat.lt_of_lt_of_le (lt k hk) ho.size, pS, r', hm', hf', hi', ?_⟩
  rcases hx with hx | ⟨c1, c2, c3, hx⟩
  · exact .inl ⟨e1.trans hx.mani, rh.trans hx.has, r1.trans hx.vc, r2.trans hx.vd, r3.trans hx.va⟩
  · refine .inr ⟨c1, c2, c3, hx.turn lt (ho.mono (by simp)) ?_ (by rw [e3]) (by rw [e3]) (by rw [e3]) e1 e2 rm rh r1 r2 r3⟩
    rw [e3]; exact ho.keep hx.h3 (by simpa using hx.p3)
theorem no_asks {w : World} (B : Nat) (g : Nat) (hB : B ≤ g) (hg : g < w.heap.size) (pe : Int) (out : List UInt8) : Asks w B (.slice (some ⟨g, 0, none⟩) 0 0) pe out [] :=
  .inr ⟨g, 0, rfl, hB, ⟨Nat.le_refl _, Nat.zero_le _, hg, rfl, fun j u hu => by simp [asksCells] at hu, fun j hj => by omega⟩⟩

set_option maxHeartbeats 4000000 in
set_option maxRecDepth 100000 in
theorem rtick_closed (p : Nat) (S : List Nat) (d : HlD) (w : World) (h : RfAt w S p d) (hc : d.done = true ∨ d.failed = true) :
    Calls Tryd.prog 18 #[.pointer (some ⟨p, 0, none⟩)] w (RefPost w S p d.peer d.out (Hl.tick d).2 (Hl.tick d).1) := by
  have ht : Hl.tick d = (d, []) := by unfold Hl.tick; rw [if_pos hc]
  obtain ⟨w1, hw1⟩ : ∃ y, y = w.alloc (.cells #[] 50) := ⟨_, rfl⟩
  have b1 : Below w.heap.size w w1 := by rw [hw1]; exact (Below.refl _ w).alloc (Nat.le_refl _) _
  have hl1 : w.heap.size < w1.heap.size := by rw [hw1]; simp
  have h1 := h.below b1
  obtain ⟨ok, und, lt, pS, r, hm, hf, hi, hx⟩ := h1
  have ra := rf_all hf hm
  have k73 := ra.done
  have k74 := ra.fail
  rw [hi.done] at k73
  rw [hi.fail] at k74
  have H1 := Lib.hid (h.below b1)
  have LT := Lib.hid h.lt
  have HT := Lib.hid ht
  have Hb := Lib.hid b1
  have Hw1 := Lib.hid hw1
  have HA := Lib.hid (no_asks w.heap.size w.heap.size (Nat.le_refl _) hl1 d.peer d.out)
  obtain ⟨a, ha⟩ : ∃ a, a = d.done := ⟨_, rfl⟩
  obtain ⟨b, hb⟩ : ∃ b, b = d.failed := ⟨_, rfl⟩
  rw [← ha, ← hb] at hc
  rw [← ha] at k73
  rw [← hb] at k74
  clear h ok und lt pS hm hf hi hx ra ht b1 hw1 ha hb
  go_enter Tryd.func18, Tryd.ntmps18
  go_upto_region 2 with fail
  rw [← Hw1.out]
  have hab : a = true ∨ a = false ∧ b = true := by cases a <;> cases b <;> simp_all
  clear hc
  rcases hab with rfl | ⟨rfl, rfl⟩
  all_goals
    go_wp2_with fail
    go_ret
    rw [HT.out]
    exact ⟨_, S, rfl, HA.out, H1.out, Only.of_below Hb.out, fun k hk => .inl hk, apart_of_bag HA.out LT.out⟩

set_option maxHeartbeats 4000000 in
set_option maxRecDepth 100000 in
theorem rtick_late (p : Nat) (S : List Nat) (d : HlD) (w : World) (h : RfAt w S p d) (hd : d.done = false) (hfl : d.failed = false) (h14 : 14 < d.ticks + 1) :
    Calls Tryd.prog 18 #[.pointer (some ⟨p, 0, none⟩)] w (RefPost w S p d.peer d.out (Hl.tick d).2 (Hl.tick d).1) := by
  have htk : Hl.tick d = ({ d with ticks := d.ticks + 1, failed := true }, []) := by unfold Hl.tick; rw [if_neg (by simp [hd, hfl]), if_pos h14]
  have HT := Lib.hid htk
  clear htk
  obtain ⟨w1, hw1⟩ : ∃ y, y = w.alloc (.cells #[] 50) := ⟨_, rfl⟩
  have b1 : Below w.heap.size w w1 := by rw [hw1]; exact (Below.refl _ w).alloc (Nat.le_refl _) _
  have hl1 : w.heap.size < w1.heap.size := by rw [hw1]; simp
  obtain ⟨ok, und, lt0, pS, r, hm0, hf, hi, hx0⟩ := h
  have hm : RfMem w1 p r := below_keep b1 hm0
  have lt1 : ∀ k ∈ S, k < w1.heap.size := fun k hk => Nat.lt_of_lt_of_le (lt0 k hk) b1.size
  have hx : RfNone r d ∨ ∃ c1 c2 c3, RfHas w1 S p d c1 c2 c3 r := by
    rcases hx0 with hx | ⟨c1, c2, c3, hx⟩
    · exact .inl hx
    · exact .inr ⟨c1, c2, c3, hx.keep fun k hk => b1.block k (lt0 k hk)⟩
  have ra := rf_all hf hm
  have k73 := ra.done
  have k74 := ra.fail
  have k33 := ra.ticks
  have z33 := ra.frz 33
  rw [hi.done, hd] at k73
  rw [hi.fail, hfl] at k74
  rw [hi.ticks] at k33
  have LT := Lib.hid lt0
  have HX0 := Lib.hid hx0
  have LT1 := Lib.hid lt1
  have PS := Lib.hid pS
  have OK := Lib.hid ok
  have HU := Lib.hid und
  have Hb1 := Lib.hid b1
  have Hw1 := Lib.hid hw1
  have HX := Lib.hid hx
  have HF := Lib.hid hf
  have HI := Lib.hid hi
  have HD := Lib.hid hd
  have HFL := Lib.hid hfl
  have tlo := ok.tlo
  have thi := ok.open14 hfl
  obtain ⟨t, ht⟩ : ∃ t, t = d.ticks := ⟨_, rfl⟩
  rw [← ht] at k33 tlo thi
  have Ht := Lib.hid ht
  have hm2 := heap_setCell_same _ p 33 _ _ (.int .i64 (t + 1)) hm
  rw [rf_set33 hf (t + 1)] at hm2
  have hO2 : Only [p] w1 (w1.setCell ⟨p, 33, none⟩ (.int .i64 (t + 1))) := (Only.refl _ _).setCell (by simp) _
  have hw : IntKind.i64.wrap (t + 1) = t + 1 := IntWalk.i64_in _ (by omega)
  obtain ⟨w2, hw2⟩ : ∃ y, y = w1.setCell ⟨p, 33, none⟩ (.int .i64 (t + 1)) := ⟨_, rfl⟩
  rw [← hw2] at hm2 hO2
  have hf2 : ({ r with ticks := t + 1 } : RfD).Fit := ⟨hf.out, hf.whole⟩
  have ra2 := rf_all hf2 hm2
  have x33 := ra2.ticks
  have x68 := ra2.has
  have Hm2 : Hid (RfMem w2 p { r with ticks := t + 1 }) := Lib.hid hm2
  have HO2 := Lib.hid hO2
  have Hw2 := Lib.hid hw2
  have HF2 := Lib.hid hf2
  have HRA2 := Lib.hid ra2
  clear lt0 hx0 hm0 lt1 pS ok und b1 hw1 hx hf hi hd hfl hm hm2 hO2 hw2 ht ra ra2 hf2
  go_enter Tryd.func18, Tryd.ntmps18
  go_upto_region 2 with fail
  rw [← Hw1.out]
  go_upto_region 5 with fail
  rw [← Hw2.out]
  clear k73 k74 k33 z33 hw
  rw [← Ht.out] at h14
  clear x68
  have z74 := HRA2.out.frz 74
  have x74 := HRA2.out.fail
  go_wp2_with fail
  go_ret
  have hm3 := heap_setCell_same _ p 74 _ _ (.bool true) Hm2.out
  rw [rf_set74 HF2.out] at hm3
  have hO3 : Only [p] w1 (w2.setCell ⟨p, 74, none⟩ (.bool true)) := HO2.out.setCell (by simp) _
  have hA := no_asks (w := w2.setCell ⟨p, 74, none⟩ (.bool true)) w.heap.size w.heap.size (Nat.le_refl _) (Nat.lt_of_lt_of_le hl1 hO3.size) d.peer d.out
  rw [HT.out]
  refine ⟨_, S, rfl, hA, rf_own LT1.out PS.out HX.out hO3 hm3 ⟨HF.out.out, HF.out.whole⟩ ⟨HI.out.out, HI.out.peer, by rw [Ht.out], HI.out.text, HI.out.done, rfl⟩ (OK.out.tickF HFL.out) HU.out rfl rfl rfl rfl rfl rfl rfl rfl, ?_, fun k hk => .inl hk, apart_of_bag hA LT.out⟩
  exact ((Only.of_below Hb1.out).trans hO3).mono (by intro k hk; simp at hk; subst hk; exact PS.out)

set_option maxHeartbeats 4000000 in
set_option maxRecDepth 100000 in
theorem rtick_none (p : Nat) (S : List Nat) (d : HlD) (w : World) (h : RfAt w S p d) (hd : d.done = false) (hfl : d.failed = false) (h14 : ¬ 14 < d.ticks + 1) (hmn : d.mani = none) :
    Calls Tryd.prog 18 #[.pointer (some ⟨p, 0, none⟩)] w (RefPost w S p d.peer d.out (Hl.tick d).2 (Hl.tick d).1) := by
  have htk : Hl.tick d = if (d.ticks + 1) % 3 = 1 then ({ d with ticks := d.ticks + 1 }, [-1]) else ({ d with ticks := d.ticks + 1 }, []) := by unfold Hl.tick; rw [if_neg (by simp [hd, hfl]), if_neg h14, hmn]
  have HT := Lib.hid htk
  clear htk
  obtain ⟨w1, hw1⟩ : ∃ y, y = w.alloc (.cells #[] 50) := ⟨_, rfl⟩
  have b1 : Below w.heap.size w w1 := by rw [hw1]; exact (Below.refl _ w).alloc (Nat.le_refl _) _
  have hl1 : w.heap.size < w1.heap.size := by rw [hw1]; simp
  obtain ⟨ok, und, lt0, pS, r, hm0, hf, hi, hx0⟩ := h
  have hm : RfMem w1 p r := below_keep b1 hm0
  have lt1 : ∀ k ∈ S, k < w1.heap.size := fun k hk => Nat.lt_of_lt_of_le (lt0 k hk) b1.size
  have hx : RfNone r d ∨ ∃ c1 c2 c3, RfHas w1 S p d c1 c2 c3 r := by
    rcases hx0 with hx | ⟨c1, c2, c3, hx⟩
    · exact .inl hx
    · exact .inr ⟨c1, c2, c3, hx.keep fun k hk => b1.block k (lt0 k hk)⟩
  have ra := rf_all hf hm
  have k73 := ra.done
  have k74 := ra.fail
  have k33 := ra.ticks
  have z33 := ra.frz 33
  rw [hi.done, hd] at k73
  rw [hi.fail, hfl] at k74
  rw [hi.ticks] at k33
  have LT := Lib.hid lt0
  have HX0 := Lib.hid hx0
  have LT1 := Lib.hid lt1
  have PS := Lib.hid pS
  have OK := Lib.hid ok
  have HU := Lib.hid und
  have Hb1 := Lib.hid b1
  have Hw1 := Lib.hid hw1
  have HX := Lib.hid hx
  have HF := Lib.hid hf
  have HI := Lib.hid hi
  have HD := Lib.hid hd
  have HFL := Lib.hid hfl
  have tlo := ok.tlo
  have thi := ok.open14 hfl
  obtain ⟨t, ht⟩ : ∃ t, t = d.ticks := ⟨_, rfl⟩
  rw [← ht] at k33 tlo thi
  have Ht := Lib.hid ht
  have hm2 := heap_setCell_same _ p 33 _ _ (.int .i64 (t + 1)) hm
  rw [rf_set33 hf (t + 1)] at hm2
  have hO2 : Only [p] w1 (w1.setCell ⟨p, 33, none⟩ (.int .i64 (t + 1))) := (Only.refl _ _).setCell (by simp) _
  have hw : IntKind.i64.wrap (t + 1) = t + 1 := IntWalk.i64_in _ (by omega)
  obtain ⟨w2, hw2⟩ : ∃ y, y = w1.setCell ⟨p, 33, none⟩ (.int .i64 (t + 1)) := ⟨_, rfl⟩
  rw [← hw2] at hm2 hO2
  have hf2 : ({ r with ticks := t + 1 } : RfD).Fit := ⟨hf.out, hf.whole⟩
  have ra2 := rf_all hf2 hm2
  have x33 := ra2.ticks
  have x68 := ra2.has
  have Hm2 : Hid (RfMem w2 p { r with ticks := t + 1 }) := Lib.hid hm2
  have HO2 := Lib.hid hO2
  have Hw2 := Lib.hid hw2
  have HF2 := Lib.hid hf2
  have HRA2 := Lib.hid ra2
  clear lt0 hx0 hm0 lt1 pS ok und b1 hw1 hx hf hi hd hfl hm hm2 hO2 hw2 ht ra ra2 hf2
  go_enter Tryd.func18, Tryd.ntmps18
  go_upto_region 2 with fail
  rw [← Hw1.out]
  go_upto_region 5 with fail
  rw [← Hw2.out]
  clear k73 k74 k33 z33 hw
  have hx : RfNone r d := by
    rcases HX.out with hx | ⟨c1, c2, c3, hx⟩
    · exact hx
    · have e := hx.mani; rw [hmn] at e; cases e
  have x68' : w2.cell? ⟨p, 68, none⟩ = some (.bool false) := by rw [x68]; show some (Value.bool r.has) = _; rw [hx.has]
  have HT' : Hid (Hl.tick d = if (t + 1) % 3 = 1 then ({ d with ticks := t + 1 }, [-1]) else ({ d with ticks := t + 1 }, [])) := Lib.hid (by rw [HT.out, ← Ht.out])
  have hnew : ∀ W, Below w2.heap.size w2 W → RfAt W S p { d with ticks := t + 1 } ∧ Only S w W := by
    intro W hW
    have h1 := rf_own (d' := { d with ticks := t + 1 }) LT1.out PS.out HX.out HO2.out Hm2.out HF2.out ⟨HI.out.out, HI.out.peer, rfl, HI.out.text, HI.out.done, HI.out.fail⟩ (by rw [Ht.out]; exact OK.out.tick1 HFL.out (by omega)) HU.out rfl rfl rfl rfl rfl rfl rfl rfl
    exact ⟨h1.below hW, (((Only.of_below Hb1.out).trans HO2.out).belowB (hW.mono ((Only.of_below (bs := [p]) Hb1.out).trans HO2.out).size)).mono (by intro k hk; simp at hk; subst hk; exact PS.out)⟩
  have Hnew := Lib.hid hnew
  rw [← Ht.out] at h14
  have hmod : (t + 1).tmod 3 = (t + 1) % 3 := Int.tmod_eq_emod_of_nonneg (by omega)
  have hl2 : w.heap.size < w2.heap.size := Nat.lt_of_lt_of_le hl1 HO2.out.size
  clear x68 hnew hx hmn HT
  by_cases h3 : (t + 1) % 3 = 1
  · have hb3 : ((t + 1) % 3 == 1) = true := by simp [h3]
    have htk := HT'.out
    rw [if_pos h3] at htk
    have HT := Lib.hid htk
    have Hask := Lib.hid (rget_any p { r with ticks := t + 1 } (-1) w2 HF2.out Hm2.out)
    have e1 := HI.out.out
    have e2 := HI.out.peer
    simp only [e1, e2] at Hask
    have hout : d.out.length = 32 := OK.out.out
    have HOU := Lib.hid hout
    clear htk h3 HT' e1 e2 hout
    go_upto_region 10 with fail
    go_wp2_with fail
    refine Hask.out.mono ?_
    rintro e w3 ⟨rfl, hB3⟩
    have hfit := askFr_fit d.out (-1) HOU.out
    have hR := sentRow_size d.peer hfit
    have hsrc : Src Tryd.prog 238 31 (.slice (some ⟨w3.heap.size, 0, none⟩) 1 1) 1 (sentCells d.peer (askFr d.out (-1))) (w3.alloc (.cells (sentRow d.peer (askFr d.out (-1))) 50)) := sent_src hfit (heap_alloc_new w3 _)
    have hb4 : Below w2.heap.size w2 (w3.alloc (.cells (sentRow d.peer (askFr d.out (-1))) 50)) := hB3.alloc hB3.size _
    have hA4 : Asks (w3.alloc (.cells (sentRow d.peer (askFr d.out (-1))) 50)) w.heap.size (.slice (some ⟨w.heap.size, 0, none⟩) 0 0) d.peer d.out [] := no_asks _ _ (Nat.le_refl _) (Nat.lt_of_lt_of_le hl2 hb4.size) _ _
    obtain ⟨i0, hi0, hz0, hz1, hz2⟩ := sent_parts
    have HB4 := Lib.hid hb4
    have hws : w.heap.size ≤ (w3.alloc (.cells (sentRow d.peer (askFr d.out (-1))) 50)).heap.size := Nat.le_of_lt (Nat.lt_of_lt_of_le hl2 hb4.size)
    have HHA := Lib.hid (show Bag0 (w3.alloc (.cells (sentRow d.peer (askFr d.out (-1))) 50)) w.heap.size 238 (.slice (some ⟨w.heap.size, 0, none⟩) 0 0) 0 [] from hA4)
    have Hfit := Lib.hid hfit
    clear hfit hb4 hA4 Hask hB3
    go_wp2_with (first
      | (refine wpList_sent1 rfl _ rfl _ rfl hR ?_)
      | (at_builtin; refine wpList_append_bag0 _ rfl _ _ 31 31 rfl i0 _ 408 Tryd.underlying31 hi0 hz0 hz1 hz2 (sentRow_size 0 zeroFr_fit) hws rfl HHA.out _ 1 _ rfl hsrc (by omega) (by unfold maxLen; omega) (by omega) ?_))
    intro v' w' hB' hb'
    have hA5 : Asks w' w.heap.size v' d.peer d.out [-1] := by
      unfold Asks
      simpa [asksCells] using hB'
    obtain ⟨h1, h2⟩ := Hnew.out _ HB4.out
    have H3 := Lib.hid (h1.keep hb'.size (fun k hk => hb'.block k (LT.out k hk)))
    have H4 := Lib.hid (h2.belowB hb')
    have HA5 := Lib.hid hA5
    clear hA5 hB' hb' hsrc hws hi0 hz0 hz1 hz2 hR h1 h2
    go_wp2_with fail
    go_ret
    rw [HT.out]
    exact ⟨_, S, rfl, HA5.out, H3.out, H4.out, fun k hk => .inl hk, apart_of_bag HA5.out LT.out⟩
  · have hb3 : ((t + 1) % 3 == 1) = false := by simp [h3]
    have htk := HT'.out
    rw [if_neg h3] at htk
    have HT := Lib.hid htk
    clear htk h3 HT'
    go_wp2_with fail
    go_ret
    have hA := no_asks (w := w2) w.heap.size w.heap.size (Nat.le_refl _) hl2 d.peer d.out
    obtain ⟨h1, h2⟩ := Hnew.out w2 (Below.refl _ _)
    rw [HT.out]
    exact ⟨_, S, rfl, hA, h1, h2, fun k hk => .inl hk, apart_of_bag hA LT.out⟩

set_option maxHeartbeats 4000000 in
set_option maxRecDepth 100000 in
theorem rtick_has (p : Nat) (S : List Nat) (d : HlD) (w : World) (h : RfAt w S p d) (hd : d.done = false) (hfl : d.failed = false) (h14 : ¬ 14 < d.ticks + 1) (hmn : d.mani ≠ none) :
    Calls Tryd.prog 18 #[.pointer (some ⟨p, 0, none⟩)] w (RefPost w S p d.peer d.out (Hl.tick d).2 (Hl.tick d).1) := by
  have htk : Hl.tick d = ({ d with ticks := d.ticks + 1, cks := (Hl.fill (d.ticks + 1) (Hl.again (d.ticks + 1) d.cks).1).1 }, (Hl.again (d.ticks + 1) d.cks).2 ++ (Hl.fill (d.ticks + 1) (Hl.again (d.ticks + 1) d.cks).1).2) := by
    unfold Hl.tick; rw [if_neg (by simp [hd, hfl]), if_neg h14]
    cases hq : d.mani with
    | none => exact absurd hq hmn
    | some sp => rfl
  have HT := Lib.hid htk
  clear htk
  obtain ⟨w1, hw1⟩ : ∃ y, y = w.alloc (.cells #[] 50) := ⟨_, rfl⟩
  have b1 : Below w.heap.size w w1 := by rw [hw1]; exact (Below.refl _ w).alloc (Nat.le_refl _) _
  have hl1 : w.heap.size < w1.heap.size := by rw [hw1]; simp
  obtain ⟨ok, und, lt0, pS, r, hm0, hf, hi, hx0⟩ := h
  have hm : RfMem w1 p r := below_keep b1 hm0
  have lt1 : ∀ k ∈ S, k < w1.heap.size := fun k hk => Nat.lt_of_lt_of_le (lt0 k hk) b1.size
  have hx : RfNone r d ∨ ∃ c1 c2 c3, RfHas w1 S p d c1 c2 c3 r := by
    rcases hx0 with hx | ⟨c1, c2, c3, hx⟩
    · exact .inl hx
    · exact .inr ⟨c1, c2, c3, hx.keep fun k hk => b1.block k (lt0 k hk)⟩
  have ra := rf_all hf hm
  have k73 := ra.done
  have k74 := ra.fail
  have k33 := ra.ticks
  have z33 := ra.frz 33
  rw [hi.done, hd] at k73
  rw [hi.fail, hfl] at k74
  rw [hi.ticks] at k33
  have LT := Lib.hid lt0
  have HX0 := Lib.hid hx0
  have LT1 := Lib.hid lt1
  have PS := Lib.hid pS
  have OK := Lib.hid ok
  have HU := Lib.hid und
  have Hb1 := Lib.hid b1
  have Hw1 := Lib.hid hw1
  have HX := Lib.hid hx
  have HF := Lib.hid hf
  have HI := Lib.hid hi
  have HD := Lib.hid hd
  have HFL := Lib.hid hfl
  have tlo := ok.tlo
  have thi := ok.open14 hfl
  obtain ⟨t, ht⟩ : ∃ t, t = d.ticks := ⟨_, rfl⟩
  rw [← ht] at k33 tlo thi
  have Ht := Lib.hid ht
  have hm2 := heap_setCell_same _ p 33 _ _ (.int .i64 (t + 1)) hm
  rw [rf_set33 hf (t + 1)] at hm2
  have hO2 : Only [p] w1 (w1.setCell ⟨p, 33, none⟩ (.int .i64 (t + 1))) := (Only.refl _ _).setCell (by simp) _
  have hw : IntKind.i64.wrap (t + 1) = t + 1 := IntWalk.i64_in _ (by omega)
  obtain ⟨w2, hw2⟩ : ∃ y, y = w1.setCell ⟨p, 33, none⟩ (.int .i64 (t + 1)) := ⟨_, rfl⟩
  rw [← hw2] at hm2 hO2
  have hf2 : ({ r with ticks := t + 1 } : RfD).Fit := ⟨hf.out, hf.whole⟩
  have ra2 := rf_all hf2 hm2
  have x33 := ra2.ticks
  have x68 := ra2.has
  have Hm2 : Hid (RfMem w2 p { r with ticks := t + 1 }) := Lib.hid hm2
  have HO2 := Lib.hid hO2
  have Hw2 := Lib.hid hw2
  have HF2 := Lib.hid hf2
  have HRA2 := Lib.hid ra2
  clear lt0 hx0 hm0 lt1 pS ok und b1 hw1 hx hf hi hd hfl hm hm2 hO2 hw2 ht ra ra2 hf2
  go_enter Tryd.func18, Tryd.ntmps18
  go_upto_region 2 with fail
  rw [← Hw1.out]
  go_upto_region 5 with fail
  rw [← Hw2.out]
  clear k73 k74 k33 z33 hw
  obtain ⟨c1, c2, c3, hx⟩ : ∃ c1 c2 c3, RfHas w S p d c1 c2 c3 r := by
    rcases HX0.out with hx | hx
    · exact absurd hx.mani hmn
    · exact hx
  have x68' : w2.cell? ⟨p, 68, none⟩ = some (.bool true) := by rw [x68]; show some (Value.bool r.has) = _; rw [hx.has]
  rw [← Ht.out] at h14
  have x69 : w2.cell? ⟨p, 69, none⟩ = some (.slice (some ⟨c1, 0, none⟩) d.cks.length d.cks.length) := by rw [HRA2.out.vc]; exact congrArg some hx.vc
  have x71 : w2.cell? ⟨p, 71, none⟩ = some (.slice (some ⟨c3, 0, none⟩) d.cks.length d.cks.length) := by rw [HRA2.out.va]; exact congrArg some hx.va
  have hc3 : w2.heap[c3]? = some (.cells (askV d.cks).toArray 3 (0, 0)) := HO2.out.keep (below_keep Hb1.out hx.h3) (by simpa using hx.p3)
  have hp3 := hx.p3
  have p1l : p < w1.heap.size := LT1.out p PS.out
  have p2l : p < w2.heap.size := Nat.lt_of_lt_of_le p1l HO2.out.size
  have hpw : p < w.heap.size := LT.out p PS.out
  have h3w : c3 < w.heap.size := LT.out c3 hx.s3
  have hat := OK.out.asked
  have h8 := OK.out.len
  have hok1 : Hl.Ok { d with ticks := t + 1 } := by rw [Ht.out]; exact OK.out.tick1 HFL.out (by rw [← Ht.out]; omega)
  have okA := Lib.hid (hok1.again.fill)
  rw [← Ht.out] at HT
  have la1 := Hl.again_len (t + 1) d.cks
  have la2 := Hl.again_ats (t + 1) d.cks
  have la3 := Hl.fill_ats (t + 1) (Hl.again (t + 1) d.cks).1
  have la4 := Hl.fill_len (t + 1) (Hl.again (t + 1) d.cks).1
  have HOK1 := Lib.hid hok1
  have HX' := Lib.hid hx
  have HC3 := Lib.hid hc3
  have Hp3 := Lib.hid hp3
  obtain ⟨n, hn⟩ : ∃ n, n = d.cks.length := ⟨_, rfl⟩
  have HI' := Lib.hid HI.out
  obtain ⟨T, hT⟩ : ∃ T, T = t + 1 := ⟨_, rfl⟩
  obtain ⟨cks, hcks⟩ : ∃ x, x = d.cks := ⟨_, rfl⟩
  rw [← hn] at x69 x71 h8 la1 la2
  rw [← hT] at x33 h14 HT okA la1 la2 la3 la4 HOK1 HF2 Hm2
  rw [← hcks] at hat HC3 HT la1 la2 la3 la4
  simp only [← hcks] at okA
  have Hnd := Lib.hid hn
  rw [← hcks] at hn
  have Hn := Lib.hid hn
  have Hat := Lib.hid hat
  have Hcks := Lib.hid hcks
  have HTT := Lib.hid hT
  have tl : 1 ≤ T := by omega
  have th : T ≤ 14 := by omega
  have x33' : w2.cell? ⟨p, 33, none⟩ = some (.int .i64 T) := x33
  clear hx hc3 hp3 hat hn hT hcks hok1 x68 HRA2 HX hmn Hw2 Hw1 x33 tlo thi
  have hl2 : w.heap.size < w2.heap.size := Nat.lt_of_lt_of_le hl1 HO2.out.size
  have hA0 := Lib.hid (no_asks (w := w2) w.heap.size w.heap.size (Nat.le_refl _) hl2 d.peer d.out)
  go_wp2_with fail
  go_loopw [3, 4] (fun v i wx => ∃ j : Nat, j ≤ n ∧ i = .int .i64 j ∧ Asks wx w.heap.size v d.peer d.out (Hl.againAt T cks j).2 ∧ wx.heap[c3]? = some (.cells (askV (Hl.againAt T cks j).1).toArray 3 (0, 0)) ∧ RfMem wx p { r with ticks := T } ∧ Only [p, c3] w wx) (fun _ i _ => n - (intOf i).toNat)
  case atStart => exact ⟨0, by omega, rfl, hA0.out, HC3.out, Hm2.out, (Only.of_below Hb1.out).trans (HO2.out.mono (by simp))⟩
  case round =>
    obtain ⟨j, hj, rfl, hA, hC, hmemx, hO⟩ := hrel
    have hstep : Hl.againAt T cks (j + 1) = Hl.againStep T (Hl.againAt T cks j) j := rfl
    have hlen := Hl.againAt_len T cks j
    have hb2 := Hl.againAt_bound T cks j
    have hget := Hl.againAt_get T cks j j (Nat.le_refl _)
    have rx := rf_all HF2.out hmemx
    have y33 : wr.cell? ⟨p, 33, none⟩ = some (.int .i64 T) := rx.ticks
    have y69 : wr.cell? ⟨p, 69, none⟩ = some (.slice (some ⟨c1, 0, none⟩) n n) := by rw [rx.vc]; show some r.vc = _; rw [HX'.out.vc, ← Hnd.out]
    have y71 : wr.cell? ⟨p, 71, none⟩ = some (.slice (some ⟨c3, 0, none⟩) n n) := by rw [rx.va]; show some r.va = _; rw [HX'.out.va, ← Hnd.out]
    obtain ⟨cs, hcs⟩ : ∃ cs, cs = (Hl.againAt T cks j).1 := ⟨_, rfl⟩
    obtain ⟨ats, hats⟩ : ∃ ats, ats = (Hl.againAt T cks j).2 := ⟨_, rfl⟩
    have hst3 : Hl.againAt T cks j = (cs, ats) := by rw [hcs, hats]
    rw [hst3] at hstep
    rw [← hcs] at hC hlen hget
    rw [← hats] at hA hb2
    have HA := Lib.hid hA
    have Hstep := Lib.hid hstep
    have HO' := Lib.hid hO
    have Hmemx := Lib.hid hmemx
    have Hlen := Lib.hid hlen
    have Hst := Lib.hid hst3
    have HC := Lib.hid hC
    have Hget := Lib.hid hget
    clear hcs hats hst3 hA hstep hO hmemx hlen hC hget rx
    by_cases hjn : j < n
    · have hjl : j < cs.length := by rw [Hlen.out, ← Hn.out]; exact hjn
      obtain ⟨x, hx⟩ : ∃ x, cs[j]? = some x := ⟨_, List.getElem?_eq_getElem hjl⟩
      have r3 := ask_cell HC.out hx
      have z3 : wr.frozen? ⟨c3, j, none⟩ = false := Lib.frozen_of_heap HC.out _
      obtain ⟨alo, ahi⟩ := Hat.out x (List.mem_of_getElem? (Hget.out.symm.trans hx))
      have Hx := Lib.hid hx
      have jn : (j : Int) < (n : Int) := by omega
      obtain ⟨v, hv⟩ : ∃ v, v = (if x.asked = true then x.at_ + 1 else 0) := ⟨_, rfl⟩
      rw [← hv] at r3
      have hv0 : (v != 0) = x.asked := by
        rw [hv]
        cases x.asked
        · rfl
        · simp; omega
      have hv1 : 0 ≤ v ∧ v ≤ 16 := by rw [hv]; split <;> omega
      have hv2 : x.asked = true → T + 1 - v = T - x.at_ := fun e => by rw [hv, if_pos e]; omega
      obtain ⟨vlo, vhi⟩ := hv1
      have hS := Hstep.out
      unfold Hl.againStep at hS
      rw [hx] at hS
      have hw1 : IntKind.i64.wrap (T + 1) = T + 1 := IntWalk.i64_in _ (by omega)
      have hw2 : IntKind.i64.wrap (T + 1 - v) = T + 1 - v := IntWalk.i64_in _ (by omega)
      simp only at hS
      by_cases hyes : x.asked = true ∧ 3 ≤ T - x.at_
      · rw [if_pos hyes] at hS
        have hd3 : decide ((3 : Int) ≤ T + 1 - v) = true := by rw [hv2 hyes.1]; simpa using hyes.2
        have hv0' : (v != 0) = true := by rw [hv0]; exact hyes.1
        have HS := Lib.hid hS
        have Hask1 := Lib.hid hyes.1
        clear hS hyes hv0 hv2 hv hx alo ahi
        go_upto_region 15 with fail
        go_quiet (fail)
        go_upto_region 16 with fail
        go_region
        go_upto_region 17 with fail
        have hC0 : (wr.drewN (nq + 1)).heap[c3]? = some (.cells (askV cs).toArray 3 (0, 0)) := HC.out
        have hC3 := heap_setCell_same _ c3 j _ _ (.int .i64 (T + 1)) hC0
        rw [askV_setA cs j x Hask1.out T] at hC3
        have hO3 : Only [c3] wr ((wr.drewN (nq + 1)).setCell ⟨c3, j, none⟩ (.int .i64 (T + 1))) := ((Only.refl _ _).drewN (nq + 1)).setCell (by simp) _
        obtain ⟨w5, hw5⟩ : ∃ y, y = ((wr.drewN (nq + 1)).setCell ⟨c3, j, none⟩ (.int .i64 (T + 1))) := ⟨_, rfl⟩
        rw [← hw5] at hC3 hO3 ⊢
        have hm2' : RfMem w5 p { r with ticks := T } := hO3.keep Hmemx.out (by simp; exact fun e => Hp3.out e.symm)
        have hA2 : Asks w5 w.heap.size u3 d.peer d.out ats := Bag0.only HA.out hO3 (by simp; exact h3w)
        have Hask : Hid (∀ W, RfMem W p { r with ticks := T } → Calls Tryd.prog 65 #[.pointer (some ⟨p, 0, none⟩), .int .i64 (j : Int)] W fun e w' => e = .returned (.agg (sentRow d.peer (askFr d.out (j : Int)))) ∧ Below W.heap.size W w') := Lib.hid (fun W h => by
          have := rget_any p { r with ticks := T } (j : Int) W HF2.out h
          rwa [show ({ r with ticks := T } : RfD).peer = d.peer from HI.out.peer, show ({ r with ticks := T } : RfD).out = d.out from HI.out.out] at this)
        have HC3' := Lib.hid hC3
        have HO3 := Lib.hid hO3
        have HM2 := Lib.hid hm2'
        have HA2 := Lib.hid hA2
        clear hw5 hC0 hC3 hO3 hm2' hA2 r3 z3 y33 y69 y71 HA HC hd3 hw1 hw2 hv0'
        go_wp2_with fail
        refine (Hask.out w5 HM2.out).mono ?_
        rintro e w3 ⟨rfl, hB3⟩
        have hout : d.out.length = 32 := OK.out.out
        have hfit := askFr_fit d.out (j : Int) hout
        have hR := sentRow_size d.peer hfit
        have hsrc : Src Tryd.prog 238 31 (.slice (some ⟨w3.heap.size, 0, none⟩) 1 1) 1 (sentCells d.peer (askFr d.out j)) (w3.alloc (.cells (sentRow d.peer (askFr d.out j)) 50)) := sent_src hfit (heap_alloc_new w3 _)
        have hA4 : Asks (w3.alloc (.cells (sentRow d.peer (askFr d.out j)) 50)) w.heap.size u3 d.peer d.out ats := (HA2.out.below hB3).alloc _
        have hC4 : (w3.alloc (.cells (sentRow d.peer (askFr d.out j)) 50)).heap[c3]? = _ := below_keep ((Below.refl _ w3).alloc (Nat.le_refl _) _) (below_keep hB3 HC3'.out)
        have hO4 : Only [p, c3] w (w3.alloc (.cells (sentRow d.peer (askFr d.out j)) 50)) := (((HO'.out.trans (HO3.out.mono (by simp))).belowB (hB3.mono (HO'.out.trans (HO3.out.mono (by simp))).size))).alloc _
        have hM4 : RfMem (w3.alloc (.cells (sentRow d.peer (askFr d.out j)) 50)) p { r with ticks := T } := below_keep ((Below.refl _ w3).alloc (Nat.le_refl _) _) (below_keep hB3 HM2.out)
        have HM4 := Lib.hid hM4
        obtain ⟨i0, hi0, hz0, hz1, hz2⟩ := sent_parts
        have HC4 := Lib.hid hC4
        have HO4 := Lib.hid hO4
        have hws : w.heap.size ≤ (w3.alloc (.cells (sentRow d.peer (askFr d.out j)) 50)).heap.size := hO4.size
        obtain ⟨A, cap, rfl, -, -⟩ := Bag0.shape hA4
        have HHA := Lib.hid hA4
        have Hfit := Lib.hid hfit
        clear hC4 hO4 hM4 hfit hout HC3' HO3 HM2 HA2 Hask hA4 hB3
        go_wp2_with (first
          | (refine wpList_sent1 rfl _ rfl _ rfl hR ?_)
          | (at_builtin; refine wpList_append_bag0 _ rfl _ _ 31 31 rfl i0 _ 408 Tryd.underlying31 hi0 hz0 hz1 hz2 (sentRow_size 0 zeroFr_fit) hws rfl HHA.out _ 1 _ rfl hsrc (by omega) (by unfold maxLen; omega) (by omega) ?_))
        intro v' w' hB' hb'
        have hA5 : Asks w' w.heap.size v' d.peer d.out (ats ++ [(j : Int)]) := by
          unfold Asks
          rw [asks_succ, List.length_append]
          exact hB'
        have HC5 : Hid (w'.heap[c3]? = _) := Lib.hid ((hb'.block c3 h3w).trans HC4.out)
        have HM5 : Hid (RfMem w' p { r with ticks := T }) := Lib.hid ((hb'.block p hpw).trans HM4.out)
        have HO5 := Lib.hid (HO4.out.belowB hb')
        have HA5 := Lib.hid hA5
        clear hA5 hB' hb' hsrc hws hi0 hz0 hz1 hz2 hR
        go_wp2_with fail
        go_roundw
        case rel => exact ⟨j + 1, by omega, by go_num, by rw [HS.out]; exact HA5.out, by rw [HS.out]; exact HC5.out, HM5.out, HO5.out⟩
        case measure => simp [intOf]; omega
      · rw [if_neg hyes] at hS
        have HS := Lib.hid hS
        clear hS
        by_cases ha : x.asked = true
        · have hd3 : decide ((3 : Int) ≤ T + 1 - v) = false := by rw [hv2 ha]; have h' : ¬ 3 ≤ T - x.at_ := fun h => hyes ⟨ha, h⟩; simp; omega
          have hv0' : (v != 0) = true := by rw [hv0]; exact ha
          clear hyes hv0 hv2 hv hx alo ahi ha
          go_upto_region 15 with fail
          go_quiet (fail)
          go_wp2_with fail
          go_roundw
          case rel => exact ⟨j + 1, by omega, by go_num, by rw [HS.out]; exact HA.out.below (below_drewN'' (Below.refl _ _) _), by rw [HS.out]; exact HC.out, Hmemx.out, HO'.out.drewN _⟩
          case measure => simp [intOf]; omega
        · have hv0' : (v != 0) = false := by rw [hv0]; simpa using ha
          clear hyes hv0 hv2 hv hx alo ahi ha
          go_upto_region 15 with fail
          go_quiet (fail)
          go_wp2_with fail
          go_roundw
          case rel => exact ⟨j + 1, by omega, by go_num, by rw [HS.out]; exact HA.out.below (below_drewN'' (Below.refl _ _) _), by rw [HS.out]; exact HC.out, Hmemx.out, HO'.out.drewN _⟩
          case measure => simp [intOf]; omega
    · obtain rfl : n = j := by omega
      have hag : Hl.again T cks = (cs, ats) := by unfold Hl.again; rw [← Hn.out, Hst.out]
      have hcd := Hl.againAt_cd T cks n
      rw [Hst.out] at hcd
      simp only at hcd
      rw [hag] at HT okA la1 la2 la3 la4
      simp only at HT okA la1 la2 la3 la4
      have hokc : Hl.Ok { d with ticks := T, cks := cs } := by
        have := HOK1.out.again
        simp only [← Hcks.out, hag] at this
        exact this
      have hxx : RfHas wr S p { d with ticks := T, cks := cs } c1 c2 c3 { r with ticks := T } := HX'.out.turn LT.out HO'.out HC.out (by show comeV cs = comeV d.cks; rw [hcd.1, Hcks.out]) (by show dataV cs = dataV d.cks; rw [hcd.2, Hcks.out]) (by show cs.length = d.cks.length; rw [Hlen.out, Hcks.out]) rfl rfl rfl rfl rfl rfl rfl
      have hfi := rfill_raw S p c1 c2 c3 { d with ticks := T, cks := cs } { r with ticks := T } wr hokc Hmemx.out HF2.out ⟨HI'.out.out, HI'.out.peer, rfl, HI'.out.text, HI'.out.done, HI'.out.fail⟩ hxx
      simp only at hfi
      have hfcd : comeV (Hl.fill T cs).1 = comeV cs ∧ dataV (Hl.fill T cs).1 = dataV cs := Hl.fillAt_cd _ _ _ _
      have hfl2 : (Hl.fill T cs).1.length = d.cks.length := by rw [Hl.fill_len, Hlen.out, Hcks.out]
      obtain ⟨fi, hfi'⟩ : ∃ y, y = Hl.fill T cs := ⟨_, rfl⟩
      rw [← hfi'] at hfi HT okA la3 la4 hfcd hfl2
      have Hfi := Lib.hid hfi
      have Hfcd := Lib.hid (And.intro (hfcd.1.trans hcd.1) (hfcd.2.trans hcd.2))
      have Hfl2 := Lib.hid hfl2
      obtain ⟨A1, k1, rfl, -, -⟩ := Bag0.shape HA.out
      have hout : d.out.length = 32 := OK.out.out
      have HOU := Lib.hid hout
      have HB1 := Lib.hid HA.out
      clear hfi hag hcd hokc hxx hfi' hfcd hfl2 hjn hj hout HA
      clear y71
      go_wp2_with fail
      refine Hfi.out.mono ?_
      rintro e w6 ⟨v2, rfl, hA2, hC6, hO6⟩
      have hb6 := Bag0.only HB1.out hO6 (by simp; exact h3w)
      have hM6 : RfMem w6 p { r with ticks := T } := hO6.keep Hmemx.out (by simp; exact fun e => Hp3.out e.symm)
      have hOw : Only [p, c3] w w6 := HO'.out.trans (hO6.mono (by simp))
      have hsrc := Asks.src HOU.out hA2
      obtain ⟨A2, k2, rfl, -, -⟩ := Bag0.shape hA2
      obtain ⟨i0, hi0, hz0, hz1, hz2⟩ := sent_parts
      have hws := hOw.size
      have HC6 := Lib.hid hC6
      have HM6 := Lib.hid hM6
      have HOw := Lib.hid hOw
      have HB6 := Lib.hid hb6
      clear hA2 hC6 hO6 hM6 hOw hb6 Hfi HB1
      go_wp2_with (at_builtin; refine wpList_append_bagN _ rfl _ _ 31 31 rfl i0 _ 408 Tryd.underlying31 hi0 hz0 hz1 hz2 (sentRow_size 0 zeroFr_fit) hws rfl HB6.out _ _ _ rfl hsrc (by unfold maxLen; omega) (by omega) ?_)
      intro v' w' hB' hb'
      have hA5 : Asks w' w.heap.size v' d.peer d.out (ats ++ fi.2) := by
        unfold Asks
        rw [asks_append, List.length_append]
        exact hB'
      have hC7 : w'.heap[c3]? = _ := (hb'.block c3 h3w).trans HC6.out
      have hM7 : RfMem w' p { r with ticks := T } := (hb'.block p hpw).trans HM6.out
      have hO7 := HOw.out.belowB hb'
      have HA5 := Lib.hid hA5
      have H7 : Hid (RfAt w' S p { d with ticks := T, cks := fi.1 }) := Lib.hid ⟨okA.out, HU.out, fun k hk => Nat.lt_of_lt_of_le (LT.out k hk) hO7.size, PS.out, _, hM7, HF2.out, ⟨HI'.out.out, HI'.out.peer, rfl, HI'.out.text, HI'.out.done, HI'.out.fail⟩, .inr ⟨c1, c2, c3, HX'.out.turn LT.out hO7 hC7 (by show comeV fi.1 = comeV d.cks; rw [Hfcd.out.1, Hcks.out]) (by show dataV fi.1 = dataV d.cks; rw [Hfcd.out.2, Hcks.out]) Hfl2.out rfl rfl rfl rfl rfl rfl rfl⟩⟩
      have HO7 := Lib.hid (hO7.mono (cs := S) (by intro k hk; simp at hk; rcases hk with rfl | rfl; exact PS.out; exact HX'.out.s3))
      clear hA5 hC7 hM7 hO7 hB' hb' hsrc hws hi0 hz0 hz1 hz2
      go_wp2_with fail
      go_ret
      rw [HT.out]
      exact ⟨_, S, rfl, HA5.out, H7.out, HO7.out, fun k hk => .inl hk, apart_of_bag HA5.out LT.out⟩

theorem rtick_any (p : Nat) (S : List Nat) (d : HlD) (w : World) (h : RfAt w S p d) :
    Calls Tryd.prog 18 #[.pointer (some ⟨p, 0, none⟩)] w (RefPost w S p d.peer d.out (Hl.tick d).2 (Hl.tick d).1) := by
  by_cases hc : d.done = true ∨ d.failed = true
  · exact rtick_closed p S d w h hc
  · have hd : d.done = false := by cases hq : d.done <;> simp_all
    have hfl : d.failed = false := by cases hq : d.failed <;> simp_all
    by_cases h14 : 14 < d.ticks + 1
    · exact rtick_late p S d w h hd hfl h14
    · by_cases hmn : d.mani = none
      · exact rtick_none p S d w h hd hfl h14 hmn
      · exact rtick_has p S d w h hd hfl h14 hmn
end Go.Proofs.YtfbjbhddapoopaaDoor
