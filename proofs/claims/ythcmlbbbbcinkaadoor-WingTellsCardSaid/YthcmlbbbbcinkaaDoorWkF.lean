/-
  Layer 19 (wing): the document's examples; whether a frame is more than is asked.
-/
import Derived.Test.YthcmlbbbbcinkaaDoorWkD
set_option linter.unusedVariables false
set_option linter.unusedSimpArgs false
namespace Go.Proofs.YthcmlbbbbcinkaaDoor
open Go.RowKit Pl
attribute [local go_sem] Lb.ba_get Lb.ba_cut Lb.ba_add Lb.ba_size Lb.take_rest
namespace Wi

theorem wpList_build1G {P : Program} {ops : Array Oper} {rest : List Oper} {o : Oper} {a : Act} {w : World} {Q : Exit → Act → World → Prop} (hw : Region.wanted o (yielded ops a.tmps) = true) (t : TypeId) (i : Nat) (x : Operand) (ho : o.op = .build t #[(i, x)])
    (u : Value) (hx : a.eval x = u) (C : Array Value) (hB : P.built t [(i, u)] = some C)
    (h : wpList P ops Q rest (a.put o.dst (.agg C)) w) : wpList P ops Q (o :: rest) a w := by
  have e : ((#[(i, x)] : Array (Nat × Operand)).map fun (i, x) => (i, a.eval x)).toList = [(i, u)] := by simp [hx]
  refine BigFrame.wpList_want hw fun _ hK => ?_
  refine wp_build t _ ho ?_ ?_
  · rw [e, hB]; rfl
  · rw [e, hB]; exact hK _ _ h
def GrR (w : World) (e : Ending) (w' : World) : Prop := ∃ b : Bool, e = .returned (.bool b) ∧ Below w.heap.size w w'
set_option maxHeartbeats 4000000 in
set_option maxRecDepth 100000 in
theorem wgreat_any (f : Fm) (x : Adr) (w : World) (hok : FmOk w w.heap.size f x) : Calls Tryd.prog 7 #[.agg (f.cells x).toArray] w (GrR w) := by
  have hwf := hok.wf
  have hn1 := heap_alloc_new w (.cells (f.cells x).toArray 36)
  have hb1 := (Below.refl w.heap.size w).alloc (Nat.le_refl _) (.cells (f.cells x).toArray 36)
  have hm1 := fm_mem (x := x) hwf hn1
  obtain ⟨w1, hw1⟩ : ∃ y, y = w.alloc (.cells (f.cells x).toArray 36) := ⟨_, rfl⟩
  obtain ⟨q, hq⟩ : ∃ q, q = w.heap.size := ⟨_, rfl⟩
  rw [← hw1] at hb1 hm1
  rw [← hq] at hm1
  have c233 : w1.cell? ⟨q, 233, none⟩ = some (.slice x.PA f.parts.length x.pc) := by
    have := hm1.mani 33 (.slice x.PA f.parts.length x.pc) (by
      unfold ManiD.cells
      rw [List.getElem?_append_right (by rw [byV_length]; show (f.mani x).whole.length ≤ 33; rw [show (f.mani x).whole = f.whole from rfl, hwf.whole]; omega), byV_length, show (f.mani x).whole = f.whole from rfl, hwf.whole]
      rfl)
    exact this
  have c135 := hm1.data
  have c234 := hm1.rngs
  have c235 := hm1.items
  have c236 := hm1.mems
  obtain ⟨u1, hu1⟩ : ∃ n, n = f.parts.length := ⟨_, rfl⟩
  obtain ⟨u3, hu3⟩ : ∃ n, n = f.rngs.length := ⟨_, rfl⟩
  obtain ⟨u4, hu4⟩ : ∃ n, n = f.items.length := ⟨_, rfl⟩
  obtain ⟨u5, hu5⟩ : ∃ n, n = f.mems.length := ⟨_, rfl⟩
  obtain ⟨da, hda⟩ : ∃ n, n = f.data := ⟨_, rfl⟩
  rw [← hu1] at c233
  rw [← hda] at c135
  rw [← hu3] at c234
  rw [← hu4] at c235
  rw [← hu5] at c236
  have Hw1 := Lib.hid hw1
  have Hq := Lib.hid hq
  have HB1 := Lib.hid hb1
  clear hn1 hb1 hm1 hok hwf hu1 hu3 hu4 hu5 hda hw1 hq
  go_enter Tryd.func7, Tryd.ntmps7
  go_upto_region 1 with fail
  rw [← Hw1.out, ← Hq.out]
  by_cases h1 : (40 : Int) < (u1 : Int)
  · have d1 : decide ((40 : Int) < (u1 : Int)) = true := by simp; omega
    go_wp2_with fail
    go_ret
    exact ⟨_, rfl, HB1.out⟩
  have d1 : decide ((40 : Int) < (u1 : Int)) = false := by simp; omega
  by_cases h2 : (1000 : Int) < (da.length : Int)
  · have d2 : decide ((1000 : Int) < (da.length : Int)) = true := by simp; omega
    go_wp2_with fail
    go_ret
    exact ⟨_, rfl, HB1.out⟩
  have d2 : decide ((1000 : Int) < (da.length : Int)) = false := by simp; omega
  by_cases h3 : (40 : Int) < (u3 : Int)
  · have d3 : decide ((40 : Int) < (u3 : Int)) = true := by simp; omega
    go_wp2_with fail
    go_ret
    exact ⟨_, rfl, HB1.out⟩
  have d3 : decide ((40 : Int) < (u3 : Int)) = false := by simp; omega
  by_cases h4 : (40 : Int) < (u4 : Int)
  · have d4 : decide ((40 : Int) < (u4 : Int)) = true := by simp; omega
    go_wp2_with fail
    go_ret
    exact ⟨_, rfl, HB1.out⟩
  have d4 : decide ((40 : Int) < (u4 : Int)) = false := by simp; omega
  go_wp2_with fail
  go_ret
  exact ⟨_, rfl, HB1.out⟩
def f0 : Fm := { zFm with kind := 1, from_ := 2, seq := 5 }
def lit0 : Bs := [1, 4, 1, 2, 1, 1, 1, 2, 1, 2, 0, 1, 2, 1, 5]
theorem f0_wf : f0.Wf := (zFm_wf.put_head (by unfold I64; omega) (by unfold I64; omega)).put_seq (by unfold I64; omega)
theorem f0_good : good f0 = true := by decide +kernel
theorem f0_row : row f0 = lit0 := by
  unfold row texts fields
  show srow ([num 1, num 2, join [] memT] ++ [num 5]) = lit0
  have e1 : num 1 = [1, 1] := by simp [num, mag, be]
  have e2 : num 2 = [1, 2] := by simp [num, mag, be]
  have e5 : num 5 = [1, 5] := by simp [num, mag, be]
  have e4 : num 4 = [1, 4] := by simp [num, mag, be]
  have e0 : num 0 = [0] := by simp [num, mag, be]
  rw [e1, e2, e5]
  simp [srow, textsB, textB, join, lit0, e4, e2, e0]
def g0 : Fm := { zFm with kind := 1 }
theorem g0_good : good g0 = false := by decide +kernel
theorem g0_wf : g0.Wf := zFm_wf.put_head (f := zFm) (k := 1) (n := 0) (by unfold I64; omega) (by unfold I64; omega)
theorem built_f0 : Tryd.prog.built 36 [(0, .int .i64 1), (1, .int .i64 2), (2, .int .i64 5)] = some (f0.cells Adr.zero).toArray := by rw [built_fm, fm_fill0, fm_fill1, fm_fill2, fill_none]; rfl
theorem built_g0 : Tryd.prog.built 36 [(0, .int .i64 1)] = some (g0.cells Adr.zero).toArray := by rw [built_fm, fm_fill0, fill_none]; rfl
theorem encAns_f0 (K : List Int) : encAns K f0 = (hashB K lit0 ++ lit0, 0) := by
  unfold encAns enc
  rw [if_pos f0_good, f0_row]
set_option maxHeartbeats 8000000 in
set_option maxRecDepth 100000 in
open Classical in
theorem wawake_any (K : List Int) (w : World) (hL : Laid K w) : Calls Tryd.prog 6 #[] w fun e w' => e = .returned (.bool true) ∧ Below w.heap.size w w' := by
  have hbd := built_f0
  have hbg := built_g0
  have hiF := fm_infoR f0_wf Adr.zero
  have hoF : (f0.cells Adr.zero).toArray.all (·.oneCell') = true := by rw [List.all_toArray]; exact Fm.one _ _
  have hzF : Tryd.zeroCells36.size = (f0.cells Adr.zero).toArray.size := by rw [zero_fm, List.size_toArray, List.size_toArray, Fm.len zFm_wf, Fm.len f0_wf]
  have hok : ∀ W : World, FmOk W W.heap.size f0 Adr.zero := fun W => ⟨f0_wf, digs_none _ _ _, rows_nil _ _ _, rows_nil _ _ _, rows_nil _ _ _⟩
  have hogk : ∀ W : World, FmOk W W.heap.size g0 Adr.zero := fun W => ⟨g0_wf, digs_none _ _ _, rows_nil _ _ _, rows_nil _ _ _, rows_nil _ _ _⟩
  have hn1 := heap_alloc_new w (.cells Tryd.zeroCells36 36)
  have HE := Lib.hid (fun W (hW : Laid K W) => wencode_any K f0 Adr.zero W hW (hok W))
  have HG := Lib.hid (fun W => wgood_any f0 Adr.zero W (hok W))
  have HGg := Lib.hid (fun W => wgood_any g0 Adr.zero W (hogk W))
  rw [g0_good] at HGg
  rw [f0_good] at HG
  rw [encAns_f0] at HE
  have hhl := hashB_length K lit0
  have hencd : enc K f0 = hashB K lit0 ++ lit0 := by unfold enc; rw [f0_row]
  obtain ⟨hd, hhd⟩ : ∃ h, h = hashB K lit0 := ⟨_, rfl⟩
  obtain ⟨lt, hlt⟩ : ∃ l, l = lit0 := ⟨_, rfl⟩
  have hltl : lt.length = 15 := by rw [hlt]; rfl
  have HD := Lib.hid (fun W (hW : Laid K W) => wdecode_any K (hd ++ lt) W hW (by rw [List.length_append, hltl, hhd, hashB_length]; omega))
  have hans : ∀ f y, DecAns K (hd ++ lt) f y → y = 0 ∧ f = f0 := fun f y h => ans_enc (K := K) f0_wf f0_good (by rw [hencd, ← hhd, ← hlt]; exact h)
  have HOf := Lib.hid (fun W (A : Option Addr) (hW : Laid K W) (hA : Fts' W 0 A lt) => of_hash K A 1 lt W hW hA (by omega))
  rw [← hhd, ← hlt] at HE
  rw [← hhd] at hhl
  rw [hlt, ← hhd, ← hlt] at HOf
  have HAns := Lib.hid hans
  have HS := Lib.hid (fun (x : Adr) W (hx : FmOk W W.heap.size f0 x) => ((same_any f0 f0 Adr.zero x W (hok W) hx).mono (fun e w' h => ⟨h.1.trans (by simp), h.2⟩) : Calls Tryd.prog 10 #[.agg (f0.cells Adr.zero).toArray, .agg (f0.cells x).toArray] W fun e w' => e = .returned (.bool true) ∧ Below W.heap.size W w'))
  have hlt2 : (⟨#[1, 4, 1, 2, 1, 1, 1, 2, 1, 2, 0, 1, 2, 1, 5]⟩ : ByteArray) = ⟨lt.toArray⟩ := by rw [hlt]; rfl
  obtain ⟨R, hR⟩ : ∃ R, R = (f0.cells Adr.zero).toArray := ⟨_, rfl⟩
  obtain ⟨G, hGr⟩ : ∃ R, R = (g0.cells Adr.zero).toArray := ⟨_, rfl⟩
  rw [← hR] at hbd hiF hoF hzF HE HG HS
  rw [← hGr] at hbg HGg
  have HL := Lib.hid hL
  have fund := Tryd.underlying36
  have hds := digV_size hd
  rw [hhl] at hds
  have hdi := dig_infoL hhl
  have hd1 := digV_one hd
  have HR := Lib.hid hR
  clear hhd hlt hok hogk hencd hans hL hR hGr
  go_enter Tryd.func6, Tryd.ntmps6
  go_upto_region 2 with (first
    | (refine wpList_build3f rfl 36 _ _ _ _ _ _ rfl _ _ _ rfl rfl rfl _ hbd ?_)
    | (refine wpList_store_row rfl 36 _ _ rfl w.heap.size R rfl rfl 36 _ hn1 hiF hzF hoF ?_))
  try simp only [Act.put]
  show Code.wp _ _ _ _ ((w.alloc (.cells Tryd.zeroCells36 36)).setRow w.heap.size R)
  obtain ⟨w1, hw1⟩ : ∃ y, y = (w.alloc (.cells Tryd.zeroCells36 36)).setRow w.heap.size R := ⟨_, rfl⟩
  obtain ⟨q, hq⟩ : ∃ g, g = w.heap.size := ⟨_, rfl⟩
  have l1 := setRow_heap _ _ _ R _ _ hn1
  have o1 := ((Only.refl [q] w).alloc (.cells Tryd.zeroCells36 36)).setRow (g := q) (by simp) R
  rw [← hq] at hw1 l1 ⊢
  rw [← hw1] at l1 o1 ⊢
  have b1 : Below w.heap.size w w1 := o1.below (Nat.le_refl _) (by simp; omega)
  have HB1 := Lib.hid b1
  have HL1 := Lib.hid (HL.out.below b1)
  have L1 := Lib.hid l1
  clear hw1 hq l1 o1 b1 hn1 HL
  go_wp2_with (refine wpList_load_row rfl 36 _ rfl q rfl 36 R (0, 0) _ L1.out fund rfl hiF ?_)
  refine (HE.out _ HL1.out).mono ?_
  rintro e w2 ⟨rfl, hB⟩
  have HB2 := Lib.hid (HB1.out.trans (hB.mono HB1.out.size))
  have HL2 := Lib.hid (HL1.out.below hB)
  have L2 := Lib.hid (below_keep hB L1.out)
  clear hB HE HB1 HL1 L1
  go_upto_region 4 with fail
  rw [hlt2]
  have HOz := Lib.hid (HOf.out _ (some ⟨w2.heap.size, 0, none⟩) (HL2.out.alloc (.cells #[.string ⟨lt.toArray⟩] 9)) (fts_new w2 lt 9))
  go_wp2_with fail
  refine HOz.out.mono ?_
  rintro e w3 ⟨rfl, hB⟩
  have hB23 : Below w2.heap.size w2 w3 := ((Below.refl _ w2).alloc (Nat.le_refl _) _).trans (hB.mono (by simp))
  have HB3 := Lib.hid (HB2.out.trans (hB23.mono HB2.out.size))
  have HL3 := Lib.hid (HL2.out.below hB23)
  have L3 := Lib.hid (below_keep hB23 L2.out)
  have hn3 := heap_alloc_new w3 (.cells (digV z32) 23)
  have hsz3 : (digV z32).size = (digV hd).size := by rw [hds]; rfl
  clear hB hB23 HB2 HL2 L2 HOz HOf
  go_upto_region 5 with (refine wpList_store_row rfl 23 _ _ rfl w3.heap.size (digV hd) rfl rfl 23 (digV z32) hn3 hdi hsz3 hd1 ?_)
  try simp only [Act.put]
  show Code.wp _ _ _ _ ((w3.alloc (.cells (digV z32) 23)).setRow w3.heap.size (digV hd))
  obtain ⟨w4, hw4⟩ : ∃ y, y = (w3.alloc (.cells (digV z32) 23)).setRow w3.heap.size (digV hd) := ⟨_, rfl⟩
  obtain ⟨qd, hqd⟩ : ∃ g, g = w3.heap.size := ⟨_, rfl⟩
  have l4 := setRow_heap _ _ _ (digV hd) _ _ hn3
  have o4 := ((Only.refl [qd] w3).alloc (.cells (digV z32) 23)).setRow (g := qd) (by simp) (digV hd)
  rw [← hqd] at hw4 l4 ⊢
  rw [← hw4] at l4 o4 ⊢
  have b4 : Below w3.heap.size w3 w4 := o4.below (Nat.le_refl _) (by simp; omega)
  have HB4 := Lib.hid (HB3.out.trans (b4.mono HB3.out.size))
  have HL4 := Lib.hid (HL3.out.below b4)
  have L4 := Lib.hid (below_keep b4 L3.out)
  have hr4 : w4.rangeAt qd 0 (byV hd) := range_heap l4
  have lqd := heap_lt l4
  have Hr4 := Lib.hid hr4
  clear hw4 hqd l4 o4 b4 hn3 hsz3 HB3 HL3 L3 hr4
  have HDz := Lib.hid (HD.out w4 HL4.out)
  go_wp2_with fail
  refine HDz.out.mono ?_
  rintro e w5 ⟨f5, x5, y5, rfl, ha5, hok5, hB5⟩
  obtain ⟨rfl, rfl⟩ := HAns.out _ _ ha5
  have HB5 := Lib.hid (HB4.out.trans (hB5.mono HB4.out.size))
  have L5 := Lib.hid (below_keep hB5 L4.out)
  have Hr5 := Lib.hid (range_below Hr4.out hB5 lqd)
  have lqd5 : qd < w5.heap.size := Nat.lt_of_lt_of_le lqd hB5.size
  have hi5 := fm_infoR f0_wf x5
  have ho5 : (f0.cells x5).toArray.all (·.oneCell') = true := by rw [List.all_toArray]; exact Fm.one _ _
  have hz5 : Tryd.zeroCells36.size = (f0.cells x5).toArray.size := by rw [zero_fm, List.size_toArray, List.size_toArray, Fm.len zFm_wf, Fm.len f0_wf]
  have hn5 := heap_alloc_new w5 (.cells Tryd.zeroCells36 36)
  have Hok5 := Lib.hid hok5
  have HSz := Lib.hid (fun W hW => HS.out x5 W hW)
  obtain ⟨R5, hR5⟩ : ∃ R, R = (f0.cells x5).toArray := ⟨_, rfl⟩
  rw [← hR5] at hi5 ho5 hz5 HSz
  rw [← hR5]
  clear ha5 hok5 hB5 hR5 HB4 HL4 L4 Hr4 lqd HD HAns HDz HS
  go_upto_region 6 with (refine wpList_store_row rfl 36 _ _ rfl w5.heap.size R5 rfl rfl 36 _ hn5 hi5 hz5 ho5 ?_)
  try simp only [Act.put]
  show Code.wp _ _ _ _ ((w5.alloc (.cells Tryd.zeroCells36 36)).setRow w5.heap.size R5)
  obtain ⟨w6, hw6⟩ : ∃ y, y = (w5.alloc (.cells Tryd.zeroCells36 36)).setRow w5.heap.size R5 := ⟨_, rfl⟩
  obtain ⟨q5, hq5⟩ : ∃ g, g = w5.heap.size := ⟨_, rfl⟩
  have l6 := setRow_heap _ _ _ R5 _ _ hn5
  have o6 := ((Only.refl [q5] w5).alloc (.cells Tryd.zeroCells36 36)).setRow (g := q5) (by simp) R5
  rw [← hq5] at hw6 l6 ⊢
  rw [← hw6] at l6 o6 ⊢
  have b6 : Below w5.heap.size w5 w6 := o6.below (Nat.le_refl _) (by simp; omega)
  have HB6 := Lib.hid (HB5.out.trans (b6.mono HB5.out.size))
  have L6 := Lib.hid (below_keep b6 L5.out)
  have LR6 := Lib.hid l6
  have hc6 := conv_rng hhl (range_below Hr5.out b6 lqd5) (Nat.lt_of_lt_of_le lqd5 b6.size) w6 (Below.refl _ _)
  have HS6 := Lib.hid (HSz.out w6 ((Hok5.out.below b6 (Nat.le_refl _)).more b6.size))
  have hadd : ¬ 9223372036854775807 < hd.length + lt.length := by omega
  have hadd2 : ¬ 9223372036854775807 < 32 + lt.length := by omega
  have hadd3 : ¬ 9223372036854775807 < 32 + 15 := by omega
  clear hw6 hq5 l6 o6 b6 hn5 HB5 L5 Hr5 lqd5 HSz Hok5
  go_wp2_with (first
    | (refine wpList_load_rowX (by kernel_rfl) 36 _ rfl q rfl 36 R (0, 0) _ L6.out fund rfl hiF ?_)
    | (refine wpList_load_rowX (by kernel_rfl) 36 _ rfl q5 rfl 36 R5 (0, 0) _ LR6.out fund rfl hi5 ?_))
  refine HS6.out.mono ?_
  rintro e w7 ⟨rfl, hB⟩
  have HB7 := Lib.hid (HB6.out.trans (hB.mono HB6.out.size))
  have L7 := Lib.hid (below_keep hB L6.out)
  clear hB HB6 L6 HS6 LR6 hc6
  go_wp2_with (refine wpList_load_rowX (by kernel_rfl) 36 _ rfl q rfl 36 R (0, 0) _ L7.out fund rfl hiF ?_)
  refine (HG.out _).mono ?_
  rintro e w8 ⟨rfl, hB⟩
  have HB8 := Lib.hid (HB7.out.trans (hB.mono HB7.out.size))
  clear hB HB7 L7
  go_wp2_with (refine wpList_build1G (by kernel_rfl) 36 _ _ rfl _ rfl _ hbg ?_)
  refine (HGg.out _).mono ?_
  rintro e w9 ⟨rfl, hB⟩
  have HB9 := Lib.hid (HB8.out.trans (hB.mono HB8.out.size))
  clear hB HB8
  go_wp2_with fail
  go_ret
  exact ⟨rfl, HB9.out⟩
end Wi
end Go.Proofs.YthcmlbbbbcinkaaDoor
