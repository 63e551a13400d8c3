/-
  ShelfKeeps: what is sure stays, what was written since is there, or not, or torn: behind any loss of power. No condition: every input.
-/
import Derived.Test.YtecofehfheodhaaShN
import Derived.Deep.CutBlock
set_option linter.unusedVariables false
set_option linter.unusedSimpArgs false
namespace Go.Proofs.Ytecofehfheodhaa
open Go.RowKit Sh
attribute [local go_sem] Lb.ba_get Lb.ba_cut Lb.ba_add Lb.ba_size Lb.take_rest

theorem u64_mod200 (x : Int) (h : -9223372036854775808 ≤ x ∧ x ≤ 9223372036854775807) : ∃ u k : Nat, IntKind.u64.wrap x = (u : Int) ∧ (u : Int) ≤ 18446744073709551615 ∧ (u : Int).tmod 200 = (k : Int) ∧ IntKind.i64.wrap (k : Int) = (k : Int) ∧ k < 200 := by
  by_cases hx : 0 ≤ x
  · obtain ⟨u, rfl⟩ : ∃ u : Nat, x = u := ⟨x.toNat, by omega⟩
    exact ⟨u, u % 200, by rw [IntWalk.u64_in _ (by omega)], by omega, rfl, IntWalk.i64_in _ (by omega), by omega⟩
  · refine ⟨(x + 18446744073709551616).toNat, (x + 18446744073709551616).toNat % 200, ?_, by omega, rfl, IntWalk.i64_in _ (by omega), by omega⟩
    simp only [IntKind.wrap_u64]; omega

set_option maxRecDepth 100000 in
set_option maxHeartbeats 4000000 in
theorem shelfKeeps_core (A : Option Addr) (cap : Nat) (ds : List ActD) (x : Int) (A1 : Option Addr) (c1 : Nat) (fs : List Int) (w : World) (hA : ActsAt w w.heap.size A ds) (hl : ds.length ≤ maxLen)
    (hx1 : -9223372036854775808 ≤ x) (hx2 : x ≤ 9223372036854775807)
    (hI : Ints w w.heap.size A1 fs) (hfl : fs.length ≤ maxLen) (hfb : ∀ f ∈ fs, -9223372036854775808 ≤ f ∧ f ≤ 9223372036854775807) :
    Calls Try.prog 13 #[.slice A ds.length cap, .int .i64 x, .slice A1 fs.length c1] w fun e w' => e = .returned (.bool true) ∧ Below w.heap.size w w' := by
  unfold maxLen at hl
  have HA := Lib.hid hA
  have HI := Lib.hid hI
  have Hfl := Lib.hid hfl
  have Hfb := Lib.hid hfb
  clear hA hI hfl hfb
  obtain ⟨n, hn⟩ : ∃ n, n = ds.length := ⟨_, rfl⟩
  rw [← hn] at hl ⊢
  have Hn := Lib.hid hn
  clear hn
  obtain ⟨u, k, hu, hub, hk, hkw, hk200⟩ := u64_mod200 x ⟨hx1, hx2⟩
  go_enter Try.func13, Try.ntmps13
  go_wp2_with fail
  refine (awake4_any w).mono ?_
  rintro e w1 ⟨rfl, hB1⟩
  go_wp2_with fail
  refine (live_new w 8 w1 (by omega) hB1).mono ?_
  rintro e w2 ⟨rfl, L2⟩
  obtain ⟨g, hg⟩ : ∃ g, g = w1.heap.size := ⟨_, rfl⟩
  obtain ⟨b, hb⟩ : ∃ b, b = w1.heap.size + 1 := ⟨_, rfl⟩
  rw [← hb, ← hg] at L2
  rw [← hb]
  clear hb hg hB1
  go_wp2_with fail
  refine (live_arm L2 k (by omega)).mono ?_
  rintro e w3 ⟨rfl, L3⟩
  obtain ⟨s0, hs0⟩ : ∃ s0, s0 = St.arm (St.new 8) k := ⟨_, rfl⟩
  rw [← hs0] at L3
  have t0 : Tidy s0 := by rw [hs0]; exact tidy_new 8
  have d0 : s0.pw.down = false := by rw [hs0]; rfl
  have l0 : s0.slots = List.replicate 8 slot0 := by rw [hs0]; rfl
  clear hs0 L2 hu hk hkw hk200 hub
  go_upto_block 0 with fail
  obtain ⟨hb4, ho4⟩ := beside_new w3
  obtain ⟨w4, hw4⟩ : ∃ w4, w4 = (((w3.alloc (.cells #[.string ⟨#[]⟩, .string ⟨#[]⟩, .string ⟨#[]⟩, .string ⟨#[]⟩, .string ⟨#[]⟩, .string ⟨#[]⟩, .string ⟨#[]⟩, .string ⟨#[]⟩] 54)).alloc (.cells #[.string ⟨#[]⟩, .string ⟨#[]⟩, .string ⟨#[]⟩, .string ⟨#[]⟩, .string ⟨#[]⟩, .string ⟨#[]⟩, .string ⟨#[]⟩, .string ⟨#[]⟩] 54)).alloc (.cells #[.bool false, .bool false, .bool false, .bool false, .bool false, .bool false, .bool false, .bool false] 69)) := ⟨_, rfl⟩
  rw [← hw4] at hb4 ho4 ⊢
  have hbq := heap_lt L3.here.pw
  have hgq := heap_lt L3.here.slots
  have hq0 := L3.old.size
  have L4 := L3.apart ho4 (by simp) (by simp) (by simp)
  obtain ⟨q1, hq1⟩ : ∃ q1, q1 = w3.heap.size := ⟨_, rfl⟩
  obtain ⟨q2, hq2⟩ : ∃ q2, q2 = w3.heap.size + 1 := ⟨_, rfl⟩
  obtain ⟨q3, hq3⟩ : ∃ q3, q3 = w3.heap.size + 1 + 1 := ⟨_, rfl⟩
  rw [← hq3, ← hq2, ← hq1, ← l0] at hb4
  rw [← hq3, ← hq2, ← hq1]
  have l8 : s0.slots.length = 8 := by rw [l0]; rfl
  have n1 : q1 ≠ b ∧ q1 ≠ g ∧ q2 ≠ b ∧ q2 ≠ g ∧ q3 ≠ b ∧ q3 ≠ g ∧ q1 ≠ q2 ∧ q1 ≠ q3 ∧ q2 ≠ q3 := by omega
  have n2 : w.heap.size ≤ q1 ∧ w.heap.size ≤ q2 ∧ w.heap.size ≤ q3 := by omega
  have N1 := Lib.hid n1
  have N2 := Lib.hid n2
  have Hb4 := Lib.hid hb4
  clear hq1 hq2 hq3 hw4 hb4 hbq hgq hq0 n1 n2 l0 ho4 L3
  go_cut [7] from 11 to 79 (fun v wx => v = .pointer (some ⟨b, 0, none⟩) ∧ ∃ s, Beside wx q1 q2 q3 s.slots ∧ Live w wx b g s 10 ∧ s.slots.length = 8 ∧ Tidy s)
  case first =>
    go_wp2_with fail
    go_loopw [11] (fun p wr => ∃ (i : Nat) (s : St), i ≤ n ∧ i ≤ 150 ∧ p = .int .i64 i ∧ s.pw.down = false ∧ s.slots.length = 8 ∧ Tidy s ∧ Beside wr q1 q2 q3 s.slots ∧ Live w wr b g s (4 * (150 - i) + 10)) (fun p _ => 150 - (intOf p).toNat)
    case atStart => exact ⟨0, s0, by omega, by omega, rfl, d0, l8, t0, Hb4.out, L4.less (by omega)⟩
    case round =>
      clear L4 Hb4 t0 d0 l8
      obtain ⟨i, s, hi, hi2, rfl, hd, h8, ht, hB, L⟩ := hrel
      have Hd := Lib.hid hd
      have Ht := Lib.hid ht
      have HB := Lib.hid hB
      clear hd ht hB
      go_upto_region 9 with fail
      go_cut [40] from 33 to 79 (fun v wx => v = .bool (decide (i < n ∧ i < 150)) ∧ wx = wr)
      case first =>
        by_cases h1 : i < n
        · have j1 : (i : Int) < (n : Int) := by omega
          by_cases h2 : i < 150
          · have j2 : (i : Int) < 150 := by omega
            go_wp2_with fail
            go_meet
            case rel => exact ⟨by simp [h1, h2], rfl⟩
          · have j2 : ¬ ((i : Int) < 150) := by omega
            go_wp2_with fail
            go_meet
            case rel => exact ⟨by simp [h2], rfl⟩
        · have j1 : ¬ ((i : Int) < (n : Int)) := by omega
          go_wp2_with fail
          go_meet
          case rel => exact ⟨by simp [h1], rfl⟩
      obtain ⟨rfl, rfl⟩ := hcut
      by_cases hin : i < n ∧ i < 150
      · have hdec : decide (i < n ∧ i < 150) = true := by simp [hin]
        rw [hdec]
        obtain ⟨hin, hi150⟩ := hin
        obtain ⟨a, hAe, ha⟩ := (HA.out.below L.old (Nat.le_refl _)) i (by rw [← Hn.out]; exact hin)
        subst hAe
        have r0 : wc.cell? (a.add (i * 4)) = _ := ha.c0
        have r1 : wc.cell? ⟨(a.add (i * 4)).block, (a.add (i * 4)).off + 1, none⟩ = _ := ha.c1
        have r2 : wc.cell? ⟨(a.add (i * 4)).block, (a.add (i * 4)).off + 2, none⟩ = _ := ha.c2
        have r3 : wc.cell? ⟨(a.add (i * 4)).block, (a.add (i * 4)).off + 3, none⟩ = _ := ha.c3
        have rb := ha.ab
        have rk := ha.kb
        have rt := ha.tl
        obtain ⟨d, hd⟩ : ∃ d, d = ds[i]'(by rw [← Hn.out]; exact hin) := ⟨_, rfl⟩
        rw [← hd] at r0 r1 r2 r3 rb rt rk
        obtain ⟨kd, x, t, A9, c9, f9⟩ := d
        simp only at r0 r1 r2 r3 rb rt rk
        obtain ⟨u', m, hu', hub', hm', hmw, hm8⟩ := u64_mod8 x rb
        have i1 : (i : Int) < (n : Int) := by omega
        have i2 : (i : Int) < 150 := by omega
        unfold maxLen at rt
        clear ha hd rb hdec
        by_cases hlong : 640 < t.length
        · have hl1 : (640 : Int) < (t.length : Int) := by omega
          go_wp2
          go_ret
          exact ⟨rfl, L.old.alloc L.old.size _⟩
        · have hl1 : ¬ ((640 : Int) < (t.length : Int)) := by omega
          go_upto_if 58 with fail
          obtain ⟨q, hq⟩ : ∃ q, q = wc.heap.size := ⟨_, rfl⟩
          have La := L.below ((Below.refl _ wc).alloc (Nat.le_refl _) (.cells #[.int .i64 kd, .int .i64 x, .string ⟨t.toArray⟩, .slice A9 f9.length c9] 52))
          have Ba := HB.out.keep ((Only.refl [] wc).alloc (.cells #[.int .i64 kd, .int .i64 x, .string ⟨t.toArray⟩, .slice A9 f9.length c9] 52)) (by simp) (by simp) (by simp)
          have hblk := heap_alloc_new wc (.cells #[.int .i64 kd, .int .i64 x, .string ⟨t.toArray⟩, .slice A9 f9.length c9] 52)
          have qs : b < q ∧ g < q ∧ q1 < q ∧ q2 < q ∧ q3 < q := by
            rw [hq]; exact ⟨heap_lt L.here.pw, heap_lt L.here.slots, heap_lt HB.out.sure, heap_lt HB.out.now, heap_lt HB.out.opn⟩
          obtain ⟨wa, hwa⟩ : ∃ wa, wa = wc.alloc (.cells #[.int .i64 kd, .int .i64 x, .string ⟨t.toArray⟩, .slice A9 f9.length c9] 52) := ⟨_, rfl⟩
          rw [← hwa] at hblk La Ba ⊢
          rw [← hq] at hblk ⊢
          have Hblk := Lib.hid hblk
          have HBa := Lib.hid Ba
          have HD := Lib.hid qs
          have Hn1 := N1
          clear hblk Ba hwa hq L HB qs r0 r1 r2 r3
          by_cases hk3 : kd = 3
          · have hb1 : (kd == 3) = true := by simp [hk3]
            have hse : St.syncErr s = s.pw.err := by unfold St.syncErr; rw [if_neg (by simp [Hd.out])]
            have Hse := Lib.hid hse
            clear hse
            go_wp2_with fail
            refine (livo_sync (k := 4 * (150 - (i + 1)) + 10 + 2) (La.less (by omega))).mono ?_
            rintro e w5 ⟨rfl, L5, ho5⟩
            rw [Hse.out]
            have hB5 := HBa.out.keep ho5 (by simp; exact ⟨N1.out.1, N1.out.2.1⟩) (by simp; exact ⟨N1.out.2.2.1, N1.out.2.2.2.1⟩) (by simp; exact ⟨N1.out.2.2.2.2.1, N1.out.2.2.2.2.2.1⟩)
            rcases err_vals s.pw with he | he
            · have hss : (St.sync s).slots = s.slots.map sure1 ∧ (St.sync s).pw.down = false := by
                unfold St.sync
                rw [if_neg (by simp [Hd.out]), if_pos he]
                exact ⟨rfl, act_up Hd.out he⟩
              obtain ⟨hss, hsd⟩ := hss
              rw [he]
              have h12 := N1.out.2.2.2.2.2.2.1
              have h13 := N1.out.2.2.2.2.2.2.2.1
              have h23 := N1.out.2.2.2.2.2.2.2.2
              have hB6 := hB5.sync h8 h12 h13 h23
              rw [← hss] at hB6
              have HB6 := Lib.hid hB6
              have HB5 := Lib.hid hB5
              have L6 := L5.apart (cs := [q1, q3]) (((Only.refl [q1, q3] w5).setRow (g := q1) (by simp) (nowCells s.slots)).setRow (g := q3) (by simp) shutCells) (by simp; exact ⟨N1.out.1.symm, N1.out.2.2.2.2.1.symm⟩) (by simp; exact ⟨N1.out.2.1.symm, N1.out.2.2.2.2.2.1.symm⟩) (by simp; exact ⟨N2.out.1, N2.out.2.2⟩)
              have Hl8 : Hid ((St.sync s).slots.length = 8) := Lib.hid (by rw [hss]; simpa using h8)
              have Hts := Lib.hid (tidy_sync Ht.out)
              have Hsd := Lib.hid hsd
              have Hh13 := Lib.hid h13
              have hsz : (nowCells s.slots).size = 8 := by rw [nowCells_size, h8]
              have hst1 : (storeCells ⟨q1, 0, none⟩ (nowCells s.slots).toList 0).run Try.prog w5 = .ok () (w5.setRow q1 (nowCells s.slots)) := store_row hB5.sure (by rw [sureCells_size, h8, hsz]) (nowCells_one _)
              have h3 : Hid ((w5.setRow q1 (nowCells s.slots)).heap[q3]? = some (.cells (openCells s.slots) 69 (0, 0))) := Lib.hid (by rw [setRow_other _ _ _ _ h13.symm]; exact hB5.opn)
              clear hB6 hss hsd hB5 L5 ho5 h12 h13 h23 he
              go_upto_region 19 with fail
              go_upto_region 20 with (refine wpList_load_row rfl 54 _ rfl q2 rfl 54 _ (0, 0) _ HB5.out.now Try.underlying54 rfl (by rw [nowCells_size, h8]; kernel_rfl) ?_)
              go_wp2_with (refine wpList_store_row rfl 69 _ _ rfl q3 shutCells rfl rfl 69 _ h3.out (by kernel_rfl) (by rw [openCells_size, h8]; rfl) (by decide +kernel) ?_)
              go_roundw
              case rel => exact ⟨i + 1, _, by omega, by omega, by go_num, Hsd.out, Hl8.out, Hts.out, HB6.out, L6.less (by omega)⟩
              case measure => simp [intOf]; omega
            · have hss : (St.sync s).slots = s.slots := by
                unfold St.sync
                rw [if_neg (by simp [Hd.out]), if_neg (by rw [he]; decide)]
              rw [he]
              have Hts := Lib.hid (tidy_sync Ht.out)
              have Hl8 : Hid ((St.sync s).slots.length = 8) := Lib.hid (by rw [hss]; exact h8)
              rw [← hss] at hB5
              have HB5 := Lib.hid hB5
              clear hss he hB5 ho5
              go_wp2_with fail
              go_meet
              case rel => exact ⟨rfl, _, HB5.out, L5.less (by omega), Hl8.out, Hts.out⟩
          · have hb1 : (kd == 3) = false := by simp [hk3]
            have d2 := Lib.cell_of_heap Hblk.out (j := 2)
            obtain ⟨sl, hsl⟩ : ∃ sl, s.slots[m]? = some sl := ⟨s.slots[m]'(by omega), List.getElem?_eq_getElem (by omega)⟩
            have hae : St.atErr s m = 0 := by unfold St.atErr; rw [if_neg (by simp [Hd.out]), if_neg (by omega)]
            have hwe : St.writeErr s m t = s.pw.err := by unfold St.writeErr; rw [if_neg (by simpa using hae), if_neg hlong]
            have hww : St.write s m t = { pw := s.pw.act, slots := setNow s.slots m t } := by unfold St.write; rw [if_neg (by simp [hae]; omega)]; rfl
            have Hwe := Lib.hid hwe
            have Hww := Lib.hid hww
            have Hsl := Lib.hid hsl
            clear hae hwe hww hsl
            go_wp2_with fail
            refine (livo_write (k := 4 * (150 - (i + 1)) + 10 + 2) (La.less (by omega)) m t (by omega)).mono ?_
            rintro e w5 ⟨rfl, L5, ho5⟩
            rw [Hwe.out]
            have hB5 := HBa.out.keep ho5 (by simp; exact ⟨N1.out.1, N1.out.2.1⟩) (by simp; exact ⟨N1.out.2.2.1, N1.out.2.2.2.1⟩) (by simp; exact ⟨N1.out.2.2.2.2.1, N1.out.2.2.2.2.2.1⟩)
            have hblk5 := ho5.keep Hblk.out (by simp; have := HD.out; omega)
            have e2 := Lib.cell_of_heap hblk5 (j := 2)
            obtain ⟨_, a2, a3⟩ := hB5.cells m Hsl.out
            have z2 : w5.frozen? ⟨q2, m, none⟩ = false := Lib.frozen_of_heap hB5.now _
            have m0 : (0 : Int) ≤ (m : Int) := by omega
            have m8 : (m : Int) < 8 := by omega
            have HB5 := Lib.hid hB5
            clear hB5 hblk5 d2
            go_upto_region 23 with fail
            have o6 : Only [q2, q3] w5 (w5.setCell ⟨q2, m, none⟩ (.string ⟨t.toArray⟩)) := (Only.refl _ _).setCell (by simp) _
            obtain ⟨w6, hw6⟩ : ∃ w6, w6 = w5.setCell ⟨q2, m, none⟩ (.string ⟨t.toArray⟩) := ⟨_, rfl⟩
            rw [← hw6] at o6 ⊢
            have h12 := N1.out.2.2.2.2.2.2.1
            have h13 := N1.out.2.2.2.2.2.2.2.1
            have h23 := N1.out.2.2.2.2.2.2.2.2
            have hS : w6.heap[q1]? = some (.cells (sureCells (setNow s.slots m t)) 54 (0, 0)) := by
              rw [← sureCells_set _ _ Hsl.out]; exact o6.keep HB5.out.sure (by simp; exact ⟨h12, h13⟩)
            have hN : w6.heap[q2]? = some (.cells (nowCells (setNow s.slots m t)) 54 (0, 0)) := by
              rw [← nowCells_set _ _ Hsl.out, hw6]; exact heap_setCell_same _ q2 m _ _ _ HB5.out.now
            have hO : w6.heap[q3]? = some (.cells (openCells s.slots) 69 (0, 0)) := by
              rw [hw6]; exact Only.keep (bs := [q2]) ((Only.refl [q2] w5).setCell (p := ⟨q2, m, none⟩) (by simp) _) HB5.out.opn (by simpa using h23.symm)
            have b3 : w6.cell? ⟨q3, m, none⟩ = some (.bool sl.opn) := by rw [Lib.cell_of_heap hO]; simp [openCells, Hsl.out]
            have z3 : w6.frozen? ⟨q3, m, none⟩ = false := Lib.frozen_of_heap hO _
            have hB7 : Beside (w6.setCell ⟨q3, m, none⟩ (.bool true)) q1 q2 q3 (St.write s m t).slots := by
              have o7 : Only [q3] w6 (w6.setCell ⟨q3, m, none⟩ (.bool true)) := (Only.refl _ _).setCell (by simp) _
              rw [Hww.out]
              refine ⟨o7.keep hS (by simpa using h13), o7.keep hN (by simpa using h23), ?_⟩
              rw [← openCells_set _ _ Hsl.out t]
              exact heap_setCell_same _ q3 m _ _ _ hO
            have L7 := L5.apart (o6.setCell (p := ⟨q3, m, none⟩) (by simp) (.bool true)) (by simp; exact ⟨N1.out.2.2.1.symm, N1.out.2.2.2.2.1.symm⟩) (by simp; exact ⟨N1.out.2.2.2.1.symm, N1.out.2.2.2.2.2.1.symm⟩) (by simp; exact ⟨N2.out.2.1, N2.out.2.2⟩)
            have Hl8 : Hid ((St.write s m t).slots.length = 8) := Lib.hid (by rw [St.write_length]; exact h8)
            have Hts := Lib.hid (tidy_write Ht.out m t)
            have HB7 := Lib.hid hB7
            clear hB7 hS hN hO h12 h13 h23 o6 hw6 HB5 L5 ho5 La HBa
            rcases err_vals s.pw with he | he
            · have hsd : (St.write s m t).pw.down = false := by rw [Hww.out]; exact act_up Hd.out he
              have Hsd := Lib.hid hsd
              rw [he]
              clear hsd he
              go_wp2_with fail
              go_roundw
              case rel => exact ⟨i + 1, _, by omega, by omega, by go_num, Hsd.out, Hl8.out, Hts.out, HB7.out, L7.less (by omega)⟩
              case measure => simp [intOf]; omega
            · rw [he]
              clear he
              go_wp2_with fail
              go_meet
              case rel => exact ⟨rfl, _, HB7.out, L7.less (by omega), Hl8.out, Hts.out⟩
      · have hdec : decide (i < n ∧ i < 150) = false := by simp [hin]
        rw [hdec]
        go_wp2_with fail
        go_meet
        case rel => exact ⟨rfl, s, HB.out, L.less (by omega), h8, Ht.out⟩
  case rest =>
    clear L4 Hb4 t0 d0 l8
    obtain ⟨rfl, s, hB, L, h8, ht⟩ := hcut
    have HB := Lib.hid hB
    have Ht := Lib.hid ht
    clear hB ht
    go_wp2_with fail
    refine (livo_off (k := 9) L).mono ?_
    rintro e w5 ⟨rfl, L5, ho5⟩
    go_wp2_with fail
    refine (livo_on L5 A1 c1 fs (L5.ints HI.out) Hfb.out Hfl.out).mono ?_
    rintro e w6 ⟨rfl, L6, ho6⟩
    have hB6 := HB.out.keep (ho5.trans ho6) (by simp; exact ⟨N1.out.1, N1.out.2.1⟩) (by simp; exact ⟨N1.out.2.2.1, N1.out.2.2.2.1⟩) (by simp; exact ⟨N1.out.2.2.2.2.1, N1.out.2.2.2.2.2.1⟩)
    obtain ⟨s2, hs2⟩ : ∃ s2, s2 = St.on (St.off s) fs := ⟨_, rfl⟩
    have hsm := L.small
    rw [← hs2] at L6
    have HB6 := Lib.hid hB6
    have Hs2 := Lib.hid hs2
    have Hsm := Lib.hid hsm
    clear HB ho5 ho6 hB6 hs2 hsm L5 L
    go_wp2_with fail
    go_loopw [15] (fun p wr => ∃ j : Nat, j ≤ 8 ∧ p = .int .i64 j ∧ Beside wr q1 q2 q3 s.slots ∧ Live w wr b g s2 9) (fun p _ => 8 - (intOf p).toNat)
    case atStart => exact ⟨0, by omega, rfl, HB6.out, L6⟩
    case round =>
      clear L6 HB6
      obtain ⟨j, hj, rfl, hB, L⟩ := hrel
      by_cases hj8 : j < 8
      · obtain ⟨sl, hsl⟩ : ∃ sl, s.slots[j]? = some sl := ⟨s.slots[j]'(by omega), List.getElem?_eq_getElem (by omega)⟩
        obtain ⟨a1, a2, a3⟩ := hB.cells j hsl
        obtain ⟨he, hc⟩ := read_back Ht.out fs j hsl
        rw [← Hs2.out] at he hc
        have hss := Hsm.out j (by omega)
        rw [(List.getElem?_eq_some_iff.1 hsl).2] at hss
        obtain ⟨nw, su, op⟩ := sl
        simp only at a1 a2 a3 hc hss
        obtain ⟨hn640, hs640⟩ := hss
        have hr := live_read L j
        rw [he] at hr
        obtain ⟨T, hT⟩ : ∃ T, T = St.read s2 j := ⟨_, rfl⟩
        rw [← hT] at hr hc
        have Hr := Lib.hid hr
        have HB := Lib.hid hB
        have j0 : (0 : Int) ≤ (j : Int) := by omega
        have j1 : (j : Int) < 8 := by omega
        clear hr he hsl hT hB
        go_wp2_with fail
        refine Hr.out.mono ?_
        rintro e w7 ⟨rfl, rfl⟩
        go_upto_region 33 with fail
        clear Hr HI Hfl Hfb HA Hn Hs2 Hsm N1 N2 Ht
        rcases hc with ⟨rfl, rfl⟩ | ⟨rfl, hc⟩
        · have hb : (T != T) = false := by simp
          go_quiet (fail)
          go_wp2
          go_roundw
          case rel => exact ⟨j + 1, by omega, by go_num, HB.out.keep (cs := []) ((Only.refl [] _).drewN _) (by simp) (by simp) (by simp), L.apart (cs := []) ((Only.refl [] _).drewN _) (by simp) (by simp) (by simp)⟩
          case measure => simp [intOf]; omega
        · by_cases h1 : T = su
          · subst h1
            have hb : (T != T) = false := by simp
            go_quiet (fail)
            go_wp2
            go_roundw
            case rel => exact ⟨j + 1, by omega, by go_num, HB.out.keep (cs := []) ((Only.refl [] _).drewN _) (by simp) (by simp) (by simp), L.apart (cs := []) ((Only.refl [] _).drewN _) (by simp) (by simp) (by simp)⟩
            case measure => simp [intOf]; omega
          · have hb1 : (T != su) = true := by simpa using h1
            have hb1' : (T == su) = false := by simpa using h1
            by_cases h2 : T = nw
            · subst h2
              have hb : (T != T) = false := by simp
              go_quiet (fail)
              go_wp2
              go_roundw
              case rel => exact ⟨j + 1, by omega, by go_num, HB.out.keep (cs := []) ((Only.refl [] _).drewN _) (by simp) (by simp) (by simp), L.apart (cs := []) ((Only.refl [] _).drewN _) (by simp) (by simp) (by simp)⟩
              case measure => simp [intOf]; omega
            · have hb2 : (T != nw) = true := by simpa using h2
              have hb2' : (T == nw) = false := by simpa using h2
              obtain ⟨z, hz, hT⟩ := (hc.resolve_left h1).resolve_left h2
              have HT : Hid (∀ w, Calls Try.prog 51 #[.string ⟨T.toArray⟩, .string ⟨nw.toArray⟩, .string ⟨su.toArray⟩] w fun e w' => e = .returned (.bool true) ∧ w' = w) := Lib.hid (fun w => torn_any T nw su z w hz hT hn640 hs640)
              clear hc hT hz
              go_quiet ((go_at_call 51; exact Calls.quiet_of_same (HT.out _)))
              go_wp2
              go_roundw
              case rel => exact ⟨j + 1, by omega, by go_num, HB.out.keep (cs := []) ((Only.refl [] _).drewN _) (by simp) (by simp) (by simp), L.apart (cs := []) ((Only.refl [] _).drewN _) (by simp) (by simp) (by simp)⟩
              case measure => simp [intOf]; omega
      · have hj9 : j = 8 := by omega
        subst hj9
        go_wp2_with fail
        refine (read_nil 0 _).mono ?_
        rintro e w7 ⟨rfl, rfl⟩
        go_wp2_with fail
        refine (write_nil 0 [] _).mono ?_
        rintro e w7 ⟨rfl, rfl⟩
        go_wp2_with fail
        refine (sync_nil _).mono ?_
        rintro e w7 ⟨rfl, rfl⟩
        go_wp2_with fail
        refine (down_nil _).mono ?_
        rintro e w7 ⟨rfl, rfl⟩
        go_wp2_with fail
        refine (len_nil _).mono ?_
        rintro e w7 ⟨rfl, rfl⟩
        go_wp2
        go_ret
        exact ⟨rfl, L.old⟩

namespace ShelfKeepsLaw
open Go.ChangeShapes Go.WideShapes Go.ChangeAt
open Go.ChangeMaps (open_string shut_string)
theorem contract (H : Type) (enc : TypeId × Value → H) (W : World) (base : Nat) (args : Array Value) (ds gs : List (DataW H)) (before : List MemPlace)
    (hval : ∀ (j : Nat) t v, Try.f13.params[j]? = some t → args[j]? = some v → Value.okWide Try.prog W .any base t v)
    (hW : DataW.Whole enc Try.prog Try.f13.params.toList Rows.shelfKeepsSpec.vars false W args.toList ds gs before) (hsz0 : (DataW.weightsEach Try.prog (Try.f13.params.toList ++ Rows.shelfKeepsSpec.plain.varTypes Try.prog) (ds ++ gs)).all (· ≤ reachBytes) = true) :
    Calls Try.prog 13 args W fun e W' => ∃ v, e = .returned v ∧ Rows.shelfKeepsSpec.post enc Try.prog Try.f13 false true false false W args v W' := by
  have hW' := hW
  obtain ⟨p, q, hA0, hV, rfl, hfz, hnd⟩ := hW
  have hA : DataW.TrodAll enc Try.prog W 0 (fun _ => true) true Try.f13.params.toList args.toList ds p := hA0
  rw [Try.params13] at hA hval
  obtain ⟨v0, vs0, d0, ds0, p0, q0, hargs, rfl, rfl, h0, r0⟩ := trodAll_cons hA
  obtain ⟨v1, vs1, d1, ds1, p1, q1, rfl, rfl, rfl, h1, r1⟩ := trodAll_cons r0
  obtain ⟨v2, vs2, d2, ds2, p2, q2, rfl, rfl, rfl, h2, r2⟩ := trodAll_cons r1
  obtain ⟨rfl, rfl, rfl⟩ := trodAll_nil r2
  obtain rfl : args = #[v0, v1, v2] := by cases args; simp_all
  obtain ⟨rfl, rfl⟩ := trodVars_none hV
  obtain ⟨A0, c0, x0, rfl, hS0, hl0⟩ := open_acts (hval 0 46 v0 rfl rfl) h0
  obtain ⟨x1, rfl, hd1, _, w1⟩ := open_int Try.underlying3 (hval 1 3 v1 rfl rfl) h1
  obtain ⟨A2, c2, x2, rfl, hS2, hl2, he2, hb2⟩ := open_intsA Try.underlying37 Try.underlying3 (by kernel_rfl) (hval 2 37 v2 rfl rfl) h2
  refine (shelfKeeps_core A0 c0 x0 x1 A2 c2 x2 W hS0 hl0 (wf_bounds w1).1 (wf_bounds w1).2 hS2 hl2 he2).mono fun e W' ⟨he, hg⟩ => ?_
  subst he
  exact ⟨_, rfl, law_post (tb := 4) laidOut_ (of_decide_eq_true (by kernel_rfl)) Try.underlying4 (by kernel_rfl) rfl rfl hW' hg⟩

set_option maxRecDepth 100000 in
theorem lifted (os : Os) (started : os.Started) (H : Type) (enc : TypeId × Value → H) :
    ReturnsInHanded {} Try.checked os 13 .any (Rows.shelfKeepsSpec.pre6 enc Try.prog Try.f13 Rows.shelfKeepsRow.domain false) (Rows.shelfKeepsSpec.post enc Try.prog Try.f13 false true false false) := by
  refine returnsInHanded_of_change_sized (C := Try.checked) ownKnob_ started (by kernel_rfl) Try.func13
    (ChangeSpec.witness6 (enc := enc) (C := Try.checked) false ⟨#[], #[.slice none 0 0, .int .i64 0, .slice none 0 0], []⟩ 8 (by kernel_rfl) (by kernel_rfl) (by kernel_rfl) (by kernel_rfl)) ?_
  intro W base args ds gs before hval hW _ hsz _
  exact contract H enc W base args ds gs before hval hW hsz

theorem proved : Rows.ShelfKeepsSaid :=
  OpenClaim.holds_of_wide 13 Try.f13 rfl rfl rfl rfl rfl rfl rfl ⟨rfl, rfl, rfl, rfl, rfl⟩ rfl rfl rfl rfl rfl (by kernel_rfl) Try.func13 (by kernel_rfl)
    (of_decide_eq_true (by kernel_rfl)) (by unfold Func.isWrapper; first | (rw [if_pos (by decide +kernel)]; kernel_rfl) | (rw [if_neg (by decide +kernel)]; exact ⟨rfl, rfl⟩))
    (fun os started H enc _ => lifted os started H enc)
end ShelfKeepsLaw

end Go.Proofs.Ytecofehfheodhaa
