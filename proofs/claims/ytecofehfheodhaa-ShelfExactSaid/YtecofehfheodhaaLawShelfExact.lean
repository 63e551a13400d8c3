/-
  ShelfExact: of every row of calls, with losses of power in any act and any fates, each answer is what the document says. No condition: every input.
-/
import Derived.Test.YtecofehfheodhaaRfF
import Derived.Test.YtecofehfheodhaaActs
import Derived.Deep.CutBlock
set_option linter.unusedVariables false
set_option linter.unusedSimpArgs false
namespace Go.Proofs.Ytecofehfheodhaa
open Go.RowKit Sh
attribute [local go_sem] Lb.ba_get Lb.ba_cut Lb.ba_add Lb.ba_size Lb.take_rest

set_option maxRecDepth 100000 in
set_option maxHeartbeats 8000000 in
theorem shelfExact_core (x : Int) (A : Option Addr) (cap : Nat) (ds : List ActD) (w : World) (hx1 : -9223372036854775808 ≤ x) (hx2 : x ≤ 9223372036854775807) (hA : ActsAt w w.heap.size A ds) (hl : ds.length ≤ maxLen) :
    Calls Try.prog 12 #[.int .i64 x, .slice A ds.length cap] w fun e w' => e = .returned (.bool true) ∧ Below w.heap.size w w' := by
  unfold maxLen at hl
  have HA := Lib.hid hA
  clear hA
  obtain ⟨n, hn⟩ : ∃ n, n = ds.length := ⟨_, rfl⟩
  rw [← hn] at hl ⊢
  have Hn := Lib.hid hn
  clear hn
  obtain ⟨m0, hm0⟩ : ∃ m0, m0 = clampN x := ⟨_, rfl⟩
  have Hm0 := Lib.hid hm0
  clear hm0
  go_enter Try.func12, Try.ntmps12
  go_wp2_with fail
  refine (awake4_any w).mono ?_
  rintro e w1 ⟨rfl, hB1⟩
  go_wp2_with fail
  refine (newz_any x m0 Hm0.out w1 ⟨hx1, hx2⟩).mono ?_
  rintro e w2 ⟨rfl, h2, hB2⟩
  go_wp2_with fail
  refine (both_new w w1 x m0 Hm0.out hB1 ⟨hx1, hx2⟩ h2 hB2 (heap_lt h2.pw)).mono ?_
  rintro e w3 ⟨rfl, g1, g2, g3, B3⟩
  obtain ⟨g, hg⟩ : ∃ g, g = w1.heap.size := ⟨_, rfl⟩
  obtain ⟨b, hb⟩ : ∃ b, b = w1.heap.size + 1 := ⟨_, rfl⟩
  obtain ⟨c, hc⟩ : ∃ c, c = w2.heap.size + 3 := ⟨_, rfl⟩
  rw [← hb, ← hg, ← hc] at B3
  rw [← hb, ← hc]
  clear hb hg hc hB1 hB2 h2
  go_wp2_with fail
  go_loopw [7] (fun p wr => ∃ (i : Nat) (s : St), i ≤ n ∧ i ≤ 150 ∧ p = .int .i64 i ∧ Both w wr b g c g1 g2 g3 s (4 * (150 - i) + 10)) (fun p _ => 150 - (intOf p).toNat)
  case atStart => exact ⟨0, _, by omega, by omega, rfl, B3.less (by omega)⟩
  case round =>
    clear B3
    obtain ⟨i, s, hi, hi2, rfl, B⟩ := hrel
    go_upto_region 6 with fail
    go_cut [29] from 22 to 138 (fun v wx => v = .bool (decide (i < n ∧ i < 150)) ∧ wx = wr)
    case first =>
      by_cases h1 : i < n
      · have j1 : (i : Int) < (n : Int) := by omega
        by_cases h2 : i < 150
        · have j2 : (i : Int) < 150 := by omega
          go_wp2_with fail
          go_meet
          case rel => exact ⟨by simp [h1, h2], rfl⟩
        · have j2 : ¬ ((i : Int) < 150) := by omega
          go_wp2_with fail
          go_meet
          case rel => exact ⟨by simp [h2], rfl⟩
      · have j1 : ¬ ((i : Int) < (n : Int)) := by omega
        go_wp2_with fail
        go_meet
        case rel => exact ⟨by simp [h1], rfl⟩
    obtain ⟨rfl, rfl⟩ := hcut
    by_cases hin : i < n ∧ i < 150
    · have hdec : decide (i < n ∧ i < 150) = true := by simp [hin]
      rw [hdec]
      obtain ⟨hin, hi150⟩ := hin
      have hI9 := (HA.out i (by rw [← Hn.out]; exact hin)).choose_spec.2.fates
      obtain ⟨a, hAe, ha⟩ := (HA.out.below B.L.old (Nat.le_refl _)) i (by rw [← Hn.out]; exact hin)
      subst hAe
      have r0 : wc.cell? (a.add (i * 4)) = _ := ha.c0
      have r1 : wc.cell? ⟨(a.add (i * 4)).block, (a.add (i * 4)).off + 1, none⟩ = _ := ha.c1
      have r2 : wc.cell? ⟨(a.add (i * 4)).block, (a.add (i * 4)).off + 2, none⟩ = _ := ha.c2
      have r3 : wc.cell? ⟨(a.add (i * 4)).block, (a.add (i * 4)).off + 3, none⟩ = _ := ha.c3
      have rb := ha.ab
      have rk := ha.kb
      have rt := ha.tl
      have rfb := ha.fb
      have rfl_ := ha.fl
      obtain ⟨d, hd⟩ : ∃ d, d = ds[i]'(by rw [← Hn.out]; exact hin) := ⟨_, rfl⟩
      rw [← hd] at r0 r1 r2 r3 rb rt rk rfb rfl_ hI9
      obtain ⟨kd, x9, t, A9, c9, f9⟩ := d
      simp only at r0 r1 r2 r3 rb rt rk rfb rfl_ hI9
      have i1 : (i : Int) < (n : Int) := by omega
      have i2 : (i : Int) < 150 := by omega
      unfold maxLen at rt
      have HI9 := Lib.hid hI9
      have Hfb := Lib.hid rfb
      have Hfl := Lib.hid rfl_
      clear ha hd hdec hI9 rfb rfl_
      go_upto_block 2 with fail
      obtain ⟨q, hq⟩ : ∃ q, q = wc.heap.size := ⟨_, rfl⟩
      have Ba := B.below ((Below.refl _ wc).alloc (Nat.le_refl _) (.cells #[.int .i64 kd, .int .i64 x9, .string ⟨t.toArray⟩, .slice A9 f9.length c9] 52))
      have hblk := heap_alloc_new wc (.cells #[.int .i64 kd, .int .i64 x9, .string ⟨t.toArray⟩, .slice A9 f9.length c9] 52)
      have qs : b < q ∧ g < q ∧ c < q ∧ g1 < q ∧ g2 < q ∧ g3 < q := by
        rw [hq]; exact ⟨heap_lt B.L.here.pw, heap_lt B.L.here.slots, heap_lt B.R.top, heap_lt B.R.now, heap_lt B.R.sure, heap_lt B.R.opn⟩
      obtain ⟨wa, hwa⟩ : ∃ wa, wa = wc.alloc (.cells #[.int .i64 kd, .int .i64 x9, .string ⟨t.toArray⟩, .slice A9 f9.length c9] 52) := ⟨_, rfl⟩
      rw [← hwa] at hblk Ba ⊢
      rw [← hq] at hblk ⊢
      have Hblk := Lib.hid hblk
      have HQ := Lib.hid qs
      clear hblk hwa hq B qs r0 r1 r2 r3
      obtain ⟨k, hk⟩ : ∃ k, k = 4 * (150 - (i + 1)) + 10 := ⟨_, rfl⟩
      have B4 := Ba.less (k' := k + 4) (by omega)
      have hkk : k ≤ 4 * (150 - (i + 1)) + 10 ∧ 4 * (150 - (i + 1)) + 10 ≤ k := by omega
      have Hkk := Lib.hid hkk
      clear Ba hk hkk
      have d1 := Lib.cell_of_heap Hblk.out (j := 1)
      have d2 := Lib.cell_of_heap Hblk.out (j := 2)
      have d3 := Lib.cell_of_heap Hblk.out (j := 3)
      go_cut [9, 10, 11, 12] from 38 to 138 (fun v1 v2 v3 v4 wx => ∃ (e : Int) (tx : List UInt8) (s' : St), v1 = .int .i64 e ∧ v2 = .int .i64 e ∧ v3 = .string ⟨tx.toArray⟩ ∧ v4 = .string ⟨tx.toArray⟩ ∧ Both w wx b g c g1 g2 g3 s' k)
      case first =>
        have hall : kd = 1 ∨ kd = 2 ∨ kd = 3 ∨ kd = 4 ∨ kd = 5 ∨ kd = 6 ∨ (kd ≠ 1 ∧ kd ≠ 2 ∧ kd ≠ 3 ∧ kd ≠ 4 ∧ kd ≠ 5 ∧ kd ≠ 6) := by omega
        rcases hall with hk | hk | hk | hk | hk | hk | hk
        · have b1 : (kd == 1) = true := by simp [hk]
          clear hk
          go_wp2_with fail
          refine (livo_write (k := k + 2) B4.L x9 t (by omega)).mono ?_
          rintro e w5 ⟨rfl, L5, ho5⟩
          have R5 := B4.left ho5
          have hb5 := ho5.keep Hblk.out (by have := HQ.out; simp; omega)
          have e1 := Lib.cell_of_heap hb5 (j := 1)
          have e2 := Lib.cell_of_heap hb5 (j := 2)
          clear hb5
          go_wp2_with fail
          refine (refwrite_any c g1 g2 g3 s x9 t w5 R5 (Pw.fits_mono B4.L.fit (by omega)) (by omega)).mono ?_
          rintro e w6 ⟨rfl, R6, ho6⟩
          have B6 := (B4.step L5 R6 ho6 (tidy_write B4.tidy x9 t)).less (k' := k) (by omega)
          clear R6 R5 L5 ho5 ho6 B4
          go_wp2_with fail
          go_meet
          case rel => exact ⟨_, [], _, rfl, rfl, rfl, rfl, B6⟩
        · have b1 : (kd == 1) = false := by simp [hk]
          have b2 : (kd == 2) = true := by simp [hk]
          clear hk
          go_wp2_with fail
          refine (live_read B4.L x9).mono ?_
          rintro e w5 ⟨rfl, rfl⟩
          go_wp2_with fail
          refine (refread_any c g1 g2 g3 s x9 _ B4.R).mono ?_
          rintro e w6 ⟨rfl, rfl⟩
          have B6 := B4.less (k' := k) (by omega)
          clear B4
          go_wp2_with fail
          go_meet
          case rel => exact ⟨_, _, _, rfl, rfl, rfl, rfl, B6⟩
        · have b1 : (kd == 1) = false := by simp [hk]
          have b2 : (kd == 2) = false := by simp [hk]
          have b3 : (kd == 3) = true := by simp [hk]
          clear hk
          go_wp2_with fail
          refine (livo_sync (k := k + 2) B4.L).mono ?_
          rintro e w5 ⟨rfl, L5, ho5⟩
          have R5 := B4.left ho5
          go_wp2_with fail
          refine (refsync_any c g1 g2 g3 s w5 R5 (Pw.fits_mono B4.L.fit (by omega))).mono ?_
          rintro e w6 ⟨rfl, R6, ho6⟩
          have B6 := (B4.step L5 R6 ho6 (tidy_sync B4.tidy)).less (k' := k) (by omega)
          clear R6 R5 L5 ho5 ho6 B4
          go_wp2_with fail
          go_meet
          case rel => exact ⟨_, [], _, rfl, rfl, rfl, rfl, B6⟩
        · have b1 : (kd == 1) = false := by simp [hk]
          have b2 : (kd == 2) = false := by simp [hk]
          have b3 : (kd == 3) = false := by simp [hk]
          have b4 : (kd == 4) = true := by simp [hk]
          clear hk
          go_wp2_with fail
          refine (livo_off (k := k + 3) B4.L).mono ?_
          rintro e w5 ⟨rfl, L5, ho5⟩
          have R5 := B4.left ho5
          go_wp2_with fail
          refine (refoff_any c g1 g2 g3 s w5 R5 (Pw.fits_mono B4.L.fit (by omega))).mono ?_
          rintro e w6 ⟨rfl, R6, ho6⟩
          have B6 := (B4.step L5 R6 (ho6.mono (by simp)) B4.tidy).less (k' := k) (by omega)
          clear R6 R5 L5 ho5 ho6 B4
          go_wp2_with fail
          go_meet
          case rel => exact ⟨0, [], _, rfl, rfl, rfl, rfl, B6⟩
        · have b1 : (kd == 1) = false := by simp [hk]
          have b2 : (kd == 2) = false := by simp [hk]
          have b3 : (kd == 3) = false := by simp [hk]
          have b4 : (kd == 4) = false := by simp [hk]
          have b5 : (kd == 5) = true := by simp [hk]
          clear hk
          go_wp2_with fail
          refine (livo_on (k := k + 4) B4.L A9 c9 f9 ((B4.fts HI9.out).sub (by simp)) Hfb.out Hfl.out).mono ?_
          rintro e w5 ⟨rfl, L5, ho5⟩
          have R5 := B4.left ho5
          have hb5 := ho5.keep Hblk.out (by have := HQ.out; simp; omega)
          have e3 := Lib.cell_of_heap hb5 (j := 3)
          have F5 : Fts w5 [c, g1, g2, g3] A9 f9 := ((B4.fts HI9.out).only ho5 (by simp)).sub (by simp)
          clear hb5
          go_wp2_with fail
          refine (refon_any c g1 g2 g3 s A9 c9 f9 w5 R5 F5 Hfb.out Hfl.out B4.L.small B4.tidy).mono ?_
          rintro e w6 ⟨rfl, R6, ho6⟩
          have B6 := (B4.step L5 R6 ho6 (tidy_on B4.tidy f9)).less (k' := k) (by omega)
          clear R6 R5 L5 ho5 ho6 B4
          go_wp2_with fail
          go_meet
          case rel => exact ⟨0, [], _, rfl, rfl, rfl, rfl, B6⟩
        · have b1 : (kd == 1) = false := by simp [hk]
          have b2 : (kd == 2) = false := by simp [hk]
          have b3 : (kd == 3) = false := by simp [hk]
          have b4 : (kd == 4) = false := by simp [hk]
          have b5 : (kd == 5) = false := by simp [hk]
          have b6 : (kd == 6) = true := by simp [hk]
          clear hk
          go_wp2_with fail
          refine (live_armo (k := k + 4) B4.L x9 rb).mono ?_
          rintro e w5 ⟨rfl, L5, ho5⟩
          have R5 := B4.left ho5
          have hb5 := ho5.keep Hblk.out (by have := HQ.out; simp; omega)
          have e1 := Lib.cell_of_heap hb5 (j := 1)
          clear hb5
          go_wp2_with fail
          refine (refarm_any c g1 g2 g3 s x9 w5 R5 rb).mono ?_
          rintro e w6 ⟨rfl, R6, ho6⟩
          have B6 := (B4.step L5 R6 (ho6.mono (by simp)) B4.tidy).less (k' := k) (by omega)
          clear R6 R5 L5 ho5 ho6 B4
          go_wp2_with fail
          go_meet
          case rel => exact ⟨0, [], _, rfl, rfl, rfl, rfl, B6⟩
        · have b1 : (kd == 1) = false := by simp [hk]
          have b2 : (kd == 2) = false := by simp [hk]
          have b3 : (kd == 3) = false := by simp [hk]
          have b4 : (kd == 4) = false := by simp [hk]
          have b5 : (kd == 5) = false := by simp [hk]
          have b6 : (kd == 6) = false := by simp [hk]
          clear hk
          have B6 := B4.less (k' := k) (by omega)
          clear B4
          go_wp2_with fail
          go_meet
          case rel => exact ⟨0, [], _, rfl, rfl, rfl, rfl, B6⟩
      clear B4 d1 d2 d3 Hblk HQ HI9 Hfb Hfl

      obtain ⟨e, tx, s', rfl, rfl, rfl, rfl, B6⟩ := hcut
      have c0 := B6.R.tops.1
      have hln128 := B6.R.len
      obtain ⟨dn, hdn⟩ : ∃ dn, dn = s'.pw.down := ⟨_, rfl⟩
      obtain ⟨ac, hac⟩ : ∃ ac, ac = s'.pw.acts := ⟨_, rfl⟩
      obtain ⟨li, hli⟩ : ∃ li, li = s'.pw.life := ⟨_, rfl⟩
      obtain ⟨ln, hln⟩ : ∃ ln, ln = s'.slots.length := ⟨_, rfl⟩
      have H45 : Hid (∀ n, Calls Try.prog 45 #[.pointer (some ⟨b, 0, none⟩)] (wc.drewN n) fun e w' => e = .returned (.bool dn) ∧ w' = wc.drewN n) := Lib.hid (fun n => by subst hdn hac hli hln; exact (down_any b g s' _ (B6.drewN n).L.here).mono fun _ _ h => ⟨h.1, h.2.symm⟩)
      have H46 : Hid (∀ n, Calls Try.prog 46 #[.pointer (some ⟨c, 0, none⟩)] (wc.drewN n) fun e w' => e = .returned (.bool dn) ∧ w' = wc.drewN n) := Lib.hid (fun n => by subst hdn hac hli hln; exact (refdown_any c g1 g2 g3 s' _ (B6.drewN n).R).mono fun _ _ h => ⟨h.1, h.2.symm⟩)
      have H47 : Hid (∀ n, Calls Try.prog 47 #[.pointer (some ⟨b, 0, none⟩)] (wc.drewN n) fun e w' => e = .returned (.int .i64 ac) ∧ w' = wc.drewN n) := Lib.hid (fun n => by subst hdn hac hli hln; exact (acts_any b g s' _ (B6.drewN n).L.here).mono fun _ _ h => ⟨h.1, h.2.symm⟩)
      have H48 : Hid (∀ n, Calls Try.prog 48 #[.pointer (some ⟨c, 0, none⟩)] (wc.drewN n) fun e w' => e = .returned (.int .i64 ac) ∧ w' = wc.drewN n) := Lib.hid (fun n => by subst hdn hac hli hln; exact (refacts_any c g1 g2 g3 s' _ (B6.drewN n).R).mono fun _ _ h => ⟨h.1, h.2.symm⟩)
      have H35 : Hid (∀ n, Calls Try.prog 35 #[.pointer (some ⟨b, 0, none⟩)] (wc.drewN n) fun e w' => e = .returned (.int .i64 li) ∧ w' = wc.drewN n) := Lib.hid (fun n => by subst hdn hac hli hln; exact (life_any b g s' _ (B6.drewN n).L.here).mono fun _ _ h => ⟨h.1, h.2.symm⟩)
      have H49 : Hid (∀ n, Calls Try.prog 49 #[.pointer (some ⟨c, 0, none⟩)] (wc.drewN n) fun e w' => e = .returned (.int .i64 li) ∧ w' = wc.drewN n) := Lib.hid (fun n => by subst hdn hac hli hln; exact (reflife_any c g1 g2 g3 s' _ (B6.drewN n).R).mono fun _ _ h => ⟨h.1, h.2.symm⟩)
      have H50 : Hid (∀ n, Calls Try.prog 50 #[.pointer (some ⟨b, 0, none⟩)] (wc.drewN n) fun e w' => e = .returned (.int .i64 ln) ∧ w' = wc.drewN n) := Lib.hid (fun n => by subst hdn hac hli hln; exact (len_any b g s' _ (B6.drewN n).L.here).mono fun _ _ h => ⟨h.1, h.2.symm⟩)
      rw [← hln] at c0 hln128
      have h1 : (tx != tx) = false := by simp
      have h2 : (dn != dn) = false := by simp
      have h3 : (e != e) = false := by simp
      clear hdn hac hli hln
      have HB := Lib.hid B6
      have HK : Hid (k ≤ 4 * (150 - (i + 1)) + 10 ∧ 4 * (150 - (i + 1)) + 10 ≤ k) := Hkk
      clear B6 Hkk HA Hn
      go_upto_region 32 with fail
      go_quiet (first | (go_at_call 45; exact Calls.quiet_of_same (H45.out _)) | (go_at_call 46; exact Calls.quiet_of_same (H46.out _)) | (go_at_call 47; exact Calls.quiet_of_same (H47.out _)) | (go_at_call 48; exact Calls.quiet_of_same (H48.out _)) | (go_at_call 35; exact Calls.quiet_of_same (H35.out _)) | (go_at_call 49; exact Calls.quiet_of_same (H49.out _)) | (go_at_call 50; exact Calls.quiet_of_same (H50.out _)))
      go_wp2
      go_roundw
      case rel => exact ⟨i + 1, s', by omega, by omega, by go_num, (HB.out.drewN _).less (by have := HK.out; omega)⟩
      case measure => simp [intOf]; omega
    · have hdec : decide (i < n ∧ i < 150) = false := by simp [hin]
      rw [hdec]
      clear HA Hn hin hdec
      have B0 := B.less (k' := 5 + 5) (by omega)
      clear B
      go_wp2_with fail
      refine (livo_off (k := 9) B0.L).mono ?_
      rintro e w5 ⟨rfl, L5, ho5⟩
      have R5 := B0.left ho5
      go_wp2_with fail
      refine (refoff_any c g1 g2 g3 s w5 R5 (Pw.fits_mono B0.L.fit (by omega))).mono ?_
      rintro e w6 ⟨rfl, R6, ho6⟩
      have B6 := B0.step L5 R6 (ho6.mono (by simp)) B0.tidy
      clear R6 R5 L5 ho5 ho6 B0
      go_wp2_with fail
      refine (livo_on (k := 9) B6.L none 0 [] (B6.L.nofts none) (by simp) (by decide)).mono ?_
      rintro e w7 ⟨rfl, L7, ho7⟩
      have R7 := B6.left ho7
      go_wp2_with fail
      refine (refon_any c g1 g2 g3 _ none 0 [] w7 R7 (fun i hi => absurd hi (by simp)) (by simp) (by decide) B6.L.small B6.tidy).mono ?_
      rintro e w8 ⟨rfl, R8, ho8⟩
      have B8 := B6.step L7 R8 ho8 (tidy_on B6.tidy [])
      obtain ⟨s8, hs8⟩ : ∃ s8, s8 = St.on (St.off s) [] := ⟨_, rfl⟩
      rw [← hs8] at B8
      have hup : s8.pw.down = false := by
        rw [hs8]
        have hd : (St.off s).pw.down = true := by unfold St.off Pw.off; split <;> simp_all
        unfold St.on
        rw [if_pos hd]
      have Hup := Lib.hid hup
      clear R8 R7 L7 ho7 ho8 B6 hs8 hup
      obtain ⟨ln, hln⟩ : ∃ ln, ln = s8.slots.length := ⟨_, rfl⟩
      have Hln := Lib.hid hln
      have hl128 : ln ≤ 128 := by rw [hln]; exact B8.R.len
      clear hln
      go_wp2_with fail
      go_loop [13] (fun p => ∃ j : Nat, j ≤ ln ∧ p = .int .i64 j) (fun p => ln - (intOf p).toNat)
      case atStart => exact ⟨0, by omega, rfl⟩
      case round =>
        obtain ⟨j, hj, rfl⟩ := hrel
        have Hlen : Hid (Calls Try.prog 50 #[.pointer (some ⟨b, 0, none⟩)] w8 fun e w' => e = .returned (.int .i64 ln) ∧ w8 = w') := Lib.hid (by rw [Hln.out]; exact len_any b g s8 w8 B8.L.here)
        by_cases hjn : j < ln
        · have hj' : j < s8.slots.length := by rw [← Hln.out]; exact hjn
          obtain ⟨sl, hsl⟩ : ∃ sl, s8.slots[j]? = some sl := ⟨_, List.getElem?_eq_getElem hj'⟩
          have he : St.atErr s8 j = 0 := by unfold St.atErr; rw [if_neg (by simp [Hup.out]), if_neg (by omega)]
          have hrd : St.read s8 j = sl.now := by unfold St.read; rw [if_neg (by simpa using he)]; simp [hsl]
          have hr := live_read B8.L j
          rw [he, hrd] at hr
          obtain ⟨a1, -, -⟩ := B8.R.cell j hsl
          have c0 := B8.R.tops.1
          rw [← Hln.out] at c0
          obtain ⟨tx, htx⟩ : ∃ tx, tx = sl.now := ⟨_, rfl⟩
          rw [← htx] at a1 hr
          have Hr := Lib.hid hr
          have j0 : (0 : Int) ≤ (j : Int) := by omega
          have j1 : (j : Int) < (ln : Int) := by omega
          have h1 : (tx != tx) = false := by simp
          clear hr he hrd hsl htx hj'
          go_wp2_with fail
          refine Hlen.out.mono ?_
          rintro e w9 ⟨rfl, rfl⟩
          go_wp2_with fail
          refine Hr.out.mono ?_
          rintro e w9 ⟨rfl, rfl⟩
          go_wp2
          go_round
          case rel => exact ⟨j + 1, by omega, by go_num⟩
          case measure => simp [intOf]; omega
        · have hjn' : j = ln := by omega
          subst hjn'
          go_wp2_with fail
          refine Hlen.out.mono ?_
          rintro e w9 ⟨rfl, rfl⟩
          go_wp2
          go_ret
          exact ⟨rfl, B8.L.old⟩

namespace ShelfExactLaw
open Go.ChangeShapes Go.WideShapes Go.ChangeAt
open Go.ChangeMaps (open_string shut_string)
theorem contract (H : Type) (enc : TypeId × Value → H) (W : World) (base : Nat) (args : Array Value) (ds gs : List (DataW H)) (before : List MemPlace)
    (hval : ∀ (j : Nat) t v, Try.f12.params[j]? = some t → args[j]? = some v → Value.okWide Try.prog W .any base t v)
    (hW : DataW.Whole enc Try.prog Try.f12.params.toList Rows.shelfExactSpec.vars false W args.toList ds gs before) (hsz0 : (DataW.weightsEach Try.prog (Try.f12.params.toList ++ Rows.shelfExactSpec.plain.varTypes Try.prog) (ds ++ gs)).all (· ≤ reachBytes) = true) :
    Calls Try.prog 12 args W fun e W' => ∃ v, e = .returned v ∧ Rows.shelfExactSpec.post enc Try.prog Try.f12 false true false false W args v W' := by
  have hW' := hW
  obtain ⟨p, q, hA0, hV, rfl, hfz, hnd⟩ := hW
  have hA : DataW.TrodAll enc Try.prog W 0 (fun _ => true) true Try.f12.params.toList args.toList ds p := hA0
  rw [Try.params12] at hA hval
  obtain ⟨v0, vs0, d0, ds0, p0, q0, hargs, rfl, rfl, h0, r0⟩ := trodAll_cons hA
  obtain ⟨v1, vs1, d1, ds1, p1, q1, rfl, rfl, rfl, h1, r1⟩ := trodAll_cons r0
  obtain ⟨rfl, rfl, rfl⟩ := trodAll_nil r1
  obtain rfl : args = #[v0, v1] := by cases args; simp_all
  obtain ⟨rfl, rfl⟩ := trodVars_none hV
  obtain ⟨x0, rfl, hd0, _, w0⟩ := open_int Try.underlying3 (hval 0 3 v0 rfl rfl) h0
  obtain ⟨A1, c1, x1, rfl, hS1, hl1⟩ := open_acts (hval 1 46 v1 rfl rfl) h1
  refine (shelfExact_core x0 A1 c1 x1 W (wf_bounds w0).1 (wf_bounds w0).2 hS1 hl1).mono fun e W' ⟨he, hg⟩ => ?_
  subst he
  exact ⟨_, rfl, law_post (tb := 4) laidOut_ (of_decide_eq_true (by kernel_rfl)) Try.underlying4 (by kernel_rfl) rfl rfl hW' hg⟩

set_option maxRecDepth 100000 in
theorem lifted (os : Os) (started : os.Started) (H : Type) (enc : TypeId × Value → H) :
    ReturnsInHanded {} Try.checked os 12 .any (Rows.shelfExactSpec.pre6 enc Try.prog Try.f12 Rows.shelfExactRow.domain false) (Rows.shelfExactSpec.post enc Try.prog Try.f12 false true false false) := by
  refine returnsInHanded_of_change_sized (C := Try.checked) ownKnob_ started (by kernel_rfl) Try.func12
    (ChangeSpec.witness6 (enc := enc) (C := Try.checked) false ⟨#[], #[.int .i64 0, .slice none 0 0], []⟩ 8 (by kernel_rfl) (by kernel_rfl) (by kernel_rfl) (by kernel_rfl)) ?_
  intro W base args ds gs before hval hW _ hsz _
  exact contract H enc W base args ds gs before hval hW hsz

theorem proved : Rows.ShelfExactSaid :=
  OpenClaim.holds_of_wide 12 Try.f12 rfl rfl rfl rfl rfl rfl rfl ⟨rfl, rfl, rfl, rfl, rfl⟩ rfl rfl rfl rfl rfl (by kernel_rfl) Try.func12 (by kernel_rfl)
    (of_decide_eq_true (by kernel_rfl)) (by unfold Func.isWrapper; first | (rw [if_pos (by decide +kernel)]; kernel_rfl) | (rw [if_neg (by decide +kernel)]; exact ⟨rfl, rfl⟩))
    (fun os started H enc _ => lifted os started H enc)
end ShelfExactLaw

end Go.Proofs.Ytecofehfheodhaa
