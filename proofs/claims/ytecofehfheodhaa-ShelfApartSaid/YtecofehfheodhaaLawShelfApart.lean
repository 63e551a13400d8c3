/-
  ShelfApart: what is written to other slots, and losses of power, change nothing of one that isn't written. No condition: every input.
-/
import Derived.Test.YtecofehfheodhaaShK
set_option linter.unusedVariables false
set_option linter.unusedSimpArgs false
namespace Go.Proofs.Ytecofehfheodhaa
open Go.RowKit Sh
attribute [local go_sem] Lb.ba_get Lb.ba_cut Lb.ba_add Lb.ba_size Lb.take_rest

set_option maxRecDepth 100000 in
set_option maxHeartbeats 4000000 in
theorem shelfApart_core (A : Option Addr) (cap : Nat) (ds : List ActD) (tx : List UInt8) (at_ : Int) (A1 : Option Addr) (c1 : Nat) (fs : List Int) (w : World) (hA : ActsAt w w.heap.size A ds) (hl : ds.length ≤ maxLen)
    (htx : tx.length ≤ 140737488351232) (hat1 : -9223372036854775808 ≤ at_) (hat2 : at_ ≤ 9223372036854775807)
    (hI : Ints w w.heap.size A1 fs) (hfl : fs.length ≤ maxLen) (hfb : ∀ f ∈ fs, -9223372036854775808 ≤ f ∧ f ≤ 9223372036854775807) :
    Calls Try.prog 11 #[.slice A ds.length cap, .string ⟨tx.toArray⟩, .int .i64 at_, .slice A1 fs.length c1] w fun e w' => e = .returned (.bool true) ∧ Below w.heap.size w w' := by
  unfold maxLen at hl
  have HA := Lib.hid hA
  have HI := Lib.hid hI
  have Hfl := Lib.hid hfl
  have Hfb := Lib.hid hfb
  clear hA hI hfl hfb
  obtain ⟨n, hn⟩ : ∃ n, n = ds.length := ⟨_, rfl⟩
  rw [← hn] at hl ⊢
  have Hn := Lib.hid hn
  clear hn
  by_cases hlong : 640 < tx.length
  · have hl1 : (640 : Int) < (tx.length : Int) := by omega
    go_enter Try.func11, Try.ntmps11
    go_wp2_with fail
    refine (awake4_any w).mono ?_
    rintro e w1 ⟨rfl, hB1⟩
    go_wp2_with fail
    go_ret
    exact ⟨rfl, hB1⟩
  · have hl1 : ¬ ((640 : Int) < (tx.length : Int)) := by omega
    obtain ⟨u, k, hu, hub, hk, hkw, hk8⟩ := u64_mod8 at_ ⟨hat1, hat2⟩
    obtain ⟨f1, f2, f3⟩ := held_first k hk8 tx (by omega)
    have F1 := Lib.hid f1
    have F2 := Lib.hid f2
    have F3 := Lib.hid f3
    clear f1 f2 f3
    go_enter Try.func11, Try.ntmps11
    go_wp2_with fail
    refine (awake4_any w).mono ?_
    rintro e w1 ⟨rfl, hB1⟩
    go_wp2_with fail
    refine (live_new w 8 w1 (by omega) hB1).mono ?_
    rintro e w2 ⟨rfl, L2⟩
    obtain ⟨g, hg⟩ : ∃ g, g = w1.heap.size := ⟨_, rfl⟩
    obtain ⟨b, hb⟩ : ∃ b, b = w1.heap.size + 1 := ⟨_, rfl⟩
    rw [← hb, ← hg] at L2
    rw [← hb]
    clear hb hg hB1
    go_wp2_with fail
    refine (live_write L2 k tx (by omega)).mono ?_
    rintro e w3 ⟨rfl, L3⟩
    rw [F1.out]
    go_wp2_with fail
    refine (live_sync L3).mono ?_
    rintro e w4 ⟨rfl, L4⟩
    rw [F2.out]
    go_wp2_with fail
    go_loopw [11] (fun p wr => ∃ (i : Nat) (s : St), i ≤ n ∧ i ≤ 150 ∧ p = .int .i64 i ∧ Held s k tx ∧ Live w wr b g s (6 * (150 - i) + 10)) (fun p _ => 150 - (intOf p).toNat)
    case atStart => exact ⟨0, _, by omega, by omega, rfl, F3.out, L4.less (by omega)⟩
    case round =>
      obtain ⟨i, s, hi, hi2, rfl, hc, L⟩ := hrel
      have Hc := Lib.hid hc
      clear hc
      go_upto_region 10 with fail
      go_cut [43] from 36 to 88 (fun v wx => v = .bool (decide (i < n ∧ i < 150)) ∧ wx = wr)
      case first =>
        by_cases h1 : i < n
        · have j1 : (i : Int) < (n : Int) := by omega
          by_cases h2 : i < 150
          · have j2 : (i : Int) < 150 := by omega
            go_wp2_with fail
            go_meet
            case rel => exact ⟨by simp [h1, h2], rfl⟩
          · have j2 : ¬ ((i : Int) < 150) := by omega
            go_wp2_with fail
            go_meet
            case rel => exact ⟨by simp [h2], rfl⟩
        · have j1 : ¬ ((i : Int) < (n : Int)) := by omega
          go_wp2_with fail
          go_meet
          case rel => exact ⟨by simp [h1], rfl⟩
      obtain ⟨rfl, rfl⟩ := hcut
      by_cases hin : i < n ∧ i < 150
      · have hdec : decide (i < n ∧ i < 150) = true := by simp [hin]
        rw [hdec]
        obtain ⟨hin, hi150⟩ := hin
        obtain ⟨a, hAe, ha⟩ := (HA.out.below L.old (Nat.le_refl _)) i (by rw [← Hn.out]; exact hin)
        subst hAe
        have r0 : wc.cell? (a.add (i * 4)) = _ := ha.c0
        have r1 : wc.cell? ⟨(a.add (i * 4)).block, (a.add (i * 4)).off + 1, none⟩ = _ := ha.c1
        have r2 : wc.cell? ⟨(a.add (i * 4)).block, (a.add (i * 4)).off + 2, none⟩ = _ := ha.c2
        have r3 : wc.cell? ⟨(a.add (i * 4)).block, (a.add (i * 4)).off + 3, none⟩ = _ := ha.c3
        have rb := ha.ab
        have rk := ha.kb
        have rt := ha.tl
        obtain ⟨d, hd⟩ : ∃ d, d = ds[i]'(by rw [← Hn.out]; exact hin) := ⟨_, rfl⟩
        rw [← hd] at r0 r1 r2 r3 rb rt rk
        obtain ⟨kd, x, t, A9, c9, f9⟩ := d
        simp only at r0 r1 r2 r3 rb rt rk
        obtain ⟨u', m, hu', hub', hm', hmw, hm8⟩ := u64_mod8 x rb
        have i1 : (i : Int) < (n : Int) := by omega
        have i2 : (i : Int) < 150 := by omega
        unfold maxLen at rt
        clear ha hd rb hdec
        go_upto_if 57 with fail
        obtain ⟨q, hq⟩ : ∃ q, q = wc.heap.size := ⟨_, rfl⟩
        have hbq : b < q := by rw [hq]; exact heap_lt L.here.pw
        have hgq : g < q := by rw [hq]; exact heap_lt L.here.slots
        have hblk := heap_alloc_new wc (.cells #[.int .i64 kd, .int .i64 x, .string ⟨t.toArray⟩, .slice A9 f9.length c9] 52)
        have La := (L.below ((Below.refl _ wc).alloc (Nat.le_refl _) (.cells #[.int .i64 kd, .int .i64 x, .string ⟨t.toArray⟩, .slice A9 f9.length c9] 52))).less (k' := (6 * (150 - (i + 1)) + 10) + 4 + 2) (by omega)
        rw [← hq] at hblk
        rw [← hq]
        have Hblk := Lib.hid hblk
        clear hq hblk L r0 r1 r2 r3
        go_cut [9] from 36 to 88 (fun v wx => v = .pointer (some ⟨b, 0, none⟩) ∧ wx.heap[q]? = some (.cells #[.int .i64 kd, .int .i64 x, .string ⟨t.toArray⟩, .slice A9 f9.length c9] 52 (0, 0)) ∧ ∃ s', Held s' k tx ∧ Live w wx b g s' ((6 * (150 - (i + 1)) + 10) + 4))
        case first =>
          have d2 := Lib.cell_of_heap Hblk.out (j := 2)
          by_cases hmk : m = k
          · have hb1 : ((m : Int) != (k : Int)) = false := by simp [hmk]
            go_wp2_with fail
            go_meet
            case rel => exact ⟨rfl, Hblk.out, s, Hc.out, La.less (by omega)⟩
          · have hb1 : ((m : Int) != (k : Int)) = true := by simp; omega
            go_wp2_with fail
            refine (livo_write La m t (by omega)).mono ?_
            rintro e w5 ⟨rfl, L5, ho5⟩
            go_wp2_with fail
            go_meet
            case rel => exact ⟨rfl, ho5.keep Hblk.out (by simp; omega), _, Hc.out.write m hmk t, L5⟩
        obtain ⟨rfl, hh, s', hc', L'⟩ := hcut
        clear Hblk La Hc
        have Hh := Lib.hid hh
        have Hc := Lib.hid hc'
        have d0 := Lib.cell_of_heap hh (j := 0)
        clear hh hc'
        go_upto_if 65 with fail
        go_cut [9] from 60 to 88 (fun v wx => v = .pointer (some ⟨b, 0, none⟩) ∧ wx.heap[q]? = some (.cells #[.int .i64 kd, .int .i64 x, .string ⟨t.toArray⟩, .slice A9 f9.length c9] 52 (0, 0)) ∧ ∃ s', Held s' k tx ∧ Live w wx b g s' ((6 * (150 - (i + 1)) + 10) + 2))
        case first =>
          by_cases hk3 : kd = 3
          · have hb1 : (kd == 3) = true := by simp [hk3]
            go_wp2_with fail
            refine (livo_sync L').mono ?_
            rintro e w5 ⟨rfl, L5, ho5⟩
            go_wp2_with fail
            go_meet
            case rel => exact ⟨rfl, ho5.keep Hh.out (by simp; omega), _, Hc.out.sync, L5⟩
          · have hb1 : (kd == 3) = false := by simp [hk3]
            go_wp2_with fail
            go_meet
            case rel => exact ⟨rfl, Hh.out, s', Hc.out, L'.less (by omega)⟩
        clear Hh Hc L' d0
        rename_i wd
        obtain ⟨rfl, hh, s2, hc2, L2⟩ := hcut
        have Hh := Lib.hid hh
        have Hc := Lib.hid hc2
        have d0 := Lib.cell_of_heap hh (j := 0)
        clear hh hc2
        go_upto_if 70 with fail
        go_cut [9] from 60 to 88 (fun v wx => v = .pointer (some ⟨b, 0, none⟩) ∧ ∃ s', Held s' k tx ∧ Live w wx b g s' (6 * (150 - (i + 1)) + 10))
        case first =>
          by_cases hk4 : kd = 4
          · have hb1 : (kd == 4) = true := by simp [hk4]
            go_wp2_with fail
            refine (livo_off (k := 6 * (150 - (i + 1)) + 10 + 1) L2).mono ?_
            rintro e w5 ⟨rfl, L5, ho5⟩
            go_wp2_with fail
            refine (livo_on L5 A1 c1 fs (L5.ints HI.out) Hfb.out Hfl.out).mono ?_
            rintro e w6 ⟨rfl, L6, ho6⟩
            go_wp2_with fail
            go_meet
            case rel => exact ⟨rfl, _, Hc.out.again fs, L6.less (by omega)⟩
          · have hb1 : (kd == 4) = false := by simp [hk4]
            go_wp2_with fail
            go_meet
            case rel => exact ⟨rfl, s2, Hc.out, L2.less (by omega)⟩
        clear Hh Hc L2 d0
        obtain ⟨rfl, s3, hc3, L3⟩ := hcut
        obtain ⟨he, hr⟩ := hc3.read
        have Hc := Lib.hid hc3
        have hrd := live_read L3 k
        rw [he, hr] at hrd
        have Hrd := Lib.hid hrd
        clear hrd he hr hc3
        go_wp2_with fail
        refine Hrd.out.mono ?_
        rintro e w7 ⟨rfl, rfl⟩
        go_wp2
        go_roundw
        case rel => exact ⟨i + 1, s3, by omega, by omega, by go_num, Hc.out, L3⟩
        case measure => simp [intOf]; omega
      · have hdec : decide (i < n ∧ i < 150) = false := by simp [hin]
        rw [hdec]
        go_wp2_with fail
        go_ret
        exact ⟨rfl, L.old⟩

namespace ShelfApartLaw
open Go.ChangeShapes Go.WideShapes Go.ChangeAt
open Go.ChangeMaps (open_string shut_string)
theorem contract (H : Type) (enc : TypeId × Value → H) (W : World) (base : Nat) (args : Array Value) (ds gs : List (DataW H)) (before : List MemPlace)
    (hval : ∀ (j : Nat) t v, Try.f11.params[j]? = some t → args[j]? = some v → Value.okWide Try.prog W .any base t v)
    (hW : DataW.Whole enc Try.prog Try.f11.params.toList Rows.shelfApartSpec.vars false W args.toList ds gs before) (hsz0 : (DataW.weightsEach Try.prog (Try.f11.params.toList ++ Rows.shelfApartSpec.plain.varTypes Try.prog) (ds ++ gs)).all (· ≤ reachBytes) = true) :
    Calls Try.prog 11 args W fun e W' => ∃ v, e = .returned v ∧ Rows.shelfApartSpec.post enc Try.prog Try.f11 false true false false W args v W' := by
  have hW' := hW
  obtain ⟨p, q, hA0, hV, rfl, hfz, hnd⟩ := hW
  have hA : DataW.TrodAll enc Try.prog W 0 (fun _ => true) true Try.f11.params.toList args.toList ds p := hA0
  rw [Try.params11] at hA hval
  obtain ⟨v0, vs0, d0, ds0, p0, q0, hargs, rfl, rfl, h0, r0⟩ := trodAll_cons hA
  obtain ⟨v1, vs1, d1, ds1, p1, q1, rfl, rfl, rfl, h1, r1⟩ := trodAll_cons r0
  obtain ⟨v2, vs2, d2, ds2, p2, q2, rfl, rfl, rfl, h2, r2⟩ := trodAll_cons r1
  obtain ⟨v3, vs3, d3, ds3, p3, q3, rfl, rfl, rfl, h3, r3⟩ := trodAll_cons r2
  obtain ⟨rfl, rfl, rfl⟩ := trodAll_nil r3
  obtain rfl : args = #[v0, v1, v2, v3] := by cases args; simp_all
  obtain ⟨rfl, rfl⟩ := trodVars_none hV
  obtain ⟨A0, c0, x0, rfl, hS0, hl0⟩ := open_acts (hval 0 46 v0 rfl rfl) h0
  obtain ⟨s1, rfl, hd1, _, hs1⟩ := open_string Try.underlying9 (hval 1 9 v1 rfl rfl) h1
  obtain ⟨x1, rfl, hx1, hy1⟩ := as_list s1
  have z1 : x1.length ≤ 140737488351232 := by
    have := sized_string hsz0 (j := 1) (t := 9) (bytes := x1) (by simp [Try.params11]) (by rw [hd1, hx1]; rfl)
    simpa [reachBytes] using this
  obtain ⟨x2, rfl, hd2, _, w2⟩ := open_int Try.underlying3 (hval 2 3 v2 rfl rfl) h2
  obtain ⟨A3, c3, x3, rfl, hS3, hl3, he3, hb3⟩ := open_intsA Try.underlying37 Try.underlying3 (by kernel_rfl) (hval 3 37 v3 rfl rfl) h3
  refine (shelfApart_core A0 c0 x0 x1 x2 A3 c3 x3 W hS0 hl0 z1 (wf_bounds w2).1 (wf_bounds w2).2 hS3 hl3 he3).mono fun e W' ⟨he, hg⟩ => ?_
  subst he
  exact ⟨_, rfl, law_post (tb := 4) laidOut_ (of_decide_eq_true (by kernel_rfl)) Try.underlying4 (by kernel_rfl) rfl rfl hW' hg⟩

set_option maxRecDepth 100000 in
theorem lifted (os : Os) (started : os.Started) (H : Type) (enc : TypeId × Value → H) :
    ReturnsInHanded {} Try.checked os 11 .any (Rows.shelfApartSpec.pre6 enc Try.prog Try.f11 Rows.shelfApartRow.domain false) (Rows.shelfApartSpec.post enc Try.prog Try.f11 false true false false) := by
  refine returnsInHanded_of_change_sized (C := Try.checked) ownKnob_ started (by kernel_rfl) Try.func11
    (ChangeSpec.witness6 (enc := enc) (C := Try.checked) false ⟨#[], #[.slice none 0 0, .string .empty, .int .i64 0, .slice none 0 0], []⟩ 8 (by kernel_rfl) (by kernel_rfl) (by kernel_rfl) (by kernel_rfl)) ?_
  intro W base args ds gs before hval hW _ hsz _
  exact contract H enc W base args ds gs before hval hW hsz

theorem proved : Rows.ShelfApartSaid :=
  OpenClaim.holds_of_wide 11 Try.f11 rfl rfl rfl rfl rfl rfl rfl ⟨rfl, rfl, rfl, rfl, rfl⟩ rfl rfl rfl rfl rfl (by kernel_rfl) Try.func11 (by kernel_rfl)
    (of_decide_eq_true (by kernel_rfl)) (by unfold Func.isWrapper; first | (rw [if_pos (by decide +kernel)]; kernel_rfl) | (rw [if_neg (by decide +kernel)]; exact ⟨rfl, rfl⟩))
    (fun os started H enc _ => lifted os started H enc)
end ShelfApartLaw

end Go.Proofs.Ytecofehfheodhaa
