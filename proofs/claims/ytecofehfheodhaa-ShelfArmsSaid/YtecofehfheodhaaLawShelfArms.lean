/-
  ShelfArms: the power goes in just the act that was armed; reading, and what is refused, is no act. No condition: every input.
-/
import Derived.Test.YtecofehfheodhaaShL
set_option linter.unusedVariables false
set_option linter.unusedSimpArgs false
namespace Go.Proofs.Ytecofehfheodhaa
open Go.RowKit Sh
attribute [local go_sem] Lb.ba_get Lb.ba_cut Lb.ba_add Lb.ba_size Lb.take_rest

theorem u64_mod150 (x : Int) (h : -9223372036854775808 ≤ x ∧ x ≤ 9223372036854775807) : ∃ u k : Nat, IntKind.u64.wrap x = (u : Int) ∧ (u : Int) ≤ 18446744073709551615 ∧ (u : Int).tmod 150 = (k : Int) ∧ IntKind.i64.wrap (k : Int) = (k : Int) ∧ k < 150 := by
  by_cases hx : 0 ≤ x
  · obtain ⟨u, rfl⟩ : ∃ u : Nat, x = u := ⟨x.toNat, by omega⟩
    exact ⟨u, u % 150, by rw [IntWalk.u64_in _ (by omega)], by omega, rfl, IntWalk.i64_in _ (by omega), by omega⟩
  · refine ⟨(x + 18446744073709551616).toNat, (x + 18446744073709551616).toNat % 150, ?_, by omega, rfl, IntWalk.i64_in _ (by omega), by omega⟩
    simp only [IntKind.wrap_u64]; omega

set_option maxRecDepth 100000 in
set_option maxHeartbeats 4000000 in
theorem shelfArms_core (x : Int) (A : Option Addr) (cap : Nat) (ds : List ActD) (w : World) (hx1 : -9223372036854775808 ≤ x) (hx2 : x ≤ 9223372036854775807) (hA : ActsAt w w.heap.size A ds) (hl : ds.length ≤ maxLen) :
    Calls Try.prog 14 #[.int .i64 x, .slice A ds.length cap] w fun e w' => e = .returned (.bool true) ∧ Below w.heap.size w w' := by
  unfold maxLen at hl
  have HA := Lib.hid hA
  clear hA
  obtain ⟨n, hn⟩ : ∃ n, n = ds.length := ⟨_, rfl⟩
  rw [← hn] at hl ⊢
  have Hn := Lib.hid hn
  clear hn
  obtain ⟨u, k, hu, hub, hk, hkw, hk150⟩ := u64_mod150 x ⟨hx1, hx2⟩
  go_enter Try.func14, Try.ntmps14
  go_wp2_with fail
  refine (awake4_any w).mono ?_
  rintro e w1 ⟨rfl, hB1⟩
  go_wp2_with fail
  refine (live_new w 4 w1 (by omega) hB1).mono ?_
  rintro e w2 ⟨rfl, L2⟩
  obtain ⟨g, hg⟩ : ∃ g, g = w1.heap.size := ⟨_, rfl⟩
  obtain ⟨b, hb⟩ : ∃ b, b = w1.heap.size + 1 := ⟨_, rfl⟩
  rw [← hb, ← hg] at L2
  rw [← hb]
  clear hb hg hB1
  obtain ⟨m, hm⟩ : ∃ m, m = k + 1 := ⟨_, rfl⟩
  have hm0 : 0 < m := by omega
  have hm150 : m ≤ 150 := by omega
  go_wp2_with fail
  have hmk : (k : Int) + 1 = (m : Int) := by omega
  have hmk' : 1 + (k : Int) = (m : Int) := by omega
  first | rw [hmk] | rw [hmk']
  refine (live_arm L2 m (by omega)).mono ?_
  rintro e w3 ⟨rfl, L3⟩
  have hA3 := armed_new m hm0
  clear hmk hmk' hm hk150 hkw hk hub hu
  go_wp2_with fail
  go_loopw [6, 7] (fun q p wr => ∃ (i d : Nat) (s : St), i ≤ n ∧ i ≤ 150 ∧ d < m ∧ p = .int .i64 i ∧ q = .int .i64 d ∧ Armed s m d ∧ Live w wr b g s (10 * (150 - i) + 10)) (fun _ p _ => 150 - (intOf p).toNat)
  case atStart => exact ⟨0, 0, _, by omega, by omega, hm0, rfl, rfl, hA3, L3.less (by omega)⟩
  case round =>
    obtain ⟨i, d, s, hi, hi2, hdm, rfl, rfl, ha, L⟩ := hrel
    have Ha := Lib.hid ha
    clear ha
    go_upto_region 8 with fail
    go_cut [27] from 20 to 74 (fun v wx => v = .bool (decide (i < n ∧ i < 150)) ∧ wx = wr)
    case first =>
      by_cases h1 : i < n
      · have j1 : (i : Int) < (n : Int) := by omega
        by_cases h2 : i < 150
        · have j2 : (i : Int) < 150 := by omega
          go_wp2_with fail
          go_meet
          case rel => exact ⟨by simp [h1, h2], rfl⟩
        · have j2 : ¬ ((i : Int) < 150) := by omega
          go_wp2_with fail
          go_meet
          case rel => exact ⟨by simp [h2], rfl⟩
      · have j1 : ¬ ((i : Int) < (n : Int)) := by omega
        go_wp2_with fail
        go_meet
        case rel => exact ⟨by simp [h1], rfl⟩
    obtain ⟨rfl, rfl⟩ := hcut
    by_cases hin : i < n ∧ i < 150
    · have hdec : decide (i < n ∧ i < 150) = true := by simp [hin]
      rw [hdec]
      obtain ⟨hin, hi150⟩ := hin
      clear hdec
      obtain ⟨e1, e2⟩ := Ha.out.arg hdm 4 (by omega) [120]
      obtain ⟨e3, e4⟩ := Ha.out.arg hdm (-1) (by omega) []
      have E2 := Lib.hid e2
      have E4 := Lib.hid e4
      go_wp2_with fail
      refine (live_write (k := 10 * (150 - (i + 1)) + 10 + 8) (L.less (by omega)) 4 [120] (by decide)).mono ?_
      rintro e w5 ⟨rfl, L5⟩
      rw [e1] at L5
      rw [E2.out]
      clear e1 e2 L
      go_wp2_with fail
      refine (live_write (k := 10 * (150 - (i + 1)) + 10 + 6) L5 (-1) [] (by decide)).mono ?_
      rintro e w6 ⟨rfl, L6⟩
      rw [e3] at L6
      rw [E4.out]
      clear e3 e4 E2 E4 L5
      go_wp2_with fail
      refine (acts_any _ _ _ _ L6.here).mono ?_
      rintro e w7 ⟨rfl, rfl⟩
      rw [Ha.out.acts]
      go_wp2_with fail
      refine (live_read L6 0).mono ?_
      rintro e w7 ⟨rfl, rfl⟩
      go_wp2_with fail
      obtain ⟨hs, hse⟩ := Ha.out.sync hdm
      refine (live_sync (k := 10 * (150 - (i + 1)) + 10 + 4) L6).mono ?_
      rintro e w7 ⟨rfl, L7⟩
      rw [hse]
      have HS := Lib.hid hs
      clear hs hse Ha L6
      obtain ⟨a, hAe, ha⟩ := (HA.out.below L7.old (Nat.le_refl _)) i (by rw [← Hn.out]; exact hin)
      subst hAe
      have r0 : w7.cell? (a.add (i * 4)) = _ := ha.c0
      have rk := ha.kb
      obtain ⟨kd, hkd⟩ : ∃ kd, kd = (ds[i]'(by rw [← Hn.out]; exact hin)).kind := ⟨_, rfl⟩
      rw [← hkd] at r0 rk
      clear ha hkd
      have i1 : (i : Int) < (n : Int) := by omega
      have im : (i : Int).tmod 4 = ((i % 4 : Nat) : Int) := rfl
      have im4 : i % 4 < 4 := by omega
      obtain ⟨j, hj⟩ : ∃ j, j = i % 4 := ⟨_, rfl⟩
      rw [← hj] at im im4
      clear hj
      by_cases hk1 : kd = 1
      · have hb1 : (kd == 1) = true := by simp [hk1]
        by_cases hdone : d + 1 = m
        · have hz : (if d + 1 = m then (10 : Int) else 0) = 10 := by rw [if_pos hdone]
          rw [hz]
          obtain ⟨e1, e2⟩ := HS.out.gone hdone j [116]
          have E2 := Lib.hid e2
          clear e2
          go_wp2_with fail
          refine (live_write L7 j [116] (by decide)).mono ?_
          rintro e w8 ⟨rfl, L8⟩
          rw [e1] at L8
          rw [E2.out]
          clear e1 E2 L7
          have fin1 : decide (d + 1 = m) = true := by simp; omega
          have fin2 : (((d + 1 : Nat) : Int) == (m : Int)) = true := by simp; omega
          have fin3 : (if d + 1 = m then 1 else 0) = 1 := by rw [if_pos (by omega)]
          have fin4 : ((d + 1 : Nat) : Int) ≤ (m : Int) := by omega
          have fin5 : (d : Int) + 1 = (m : Int) := by omega
          go_wp2_with fail
          refine (down_any _ _ _ _ L8.here).mono ?_
          rintro e wz ⟨rfl, rfl⟩
          rw [HS.out.down, fin1]
          go_wp2_with fail
          refine (acts_any _ _ _ _ L8.here).mono ?_
          rintro e wz ⟨rfl, rfl⟩
          rw [HS.out.acts]
          go_wp2_with fail
          refine (down_any _ _ _ _ L8.here).mono ?_
          rintro e wz ⟨rfl, rfl⟩
          rw [HS.out.down]
          go_wp2_with fail
          refine (acts_any _ _ _ _ L8.here).mono ?_
          rintro e wz ⟨rfl, rfl⟩
          rw [HS.out.acts]
          go_wp2_with fail
          refine (life_any _ _ _ _ L8.here).mono ?_
          rintro e wz ⟨rfl, rfl⟩
          rw [HS.out.life]
          go_wp2_with fail
          refine (down_any _ _ _ _ L8.here).mono ?_
          rintro e wz ⟨rfl, rfl⟩
          rw [HS.out.down]
          go_wp2
          go_ret
          exact ⟨by first | rfl | simp, L8.old⟩
        · have hz : (if d + 1 = m then (10 : Int) else 0) = 0 := by rw [if_neg hdone]
          rw [hz]
          obtain ⟨hs, e2⟩ := HS.out.write (by omega) j im4 [116] (by decide)
          have HS2 := Lib.hid hs
          have E2 := Lib.hid e2
          clear e2 hs
          go_wp2_with fail
          refine (live_write L7 j [116] (by decide)).mono ?_
          rintro e w8 ⟨rfl, L8⟩
          rw [E2.out]
          clear E2 L7 HS
          by_cases hlast : d + 1 + 1 = m
          · have hz2 : (if d + 1 + 1 = m then (10 : Int) else 0) = 10 := by rw [if_pos hlast]
            rw [hz2]
            have nf : ((d : Int) + 1 == (m : Int)) = false := by simp; omega
            have fin1 : decide (d + 1 + 1 = m) = true := by simp; omega
            have fin2 : (((d + 1 + 1 : Nat) : Int) == (m : Int)) = true := by simp; omega
            have fin3 : (if d + 1 + 1 = m then 1 else 0) = 1 := by rw [if_pos (by omega)]
            have fin4 : ((d + 1 + 1 : Nat) : Int) ≤ (m : Int) := by omega
            go_wp2_with fail
            refine (down_any _ _ _ _ L8.here).mono ?_
            rintro e wz ⟨rfl, rfl⟩
            rw [HS2.out.down, fin1]
            go_wp2_with fail
            refine (down_any _ _ _ _ L8.here).mono ?_
            rintro e wz ⟨rfl, rfl⟩
            rw [HS2.out.down, fin1]
            go_wp2_with fail
            refine (acts_any _ _ _ _ L8.here).mono ?_
            rintro e wz ⟨rfl, rfl⟩
            rw [HS2.out.acts]
            go_wp2_with fail
            refine (down_any _ _ _ _ L8.here).mono ?_
            rintro e wz ⟨rfl, rfl⟩
            rw [HS2.out.down]
            go_wp2_with fail
            refine (acts_any _ _ _ _ L8.here).mono ?_
            rintro e wz ⟨rfl, rfl⟩
            rw [HS2.out.acts]
            go_wp2_with fail
            refine (life_any _ _ _ _ L8.here).mono ?_
            rintro e wz ⟨rfl, rfl⟩
            rw [HS2.out.life]
            go_wp2_with fail
            refine (down_any _ _ _ _ L8.here).mono ?_
            rintro e wz ⟨rfl, rfl⟩
            rw [HS2.out.down]
            go_wp2
            go_ret
            exact ⟨by first | rfl | simp, L8.old⟩
          · have hz2 : (if d + 1 + 1 = m then (10 : Int) else 0) = 0 := by rw [if_neg hlast]
            rw [hz2]
            have nf1 : decide (d + 1 + 1 = m) = false := by simp; omega
            go_wp2_with fail
            refine (down_any _ _ _ _ L8.here).mono ?_
            rintro e wz ⟨rfl, rfl⟩
            rw [HS2.out.down, nf1]
            go_wp2_with fail
            refine (down_any _ _ _ _ L8.here).mono ?_
            rintro e wz ⟨rfl, rfl⟩
            rw [HS2.out.down, nf1]
            go_wp2
            go_roundw
            case rel => exact ⟨i + 1, d + 1 + 1, _, by omega, by omega, by omega, by go_num, by go_num, HS2.out, L8.less (by omega)⟩
            case measure => simp [intOf]; omega
      · have hb1 : (kd == 1) = false := by simp [hk1]
        by_cases hdone : d + 1 = m
        · have hz : (if d + 1 = m then (10 : Int) else 0) = 10 := by rw [if_pos hdone]
          rw [hz]
          have fin1 : decide (d + 1 = m) = true := by simp; omega
          have fin2 : (((d + 1 : Nat) : Int) == (m : Int)) = true := by simp; omega
          have fin3 : (if d + 1 = m then 1 else 0) = 1 := by rw [if_pos (by omega)]
          have fin4 : ((d + 1 : Nat) : Int) ≤ (m : Int) := by omega
          go_wp2_with fail
          refine (down_any _ _ _ _ L7.here).mono ?_
          rintro e wz ⟨rfl, rfl⟩
          rw [HS.out.down, fin1]
          go_wp2_with fail
          refine (acts_any _ _ _ _ L7.here).mono ?_
          rintro e wz ⟨rfl, rfl⟩
          rw [HS.out.acts]
          go_wp2_with fail
          refine (down_any _ _ _ _ L7.here).mono ?_
          rintro e wz ⟨rfl, rfl⟩
          rw [HS.out.down]
          go_wp2_with fail
          refine (acts_any _ _ _ _ L7.here).mono ?_
          rintro e wz ⟨rfl, rfl⟩
          rw [HS.out.acts]
          go_wp2_with fail
          refine (life_any _ _ _ _ L7.here).mono ?_
          rintro e wz ⟨rfl, rfl⟩
          rw [HS.out.life]
          go_wp2_with fail
          refine (down_any _ _ _ _ L7.here).mono ?_
          rintro e wz ⟨rfl, rfl⟩
          rw [HS.out.down]
          go_wp2
          go_ret
          exact ⟨by first | rfl | simp, L7.old⟩
        · have hz : (if d + 1 = m then (10 : Int) else 0) = 0 := by rw [if_neg hdone]
          rw [hz]
          have nf1 : decide (d + 1 = m) = false := by simp; omega
          go_wp2_with fail
          refine (down_any _ _ _ _ L7.here).mono ?_
          rintro e wz ⟨rfl, rfl⟩
          rw [HS.out.down, nf1]
          go_wp2
          go_roundw
          case rel => exact ⟨i + 1, d + 1, _, by omega, by omega, by omega, by go_num, by go_num, HS.out, L7.less (by omega)⟩
          case measure => simp [intOf]; omega
    · have hdec : decide (i < n ∧ i < 150) = false := by simp [hin]
      rw [hdec]
      have hne : decide (d = m) = false := by simp; omega
      have hne2 : ((d : Int) == (m : Int)) = false := by simp; omega
      have hne3 : (if d = m then 1 else 0) = 0 := by rw [if_neg (by omega)]
      have hle : (d : Int) ≤ (m : Int) := by omega
      have HA := Ha
      go_wp2_with fail
      refine (acts_any _ _ _ _ L.here).mono ?_
      rintro e wz ⟨rfl, rfl⟩
      rw [Ha.out.acts]
      go_wp2_with fail
      refine (down_any _ _ _ _ L.here).mono ?_
      rintro e wz ⟨rfl, rfl⟩
      rw [Ha.out.down]
      go_wp2_with fail
      refine (acts_any _ _ _ _ L.here).mono ?_
      rintro e wz ⟨rfl, rfl⟩
      rw [Ha.out.acts]
      go_wp2_with fail
      refine (life_any _ _ _ _ L.here).mono ?_
      rintro e wz ⟨rfl, rfl⟩
      rw [Ha.out.life]
      go_wp2_with fail
      refine (down_any _ _ _ _ L.here).mono ?_
      rintro e wz ⟨rfl, rfl⟩
      rw [Ha.out.down]
      go_wp2
      go_ret
      exact ⟨by first | rfl | simp, L.old⟩

namespace ShelfArmsLaw
open Go.ChangeShapes Go.WideShapes Go.ChangeAt
open Go.ChangeMaps (open_string shut_string)
theorem contract (H : Type) (enc : TypeId × Value → H) (W : World) (base : Nat) (args : Array Value) (ds gs : List (DataW H)) (before : List MemPlace)
    (hval : ∀ (j : Nat) t v, Try.f14.params[j]? = some t → args[j]? = some v → Value.okWide Try.prog W .any base t v)
    (hW : DataW.Whole enc Try.prog Try.f14.params.toList Rows.shelfArmsSpec.vars false W args.toList ds gs before) (hsz0 : (DataW.weightsEach Try.prog (Try.f14.params.toList ++ Rows.shelfArmsSpec.plain.varTypes Try.prog) (ds ++ gs)).all (· ≤ reachBytes) = true) :
    Calls Try.prog 14 args W fun e W' => ∃ v, e = .returned v ∧ Rows.shelfArmsSpec.post enc Try.prog Try.f14 false true false false W args v W' := by
  have hW' := hW
  obtain ⟨p, q, hA0, hV, rfl, hfz, hnd⟩ := hW
  have hA : DataW.TrodAll enc Try.prog W 0 (fun _ => true) true Try.f14.params.toList args.toList ds p := hA0
  rw [Try.params14] at hA hval
  obtain ⟨v0, vs0, d0, ds0, p0, q0, hargs, rfl, rfl, h0, r0⟩ := trodAll_cons hA
  obtain ⟨v1, vs1, d1, ds1, p1, q1, rfl, rfl, rfl, h1, r1⟩ := trodAll_cons r0
  obtain ⟨rfl, rfl, rfl⟩ := trodAll_nil r1
  obtain rfl : args = #[v0, v1] := by cases args; simp_all
  obtain ⟨rfl, rfl⟩ := trodVars_none hV
  obtain ⟨x0, rfl, hd0, _, w0⟩ := open_int Try.underlying3 (hval 0 3 v0 rfl rfl) h0
  obtain ⟨A1, c1, x1, rfl, hS1, hl1⟩ := open_acts (hval 1 46 v1 rfl rfl) h1
  refine (shelfArms_core x0 A1 c1 x1 W (wf_bounds w0).1 (wf_bounds w0).2 hS1 hl1).mono fun e W' ⟨he, hg⟩ => ?_
  subst he
  exact ⟨_, rfl, law_post (tb := 4) laidOut_ (of_decide_eq_true (by kernel_rfl)) Try.underlying4 (by kernel_rfl) rfl rfl hW' hg⟩

set_option maxRecDepth 100000 in
theorem lifted (os : Os) (started : os.Started) (H : Type) (enc : TypeId × Value → H) :
    ReturnsInHanded {} Try.checked os 14 .any (Rows.shelfArmsSpec.pre6 enc Try.prog Try.f14 Rows.shelfArmsRow.domain false) (Rows.shelfArmsSpec.post enc Try.prog Try.f14 false true false false) := by
  refine returnsInHanded_of_change_sized (C := Try.checked) ownKnob_ started (by kernel_rfl) Try.func14
    (ChangeSpec.witness6 (enc := enc) (C := Try.checked) false ⟨#[], #[.int .i64 0, .slice none 0 0], []⟩ 8 (by kernel_rfl) (by kernel_rfl) (by kernel_rfl) (by kernel_rfl)) ?_
  intro W base args ds gs before hval hW _ hsz _
  exact contract H enc W base args ds gs before hval hW hsz

theorem proved : Rows.ShelfArmsSaid :=
  OpenClaim.holds_of_wide 14 Try.f14 rfl rfl rfl rfl rfl rfl rfl ⟨rfl, rfl, rfl, rfl, rfl⟩ rfl rfl rfl rfl rfl (by kernel_rfl) Try.func14 (by kernel_rfl)
    (of_decide_eq_true (by kernel_rfl)) (by unfold Func.isWrapper; first | (rw [if_pos (by decide +kernel)]; kernel_rfl) | (rw [if_neg (by decide +kernel)]; exact ⟨rfl, rfl⟩))
    (fun os started H enc _ => lifted os started H enc)
end ShelfArmsLaw

end Go.Proofs.Ytecofehfheodhaa
