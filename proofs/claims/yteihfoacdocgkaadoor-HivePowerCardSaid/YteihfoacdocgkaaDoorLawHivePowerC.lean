/-
  HivePower: wherever the power goes, a store opened again has all that was sure, and what it has of the rest is whole. No condition: every input.
-/
import Derived.Test.YteihfoacdocgkaaDoorHySX
import Derived.Test.YteihfoacdocgkaaDoorRow
import Derived.Test.YteihfoacdocgkaaDoorCards
import Derived.Test.YteihfoacdocgkaaDoorTie
set_option linter.unusedVariables false
set_option linter.unusedSimpArgs false
namespace Go.Proofs.YteihfoacdocgkaaDoor
open Go.RowKit Pl Sh
attribute [local go_sem] Lb.ba_get Lb.ba_cut Lb.ba_add Lb.ba_size Lb.take_rest

set_option maxHeartbeats 8000000 in
set_option maxRecDepth 100000 in
theorem hivePower_core (A : Option Addr) (cap : Nat) (ds : List ActH) (A2 : Option Addr) (cap2 : Nat) (ps : List Int) (w : World) (hL : Laid KK w) (haw : Calls Tryd.prog 18 #[] w fun e w' => e = .returned (.bool true) ∧ Below w.heap.size w w')
    (hS : ActsH w w.heap.size A ds) (hl : ds.length ≤ maxLen) (hI : Ints w w.heap.size A2 ps) (hl2 : ps.length ≤ maxLen) (hib : ∀ f ∈ ps, -9223372036854775808 ≤ f ∧ f ≤ 9223372036854775807) :
    Calls Tryd.prog 9 #[.slice A ds.length cap, .slice A2 ps.length cap2] w fun e w' => e = .returned (.bool true) ∧ Below w.heap.size w w' := by
  have HL := Lib.hid hL
  have HS := Lib.hid hS
  have HP := Lib.hid hI
  have Hpb := Lib.hid hib
  have haw' := Lib.hid haw
  have hup : ∀ W, Below w.heap.size w W → ActsH W W.heap.size A ds := fun W hW i hi => by
    obtain ⟨b, o, e, h1, h2, h3⟩ := (HS.out.below hW) i hi
    exact ⟨b, o, e, Nat.lt_of_lt_of_le h1 hW.size, h2, { h3 with fates := h3.fates.more hW.size }⟩
  have hgr := Lib.hid (fun W (hW : Below w.heap.size w W) => great_any A cap ds W (hup W hW) hl)
  have htx := Lib.hid (fun W (hW : Below w.heap.size w W) (hsm : SmallActs ds) => texts_any A cap ds W (hup W hW) hl hsm)
  have hcl := Lib.hid (fun W (hW : Below w.heap.size w W) (A2 : Option Addr) (c2 : Nat) (ls : List (List UInt8)) (hs2 : Strs W W.heap.size A2 ls) (h70 : ls.length ≤ 70) (ht : ∀ t ∈ ls, t.length ≤ 1000) => show Calls Tryd.prog 22 #[.slice A2 ls.length c2, .slice none 0 0] W (ClashPost KK ls W) by
    have := clash_any KK A2 c2 ls none 0 [] W (HL.out.below hW) hs2 (fun i hi => by simp at hi) (by omega) (by simp) (fun t h => by have := ht t (by simpa using h); omega)
    rw [List.append_nil] at this
    exact this)
  obtain ⟨nd, hnd⟩ : ∃ n, n = ds.length := ⟨_, rfl⟩
  obtain ⟨np, hnp⟩ : ∃ n, n = ps.length := ⟨_, rfl⟩
  have hd63 : (nd : Int) ≤ 9223372036854775807 := by unfold maxLen at hl; omega
  have hnp63 : (np : Int) ≤ 9223372036854775807 := by unfold maxLen at hl2; omega
  rw [← hnd] at hgr htx ⊢
  rw [← hnp]
  have Hnd := Lib.hid hnd
  have Hnp := Lib.hid hnp
  clear hL hS hI hib hl hl2 hnd hnp haw hup
  go_enter Tryd.func9, Tryd.ntmps9
  go_wp2_with fail
  refine haw'.out.mono ?_
  rintro e w1 ⟨rfl, hB1⟩
  have HB1 := Lib.hid hB1
  clear hB1 haw'
  go_wp2_with fail
  refine (hgr.out w1 HB1.out).mono ?_
  rintro e w2 ⟨b1, rfl, hsm, rfl⟩
  have Hsm := Lib.hid hsm
  clear hsm hgr
  cases b1 with
  | true =>
    go_wp2_with fail
    go_ret
    exact ⟨rfl, HB1.out⟩
  | false =>
  have Hsm1 : Hid (SmallActs ds) := Lib.hid (Hsm.out (by first | rfl | trivial))
  clear Hsm
  go_wp2_with fail
  refine (htx.out w1 HB1.out Hsm1.out).mono ?_
  rintro e w2 ⟨A3, c3, ls, rfl, hs2, h70, ht, hin, hB2⟩
  have Hin := Lib.hid hin
  have HB2 := Lib.hid (HB1.out.trans (hB2.mono HB1.out.size))
  have hcl2 := Lib.hid (hcl.out w2 HB2.out A3 c3 ls hs2 h70 ht)
  obtain ⟨nl, hnl⟩ : ∃ n, n = ls.length := ⟨_, rfl⟩
  rw [← hnl] at hcl2 ⊢
  clear hs2 h70 ht hin hB2 hcl htx hnl
  go_wp2_with fail
  refine hcl2.out.mono ?_
  rintro e w3 ⟨b3, rfl, hal, hB3⟩
  have Hal := Lib.hid hal
  have HB3 := Lib.hid (HB2.out.trans (hB3.mono HB2.out.size))
  clear hal hB3 hcl2
  cases b3 with
  | true =>
    go_wp2_with fail
    go_ret
    exact ⟨rfl, HB3.out⟩
  | false =>
  have Hinj : Hid (InjT KK ds) := Lib.hid (injT_of (by first | exact Hal.out rfl | exact Hal.out trivial) Hin.out)
  clear Hal Hin
  go_wp2_with fail
  refine (new_any 128 w3 (by omega)).mono ?_
  rintro e w4 ⟨rfl, h4, hB4⟩
  have HB4 := Lib.hid (HB3.out.trans (hB4.mono HB3.out.size))
  have h0 : 0 ≠ w3.heap.size + 1 ∧ 0 ≠ w3.heap.size := by have := HL.out.lt; have := HB3.out.size; omega
  have hop := Lib.hid (d_open KK w4 (w3.heap.size + 1) w3.heap.size 128 48000 true [] [] (d_new h4 (48000 + 200) (by omega)) (HL.out.below HB4.out) h0 (by omega))
  clear hB4 h4
  go_wp2_with fail
  refine hop.out.mono ?_
  rintro e w5 ⟨q, S, C0, hqb, hqg, rfl, hbox, hC0, -, hlo, hO5⟩
  obtain ⟨sb, hsb⟩ : ∃ y, y = w3.heap.size + 1 := ⟨_, rfl⟩
  obtain ⟨sg, hsg⟩ : ∃ y, y = w3.heap.size := ⟨_, rfl⟩
  rw [← hsb, ← hsg] at hlo hO5 h0
  rw [← hsb] at hqb ⊢
  rw [← hsg] at hqg
  have hsw : w.heap.size ≤ sb ∧ w.heap.size ≤ sg := by have := HB3.out.size; omega
  have HB5 := Lib.hid (HB4.out.trans (hO5.below HB4.out.size (by intro x hx; simp only [List.mem_cons, List.not_mem_nil, or_false] at hx; rcases hx with rfl | rfl; exact hsw.1; exact hsw.2)))
  have HSlo : Hid (∀ x ∈ S, w.heap.size ≤ x) := Lib.hid (fun x hx => by
    rcases hlo x hx with rfl | rfl | h
    · exact hsw.1
    · exact hsw.2
    · exact Nat.le_trans HB4.out.size h)
  obtain rfl : C0 = [] := by
    cases C0 with
    | nil => rfl
    | cons a l => exact absurd (hC0 a (by simp)) (by simp)
  have Hbox := Lib.hid hbox
  have Hqb := Lib.hid hqb
  have Hqg := Lib.hid hqg
  have Hsw := Lib.hid hsw
  have H00 := Lib.hid h0
  clear hqb hqg hbox hlo hO5 hop hsb hsg hsw h0 hC0
  have Hboxw5 := Hbox
  have HBw5 := HB5
  clear Hbox HB5
  go_upto_region 10 with fail
  have hb1 := (Below.refl w5.heap.size w5).alloc (Nat.le_refl _) (.cells #[] 9)
  have Hi1 := Lib.hid ((its_nil w.heap.size w5 S).cons HBw5.out.size Hboxw5.out.lt hb1 (y := .str w5.heap.size (.slice (some ⟨w5.heap.size, 0, none⟩) 0 0) []) strL_new (Nat.le_refl _))
  have Hboxwa := Lib.hid (Hboxw5.out.below hb1)
  have HBwa := Lib.hid (HBw5.out.trans (hb1.mono HBw5.out.size))
  obtain ⟨wa, hw1⟩ : ∃ y, y = w5.alloc (.cells #[] 9) := ⟨_, rfl⟩
  obtain ⟨g1, hg1⟩ : ∃ y, y = w5.heap.size := ⟨_, rfl⟩
  rw [← hw1] at Hi1 Hboxwa HBwa ⊢
  rw [← hg1] at Hi1 ⊢
  obtain ⟨v1, hv1⟩ : ∃ v, v = Value.slice (some ⟨g1, 0, none⟩) 0 0 := ⟨_, rfl⟩
  rw [← hv1] at Hi1 ⊢
  clear hb1 hw1 hg1 hv1
  go_upto_region 11 with fail
  have hb2 := (Below.refl wa.heap.size wa).alloc (Nat.le_refl _) (.cells #[] 9)
  have Hi2 := Lib.hid ((Hi1.out).cons HBwa.out.size Hboxwa.out.lt hb2 (y := .str wa.heap.size (.slice (some ⟨wa.heap.size, 0, none⟩) 0 0) []) strL_new (Nat.le_refl _))
  have Hboxwb := Lib.hid (Hboxwa.out.below hb2)
  have HBwb := Lib.hid (HBwa.out.trans (hb2.mono HBwa.out.size))
  obtain ⟨wb, hw2⟩ : ∃ y, y = wa.alloc (.cells #[] 9) := ⟨_, rfl⟩
  obtain ⟨g2, hg2⟩ : ∃ y, y = wa.heap.size := ⟨_, rfl⟩
  rw [← hw2] at Hi2 Hboxwb HBwb ⊢
  rw [← hg2] at Hi2 ⊢
  obtain ⟨v2, hv2⟩ : ∃ v, v = Value.slice (some ⟨g2, 0, none⟩) 0 0 := ⟨_, rfl⟩
  rw [← hv2] at Hi2 ⊢
  clear hb2 hw2 hg2 hv2
  go_upto_region 12 with fail
  have hb3 := (Below.refl wb.heap.size wb).alloc (Nat.le_refl _) (.cells #[] 26)
  have Hi3 := Lib.hid ((Hi2.out).cons HBwb.out.size Hboxwb.out.lt hb3 (y := .rcd wb.heap.size (.slice (some ⟨wb.heap.size, 0, none⟩) 0 0) []) recL_new (Nat.le_refl _))
  have Hboxwc := Lib.hid (Hboxwb.out.below hb3)
  have HBwc := Lib.hid (HBwb.out.trans (hb3.mono HBwb.out.size))
  obtain ⟨wc, hw3⟩ : ∃ y, y = wb.alloc (.cells #[] 26) := ⟨_, rfl⟩
  obtain ⟨g3, hg3⟩ : ∃ y, y = wb.heap.size := ⟨_, rfl⟩
  rw [← hw3] at Hi3 Hboxwc HBwc ⊢
  rw [← hg3] at Hi3 ⊢
  obtain ⟨v3, hv3⟩ : ∃ v, v = Value.slice (some ⟨g3, 0, none⟩) 0 0 := ⟨_, rfl⟩
  rw [← hv3] at Hi3 ⊢
  clear hb3 hw3 hg3 hv3
  go_upto_region 13 with fail
  have hb4 := (Below.refl wc.heap.size wc).alloc (Nat.le_refl _) (.cells #[] 26)
  have Hi4 := Lib.hid ((Hi3.out).cons HBwc.out.size Hboxwc.out.lt hb4 (y := .rcd wc.heap.size (.slice (some ⟨wc.heap.size, 0, none⟩) 0 0) []) recL_new (Nat.le_refl _))
  have Hboxwd := Lib.hid (Hboxwc.out.below hb4)
  have HBwd := Lib.hid (HBwc.out.trans (hb4.mono HBwc.out.size))
  obtain ⟨wd, hw4⟩ : ∃ y, y = wc.alloc (.cells #[] 26) := ⟨_, rfl⟩
  obtain ⟨g4, hg4⟩ : ∃ y, y = wc.heap.size := ⟨_, rfl⟩
  rw [← hw4] at Hi4 Hboxwd HBwd ⊢
  rw [← hg4] at Hi4 ⊢
  obtain ⟨v4, hv4⟩ : ∃ v, v = Value.slice (some ⟨g4, 0, none⟩) 0 0 := ⟨_, rfl⟩
  rw [← hv4] at Hi4 ⊢
  clear hb4 hw4 hg4 hv4
  have hrun : ∀ W, PBox KK W q 128 48000 true [] [] S → Its w.heap.size W S [.rcd g4 v4 [], .rcd g3 v3 [], .str g2 v2 [], .str g1 v1 []] → Below w.heap.size w W → RunSt w W q sb sg ds 0 48000 v1 v2 v3 v4 := fun W h1 h2 h3 => by
    have h4 : Its w.heap.size W S [.str g1 v1 [], .str g2 v2 [], .rcd g3 v3 [], .rcd g4 v4 []] := h2.perm (List.reverse_perm [Item.rcd g4 v4 [], .rcd g3 v3 [], .str g2 v2 [], .str g1 v1 []])
    exact ⟨Hqb.out, Hqg.out, _, _, _, _, _, _, _, _, _, _, _, h1, HSlo.out, h4, pwA_start ds, h3⟩
  have Hrun := Lib.hid hrun
  clear hrun
  go_upto_if 53 with fail
  go_cut [60, 61] from 53 to 59 (fun a1 a2 wz => RunSt w wz q sb sg ds 0 48000 v1 v2 v3 v4)
  case first =>
    by_cases hp0 : 0 < np
    · have q1 : (0 : Int) < (np : Int) := by omega
      have hpl : 0 < ps.length := by rw [← Hnp.out]; exact hp0
      obtain ⟨a, ha, hab, hpc⟩ := (HP.out.below HBwd.out (Nat.le_refl _)) 0 hpl
      subst ha
      obtain ⟨y, hy⟩ : ∃ y, y = ps[0] := ⟨_, rfl⟩
      have hyb := Hpb.out y (by rw [hy]; exact List.getElem_mem hpl)
      rw [← hy] at hpc
      obtain ⟨u, kk, hu, hub, hj, hjw, hkm⟩ := u64_modk y 60 (by omega) (by omega) hyb
      have hj' : (u : Int).tmod 60 = (kk : Int) := hj
      have hpc0 : wd.cell? a = some (.int .i64 y) := by have h := hpc; rw [show a.add 0 = a from by simp [Addr.add]] at h; exact h
      have harm := Lib.hid (p_arm Hboxwd.out kk (by omega))
      rw [Hqb.out] at harm
      clear hpl hy hj hab
      go_wp2_with fail
      refine harm.out.mono ?_
      rintro r we ⟨rfl, hbx, hO⟩
      try dsimp only
      have Hrun2 := Lib.hid (Hrun.out we hbx (Hi4.out.only' hO) (HBwd.out.trans (hO.below HBwd.out.size HSlo.out)))
      clear harm hbx hO hpc hpc0 hyb hu hub hj' hjw hkm Hrun Hi4 Hboxwd HBwd
      go_wp2_with fail
      go_meet
      case rel => exact Hrun2.out
    · have q1 : ¬ (0 : Int) < (np : Int) := by omega
      have Hrun2 := Lib.hid (Hrun.out wd Hboxwd.out Hi4.out HBwd.out)
      clear hp0
      go_wp2_with fail
      go_meet
      case rel => exact Hrun2.out
  have HrunC := Lib.hid hcut
  clear hcut
  apply_assumption
  exact power_loop A cap nd A2 np cap2 ps ds w _ q sb sg _ _ _ _ HL HS Hnd hd63 Hsm1 HP Hnp Hpb hnp63 H00 Hsw Hinj HrunC
    _ _ _ _ _ _ _ _ _ _ _ _ _ _ _ _ _ _ _ _ _ _ _ _ _ _ _ _ _ _ _ _ _ _ _ _ _ _ _ _ _ _ _ _ _ _ _ _ _ _ _ _ _ _ _ _ _ _ _ _ _ _ _ _ _ _ _ _ _ _ _ _ _ _ _ _ _ _ _ _ _ _ _ _ _ _ _ _ _ _ _ _ _ _ _ _ _ _ _ _ _ _ _ _ _ _ _ _ _ _ _ _ _ _ _ _ _ _ _ _ _ _ _ _ _ _ _ _ _ _ _ _ _ _ _ _ _ _ _ _ _ _ _ _ _ _ _ _ _ _ _ _ _ _ _ _ _ _ _ _ _ _ _ _ _ _ _ _ _ _ _ _ _ _ _ _ _ _ _ _ _ _ _ _ _ _ _ _ _ _ _ _ _ _ _ _ _ _ _ _ _ _ _ _ _ _ _ _ _ _ _ _ _ _ _ _ _ _ _ _ _ _ _ _ _ _ _ _ _ _ _ _ _ _ _ _ _ _ _ _ _ _ _ _ _ _ _ _ _ _ _ _ _ _ _ _ _ _ _ _ _ _ _ _ _ _ _ _ _ _ _ _ _ _ _ _ _ _ _ _ _ _ _ _ _ _ _ _ _ _ _ _ _ _ _ _ _ _ _ _ _ _ _ _ _ _ _
theorem hivePower_law (A : Option Addr) (cap : Nat) (ds : List ActH) (A2 : Option Addr) (cap2 : Nat) (ps : List Int) (w : World) (hL : Laid KK w)
    (hS : ActsH w w.heap.size A ds) (hl : ds.length ≤ maxLen) (hI : Ints w w.heap.size A2 ps) (hl2 : ps.length ≤ maxLen) (hib : ∀ f ∈ ps, -9223372036854775808 ≤ f ∧ f ≤ 9223372036854775807) :
    Calls Tryd.prog 9 #[.slice A ds.length cap, .slice A2 ps.length cap2] w fun e w' => e = .returned (.bool true) ∧ Below w.heap.size w w' :=
  hivePower_core A cap ds A2 cap2 ps w hL (awake05_any w hL) hS hl hI hl2 hib
namespace HivePowerLaw
open Go.ChangeShapes Go.WideShapes Go.ChangeAt
open Go.ChangeMaps (open_string shut_string)
set_option maxRecDepth 100000 in
theorem contract (H : Type) (enc : TypeId × Value → H) (W : World) (base : Nat) (args : Array Value) (ds gs : List (DataW H)) (before : List MemPlace)
    (hval : ∀ (j : Nat) t v, Tryd.f9.params[j]? = some t → args[j]? = some v → Value.okWide Tryd.prog W .any base t v)
    (hW : DataW.Whole enc Tryd.prog Tryd.f9.params.toList Rows.hivePowerSpec.vars false W args.toList ds gs before) (hsz0 : (DataW.weightsEach Tryd.prog (Tryd.f9.params.toList ++ Rows.hivePowerSpec.plain.varTypes Tryd.prog) (ds ++ gs)).all (· ≤ reachBytes) = true) (hLd : laidMetH Tryd.prog laid1 W) :
    Calls Tryd.prog 9 args W fun e W' => ∃ v, e = .returned v ∧ Rows.hivePowerSpec.post enc Tryd.prog Tryd.f9 false true false false W args v W' := by
  have hW' := hW
  obtain ⟨p, q, hA0, hV, rfl, hfz, hnd⟩ := hW
  have hA : DataW.TrodAll enc Tryd.prog W 0 (fun _ => true) true Tryd.f9.params.toList args.toList ds p := hA0
  rw [Tryd.params9] at hA hval
  obtain ⟨v0, vs0, d0, ds0, p0, q0, hargs, rfl, rfl, h0, r0⟩ := trodAll_cons hA
  obtain ⟨v1, vs1, d1, ds1, p1, q1, rfl, rfl, rfl, h1, r1⟩ := trodAll_cons r0
  obtain ⟨rfl, rfl, rfl⟩ := trodAll_nil r1
  obtain rfl : args = #[v0, v1] := by cases args; simp_all
  obtain ⟨rfl, rfl⟩ := trodVars_none hV
  obtain ⟨A0, c0, x0, rfl, hS0, hl0⟩ := open_actsH (hval 0 67 v0 rfl rfl) h0
  obtain ⟨A1, c1, x1, rfl, hS1, hl1, he1, hb1⟩ := open_intsA Tryd.underlying65 Tryd.underlying3 (by kernel_rfl) (hval 1 65 v1 rfl rfl) h1
  refine (hivePower_law A0 c0 x0 A1 c1 x1 W (of_laid hLd) hS0 hl0 hS1 hl1 he1).mono fun e W' ⟨he, hg⟩ => ?_
  subst he
  exact ⟨_, rfl, law_post (tb := 4) laidOut_ (of_decide_eq_true (by kernel_rfl)) Tryd.underlying4 (by kernel_rfl) rfl rfl hW' hg⟩

theorem door_met (os : Os) (args : Array Value) : laidMetH Tryd.prog laid1 ((World.doorLaid Tryd.prog 400 os).forCall (fun _ _ => 0) ⟨#[], args, []⟩).memory :=
  laidMetH_of_parts3 (fuel := 8) (laidMet_of_run' 8 (by kernel_rfl) (by kernel_rfl)) (by kernel_rfl) (by kernel_rfl)

set_option maxRecDepth 100000 in
theorem lifted (os : Os) (started : os.Started) (H : Type) (enc : TypeId × Value → H) :
    ReturnsInHanded {} Tryd.checked os 9 .any (fun w args => (Rows.hivePowerSpec.pre enc Tryd.prog Tryd.f9 [] false w args ∧ laidMetH Tryd.prog laid1 w) ∧ sizedMet enc Tryd.prog Tryd.f9 (OpenSpec.ofChange Rows.hivePowerSpec) false w args)
      (Rows.hivePowerSpec.post enc Tryd.prog Tryd.f9 false true false false) := by
  refine returnsInHanded_of_change_and (C := Tryd.checked) (X := fun w _ => laidMetH Tryd.prog laid1 w) (fun _ _ _ hh h => h.of_heap hh) ownKnob_ started (by kernel_rfl) Tryd.func9
    (ChangeSpec.witness_shaped (enc := enc) (C := Tryd.checked) (os := os) (X := fun w _ => laidMetH Tryd.prog laid1 w) false (World.doorLaid Tryd.prog 400 os) #[.slice none 0 0, .slice none 0 0] 8 rfl (World.shaped_of_RefB (by kernel_rfl) (by kernel_rfl)) (by kernel_rfl) (by kernel_rfl) (by kernel_rfl) (door_met os _)) ?_
  intro W base args ds gs before hval hW _ hsz hLd _
  exact contract H enc W base args ds gs before hval hW hsz hLd

theorem said : Rows.HivePowerSaid :=
  OpenClaim.holds_of_wide 9 Tryd.f9 rfl rfl rfl rfl rfl rfl rfl ⟨rfl, rfl, rfl, rfl, rfl⟩ rfl rfl rfl rfl rfl (by kernel_rfl) Tryd.func9 (by kernel_rfl)
    (of_decide_eq_true (by kernel_rfl)) (by unfold Func.isWrapper; first | (rw [if_pos (by decide +kernel)]; kernel_rfl) | (rw [if_neg (by decide +kernel)]; exact ⟨rfl, rfl⟩))
    (fun os started H enc _ => lifted os started H enc)

theorem proved : Rows.HivePowerCardSaid :=
  Claim7.holds_tied_plain_at .later [] [.data] true Rows.hivePowerCard.stood.harness false
    said (fun _ h => by cases h) (by kernel_rfl) (fun _ h => by cases h) hivePower_row_tie rfl ⟨rfl, rfl⟩ (by kernel_rfl) rfl
    (fun f fn hf hfn => by
      obtain rfl : f = 9 := Option.some.inj ((show Tryd.prog.funcNamed "apiary/apiarylaw05.HivePower" = some 9 by kernel_rfl).symm.trans hf) |>.symm
      obtain rfl : fn = Tryd.f9 := (Option.some.inj (Tryd.func9.symm.trans hfn)).symm
      exact ⟨by kernel_rfl, fun j t ht => by
        rw [Tryd.params9] at ht
        have hm : t ∈ [67, 65] := by simpa using Array.mem_of_getElem? ht
        have hall : ([67, 65].all fun u => !Tryd.prog.wantsStandIn u) = true := by kernel_rfl
        exact (show Tryd.prog.wantsStandIn t = false by simpa using List.all_eq_true.1 hall t hm)⟩)
    (by kernel_rfl)
end HivePowerLaw
end Go.Proofs.YteihfoacdocgkaaDoor
