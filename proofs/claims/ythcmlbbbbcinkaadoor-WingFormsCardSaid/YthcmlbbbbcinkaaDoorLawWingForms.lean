/-
  WingForms: bytes that are read as a frame are that frame's own; else none is answered. No condition: every input.
-/
import Derived.Test.YthcmlbbbbcinkaaDoorWkE
import Derived.Test.YthcmlbbbbcinkaaDoorWkF
import Derived.Test.YthcmlbbbbcinkaaDoorCards
import Derived.Test.YthcmlbbbbcinkaaDoorTie
set_option linter.unusedVariables false
set_option linter.unusedSimpArgs false
namespace Go.Proofs.YthcmlbbbbcinkaaDoor
open Go.RowKit Pl
attribute [local go_sem] Lb.ba_get Lb.ba_cut Lb.ba_add Lb.ba_size Lb.take_rest
open Wi in
theorem forms_cases {K : List Int} {t : Bs} {f : Fm} {y : Int} (h : DecAns K (hashB K t ++ t) f y) : (y = 4 ∧ f = zFm ∧ 4096 < (hashB K t ++ t).length) ∨ (y = 0 ∧ f.Wf ∧ good f = true ∧ hashB K t ++ t = enc K f) ∨ (y = 3 ∧ f = zFm) := by
  have hl := hashB_length K t
  unfold DecAns at h
  by_cases h4 : 4096 < (hashB K t ++ t).length
  · rw [if_pos h4] at h; exact .inl ⟨h.1, h.2, h4⟩
  · rw [if_neg h4] at h
    rw [if_neg (by
      rw [List.length_append, hl]
      intro hh
      rcases hh with hh | hh
      · omega
      · exact hh (by rw [List.drop_left' hl, List.take_left' hl]))] at h
    rcases h with h | h
    · exact .inr (.inl h)
    · exact .inr (.inr ⟨h.1, h.2.1⟩)
open Wi in
set_option maxHeartbeats 8000000 in
set_option maxRecDepth 100000 in
open Classical in
theorem wingForms_core (t : List UInt8) (w : World) (hL : Laid KK w) (hs : t.length ≤ 140737488351232) :
    Calls Tryd.prog 4 #[.string ⟨t.toArray⟩] w fun e w' => e = .returned (.bool true) ∧ Below w.heap.size w w' := by
  have fund := Tryd.underlying36
  have HL := Lib.hid hL
  have hhl := hashB_length KK t
  have HCs := Lib.hid (fun f y => forms_cases (K := KK) (t := t) (f := f) (y := y))
  have HOf := Lib.hid (fun W (A : Option Addr) (hW : Laid KK W) (hA : Fts' W 0 A t) => of_hash KK A 1 t W hW hA (by omega))
  have HD := Lib.hid (fun W (hW : Laid KK W) (htl : t.length ≤ 8192) => wdecode_any KK (hashB KK t ++ t) W hW (by rw [List.length_append, hashB_length]; omega))
  obtain ⟨hd, hhd⟩ : ∃ h, h = hashB KK t := ⟨_, rfl⟩
  rw [← hhd] at hhl HCs HOf HD
  have hds := digV_size hd
  rw [hhl] at hds
  have hdi := dig_infoL hhl
  have hd1 := digV_one hd
  have HAw := Lib.hid (wawake_any KK w hL)
  have HB := Lib.hid (Below.refl w.heap.size w)
  have hbz := built_zFm
  obtain ⟨ZC, hZC⟩ : ∃ Z, Z = (zFm.cells Adr.zero).toArray := ⟨_, rfl⟩
  rw [← hZC] at hbz
  have HZC := Lib.hid hZC
  clear hL hhd hZC
  go_enter Tryd.func4, Tryd.ntmps4
  go_wp2_with fail
  refine HAw.out.mono ?_
  rintro e w1 ⟨rfl, hB⟩
  replace HB := Lib.hid (HB.out.trans hB)
  replace HL := Lib.hid (HL.out.below hB)
  clear hB HAw
  by_cases h13 : (8192 : Int) < (t.length : Int)
  · have d13 : decide ((8192 : Int) < (t.length : Int)) = true := by simp; omega
    clear HD HOf HCs
    go_wp2_with fail
    go_ret
    exact ⟨rfl, HB.out⟩
  have d13 : decide ((8192 : Int) < (t.length : Int)) = false := by simp; omega
  have htl : t.length ≤ 8192 := by omega
  have HOz := Lib.hid (HOf.out _ (some ⟨w1.heap.size, 0, none⟩) (HL.out.alloc (.cells #[.string ⟨t.toArray⟩] 9)) (fts_new w1 t 9))
  go_wp2_with fail
  refine HOz.out.mono ?_
  rintro e w3 ⟨rfl, hB⟩
  have hB23 : Below w1.heap.size w1 w3 := ((Below.refl _ w1).alloc (Nat.le_refl _) _).trans (hB.mono (by simp))
  replace HB := Lib.hid (HB.out.trans (hB23.mono HB.out.size))
  replace HL := Lib.hid (HL.out.below hB23)
  have hn3 := heap_alloc_new w3 (.cells (digV z32) 23)
  have hsz3 : (digV z32).size = (digV hd).size := by rw [hds]; rfl
  clear hB hB23 HOz HOf
  go_upto_region 6 with (refine wpList_store_row rfl 23 _ _ rfl w3.heap.size (digV hd) rfl rfl 23 (digV z32) hn3 hdi hsz3 hd1 ?_)
  try simp only [Act.put]
  show Code.wp _ _ _ _ ((w3.alloc (.cells (digV z32) 23)).setRow w3.heap.size (digV hd))
  obtain ⟨w4, hw4⟩ : ∃ y, y = (w3.alloc (.cells (digV z32) 23)).setRow w3.heap.size (digV hd) := ⟨_, rfl⟩
  obtain ⟨qd, hqd⟩ : ∃ g, g = w3.heap.size := ⟨_, rfl⟩
  have l4 := setRow_heap _ _ _ (digV hd) _ _ hn3
  have o4 := ((Only.refl [qd] w3).alloc (.cells (digV z32) 23)).setRow (g := qd) (by simp) (digV hd)
  rw [← hqd] at hw4 l4 ⊢
  rw [← hw4] at l4 o4 ⊢
  have b4 : Below w3.heap.size w3 w4 := o4.below (Nat.le_refl _) (by simp; omega)
  replace HB := Lib.hid (HB.out.trans (b4.mono HB.out.size))
  replace HL := Lib.hid (HL.out.below b4)
  have hc4 := conv_rng hhl (range_heap l4) (heap_lt l4) w4 (Below.refl _ _)
  have hadd : ¬ 9223372036854775807 < hd.length + t.length := by omega
  have hadd2 : ¬ 9223372036854775807 < 32 + t.length := by omega
  clear hw4 hqd l4 o4 b4 hn3 hsz3 hdi hd1 hds
  have HDz := Lib.hid (HD.out w4 HL.out htl)
  go_wp2_with fail
  refine HDz.out.mono ?_
  rintro e w5 ⟨f, x, y, rfl, ha, hok, hB⟩
  have hcs := HCs.out _ _ ha
  replace HB := Lib.hid (HB.out.trans (hB.mono HB.out.size))
  replace HL := Lib.hid (HL.out.below hB)
  have hwf := hok.wf
  have hi5 := fm_infoR hwf x
  have ho5 : (f.cells x).toArray.all (·.oneCell') = true := by rw [List.all_toArray]; exact Fm.one _ _
  have hz5 : Tryd.zeroCells36.size = (f.cells x).toArray.size := by rw [zero_fm, List.size_toArray, List.size_toArray, Fm.len zFm_wf, Fm.len hwf]
  have hn5 := heap_alloc_new w5 (.cells Tryd.zeroCells36 36)
  have Hok := Lib.hid hok
  obtain ⟨R, hR⟩ : ∃ R, R = (f.cells x).toArray := ⟨_, rfl⟩
  rw [← hR] at hi5 ho5 hz5
  rw [← hR]
  have HR := Lib.hid hR
  have HC := Lib.hid hcs
  clear ha hok hB hR HCs hcs hwf HD HDz hc4
  go_upto_region 8 with (refine wpList_store_row rfl 36 _ _ rfl w5.heap.size R rfl rfl 36 _ hn5 hi5 hz5 ho5 ?_)
  try simp only [Act.put]
  show Code.wp _ _ _ _ ((w5.alloc (.cells Tryd.zeroCells36 36)).setRow w5.heap.size R)
  obtain ⟨w6, hw6⟩ : ∃ y, y = (w5.alloc (.cells Tryd.zeroCells36 36)).setRow w5.heap.size R := ⟨_, rfl⟩
  obtain ⟨q5, hq5⟩ : ∃ g, g = w5.heap.size := ⟨_, rfl⟩
  have l6 := setRow_heap _ _ _ R _ _ hn5
  have o6 := ((Only.refl [q5] w5).alloc (.cells Tryd.zeroCells36 36)).setRow (g := q5) (by simp) R
  rw [← hq5] at hw6 l6 ⊢
  rw [← hw6] at l6 o6 ⊢
  have b6 : Below w5.heap.size w5 w6 := o6.below (Nat.le_refl _) (by simp; omega)
  replace HB := Lib.hid (HB.out.trans (b6.mono HB.out.size))
  replace HL := Lib.hid (HL.out.below b6)
  replace Hok := Lib.hid ((Hok.out.below b6 (Nat.le_refl _)).more b6.size)
  have L6 := Lib.hid l6
  clear hw6 hq5 l6 o6 b6 hn5 hz5 ho5
  have HSz : f = zFm → Calls Tryd.prog 10 #[.agg R, .agg ZC] w6 fun e w' => e = .returned (.bool true) ∧ Below w6.heap.size w6 w' := fun hz => by
    subst hz
    rw [HR.out, HZC.out]
    exact (same_any zFm zFm x Adr.zero w6 Hok.out (zFm_ok _ _ _)).mono (fun e w' h => ⟨h.1.trans (by simp), h.2⟩)
  rcases HC.out with ⟨rfl, hz, h4⟩ | ⟨rfl, hw, hg, he⟩ | ⟨rfl, hz⟩
  · have HS := Lib.hid (HSz hz)
    have d4 : decide ((4096 : Int) < ((hd.length + t.length : Nat) : Int)) = true := by rw [List.length_append] at h4; simp; omega
    have d5 : (4096 : Int) < (hd.length : Int) + (t.length : Int) := by rw [List.length_append] at h4; omega
    have d6 : (4096 : Int) < 32 + (t.length : Int) := by omega
    clear HSz HC hz h4
    go_wp2_with (first
      | (refine wpList_load_row rfl 36 _ rfl q5 rfl 36 R (0, 0) _ L6.out fund rfl hi5 ?_)
      | (refine wpList_build0G (by kernel_rfl) 36 rfl ZC hbz ?_))
    refine HS.out.mono ?_
    rintro e w7 ⟨rfl, hB⟩
    replace HB := Lib.hid (HB.out.trans (hB.mono HB.out.size))
    clear hB HS L6
    go_wp2_with fail
    go_ret
    exact ⟨rfl, HB.out⟩
  · have HE := Lib.hid (wencode_any KK f x w6 HL.out Hok.out)
    have hea : encAns KK f = (hd ++ t, 0) := by unfold encAns; rw [if_pos hg, he]
    rw [hea, ← HR.out] at HE
    clear HSz HC hw hg he hea
    go_wp2_with (refine wpList_load_row rfl 36 _ rfl q5 rfl 36 R (0, 0) _ L6.out fund rfl hi5 ?_)
    refine HE.out.mono ?_
    rintro e w7 ⟨rfl, hB⟩
    replace HB := Lib.hid (HB.out.trans (hB.mono HB.out.size))
    clear hB HE L6
    go_wp2_with fail
    go_ret
    exact ⟨rfl, HB.out⟩
  · have HS := Lib.hid (HSz hz)
    clear HSz HC hz
    go_wp2_with (first
      | (refine wpList_load_row rfl 36 _ rfl q5 rfl 36 R (0, 0) _ L6.out fund rfl hi5 ?_)
      | (refine wpList_build0G (by kernel_rfl) 36 rfl ZC hbz ?_))
    refine HS.out.mono ?_
    rintro e w7 ⟨rfl, hB⟩
    replace HB := Lib.hid (HB.out.trans (hB.mono HB.out.size))
    clear hB HS L6
    go_wp2_with fail
    go_ret
    exact ⟨rfl, HB.out⟩

namespace WingFormsLaw
open Go.ChangeShapes Go.WideShapes Go.ChangeAt
open Go.ChangeMaps (open_string shut_string)
set_option maxRecDepth 100000 in
theorem contract (H : Type) (enc : TypeId × Value → H) (W : World) (base : Nat) (args : Array Value) (ds gs : List (DataW H)) (before : List MemPlace)
    (hval : ∀ (j : Nat) t v, Tryd.f4.params[j]? = some t → args[j]? = some v → Value.okWide Tryd.prog W .any base t v)
    (hW : DataW.Whole enc Tryd.prog Tryd.f4.params.toList Rows.wingFormsSpec.vars false W args.toList ds gs before) (hsz0 : (DataW.weightsEach Tryd.prog (Tryd.f4.params.toList ++ Rows.wingFormsSpec.plain.varTypes Tryd.prog) (ds ++ gs)).all (· ≤ reachBytes) = true) (hLd : laidMetH Tryd.prog laid1 W) :
    Calls Tryd.prog 4 args W fun e W' => ∃ v, e = .returned v ∧ Rows.wingFormsSpec.post enc Tryd.prog Tryd.f4 false true false false W args v W' := by
  have hW' := hW
  obtain ⟨p, q, hA0, hV, rfl, hfz, hnd⟩ := hW
  have hA : DataW.TrodAll enc Tryd.prog W 0 (fun _ => true) true Tryd.f4.params.toList args.toList ds p := hA0
  rw [Tryd.params4] at hA hval
  obtain ⟨v0, vs0, d0, ds0, p0, q0, hargs, rfl, rfl, h0, r0⟩ := trodAll_cons hA
  obtain ⟨rfl, rfl, rfl⟩ := trodAll_nil r0
  obtain rfl : args = #[v0] := by cases args; simp_all
  obtain ⟨rfl, rfl⟩ := trodVars_none hV
  obtain ⟨s0, rfl, hd0, _, hs0⟩ := open_string Tryd.underlying9 (hval 0 9 v0 rfl rfl) h0
  obtain ⟨x0, rfl, hx0, hy0⟩ := as_list s0
  have z0 : x0.length ≤ 140737488351232 := by
    have := sized_string hsz0 (j := 0) (t := 9) (bytes := x0) (by simp [Tryd.params4]) (by rw [hd0, hx0]; rfl)
    simpa [reachBytes] using this
  refine (wingForms_core x0 W (of_laid hLd) z0).mono fun e W' ⟨he, hg⟩ => ?_
  subst he
  exact ⟨_, rfl, law_post (tb := 4) laidOut_ (of_decide_eq_true (by kernel_rfl)) Tryd.underlying4 (by kernel_rfl) rfl rfl hW' hg⟩

theorem door_met (os : Os) (args : Array Value) : laidMetH Tryd.prog laid1 ((World.doorLaid Tryd.prog 400 os).forCall (fun _ _ => 0) ⟨#[], args, []⟩).memory :=
  laidMetH_of_parts3 (fuel := 8) (laidMet_of_run' 8 (by kernel_rfl) (by kernel_rfl)) (by kernel_rfl) (by kernel_rfl)

set_option maxRecDepth 100000 in
theorem lifted (os : Os) (started : os.Started) (H : Type) (enc : TypeId × Value → H) :
    ReturnsInHanded {} Tryd.checked os 4 .any (fun w args => (Rows.wingFormsSpec.pre enc Tryd.prog Tryd.f4 [] false w args ∧ laidMetH Tryd.prog laid1 w) ∧ sizedMet enc Tryd.prog Tryd.f4 (OpenSpec.ofChange Rows.wingFormsSpec) false w args)
      (Rows.wingFormsSpec.post enc Tryd.prog Tryd.f4 false true false false) := by
  refine returnsInHanded_of_change_and (C := Tryd.checked) (X := fun w _ => laidMetH Tryd.prog laid1 w) (fun _ _ _ hh h => h.of_heap hh) ownKnob_ started (by kernel_rfl) Tryd.func4
    (ChangeSpec.witness_shaped (enc := enc) (C := Tryd.checked) (os := os) (X := fun w _ => laidMetH Tryd.prog laid1 w) false (World.doorLaid Tryd.prog 400 os) #[.string .empty] 8 rfl (World.shaped_of_RefB (by kernel_rfl) (by kernel_rfl)) (by kernel_rfl) (by kernel_rfl) (by kernel_rfl) (door_met os _)) ?_
  intro W base args ds gs before hval hW _ hsz hLd _
  exact contract H enc W base args ds gs before hval hW hsz hLd

theorem said : Rows.WingFormsSaid :=
  OpenClaim.holds_of_wide 4 Tryd.f4 rfl rfl rfl rfl rfl rfl rfl ⟨rfl, rfl, rfl, rfl, rfl⟩ rfl rfl rfl rfl rfl (by kernel_rfl) Tryd.func4 (by kernel_rfl)
    (of_decide_eq_true (by kernel_rfl)) (by unfold Func.isWrapper; first | (rw [if_pos (by decide +kernel)]; kernel_rfl) | (rw [if_neg (by decide +kernel)]; exact ⟨rfl, rfl⟩))
    (fun os started H enc _ => lifted os started H enc)

theorem proved : Rows.WingFormsCardSaid :=
  Claim7.holds_tied_plain_at .later [] [.data] true Rows.wingFormsCard.stood.harness false
    said (fun _ h => by cases h) (by kernel_rfl) (fun _ h => by cases h) wingForms_row_tie rfl ⟨rfl, rfl⟩ (by kernel_rfl) rfl
    (fun f fn hf hfn => by
      obtain rfl : f = 4 := Option.some.inj ((show Tryd.prog.funcNamed "apiary/apiarylaw19.WingForms" = some 4 by kernel_rfl).symm.trans hf) |>.symm
      obtain rfl : fn = Tryd.f4 := (Option.some.inj (Tryd.func4.symm.trans hfn)).symm
      exact ⟨by kernel_rfl, fun j t ht => by
        rw [Tryd.params4] at ht
        have hm : t ∈ [9] := by simpa using Array.mem_of_getElem? ht
        have hall : ([9].all fun u => !Tryd.prog.wantsStandIn u) = true := by kernel_rfl
        exact (show Tryd.prog.wantsStandIn t = false by simpa using List.all_eq_true.1 hall t hm)⟩)
    (by kernel_rfl)
end WingFormsLaw

end Go.Proofs.YthcmlbbbbcinkaaDoor
