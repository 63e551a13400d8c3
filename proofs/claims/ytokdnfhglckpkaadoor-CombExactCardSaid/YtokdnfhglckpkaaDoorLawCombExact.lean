/-
  CombExact: every text has the chunks and the manifest that the document says, or none. No condition: every input.
-/
import Derived.Test.YtokdnfhglckpkaaDoorRcD
import Derived.Test.YtokdnfhglckpkaaDoorCoG
import Derived.Test.YtokdnfhglckpkaaDoorRow
import Derived.Test.YtokdnfhglckpkaaDoorCards
import Derived.Test.YtokdnfhglckpkaaDoorTie
set_option linter.unusedVariables false
set_option linter.unusedSimpArgs false
namespace Go.Proofs.YtokdnfhglckpkaaDoor
open Go.RowKit
attribute [local go_sem] Lb.ba_get Lb.ba_cut Lb.ba_add Lb.ba_size Lb.take_rest

set_option maxHeartbeats 4000000 in
set_option maxRecDepth 100000 in
theorem combExact_core (l : List UInt8) (w : World) (hL : Laid KK w) (hl : l.length ≤ 140737488351232) :
    Calls Tryd.prog 3 #[.string ⟨l.toArray⟩] w fun e w' => e = .returned (.bool true) ∧ Below w.heap.size w w' := by
  obtain ⟨K, hK⟩ : ∃ K, K = KK := ⟨_, rfl⟩
  rw [← hK] at hL
  have HK := Lib.hid hK
  have HL := Lib.hid hL
  clear hL hK
  go_enter Tryd.func3, Tryd.ntmps3
  go_wp2_with fail
  refine (awake_any K w HL.out).mono ?_
  rintro e w1 ⟨rfl, hB1⟩
  have HB1 := Lib.hid hB1
  have HL1 := Lib.hid (HL.out.below hB1)
  clear hB1
  by_cases h13 : l.length ≤ 8192
  · have hi : ¬ (8192 : Int) < (l.length : Int) := by omega
    go_wp2_with fail
    refine (mani_of K l w1 HL1.out (by omega)).mono ?_
    rintro e w2 ⟨m, x, rfl, hm, hmo, hB2⟩
    have hmw := hm.whole
    have hinf : (Tryd.prog.info? 27).map (·.size) = some m.row.size := by rw [m.row_size hmw]; exact mani_info
    have hsz := m.row_size hmw
    have hone := m.row_one
    have Hm := Lib.hid hm
    have Hmo := Lib.hid hmo
    have HB2 := Lib.hid (HB1.out.trans (hB2.mono HB1.out.size))
    clear hm hmo hB2
    go_upto_region 6 with (refine wpList_store_row rfl 27 _ _ rfl w2.heap.size m.row rfl rfl 27 _ (heap_alloc_new w2 _) hinf (by rw [hsz]; rfl) hone ?_)
    obtain ⟨p, hp⟩ : ∃ p, p = w2.heap.size := ⟨_, rfl⟩
    have h3 := setRow_heap _ _ _ m.row _ _ (heap_alloc_new w2 (.cells zeroMani.row 27))
    have o3 : Only [p] w2 ((w2.alloc (.cells zeroMani.row 27)).setRow w2.heap.size m.row) := ((Only.refl [p] w2).alloc _).setRow (by simp [hp]) m.row
    show Code.wp _ _ _ _ ((w2.alloc (.cells zeroMani.row 27)).setRow w2.heap.size m.row)
    obtain ⟨w3, hw3⟩ : ∃ w3, w3 = (w2.alloc (.cells zeroMani.row 27)).setRow w2.heap.size m.row := ⟨_, rfl⟩
    rw [← hw3] at h3 o3 ⊢
    rw [← hp] at h3 ⊢
    have b3 : Below w2.heap.size w2 w3 := o3.below (Nat.le_refl _) (by simp [hp])
    have Hm3 := Lib.hid ((Hm.out.below b3 (Nat.le_refl _)).more b3.size)
    have H3 := Lib.hid h3
    have HB3 := Lib.hid (HB2.out.trans (b3.mono HB2.out.size))
    clear hw3 h3 o3 hp b3 HB2 Hm
    go_wp2_with fail
    refine (rmani_of l w3 (by omega)).mono ?_
    rintro e w4 ⟨n, y, rfl, hn, hno, hB4⟩
    obtain ⟨hsame, hxy⟩ := Hmo.out.same (HK.out ▸ hno)
    have hnw := hn.whole
    have ninf : (Tryd.prog.info? 27).map (·.size) = some n.row.size := by rw [n.row_size hnw]; exact mani_info
    have nsz := n.row_size hnw
    have none_ := n.row_one
    have Hn := Lib.hid hn
    have H4 := Lib.hid (below_keep hB4 H3.out)
    have Hm4 := Lib.hid ((Hm3.out.below hB4 (Nat.le_refl _)).more hB4.size)
    have HB4 := Lib.hid (HB3.out.trans (hB4.mono HB3.out.size))
    have Hsame := Lib.hid hsame
    have Hxy := Lib.hid hxy
    clear hn hno hB4 hsame hxy Hmo H3 Hm3 HB3
    go_upto_region 7 with (refine wpList_store_row rfl 27 _ _ rfl w4.heap.size n.row rfl rfl 27 _ (heap_alloc_new w4 _) ninf (by rw [nsz]; rfl) none_ ?_)
    obtain ⟨q, hq⟩ : ∃ p, p = w4.heap.size := ⟨_, rfl⟩
    have h5 := setRow_heap _ _ _ n.row _ _ (heap_alloc_new w4 (.cells zeroMani.row 27))
    have o5 : Only [q] w4 ((w4.alloc (.cells zeroMani.row 27)).setRow w4.heap.size n.row) := ((Only.refl [q] w4).alloc _).setRow (by simp [hq]) n.row
    show Code.wp _ _ _ _ ((w4.alloc (.cells zeroMani.row 27)).setRow w4.heap.size n.row)
    obtain ⟨w5, hw5⟩ : ∃ w5, w5 = (w4.alloc (.cells zeroMani.row 27)).setRow w4.heap.size n.row := ⟨_, rfl⟩
    rw [← hw5] at h5 o5 ⊢
    rw [← hq] at h5 ⊢
    have b5 : Below w4.heap.size w4 w5 := o5.below (Nat.le_refl _) (by simp [hq])
    have Hm5 := Lib.hid ((Hm4.out.below b5 (Nat.le_refl _)).more b5.size)
    have Hn5 := Lib.hid ((Hn.out.below b5 (Nat.le_refl _)).more b5.size)
    have H5 := Lib.hid h5
    have H5p := Lib.hid (below_keep b5 H4.out)
    have HB5 := Lib.hid (HB4.out.trans (b5.mono HB4.out.size))
    clear hw5 h5 o5 hq b5 HB4 Hm4 Hn H4
    go_wp2_with fail
    refine (split_any l w5 (by omega)).mono ?_
    rintro e w6 ⟨v, rfl, hT, hB6⟩
    obtain ⟨A, cap, rfl, hcx, hcap⟩ := Bag0.shape hT
    obtain ⟨c, hc⟩ : ∃ c, c = (chunks l).length := ⟨_, rfl⟩
    have hcl : c ≤ 129 := by rw [hc, chunks_length]; omega
    have HS6 := Lib.hid hT.strs
    have HB6 := Lib.hid hB6
    have Hc := Lib.hid hc.symm
    rw [← hc] at hcap ⊢
    clear hT hB6 hc
    go_wp2_with fail
    refine (rsplit_any l w6 (by omega)).mono ?_
    rintro e w7 ⟨v, rfl, hT, hB7⟩
    obtain ⟨A', cap', rfl, hcx', hcap'⟩ := Bag0.shape hT
    rw [Hc.out] at hcap' ⊢
    have HS7 := Lib.hid hT.strs
    have HS67 := Lib.hid ((HS6.out.below hB7 (Nat.le_refl _)).more hB7.size)
    have HB7 := Lib.hid (HB6.out.trans (hB7.mono HB6.out.size))
    clear hT hB7 HS6 HB6
    go_wp2_with fail
    refine (rsame_eq A A' cap cap' c (chunks l) (chunks l) w7 Hc.out Hc.out HS67.out HS7.out (by unfold maxLen; omega)).mono ?_
    rintro e w8 ⟨rfl, hB8⟩
    rw [show (chunks l == chunks l) = true by simp]
    have hb58 : Below w5.heap.size w5 w8 := HB7.out.trans (hB8.mono HB7.out.size)
    have H8p := Lib.hid (below_keep hb58 H5p.out)
    have H8q := Lib.hid (below_keep hb58 H5.out)
    have hsm := rmsame_any m n w8 ((Hm5.out.below hb58 (Nat.le_refl _)).more hb58.size) ((Hn5.out.below hb58 (Nat.le_refl _)).more hb58.size)
    rw [Hsame.out] at hsm
    have Hsm := Lib.hid hsm
    have HB8 := Lib.hid (HB5.out.trans (hb58.mono HB5.out.size))
    clear hb58 hsm hB8
    have tok1 : True := trivial
    have tok2 : True := trivial
    go_wp2_with (first
      | (have _t := tok1; refine wpList_load_rowG (by kernel_rfl) 27 _ rfl p rfl 27 _ (0, 0) _ H8p.out Tryd.underlying27 rfl hinf ?_; clear tok1)
      | (have _t := tok2; refine wpList_load_rowG (by kernel_rfl) 27 _ rfl q rfl 27 _ (0, 0) _ H8q.out Tryd.underlying27 rfl ninf ?_; clear tok2))
    refine Hsm.out.mono ?_
    rintro e w9 ⟨rfl, hB9⟩
    have hxx : (x == y) = true := by rw [Hxy.out]; simp
    have HB9 := Lib.hid (HB8.out.trans (hB9.mono HB8.out.size))
    clear hB9
    go_wp2_with fail
    go_ret
    exact ⟨rfl, HB9.out⟩
  · have hi : (8192 : Int) < (l.length : Int) := by omega
    go_wp2_with fail
    go_ret
    exact ⟨rfl, HB1.out⟩

namespace CombExactLaw
open Go.ChangeShapes Go.WideShapes Go.ChangeAt
open Go.ChangeMaps (open_string shut_string)
set_option maxRecDepth 100000 in
theorem contract (H : Type) (enc : TypeId × Value → H) (W : World) (base : Nat) (args : Array Value) (ds gs : List (DataW H)) (before : List MemPlace)
    (hval : ∀ (j : Nat) t v, Tryd.f3.params[j]? = some t → args[j]? = some v → Value.okWide Tryd.prog W .any base t v)
    (hW : DataW.Whole enc Tryd.prog Tryd.f3.params.toList Rows.combExactSpec.vars false W args.toList ds gs before) (hsz0 : (DataW.weightsEach Tryd.prog (Tryd.f3.params.toList ++ Rows.combExactSpec.plain.varTypes Tryd.prog) (ds ++ gs)).all (· ≤ reachBytes) = true) (hLd : laidMetH Tryd.prog laid1 W) :
    Calls Tryd.prog 3 args W fun e W' => ∃ v, e = .returned v ∧ Rows.combExactSpec.post enc Tryd.prog Tryd.f3 false true false false W args v W' := by
  have hW' := hW
  obtain ⟨p, q, hA0, hV, rfl, hfz, hnd⟩ := hW
  have hA : DataW.TrodAll enc Tryd.prog W 0 (fun _ => true) true Tryd.f3.params.toList args.toList ds p := hA0
  rw [Tryd.params3] at hA hval
  obtain ⟨v0, vs0, d0, ds0, p0, q0, hargs, rfl, rfl, h0, r0⟩ := trodAll_cons hA
  obtain ⟨rfl, rfl, rfl⟩ := trodAll_nil r0
  obtain rfl : args = #[v0] := by cases args; simp_all
  obtain ⟨rfl, rfl⟩ := trodVars_none hV
  obtain ⟨s0, rfl, hd0, _, hs0⟩ := open_string Tryd.underlying9 (hval 0 9 v0 rfl rfl) h0
  obtain ⟨x0, rfl, hx0, hy0⟩ := as_list s0
  have z0 : x0.length ≤ 140737488351232 := by
    have := sized_string hsz0 (j := 0) (t := 9) (bytes := x0) (by simp [Tryd.params3]) (by rw [hd0, hx0]; rfl)
    simpa [reachBytes] using this
  refine (combExact_core x0 W (of_laid hLd) z0).mono fun e W' ⟨he, hg⟩ => ?_
  subst he
  exact ⟨_, rfl, law_post (tb := 4) laidOut_ (of_decide_eq_true (by kernel_rfl)) Tryd.underlying4 (by kernel_rfl) rfl rfl hW' hg⟩

theorem door_met (os : Os) (args : Array Value) : laidMetH Tryd.prog laid1 ((World.doorLaid Tryd.prog 400 os).forCall (fun _ _ => 0) ⟨#[], args, []⟩).memory :=
  laidMetH_of_parts3 (fuel := 8) (laidMet_of_run' 8 (by kernel_rfl) (by kernel_rfl)) (by kernel_rfl) (by kernel_rfl)

set_option maxRecDepth 100000 in
theorem lifted (os : Os) (started : os.Started) (H : Type) (enc : TypeId × Value → H) :
    ReturnsInHanded {} Tryd.checked os 3 .any (fun w args => (Rows.combExactSpec.pre enc Tryd.prog Tryd.f3 [] false w args ∧ laidMetH Tryd.prog laid1 w) ∧ sizedMet enc Tryd.prog Tryd.f3 (OpenSpec.ofChange Rows.combExactSpec) false w args)
      (Rows.combExactSpec.post enc Tryd.prog Tryd.f3 false true false false) := by
  refine returnsInHanded_of_change_and (C := Tryd.checked) (X := fun w _ => laidMetH Tryd.prog laid1 w) (fun _ _ _ hh h => h.of_heap hh) ownKnob_ started (by kernel_rfl) Tryd.func3
    (ChangeSpec.witness_shaped (enc := enc) (C := Tryd.checked) (os := os) (X := fun w _ => laidMetH Tryd.prog laid1 w) false (World.doorLaid Tryd.prog 400 os) #[.string .empty] 8 rfl (World.shaped_of_RefB (by kernel_rfl) (by kernel_rfl)) (by kernel_rfl) (by kernel_rfl) (by kernel_rfl) (door_met os _)) ?_
  intro W base args ds gs before hval hW _ hsz hLd _
  exact contract H enc W base args ds gs before hval hW hsz hLd

theorem said : Rows.CombExactSaid :=
  OpenClaim.holds_of_wide 3 Tryd.f3 rfl rfl rfl rfl rfl rfl rfl ⟨rfl, rfl, rfl, rfl, rfl⟩ rfl rfl rfl rfl rfl (by kernel_rfl) Tryd.func3 (by kernel_rfl)
    (of_decide_eq_true (by kernel_rfl)) (by unfold Func.isWrapper; first | (rw [if_pos (by decide +kernel)]; kernel_rfl) | (rw [if_neg (by decide +kernel)]; exact ⟨rfl, rfl⟩))
    (fun os started H enc _ => lifted os started H enc)

theorem proved : Rows.CombExactCardSaid :=
  Claim7.holds_tied_plain_at .later [] [.data] true Rows.combExactCard.stood.harness false
    said (fun _ h => by cases h) (by kernel_rfl) (fun _ h => by cases h) combExact_row_tie rfl ⟨rfl, rfl⟩ (by kernel_rfl) rfl
    (fun f fn hf hfn => by
      obtain rfl : f = 3 := Option.some.inj ((show Tryd.prog.funcNamed "apiary/apiarylaw03.CombExact" = some 3 by kernel_rfl).symm.trans hf) |>.symm
      obtain rfl : fn = Tryd.f3 := (Option.some.inj (Tryd.func3.symm.trans hfn)).symm
      exact ⟨by kernel_rfl, fun j t ht => by
        rw [Tryd.params3] at ht
        have hm : t ∈ [9] := by simpa using Array.mem_of_getElem? ht
        have hall : ([9].all fun u => !Tryd.prog.wantsStandIn u) = true := by kernel_rfl
        exact (show Tryd.prog.wantsStandIn t = false by simpa using List.all_eq_true.1 hall t hm)⟩)
    (by kernel_rfl)
end CombExactLaw

end Go.Proofs.YtokdnfhglckpkaaDoor
