/-
  CombParts: all chunks but the last one have 64 bytes, none is empty, and one behind the other they are the text. No condition: every input.
-/
import Derived.Test.YtokdnfhglckpkaaDoorCoG
import Derived.Test.YtokdnfhglckpkaaDoorRow
import Derived.Test.YtokdnfhglckpkaaDoorCards
import Derived.Test.YtokdnfhglckpkaaDoorTie
set_option linter.unusedVariables false
set_option linter.unusedSimpArgs false
namespace Go.Proofs.YtokdnfhglckpkaaDoor
open Go.RowKit
attribute [local go_sem] Lb.ba_get Lb.ba_cut Lb.ba_add Lb.ba_size Lb.take_rest

set_option maxHeartbeats 4000000 in
set_option maxRecDepth 100000 in
theorem combParts_core (l : List UInt8) (w : World) (hL : Laid KK w) (hl : l.length ≤ 140737488351232) :
    Calls Tryd.prog 6 #[.string ⟨l.toArray⟩] w fun e w' => e = .returned (.bool true) ∧ Below w.heap.size w w' := by
  have HL := Lib.hid hL
  clear hL
  go_enter Tryd.func6, Tryd.ntmps6
  go_wp2_with fail
  refine (awake_any KK w HL.out).mono ?_
  rintro e w1 ⟨rfl, hB1⟩
  have HB1 := Lib.hid hB1
  clear hB1
  by_cases h13 : l.length ≤ 8192
  · have hi : ¬ (8192 : Int) < (l.length : Int) := by omega
    go_wp2_with fail
    refine (split_any l w1 (by omega)).mono ?_
    rintro e w2 ⟨v, rfl, hT, hB2⟩
    obtain ⟨A, cap, rfl, hcx, hcap⟩ := Bag0.shape hT
    obtain ⟨n, hn⟩ : ∃ n, n = (chunks l).length := ⟨_, rfl⟩
    rw [← hn] at hcap ⊢
    have hnl : n = (l.length + 63) / 64 := by rw [hn, chunks_length]
    have hn129 : (n : Int) ≤ 129 := by omega
    have HT := Lib.hid hT
    have Hn := Lib.hid hn
    have Hnl := Lib.hid hnl
    have HB2 := Lib.hid (HB1.out.trans (hB2.mono HB1.out.size))
    clear hT hB2 hn hnl
    go_wp2_with fail
    go_loopw [4, 5] (fun s c wr => ∃ j : Nat, j ≤ n ∧ c = .int .i64 j ∧ s = .string ⟨(l.take (64 * j)).toArray⟩ ∧ wr = w2) (fun _ c _ => n - (intOf c).toNat)
    case atStart => exact ⟨0, by omega, rfl, rfl, rfl⟩
    case round =>
      obtain ⟨j, hj, rfl, rfl, rfl⟩ := hrel
      have hrl : (l.take (64 * j)).length ≤ 8192 := by simp; omega
      by_cases hjn : j < n
      · obtain ⟨g, rfl, _, _, hc⟩ := HT.out.cell j (by rw [← Hn.out]; exact hjn)
        rw [chunks_get] at hc
        obtain ⟨t, ht⟩ : ∃ t, t = chunk l j := ⟨_, rfl⟩
        rw [← ht] at hc
        have htl : t.length = min 64 (l.length - 64 * j) := by rw [ht, chunk_length]
        have hnl := Hnl.out
        have ht0 : t ≠ [] := by
          intro h
          rw [h] at htl
          simp at htl
          omega
        have ht0' : t.isEmpty = false := by simpa using ht0
        have hnext : l.take (64 * j) ++ t = l.take (64 * (j + 1)) := by
          rw [show 64 * (j + 1) = 64 * j + 64 by omega, List.take_add, ht]; rfl
        have h64 : (t.length : Int) ≤ 64 := by omega
        have h64' : ¬ (64 : Int) < (t.length : Int) := by omega
        have hlast : (j : Int) < (n : Int) - 1 → (t.length : Int) = 64 := by omega
        obtain ⟨r, hr⟩ : ∃ r, r = l.take (64 * j) := ⟨_, rfl⟩
        rw [← hr] at hrl hnext ⊢
        have hri : (r.length : Int) ≤ 8192 := by omega
        have j0 : (0 : Int) ≤ (j : Int) := by omega
        have jn : (j : Int) < (n : Int) := by omega
        have Hnext := Lib.hid hnext
        clear hnext hr htl ht hnl
        by_cases hl1 : (j : Int) < (n : Int) - 1
        · have he := hlast hl1
          have hbe : ((t.length : Int) != 64) = false := by rw [he]; rfl
          go_wp2_with fail
          go_roundw
          case rel => exact ⟨j + 1, by omega, by go_num, by rw [Hnext.out], by first | rfl | trivial⟩
          case measure => simp [intOf]; omega
        · go_wp2_with fail
          go_roundw
          case rel => exact ⟨j + 1, by omega, by go_num, by rw [Hnext.out], by first | rfl | trivial⟩
          case measure => simp [intOf]; omega
      · have hjn' : j = n := by omega
        subst hjn'
        have hall : l.take (64 * j) = l := List.take_of_length_le (by have := Hnl.out; omega)
        rw [hall]
        go_wp2_with fail
        go_ret
        exact ⟨by simp, HB2.out⟩
  · have hi : (8192 : Int) < (l.length : Int) := by omega
    go_wp2_with fail
    go_ret
    exact ⟨rfl, HB1.out⟩

namespace CombPartsLaw
open Go.ChangeShapes Go.WideShapes Go.ChangeAt
open Go.ChangeMaps (open_string shut_string)
set_option maxRecDepth 100000 in
theorem contract (H : Type) (enc : TypeId × Value → H) (W : World) (base : Nat) (args : Array Value) (ds gs : List (DataW H)) (before : List MemPlace)
    (hval : ∀ (j : Nat) t v, Tryd.f6.params[j]? = some t → args[j]? = some v → Value.okWide Tryd.prog W .any base t v)
    (hW : DataW.Whole enc Tryd.prog Tryd.f6.params.toList Rows.combPartsSpec.vars false W args.toList ds gs before) (hsz0 : (DataW.weightsEach Tryd.prog (Tryd.f6.params.toList ++ Rows.combPartsSpec.plain.varTypes Tryd.prog) (ds ++ gs)).all (· ≤ reachBytes) = true) (hLd : laidMetH Tryd.prog laid1 W) :
    Calls Tryd.prog 6 args W fun e W' => ∃ v, e = .returned v ∧ Rows.combPartsSpec.post enc Tryd.prog Tryd.f6 false true false false W args v W' := by
  have hW' := hW
  obtain ⟨p, q, hA0, hV, rfl, hfz, hnd⟩ := hW
  have hA : DataW.TrodAll enc Tryd.prog W 0 (fun _ => true) true Tryd.f6.params.toList args.toList ds p := hA0
  rw [Tryd.params6] at hA hval
  obtain ⟨v0, vs0, d0, ds0, p0, q0, hargs, rfl, rfl, h0, r0⟩ := trodAll_cons hA
  obtain ⟨rfl, rfl, rfl⟩ := trodAll_nil r0
  obtain rfl : args = #[v0] := by cases args; simp_all
  obtain ⟨rfl, rfl⟩ := trodVars_none hV
  obtain ⟨s0, rfl, hd0, _, hs0⟩ := open_string Tryd.underlying9 (hval 0 9 v0 rfl rfl) h0
  obtain ⟨x0, rfl, hx0, hy0⟩ := as_list s0
  have z0 : x0.length ≤ 140737488351232 := by
    have := sized_string hsz0 (j := 0) (t := 9) (bytes := x0) (by simp [Tryd.params6]) (by rw [hd0, hx0]; rfl)
    simpa [reachBytes] using this
  refine (combParts_core x0 W (of_laid hLd) z0).mono fun e W' ⟨he, hg⟩ => ?_
  subst he
  exact ⟨_, rfl, law_post (tb := 4) laidOut_ (of_decide_eq_true (by kernel_rfl)) Tryd.underlying4 (by kernel_rfl) rfl rfl hW' hg⟩

theorem door_met (os : Os) (args : Array Value) : laidMetH Tryd.prog laid1 ((World.doorLaid Tryd.prog 400 os).forCall (fun _ _ => 0) ⟨#[], args, []⟩).memory :=
  laidMetH_of_parts3 (fuel := 8) (laidMet_of_run' 8 (by kernel_rfl) (by kernel_rfl)) (by kernel_rfl) (by kernel_rfl)

set_option maxRecDepth 100000 in
theorem lifted (os : Os) (started : os.Started) (H : Type) (enc : TypeId × Value → H) :
    ReturnsInHanded {} Tryd.checked os 6 .any (fun w args => (Rows.combPartsSpec.pre enc Tryd.prog Tryd.f6 [] false w args ∧ laidMetH Tryd.prog laid1 w) ∧ sizedMet enc Tryd.prog Tryd.f6 (OpenSpec.ofChange Rows.combPartsSpec) false w args)
      (Rows.combPartsSpec.post enc Tryd.prog Tryd.f6 false true false false) := by
  refine returnsInHanded_of_change_and (C := Tryd.checked) (X := fun w _ => laidMetH Tryd.prog laid1 w) (fun _ _ _ hh h => h.of_heap hh) ownKnob_ started (by kernel_rfl) Tryd.func6
    (ChangeSpec.witness_shaped (enc := enc) (C := Tryd.checked) (os := os) (X := fun w _ => laidMetH Tryd.prog laid1 w) false (World.doorLaid Tryd.prog 400 os) #[.string .empty] 8 rfl (World.shaped_of_RefB (by kernel_rfl) (by kernel_rfl)) (by kernel_rfl) (by kernel_rfl) (by kernel_rfl) (door_met os _)) ?_
  intro W base args ds gs before hval hW _ hsz hLd _
  exact contract H enc W base args ds gs before hval hW hsz hLd

theorem said : Rows.CombPartsSaid :=
  OpenClaim.holds_of_wide 6 Tryd.f6 rfl rfl rfl rfl rfl rfl rfl ⟨rfl, rfl, rfl, rfl, rfl⟩ rfl rfl rfl rfl rfl (by kernel_rfl) Tryd.func6 (by kernel_rfl)
    (of_decide_eq_true (by kernel_rfl)) (by unfold Func.isWrapper; first | (rw [if_pos (by decide +kernel)]; kernel_rfl) | (rw [if_neg (by decide +kernel)]; exact ⟨rfl, rfl⟩))
    (fun os started H enc _ => lifted os started H enc)

theorem proved : Rows.CombPartsCardSaid :=
  Claim7.holds_tied_plain_at .later [] [.data] true Rows.combPartsCard.stood.harness false
    said (fun _ h => by cases h) (by kernel_rfl) (fun _ h => by cases h) combParts_row_tie rfl ⟨rfl, rfl⟩ (by kernel_rfl) rfl
    (fun f fn hf hfn => by
      obtain rfl : f = 6 := Option.some.inj ((show Tryd.prog.funcNamed "apiary/apiarylaw03.CombParts" = some 6 by kernel_rfl).symm.trans hf) |>.symm
      obtain rfl : fn = Tryd.f6 := (Option.some.inj (Tryd.func6.symm.trans hfn)).symm
      exact ⟨by kernel_rfl, fun j t ht => by
        rw [Tryd.params6] at ht
        have hm : t ∈ [9] := by simpa using Array.mem_of_getElem? ht
        have hall : ([9].all fun u => !Tryd.prog.wantsStandIn u) = true := by kernel_rfl
        exact (show Tryd.prog.wantsStandIn t = false by simpa using List.all_eq_true.1 hall t hm)⟩)
    (by kernel_rfl)
end CombPartsLaw

end Go.Proofs.YtokdnfhglckpkaaDoor
