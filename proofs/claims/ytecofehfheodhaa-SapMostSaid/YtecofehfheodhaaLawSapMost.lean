/-
  SapMost: a text is read if it has at most as many bytes as are asked for, a row if it has at most as many texts; else nothing is. No condition: every input.
-/
import Derived.Test.YtecofehfheodhaaSapM
import Derived.Test.YtecofehfheodhaaRow
set_option linter.unusedVariables false
set_option linter.unusedSimpArgs false
namespace Go.Proofs.Ytecofehfheodhaa
open Go.RowKit Pl

theorem sapMost_core (s : List UInt8) (A : Option Addr) (cap : Nat) (ls : List (List UInt8)) (most : Int) (w : World) (hs : s.length ≤ 140737488351232) (hS : Strs w w.heap.size A ls) (hm : ls.length ≤ maxLen) (he : ∀ s ∈ ls, s.length ≤ maxLen)
    (h0 : -9223372036854775808 ≤ most) (h1 : most ≤ 9223372036854775807) :
    Calls Try.prog 8 #[.string ⟨s.toArray⟩, .slice A ls.length cap, .int .i64 most] w fun e w' => e = .returned (.bool true) ∧ Below w.heap.size w w' := by
  unfold maxLen at hm he
  by_cases h2 : s.length ≤ 1024
  · by_cases h3 : ls.length ≤ 60
    · exact sapMost_go s A cap ls most w h2 h3 hS he
    · exact sapMost_early s A cap ls most w (by omega) hm (.inr ⟨h2, by omega⟩)
  · exact sapMost_early s A cap ls most w (by omega) hm (.inl (by omega))

namespace SapMostLaw
open Go.ChangeShapes Go.WideShapes Go.ChangeAt
open Go.ChangeMaps (open_string shut_string)
theorem contract (H : Type) (enc : TypeId × Value → H) (W : World) (base : Nat) (args : Array Value) (ds gs : List (DataW H)) (before : List MemPlace)
    (hval : ∀ (j : Nat) t v, Try.f8.params[j]? = some t → args[j]? = some v → Value.okWide Try.prog W .any base t v)
    (hW : DataW.Whole enc Try.prog Try.f8.params.toList Rows.sapMostSpec.vars false W args.toList ds gs before) (hsz0 : (DataW.weightsEach Try.prog (Try.f8.params.toList ++ Rows.sapMostSpec.plain.varTypes Try.prog) (ds ++ gs)).all (· ≤ reachBytes) = true) :
    Calls Try.prog 8 args W fun e W' => ∃ v, e = .returned v ∧ Rows.sapMostSpec.post enc Try.prog Try.f8 false true false false W args v W' := by
  have hW' := hW
  obtain ⟨p, q, hA0, hV, rfl, hfz, hnd⟩ := hW
  have hA : DataW.TrodAll enc Try.prog W 0 (fun _ => true) true Try.f8.params.toList args.toList ds p := hA0
  rw [Try.params8] at hA hval
  obtain ⟨v0, vs0, d0, ds0, p0, q0, hargs, rfl, rfl, h0, r0⟩ := trodAll_cons hA
  obtain ⟨v1, vs1, d1, ds1, p1, q1, rfl, rfl, rfl, h1, r1⟩ := trodAll_cons r0
  obtain ⟨v2, vs2, d2, ds2, p2, q2, rfl, rfl, rfl, h2, r2⟩ := trodAll_cons r1
  obtain ⟨rfl, rfl, rfl⟩ := trodAll_nil r2
  obtain rfl : args = #[v0, v1, v2] := by cases args; simp_all
  obtain ⟨rfl, rfl⟩ := trodVars_none hV
  obtain ⟨s0, rfl, hd0, _, hs0⟩ := open_string Try.underlying9 (hval 0 9 v0 rfl rfl) h0
  obtain ⟨x0, rfl, hx0, hy0⟩ := as_list s0
  have z0 : x0.length ≤ 140737488351232 := by
    have := sized_string hsz0 (j := 0) (t := 9) (bytes := x0) (by simp [Try.params8]) (by rw [hd0, hx0]; rfl)
    simpa [reachBytes] using this
  obtain ⟨A1, c1, x1, rfl, hS1, hl1, he1, hb1⟩ := open_strs Try.underlying22 Try.underlying9 (by kernel_rfl) (hval 1 22 v1 rfl rfl) h1
  obtain ⟨x2, rfl, hd2, _, w2⟩ := open_int Try.underlying3 (hval 2 3 v2 rfl rfl) h2
  refine (sapMost_core x0 A1 c1 x1 x2 W z0 hS1 hl1 he1 (wf_bounds w2).1 (wf_bounds w2).2).mono fun e W' ⟨he, hg⟩ => ?_
  subst he
  exact ⟨_, rfl, law_post (tb := 4) laidOut_ (of_decide_eq_true (by kernel_rfl)) Try.underlying4 (by kernel_rfl) rfl rfl hW' hg⟩

set_option maxRecDepth 100000 in
theorem lifted (os : Os) (started : os.Started) (H : Type) (enc : TypeId × Value → H) :
    ReturnsInHanded {} Try.checked os 8 .any (Rows.sapMostSpec.pre6 enc Try.prog Try.f8 Rows.sapMostRow.domain false) (Rows.sapMostSpec.post enc Try.prog Try.f8 false true false false) := by
  refine returnsInHanded_of_change_sized (C := Try.checked) ownKnob_ started (by kernel_rfl) Try.func8
    (ChangeSpec.witness6 (enc := enc) (C := Try.checked) false ⟨#[], #[.string .empty, .slice none 0 0, .int .i64 0], []⟩ 8 (by kernel_rfl) (by kernel_rfl) (by kernel_rfl) (by kernel_rfl)) ?_
  intro W base args ds gs before hval hW _ hsz _
  exact contract H enc W base args ds gs before hval hW hsz

theorem proved : Rows.SapMostSaid :=
  OpenClaim.holds_of_wide 8 Try.f8 rfl rfl rfl rfl rfl rfl rfl ⟨rfl, rfl, rfl, rfl, rfl⟩ rfl rfl rfl rfl rfl (by kernel_rfl) Try.func8 (by kernel_rfl)
    (of_decide_eq_true (by kernel_rfl)) (by unfold Func.isWrapper; first | (rw [if_pos (by decide +kernel)]; kernel_rfl) | (rw [if_neg (by decide +kernel)]; exact ⟨rfl, rfl⟩))
    (fun os started H enc _ => lifted os started H enc)
end SapMostLaw

end Go.Proofs.Ytecofehfheodhaa
