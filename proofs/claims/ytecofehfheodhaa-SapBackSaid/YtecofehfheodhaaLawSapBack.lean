/-
  SapBack: numbers, texts and rows one behind the other are read as they were, each with what stood behind it. No condition: every input.
-/
import Derived.Test.YtecofehfheodhaaSapN
import Derived.Test.YtecofehfheodhaaRow
set_option linter.unusedVariables false
set_option linter.unusedSimpArgs false
namespace Go.Proofs.Ytecofehfheodhaa
open Go.RowKit Pl

theorem sapBack_core (A : Option Addr) (cap : Nat) (ns : List Int) (A' : Option Addr) (cap' : Nat) (ts : List (List UInt8)) (more : List UInt8) (w : World) (hI : Ints w w.heap.size A ns) (hm : ns.length ≤ maxLen)
    (hn : ∀ n ∈ ns, -9223372036854775808 ≤ n ∧ n ≤ 9223372036854775807) (hS : Strs w w.heap.size A' ts) (hm' : ts.length ≤ maxLen) (he : ∀ s ∈ ts, s.length ≤ maxLen) (hmore : more.length ≤ 140737488351232) :
    Calls Try.prog 5 #[.slice A ns.length cap, .slice A' ts.length cap', .string ⟨more.toArray⟩] w fun e w' => e = .returned (.bool true) ∧ Below w.heap.size w w' := by
  unfold maxLen at hm hm' he
  by_cases h2 : ns.length ≤ 60
  · by_cases h3 : ts.length ≤ 60
    · exact sapBack_go A cap ns A' cap' ts more w h2 h3 hmore hI hS hn he
    · exact sapBack_early A cap ns A' cap' ts more w hm hm' (.inr ⟨h2, by omega⟩)
  · exact sapBack_early A cap ns A' cap' ts more w hm hm' (.inl (by omega))

namespace SapBackLaw
open Go.ChangeShapes Go.WideShapes Go.ChangeAt
open Go.ChangeMaps (open_string shut_string)
theorem contract (H : Type) (enc : TypeId × Value → H) (W : World) (base : Nat) (args : Array Value) (ds gs : List (DataW H)) (before : List MemPlace)
    (hval : ∀ (j : Nat) t v, Try.f5.params[j]? = some t → args[j]? = some v → Value.okWide Try.prog W .any base t v)
    (hW : DataW.Whole enc Try.prog Try.f5.params.toList Rows.sapBackSpec.vars false W args.toList ds gs before) (hsz0 : (DataW.weightsEach Try.prog (Try.f5.params.toList ++ Rows.sapBackSpec.plain.varTypes Try.prog) (ds ++ gs)).all (· ≤ reachBytes) = true) :
    Calls Try.prog 5 args W fun e W' => ∃ v, e = .returned v ∧ Rows.sapBackSpec.post enc Try.prog Try.f5 false true false false W args v W' := by
  have hW' := hW
  obtain ⟨p, q, hA0, hV, rfl, hfz, hnd⟩ := hW
  have hA : DataW.TrodAll enc Try.prog W 0 (fun _ => true) true Try.f5.params.toList args.toList ds p := hA0
  rw [Try.params5] at hA hval
  obtain ⟨v0, vs0, d0, ds0, p0, q0, hargs, rfl, rfl, h0, r0⟩ := trodAll_cons hA
  obtain ⟨v1, vs1, d1, ds1, p1, q1, rfl, rfl, rfl, h1, r1⟩ := trodAll_cons r0
  obtain ⟨v2, vs2, d2, ds2, p2, q2, rfl, rfl, rfl, h2, r2⟩ := trodAll_cons r1
  obtain ⟨rfl, rfl, rfl⟩ := trodAll_nil r2
  obtain rfl : args = #[v0, v1, v2] := by cases args; simp_all
  obtain ⟨rfl, rfl⟩ := trodVars_none hV
  obtain ⟨A0, c0, x0, rfl, hS0, hl0, he0, hb0⟩ := open_intsA Try.underlying37 Try.underlying3 (by kernel_rfl) (hval 0 37 v0 rfl rfl) h0
  obtain ⟨A1, c1, x1, rfl, hS1, hl1, he1, hb1⟩ := open_strs Try.underlying22 Try.underlying9 (by kernel_rfl) (hval 1 22 v1 rfl rfl) h1
  obtain ⟨s2, rfl, hd2, _, hs2⟩ := open_string Try.underlying9 (hval 2 9 v2 rfl rfl) h2
  obtain ⟨x2, rfl, hx2, hy2⟩ := as_list s2
  have z2 : x2.length ≤ 140737488351232 := by
    have := sized_string hsz0 (j := 2) (t := 9) (bytes := x2) (by simp [Try.params5]) (by rw [hd2, hx2]; rfl)
    simpa [reachBytes] using this
  refine (sapBack_core A0 c0 x0 A1 c1 x1 x2 W hS0 hl0 he0 hS1 hl1 he1 z2).mono fun e W' ⟨he, hg⟩ => ?_
  subst he
  exact ⟨_, rfl, law_post (tb := 4) laidOut_ (of_decide_eq_true (by kernel_rfl)) Try.underlying4 (by kernel_rfl) rfl rfl hW' hg⟩

set_option maxRecDepth 100000 in
theorem lifted (os : Os) (started : os.Started) (H : Type) (enc : TypeId × Value → H) :
    ReturnsInHanded {} Try.checked os 5 .any (Rows.sapBackSpec.pre6 enc Try.prog Try.f5 Rows.sapBackRow.domain false) (Rows.sapBackSpec.post enc Try.prog Try.f5 false true false false) := by
  refine returnsInHanded_of_change_sized (C := Try.checked) ownKnob_ started (by kernel_rfl) Try.func5
    (ChangeSpec.witness6 (enc := enc) (C := Try.checked) false ⟨#[], #[.slice none 0 0, .slice none 0 0, .string .empty], []⟩ 8 (by kernel_rfl) (by kernel_rfl) (by kernel_rfl) (by kernel_rfl)) ?_
  intro W base args ds gs before hval hW _ hsz _
  exact contract H enc W base args ds gs before hval hW hsz

theorem proved : Rows.SapBackSaid :=
  OpenClaim.holds_of_wide 5 Try.f5 rfl rfl rfl rfl rfl rfl rfl ⟨rfl, rfl, rfl, rfl, rfl⟩ rfl rfl rfl rfl rfl (by kernel_rfl) Try.func5 (by kernel_rfl)
    (of_decide_eq_true (by kernel_rfl)) (by unfold Func.isWrapper; first | (rw [if_pos (by decide +kernel)]; kernel_rfl) | (rw [if_neg (by decide +kernel)]; exact ⟨rfl, rfl⟩))
    (fun os started H enc _ => lifted os started H enc)
end SapBackLaw

end Go.Proofs.Ytecofehfheodhaa
