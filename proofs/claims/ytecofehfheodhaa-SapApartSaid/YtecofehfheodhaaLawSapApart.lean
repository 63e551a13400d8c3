/-
  SapApart: of two unlike numbers, or rows, the bytes of neither begin with those of the other one; cut off, a thing is none. No condition: every input.
-/
import Derived.Test.YtecofehfheodhaaSapP
import Derived.Test.YtecofehfheodhaaRow
import Derived.Lib.SmallJoins
set_option linter.unusedVariables false
set_option linter.unusedSimpArgs false
namespace Go.Proofs.Ytecofehfheodhaa
open Go.RowKit Pl

theorem sapApart_core (a b : Int) (A A' : Option Addr) (ca ca' : Nat) (x y : List (List UInt8)) (cut : Int) (w : World) (ha : -9223372036854775808 ≤ a ∧ a ≤ 9223372036854775807) (hb : -9223372036854775808 ≤ b ∧ b ≤ 9223372036854775807)
    (hS : Strs w w.heap.size A x) (hx : x.length ≤ maxLen) (he : ∀ s ∈ x, s.length ≤ maxLen) (hS' : Strs w w.heap.size A' y) (hy : y.length ≤ maxLen) (he' : ∀ s ∈ y, s.length ≤ maxLen) :
    Calls Try.prog 7 #[.agg #[.int .i64 a, .slice A x.length ca], .agg #[.int .i64 b, .slice A' y.length ca'], .int .i64 cut] w fun e w' => e = .returned (.bool true) ∧ Below w.heap.size w w' := by
  unfold maxLen at hx he hy he'
  by_cases h1 : x.length ≤ 40
  · by_cases h2 : y.length ≤ 40
    · exact sapApart_go a b A A' ca ca' x y cut w h1 h2 ha hb hS hS' he he'
    · exact sapApart_early a b A A' ca ca' x y cut w hx hy (.inr ⟨h1, by omega⟩)
  · exact sapApart_early a b A A' ca ca' x y cut w hx hy (.inl (by omega))

theorem cellsThing : Try.prog.cellsOf 41 = 2 := by kernel_rfl

namespace SapApartLaw
open Go.ChangeShapes Go.WideShapes Go.ChangeAt Go.Joins
open Go.ChangeMaps (open_string shut_string)

/-- a Thing by value -/
theorem open_thing {H : Type} {enc : TypeId × Value → H} {w : World} {base : Nat} {held : Bool} {v : Value} {d : DataW H} {ps : List MemPlace} {r : Reach} {b0 : Nat} (hv : Value.okWide Try.prog w r b0 41 v) (h : DataW.Trod enc Try.prog w base (fun _ => true) held 41 v d ps) :
    ∃ (n : Int) (A : Option Addr) (cap : Nat) (ls : List (List UInt8)), v = .agg #[.int .i64 n, .slice A ls.length cap] ∧ (-9223372036854775808 ≤ n ∧ n ≤ 9223372036854775807) ∧ Strs w w.heap.size A ls ∧ ls.length ≤ maxLen ∧ (∀ s ∈ ls, s.length ≤ maxLen) := by
  obtain ⟨c0, c1, y0, y1, m, rfl, hd, hp, hy0, hy1⟩ := open_agg2 Try.underlying41 (by kernel_rfl) cellsThing hv h
  obtain ⟨a, e0, _, wa⟩ := DataW.trod_int Try.underlying3 hy0
  simp only [List.cons.injEq, and_true] at e0
  subst e0
  obtain ⟨A, cap, ls, rfl, hS, hl, he, _⟩ := open_strsC Try.underlying22 Try.underlying9 (by kernel_rfl) hy1
  exact ⟨a, A, cap, ls, rfl, wf_bounds wa, hS, hl, he⟩

theorem contract (H : Type) (enc : TypeId × Value → H) (W : World) (base : Nat) (args : Array Value) (ds gs : List (DataW H)) (before : List MemPlace)
    (hval : ∀ (j : Nat) t v, Try.f7.params[j]? = some t → args[j]? = some v → Value.okWide Try.prog W .any base t v)
    (hW : DataW.Whole enc Try.prog Try.f7.params.toList Rows.sapApartSpec.vars false W args.toList ds gs before) :
    Calls Try.prog 7 args W fun e W' => ∃ v, e = .returned v ∧ Rows.sapApartSpec.post enc Try.prog Try.f7 false true false false W args v W' := by
  have hW' := hW
  obtain ⟨p, q, hA0, hV, rfl, hfz, hnd⟩ := hW
  have hA : DataW.TrodAll enc Try.prog W 0 (fun _ => true) true Try.f7.params.toList args.toList ds p := hA0
  rw [Try.params7] at hA hval
  obtain ⟨v0, vs0, d0, ds0, p0, q0, hargs, rfl, rfl, h0, r0⟩ := trodAll_cons hA
  obtain ⟨v1, vs1, d1, ds1, p1, q1, rfl, rfl, rfl, h1, r1⟩ := trodAll_cons r0
  obtain ⟨v2, vs2, d2, ds2, p2, q2, rfl, rfl, rfl, h2, r2⟩ := trodAll_cons r1
  obtain ⟨rfl, rfl, rfl⟩ := trodAll_nil r2
  obtain rfl : args = #[v0, v1, v2] := by cases args; simp_all
  obtain ⟨rfl, rfl⟩ := trodVars_none hV
  obtain ⟨a, A, ca, x, rfl, ha, hS, hx, he⟩ := open_thing (hval 0 41 v0 rfl rfl) h0
  obtain ⟨b, A', ca', y, rfl, hb, hS', hy, he'⟩ := open_thing (hval 1 41 v1 rfl rfl) h1
  obtain ⟨x2, rfl, hd2, _, w2⟩ := open_int Try.underlying3 (hval 2 3 v2 rfl rfl) h2
  refine (sapApart_core a b A A' ca ca' x y x2 W ha hb hS hx he hS' hy he').mono fun e W' ⟨he, hg⟩ => ?_
  subst he
  exact ⟨_, rfl, law_post (tb := 4) laidOut_ (of_decide_eq_true (by kernel_rfl)) Try.underlying4 (by kernel_rfl) rfl rfl hW' hg⟩

set_option maxRecDepth 100000 in
theorem lifted (os : Os) (started : os.Started) (H : Type) (enc : TypeId × Value → H) :
    ReturnsInHanded {} Try.checked os 7 .any (Rows.sapApartSpec.pre6 enc Try.prog Try.f7 Rows.sapApartRow.domain false) (Rows.sapApartSpec.post enc Try.prog Try.f7 false true false false) := by
  refine returnsInHanded_of_change (C := Try.checked) ownKnob_ started (by kernel_rfl) Try.func7
    (ChangeSpec.witness6 (enc := enc) (C := Try.checked) false ⟨#[], #[.agg #[.int .i64 0, .slice none 0 0], .agg #[.int .i64 0, .slice none 0 0], .int .i64 0], []⟩ 8 (by kernel_rfl) (by kernel_rfl) (by kernel_rfl) (by kernel_rfl)) ?_
  intro W base args ds gs before hval hW _ _
  exact contract H enc W base args ds gs before hval hW

theorem proved : Rows.SapApartSaid :=
  OpenClaim.holds_of_wide 7 Try.f7 rfl rfl rfl rfl rfl rfl rfl ⟨rfl, rfl, rfl, rfl, rfl⟩ rfl rfl rfl rfl rfl (by kernel_rfl) Try.func7 (by kernel_rfl)
    (of_decide_eq_true (by kernel_rfl)) (by unfold Func.isWrapper; first | (rw [if_pos (by decide +kernel)]; kernel_rfl) | (rw [if_neg (by decide +kernel)]; exact ⟨rfl, rfl⟩))
    (fun os started H enc _ => lifted os started H enc)
end SapApartLaw

end Go.Proofs.Ytecofehfheodhaa
