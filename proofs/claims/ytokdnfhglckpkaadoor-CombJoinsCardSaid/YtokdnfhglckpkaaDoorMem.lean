/-
  Memory: slices of strings that read as lists; builders and owned rows behind calls that leave old memory alone.
-/
import Derived.WalkKit
import Derived.Lib.Builder
import Derived.Lib.UnsafeStr
set_option linter.unusedVariables false
set_option linter.unusedSimpArgs false
namespace Go.Proofs.YtokdnfhglckpkaaDoor
open Go.RowKit

/-- The slice value '.slice A ls.length _' holds the texts ls; all of it lies below block B. -/
def Strs (w : World) (B : Nat) (A : Option Addr) (ls : List (List UInt8)) : Prop :=
  ∀ (i : Nat) (h : i < ls.length), ∃ a : Addr, A = some a ∧ a.block < B ∧ w.cell? (a.add i) = some (.string ⟨(ls[i]).toArray⟩)

theorem block_add (a : Addr) (n : Nat) : (a.add n).block = a.block := by unfold Addr.add; split <;> rfl

theorem Strs.below {w w' : World} {B B' : Nat} {A : Option Addr} {ls : List (List UInt8)} (h : Strs w B A ls) (hb : Below B' w w') (hB : B ≤ B') : Strs w' B A ls := fun i hi => by
  obtain ⟨a, e, hl, hc⟩ := h i hi
  exact ⟨a, e, hl, (hb.cell (p := a.add i) (by rw [block_add]; omega)).trans hc⟩

theorem Strs.more {w : World} {B B' : Nat} {A : Option Addr} {ls : List (List UInt8)} (h : Strs w B A ls) (hB : B ≤ B') : Strs w B' A ls := fun i hi => by
  obtain ⟨a, e, hl, hc⟩ := h i hi
  exact ⟨a, e, by omega, hc⟩

/-- The slice value '.slice A ns.length _' holds the numbers ns; all of it lies below block B. -/
def Ints (w : World) (B : Nat) (A : Option Addr) (ns : List Int) : Prop :=
  ∀ (i : Nat) (h : i < ns.length), ∃ a : Addr, A = some a ∧ a.block < B ∧ w.cell? (a.add i) = some (.int .i64 ns[i])
theorem Ints.below {w w' : World} {B B' : Nat} {A : Option Addr} {ns : List Int} (h : Ints w B A ns) (hb : Below B' w w') (hB : B ≤ B') : Ints w' B A ns := fun i hi => by
  obtain ⟨a, e, hl, hc⟩ := h i hi
  exact ⟨a, e, hl, (hb.cell (p := a.add i) (by rw [block_add]; omega)).trans hc⟩
theorem Ints.more {w : World} {B B' : Nat} {A : Option Addr} {ns : List Int} (h : Ints w B A ns) (hB : B ≤ B') : Ints w B' A ns := fun i hi => by
  obtain ⟨a, e, hl, hc⟩ := h i hi
  exact ⟨a, e, by omega, hc⟩

theorem grown_of_below {w w' : World} (h : Below w.heap.size w w') (row : Option Nat) : w.grownBy w' row := ⟨h.os, h.tape, h.output, h.size, fun i hi _ => h.block i hi⟩

theorem owns_below {w w' : World} {base e size n : Nat} {v : Value} {xs : List Value} (h : w.ownsRow base e size v n xs) (hb : Below w.heap.size w w') : w'.ownsRow base e size v n xs := by
  cases hv : v.ownBlock with
  | none => exact h.kept (grown_of_below hb none) (.inl hv)
  | some g => exact h.kept (grown_of_below hb none) (.inr (by rw [hv]; simp))

theorem BuilderAt.below {T e : TypeId} {B b : Nat} {p : Value} {bs : List Value} {w w' : World} (h : Lib.BuilderAt T e B b p bs w) (hb : Below w.heap.size w w') : Lib.BuilderAt T e B b p bs w' := by
  have hlt := h.lt
  obtain ⟨hB, v, hbk, hown, hne⟩ := h
  exact ⟨hB, v, (hb.block b hlt).trans hbk, owns_below hown hb, hne⟩

theorem IsBuilder.below {T e : TypeId} {B b : Nat} {bs : List Value} {w w' : World} (h : Lib.IsBuilder T e B b bs w) (hb : Below w.heap.size w w') : Lib.IsBuilder T e B b bs w' := by
  rcases h with h | h
  · exact .inl (BuilderAt.below h hb)
  · exact .inr (BuilderAt.below h hb)

/-- An owned row of strings reads as the list. -/
theorem strs_of_own {w : World} {base e : Nat} {A : Option Addr} {cap n : Nat} {ls : List (List UInt8)} (h : w.ownsRow base e 1 (.slice A n cap) n (ls.map fun s => .string ⟨s.toArray⟩)) (hn : n = ls.length) : Strs w w.heap.size A ls := by
  subst hn
  intro i hi
  rcases h.2 with ⟨hv, h0⟩ | ⟨g, cap', cur, hv, hg, hh, r⟩
  · omega
  · have hA : A = some ⟨g, 0, none⟩ := by injection hv
    refine ⟨⟨g, 0, none⟩, hA, (h.lt g (by rw [hv]; rfl)).2, ?_⟩
    exact h.cells (g := g) (by rw [hv]; rfl) i _ (by simp [hi])

end Go.Proofs.YtokdnfhglckpkaaDoor
