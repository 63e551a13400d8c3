/-
  Frames in memory (what stands of layers 17 and 18 alike).
-/
import Derived.Test.YteihfoacdocgkaaDoorHaA
import Derived.IntWalk
import Derived.Great.BuildSlice
import Derived.Deep.Upon
set_option linter.unusedVariables false
set_option linter.unusedSimpArgs false
namespace Go.Proofs.YteihfoacdocgkaaDoor
open Go.RowKit
attribute [local go_sem] Lb.ba_get Lb.ba_cut Lb.ba_add Lb.ba_size Lb.take_rest

structure FrAt (w : World) (b : Nat) (f : FrD) : Prop where
  kind : w.cell? ⟨b, 0, none⟩ = some (.int .i64 f.kind)
  from_ : w.cell? ⟨b, 1, none⟩ = some (.int .i64 f.from_)
  at_ : w.cell? ⟨b, 134, none⟩ = some (.int .i64 f.at_)
  data : w.cell? ⟨b, 135, none⟩ = some (.string ⟨f.data.toArray⟩)
  out : w.rangeAt b 102 (byV f.out)
  mani : w.rangeAt b 200 f.mani.cells
  whole : w.rangeAt b 200 (byV f.mani.whole)
  parts : w.cell? ⟨b, 233, none⟩ = some (.slice f.mani.A f.mani.parts.length f.mani.cap)
/-- a frame whose numbers are numbers of 64 bits, whose manifest's digests lie in memory -/
structure FrD.Ok (w : World) (f : FrD) : Prop where
  fit : f.Fit
  klo : -9223372036854775808 ≤ f.kind
  khi : f.kind ≤ 9223372036854775807
  alo : -9223372036854775808 ≤ f.at_
  ahi : f.at_ ≤ 9223372036854775807
  data : f.data.length ≤ 140737488355328
  mani : f.mani.Ok w w.heap.size
theorem FrD.Ok.step {w w' : World} {f : FrD} (h : f.Ok w) (hb : Below w.heap.size w w') : f.Ok w' := { h with mani := (h.mani.below hb (Nat.le_refl _)).more hb.size }
def maniFr (x : Int) (m : ManiD) : FrD := { zeroFr with kind := 7, from_ := x, mani := m }
def partFr (x : Int) (o : List UInt8) (i : Int) (t : List UInt8) : FrD := { zeroFr with kind := 8, from_ := x, out := o, at_ := i, data := t }
theorem FrD.row_one {f : FrD} (h : f.Fit) : f.row.all (·.oneCell') = true := by unfold FrD.row; rw [List.all_toArray]; exact f.one h
theorem Digs.only {w w' : World} {B : Nat} {A : Option Addr} {ds : List (List UInt8)} {bs : List Nat} (h : Digs w B A ds) (ho : Only bs w w') (hn : ∀ a, A = some a → a.block ∉ bs) (hB : B ≤ w.heap.size := by exact Nat.le_refl _) : Digs w' B A ds := fun i hi => by
  obtain ⟨b, o, e, hl, hr⟩ := h i hi
  exact ⟨b, o, e, hl, range_keep hr (ho.block b (by omega) (hn _ e))⟩
/-- nothing but block g has turned, which still holds n cells -/
def HeldO (w0 : World) (g n : Nat) (t : TypeId) (w' : World) : Prop := Only [g] w0 w' ∧ ∃ C : Array Value, C.size = n ∧ w'.heap[g]? = some (.cells C t (0, 0))
theorem HeldO.start {w0 : World} {g n : Nat} {t : TypeId} {C : Array Value} (hC : C.size = n) (h : w0.heap[g]? = some (.cells C t (0, 0))) : HeldO w0 g n t w0.drew := ⟨(Only.refl _ _).drew, C, hC, h⟩
theorem HeldO.put {w0 w' : World} {g n : Nat} {t : TypeId} (h : HeldO w0 g n t w') (R : Array Value) (hR : R.size = n) : HeldO w0 g n t (w'.setRow g R) := by
  obtain ⟨hb, C, hC, hg⟩ := h
  exact ⟨hb.setRow (by simp) R, R, hR, setRow_heap _ _ _ _ _ _ hg⟩
end Go.Proofs.YteihfoacdocgkaaDoor
