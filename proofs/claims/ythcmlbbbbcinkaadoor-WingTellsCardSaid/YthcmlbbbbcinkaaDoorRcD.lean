/-
  Layer 3's reference: the walk of Same. Layer 3: what a text's manifest is, of the program and of the reference; loads behind a guard.
-/
import Derived.Test.YthcmlbbbbcinkaaDoorStV
import Derived.Test.YthcmlbbbbcinkaaDoorCoF
import Derived.BigFrame
set_option linter.unusedVariables false
set_option linter.unusedSimpArgs false
namespace Go.Proofs.YthcmlbbbbcinkaaDoor
open Go.RowKit
attribute [local go_sem] Lb.ba_get Lb.ba_cut Lb.ba_add Lb.ba_size Lb.take_rest

end Go.Proofs.YthcmlbbbbcinkaaDoor

set_option linter.unusedVariables false
set_option linter.unusedSimpArgs false
namespace Go.Proofs.YthcmlbbbbcinkaaDoor
open Go.RowKit
attribute [local go_sem] Lb.ba_get Lb.ba_cut Lb.ba_add Lb.ba_size Lb.take_rest

end Go.Proofs.YthcmlbbbbcinkaaDoor

set_option linter.unusedVariables false
set_option linter.unusedSimpArgs false
namespace Go.Proofs.YthcmlbbbbcinkaaDoor
open Go.RowKit
attribute [local go_sem] Lb.ba_get Lb.ba_cut Lb.ba_add Lb.ba_size Lb.take_rest

def sameM (m n : ManiD) : Bool := m.whole == n.whole && (m.size == n.size && m.parts == n.parts)

theorem range_row {w : World} {q : Nat} {m : ManiD} {T : TypeId} {f : Nat × Nat} (h : w.heap[q]? = some (.cells m.row T f)) : w.rangeAt q 0 (byV m.whole) := fun k v hv => by
  rw [Nat.zero_add, Lib.cell_of_heap h]
  unfold ManiD.row ManiD.cells
  rw [List.getElem?_toArray, List.getElem?_append_left (List.getElem?_eq_some_iff.1 hv).1]
  exact hv

end Go.Proofs.YthcmlbbbbcinkaaDoor

set_option linter.unusedVariables false
set_option linter.unusedSimpArgs false
namespace Go.Proofs.YthcmlbbbbcinkaaDoor
open Go.RowKit
attribute [local go_sem] Lb.ba_get Lb.ba_cut Lb.ba_add Lb.ba_size Lb.take_rest

theorem wpList_load_rowG {P : Program} {ops : Array Oper} {rest : List Oper} {o : Oper} {a : Act} {w : World} {Q : Exit → Act → World → Prop} (hw : Region.wanted o (yielded ops a.tmps) = true) (ty : TypeId) (x : Operand) (ho : o.op = .load ty x)
    (g : Nat) (hx : a.eval x = .pointer (some ⟨g, 0, none⟩)) (t : TypeId) (cs : Array Value) (fr : Nat × Nat) (d : TypeDesc) (hg : w.heap[g]? = some (.cells cs t fr))
    (hu : P.underlying ty = some d) (hd : (match d with | .struct _ | .array _ _ => true | _ => false) = true) (hi : (P.info? ty).map (·.size) = some cs.size)
    (h : wpList P ops Q rest (a.put o.dst (.agg cs)) w) : wpList P ops Q (o :: rest) a w :=
  BigFrame.wpList_want hw fun _ hK => wp_load_row ty x ho g hx t cs fr d hg hu hd hi (hK _ _ h)

def ManiOf (K : List Int) (l : List UInt8) (m : ManiD) (e : Int) : Prop := (l.length ≤ 512 ∧ e = 0 ∧ OwnM K m l) ∨ (512 < l.length ∧ e = 33 ∧ m = zeroMani)
theorem ManiOf.same {K : List Int} {l : List UInt8} {m n : ManiD} {e f : Int} (h : ManiOf K l m e) (k : ManiOf K l n f) : sameM m n = true ∧ e = f := by
  rcases h with ⟨h1, rfl, h2⟩ | ⟨h1, rfl, rfl⟩ <;> rcases k with ⟨k1, rfl, k2⟩ | ⟨k1, rfl, rfl⟩
  · exact ⟨by unfold sameM; rw [h2.whole, k2.whole, h2.size, k2.size, h2.parts, k2.parts]; simp, rfl⟩
  · omega
  · omega
  · exact ⟨by decide, rfl⟩
theorem zeroMani_ok (w : World) (B : Nat) : zeroMani.Ok w B :=
  ⟨rfl, fun d hd => by simp [zeroMani] at hd, by decide, by decide, by decide, fun i hi => by simp [zeroMani] at hi⟩
theorem Txts.strs {w : World} {B : Nat} {A : Option Addr} {n cap : Nat} {ts : List (List UInt8)} (h : Txts w B (.slice A n cap) ts) : Strs w w.heap.size A ts := by
  intro i hi
  obtain ⟨g, e, _, hl, hc⟩ := h.cell i hi
  exact ⟨⟨g, 0, none⟩, e, hl, by rw [Addr.add_lit, Nat.zero_add]; exact hc⟩
end Go.Proofs.YthcmlbbbbcinkaaDoor
