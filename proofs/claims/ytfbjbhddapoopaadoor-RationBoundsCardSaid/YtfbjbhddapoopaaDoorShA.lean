/-
  The walks of shelf's power: off, act.
-/
import Derived.Test.YtfbjbhddapoopaaDoorProg
import Derived.Test.YtfbjbhddapoopaaDoorBase
import Derived.Test.YtfbjbhddapoopaaDoorShPlain
import Derived.WalkKit
import Derived.WalkSpells
import Derived.WalkLawsBesides
import Derived.BigRegion
import Derived.BigQuiet
import Derived.Deep.QuietTactic
import Derived.Deep.DeepCutAuto
import Derived.Lib.Hide
set_option linter.unusedVariables false
set_option linter.unusedSimpArgs false
namespace Go.Proofs.YtfbjbhddapoopaaDoor
open Go.RowKit Sh
attribute [local go_sem] Lb.ba_get Lb.ba_cut Lb.ba_add Lb.ba_size Lb.take_rest

def pwCells (p : Pw) (sl : Value) : Array Value := #[.bool p.down, .int .i64 p.acts, .int .i64 p.armed, .int .i64 p.life, sl]
def PwAt (w : World) (b : Nat) (p : Pw) (sl : Value) : Prop := w.heap[b]? = some (.cells (pwCells p sl) 149 (0, 0))

set_option maxHeartbeats 1000000 in
theorem off_any (b : Nat) (p : Pw) (sl : Value) (w : World) (h : PwAt w b p sl) (hf : p.fits 1) :
    Calls Tryd.prog 96 #[.pointer (some ⟨b, 0, none⟩)] w fun e w' => e = .returned (.tuple #[]) ∧ PwAt w' b p.off sl ∧ Only [b] w w' := by
  obtain ⟨d, ac, ar, li⟩ := p
  obtain ⟨f1, f2, f3⟩ := hf
  simp only at f1 f2 f3
  have c0 : w.cell? ⟨b, 0, none⟩ = some (.bool d) := by rw [Lib.cell_of_heap h]; rfl
  have c3 : w.cell? ⟨b, 3, none⟩ = some (.int .i64 li) := by rw [Lib.cell_of_heap h]; rfl
  have c2 : w.cell? ⟨b, 2, none⟩ = some (.int .i64 ar) := by rw [Lib.cell_of_heap h]; rfl
  have z0 : w.frozen? ⟨b, 0, none⟩ = false := Lib.frozen_of_heap h 0
  have z2 : w.frozen? ⟨b, 2, none⟩ = false := Lib.frozen_of_heap h 2
  have z3 : w.frozen? ⟨b, 3, none⟩ = false := Lib.frozen_of_heap h 3
  have H := Lib.hid h
  clear h
  cases d
  · go_enter Tryd.func96, Tryd.ntmps96
    go_wp2
    go_end0
    refine ⟨rfl, ?_, ?_⟩
    · exact heap_setCell_same _ b 3 _ _ _ (heap_setCell_same _ b 2 _ _ _ (heap_setCell_same _ b 0 _ _ _ H.out))
    · exact (((Only.refl _ _).setCell (by simp) _).setCell (by simp) _).setCell (by simp) _
  · go_enter Tryd.func96, Tryd.ntmps96
    go_wp2
    go_end0
    exact ⟨rfl, H.out, Only.refl _ _⟩

set_option maxHeartbeats 1000000 in
theorem act_any (b : Nat) (p : Pw) (sl : Value) (w : World) (h : PwAt w b p sl) (hf : p.fits 2) :
    Calls Tryd.prog 104 #[.pointer (some ⟨b, 0, none⟩)] w fun e w' => e = .returned (.int .i64 p.err) ∧ PwAt w' b p.act sl ∧ Only [b] w w' := by
  obtain ⟨d, ac, ar, li⟩ := p
  obtain ⟨f1, f2, f3⟩ := hf
  simp only at f1 f2 f3
  have c1 : w.cell? ⟨b, 1, none⟩ = some (.int .i64 ac) := by rw [Lib.cell_of_heap h]; rfl
  have c2 : w.cell? ⟨b, 2, none⟩ = some (.int .i64 ar) := by rw [Lib.cell_of_heap h]; rfl
  have z1 : w.frozen? ⟨b, 1, none⟩ = false := Lib.frozen_of_heap h 1
  have z2 : w.frozen? ⟨b, 2, none⟩ = false := Lib.frozen_of_heap h 2
  have H := Lib.hid h
  clear h
  have hc : ar = 0 ∨ ar = 1 ∨ 1 < ar := by omega
  rcases hc with rfl | rfl | hc
  · go_enter Tryd.func104, Tryd.ntmps104
    go_wp2
    go_ret
    refine ⟨rfl, ?_, (Only.refl _ _).setCell (by simp) _⟩
    exact heap_setCell_same _ b 1 _ _ _ H.out
  · go_enter Tryd.func104, Tryd.ntmps104
    go_wp2_with fail
    have h2 : PwAt ((w.setCell ⟨b, 1, none⟩ (.int .i64 (↑ac + 1))).setCell ⟨b, 2, none⟩ (.int .i64 0)) b ⟨d, ac + 1, 0, li⟩ sl := heap_setCell_same _ b 2 _ _ _ (heap_setCell_same _ b 1 _ _ _ H.out)
    refine (off_any b _ sl _ h2 ⟨by simp; omega, by simp, by simp; omega⟩).mono ?_
    rintro e w2 ⟨rfl, hp, ho⟩
    go_wp2
    go_ret
    exact ⟨rfl, hp, (((Only.refl _ _).setCell (by simp) _).setCell (by simp) _).trans ho⟩
  · have t1 : ((ar : Int) == 0) = false := by simp; omega
    have t2 : ((ar : Int) - 1 == 0) = false := by simp; omega
    go_enter Tryd.func104, Tryd.ntmps104
    go_wp2
    go_ret
    refine ⟨?_, ?_, ((Only.refl _ _).setCell (by simp) _).setCell (by simp) _⟩
    · have : ({ down := d, acts := ac, armed := ar, life := li } : Pw).err = 0 := by unfold Pw.err; rw [if_neg (by simp; omega)]
      rw [this]; rfl
    · have e : ({ down := d, acts := ac, armed := ar, life := li } : Pw).act = { down := d, acts := ac + 1, armed := ar - 1, life := li } := by
        unfold Pw.act; rw [if_neg (by simp; omega), if_neg (by simp; omega)]
      rw [e]
      have e2 : pwCells { down := d, acts := ac + 1, armed := ar - 1, life := li } sl = ((pwCells { down := d, acts := ac, armed := ar, life := li } sl).setIfInBounds 1 (.int .i64 (↑ac + 1))).setIfInBounds 2 (.int .i64 (↑ar - 1)) := by
        have : ((ar - 1 : Nat) : Int) = (ar : Int) - 1 := by omega
        simp [pwCells, this]
      unfold PwAt
      rw [e2]
      exact heap_setCell_same _ b 2 _ _ _ (heap_setCell_same _ b 1 _ _ _ H.out)
end Go.Proofs.YtfbjbhddapoopaaDoor
