/-
  What reading comes to, as one contract each (without the reference).
-/
import Derived.Test.YteihfoacdocgkaaDoorSapE
import Derived.Test.YteihfoacdocgkaaDoorBase
set_option linter.unusedVariables false
set_option linter.unusedSimpArgs false
namespace Go.Proofs.YteihfoacdocgkaaDoor
open Go.RowKit Pl
attribute [local go_sem] Lb.ba_get Lb.ba_cut Lb.ba_add Lb.ba_size Lb.take_rest

/-- a number that is read or none -/
def GotNum (l : List UInt8) (n : Int) (r : List UInt8) (ok : Bool) : Prop := (ok = true ∧ rdNum l = some (n, r)) ∨ (ok = false ∧ rdNum l = none ∧ n = 0 ∧ r = [])
def GotText (l : List UInt8) (most : Int) (t r : List UInt8) (ok : Bool) : Prop := (ok = true ∧ rdText l most = some (t, r)) ∨ (ok = false ∧ rdText l most = none ∧ t = [] ∧ r = [])
def GotRow (w' : World) (B : Nat) (l : List UInt8) (most : Int) (A : Option Addr) (cap : Nat) (ts : List (List UInt8)) (r : List UInt8) (ok : Bool) : Prop :=
  ((ok = true ∧ rdRow l most = some (ts, r)) ∨ (ok = false ∧ rdRow l most = none ∧ ts = [] ∧ r = [])) ∧ Strs w' w'.heap.size A ts ∧ ts.length ≤ 4294967296

def NumPost (l : List UInt8) (w : World) (e : Ending) (w' : World) : Prop := ∃ n r ok, e = .returned (.tuple #[.int .i64 n, .string ⟨List.toArray r⟩, .bool ok]) ∧ GotNum l n r ok ∧ Below w.heap.size w w'
def TextPost (l : List UInt8) (most : Int) (w : World) (e : Ending) (w' : World) : Prop := ∃ t r ok, e = .returned (.tuple #[.string ⟨List.toArray t⟩, .string ⟨List.toArray r⟩, .bool ok]) ∧ GotText l most t r ok ∧ Below w.heap.size w w'
def RowPost (l : List UInt8) (most : Int) (w : World) (e : Ending) (w' : World) : Prop := ∃ A cap ts r ok, e = .returned (.tuple #[.slice A (List.length ts) cap, .string ⟨List.toArray r⟩, .bool ok]) ∧ GotRow w' w.heap.size l most A cap ts r ok ∧ Below w.heap.size w w'

theorem readNum_c (l : List UInt8) (h0 : l.length < 9223372036854775000) (w : World) : Calls Tryd.prog 130 #[.string ⟨l.toArray⟩] w (NumPost l w) := by
  cases h : rdNum l with
  | none => exact (readNum_none h w (by omega)).mono fun e w' ⟨he, hB⟩ => ⟨0, [], false, he, .inr ⟨rfl, h, rfl, rfl⟩, hB⟩
  | some p => exact (readNum_some h w (by omega)).mono fun e w' ⟨he, hB⟩ => ⟨p.1, p.2, true, he, .inl ⟨rfl, h⟩, hB⟩
theorem rdRow_len {l r : List UInt8} {ts : List (List UInt8)} {most : Int} (h : rdRow l most = some (ts, r)) : (ts.length : Int) ≤ most ∧ ts.length ≤ l.length := by
  unfold rdRow at h
  cases hr : rdNum l with
  | none => rw [hr] at h; cases h
  | some p =>
    obtain ⟨n, q⟩ := p
    rw [hr] at h
    simp only at h
    split at h
    · rename_i hy
      have h1 := (rdTexts_length h).1
      have := (rdNum_bounds hr).2.2
      omega
    · cases h

theorem readRow_c (l : List UInt8) (most : Int) (hm : most ≤ 4294967296 ∨ l.length ≤ 4294967296) (h0 : l.length < 9223372036854775000) (w : World) : Calls Tryd.prog 55 #[.string ⟨l.toArray⟩, .int .i64 most] w (RowPost l most w) := by
  cases h : rdRow l most with
  | none => exact (readRow_none h hm w h0).mono fun e w' ⟨he, hB⟩ => ⟨none, 0, [], [], false, he, ⟨.inr ⟨rfl, h, rfl, rfl⟩, fun i hi => absurd hi (by simp), by simp⟩, hB⟩
  | some p =>
    have hl := rdRow_len h
    exact (readRow_some h hm w h0).mono fun e w' ⟨A, cap, he, hown, hB⟩ => ⟨A, cap, p.1, p.2, true, he, ⟨.inl ⟨rfl, h⟩, strs_of_own (ls := p.1) hown rfl, by omega⟩, hB⟩
end Go.Proofs.YteihfoacdocgkaaDoor
