/-
  Layer 3's reference: the walks of Good, Fits, Join. Layer 3's reference: the walks of bytes, Encode. Layer 3's reference: the walk of digest. What reading comes to, as one contract each. Layer 3's reference: the walk of Decode.
-/
import Derived.Test.YthcmlbbbbcinkaaDoorRcD
import Derived.Test.YthcmlbbbbcinkaaDoorFmB
import Derived.Test.YthcmlbbbbcinkaaDoorSapI
import Derived.Test.YthcmlbbbbcinkaaDoorBase
set_option linter.unusedVariables false
set_option linter.unusedSimpArgs false
namespace Go.Proofs.YthcmlbbbbcinkaaDoor
open Go.RowKit
attribute [local go_sem] Lb.ba_get Lb.ba_cut Lb.ba_add Lb.ba_size Lb.take_rest

end Go.Proofs.YthcmlbbbbcinkaaDoor

set_option linter.unusedVariables false
set_option linter.unusedSimpArgs false
namespace Go.Proofs.YthcmlbbbbcinkaaDoor
open Go.RowKit Pl
attribute [local go_sem] Lb.ba_get Lb.ba_cut Lb.ba_add Lb.ba_size Lb.take_rest

theorem byte_src0 {w : World} (g : Nat) (x : UInt8) (T : TypeId) (f : Nat × Nat) (h : w.heap[g]? = some (.cells #[.int .u8 ((x.toNat : Nat) : Int)] T f)) : Src Tryd.prog 1 45 (.slice (some ⟨g, 0, none⟩) 1 1) 1 (byV [x]) w := by
  refine Src.ofSlice w Tryd.underlying45 _ 1 1 (byV [x]) (by simp [byV]) (fun j u hu => ?_) (fun u hu => ?_)
  · rw [Addr.add_lit, Nat.zero_add, Lib.cell_of_heap h]; simpa [byV] using hu
  · simp only [byV, List.mem_map] at hu; obtain ⟨_, _, rfl⟩ := hu; rfl
theorem bag_empty {w : World} {g size : Nat} {T : TypeId} {f : Nat × Nat} (h : w.heap[g]? = some (.cells #[] T f)) (B : Nat) (hB : B ≤ g) : Bag0 w B size (.slice (some ⟨g, 0, none⟩) 0 0) 0 [] :=
  .inr ⟨g, 0, rfl, hB, ⟨Nat.le_refl _, by unfold maxLen; omega, heap_lt h, by simp, fun j u hu => by simp at hu, fun j hj => absurd hj (by simp)⟩⟩

end Go.Proofs.YthcmlbbbbcinkaaDoor

set_option linter.unusedVariables false
set_option linter.unusedSimpArgs false
namespace Go.Proofs.YthcmlbbbbcinkaaDoor
open Go.RowKit
attribute [local go_sem] Lb.ba_get Lb.ba_cut Lb.ba_add Lb.ba_size Lb.take_rest

/-- a digest of which the first i bytes are filled -/
def fillD (t : List UInt8) (i : Nat) : List UInt8 := t.take i ++ List.replicate (32 - i) 0
theorem fillD_len (t : List UInt8) (i : Nat) (ht : t.length = 32) (hi : i ≤ 32) : (fillD t i).length = 32 := by simp [fillD]; omega
theorem fillD_zero (t : List UInt8) : fillD t 0 = List.replicate 32 0 := by simp [fillD]
theorem fillD_all (t : List UInt8) (ht : t.length = 32) : fillD t 32 = t := by simp [fillD, List.take_of_length_le (show t.length ≤ 32 by omega)]
theorem fillD_succ (t : List UInt8) (i : Nat) (ht : t.length = 32) (hi : i < 32) (h : i < t.length) : (fillD t i).set i t[i] = fillD t (i + 1) := by
  apply List.ext_getElem
  · simp [fillD]; omega
  · intro k h1 h2
    rw [List.getElem_set]
    split
    · rename_i e
      subst e
      simp only [fillD]
      rw [List.getElem_append_left (by simp; omega)]
      simp
    · rename_i e
      simp only [fillD]
      by_cases hk : k < i
      · rw [List.getElem_append_left (by simp; omega), List.getElem_append_left (by simp; omega)]
        simp
      · rw [List.getElem_append_right (by simp; omega), List.getElem_append_right (by simp; omega)]
        simp

end Go.Proofs.YthcmlbbbbcinkaaDoor

set_option linter.unusedVariables false
set_option linter.unusedSimpArgs false
namespace Go.Proofs.YthcmlbbbbcinkaaDoor
open Go.RowKit Pl
attribute [local go_sem] Lb.ba_get Lb.ba_cut Lb.ba_add Lb.ba_size Lb.take_rest

/-- a number that is read or none -/
def GotNum (l : List UInt8) (n : Int) (r : List UInt8) (ok : Bool) : Prop := (ok = true ∧ rdNum l = some (n, r)) ∨ (ok = false ∧ rdNum l = none ∧ n = 0 ∧ r = [])
def GotText (l : List UInt8) (most : Int) (t r : List UInt8) (ok : Bool) : Prop := (ok = true ∧ rdText l most = some (t, r)) ∨ (ok = false ∧ rdText l most = none ∧ t = [] ∧ r = [])
def GotRow (w' : World) (B : Nat) (l : List UInt8) (most : Int) (A : Option Addr) (cap : Nat) (ts : List (List UInt8)) (r : List UInt8) (ok : Bool) : Prop :=
  ((ok = true ∧ rdRow l most = some (ts, r)) ∨ (ok = false ∧ rdRow l most = none ∧ ts = [] ∧ r = [])) ∧ Strs w' w'.heap.size A ts ∧ ts.length ≤ 4294967296

def NumPost (l : List UInt8) (w : World) (e : Ending) (w' : World) : Prop := ∃ n r ok, e = .returned (.tuple #[.int .i64 n, .string ⟨List.toArray r⟩, .bool ok]) ∧ GotNum l n r ok ∧ Below w.heap.size w w'
def TextPost (l : List UInt8) (most : Int) (w : World) (e : Ending) (w' : World) : Prop := ∃ t r ok, e = .returned (.tuple #[.string ⟨List.toArray t⟩, .string ⟨List.toArray r⟩, .bool ok]) ∧ GotText l most t r ok ∧ Below w.heap.size w w'
def RowPost (l : List UInt8) (most : Int) (w : World) (e : Ending) (w' : World) : Prop := ∃ A cap ts r ok, e = .returned (.tuple #[.slice A (List.length ts) cap, .string ⟨List.toArray r⟩, .bool ok]) ∧ GotRow w' w.heap.size l most A cap ts r ok ∧ Below w.heap.size w w'

theorem readNum_c (l : List UInt8) (h0 : l.length < 9223372036854775000) (w : World) : Calls Tryd.prog 79 #[.string ⟨l.toArray⟩] w (NumPost l w) := by
  cases h : rdNum l with
  | none => exact (readNum_none h w (by omega)).mono fun e w' ⟨he, hB⟩ => ⟨0, [], false, he, .inr ⟨rfl, h, rfl, rfl⟩, hB⟩
  | some p => exact (readNum_some h w (by omega)).mono fun e w' ⟨he, hB⟩ => ⟨p.1, p.2, true, he, .inl ⟨rfl, h⟩, hB⟩
theorem readText_c (l : List UInt8) (most : Int) (h0 : l.length < 9223372036854775000) (w : World) : Calls Tryd.prog 56 #[.string ⟨l.toArray⟩, .int .i64 most] w (TextPost l most w) := by
  cases h : rdText l most with
  | none => exact (readText_none h w (by omega)).mono fun e w' ⟨he, hB⟩ => ⟨[], [], false, he, .inr ⟨rfl, h, rfl, rfl⟩, hB⟩
  | some p => exact (readText_some h w (by omega)).mono fun e w' ⟨he, hB⟩ => ⟨p.1, p.2, true, he, .inl ⟨rfl, h⟩, hB⟩
theorem rdRow_len {l r : List UInt8} {ts : List (List UInt8)} {most : Int} (h : rdRow l most = some (ts, r)) : (ts.length : Int) ≤ most ∧ ts.length ≤ l.length := by
  unfold rdRow at h
  cases hr : rdNum l with
  | none => rw [hr] at h; cases h
  | some p =>
    obtain ⟨n, q⟩ := p
    rw [hr] at h
    simp only at h
    split at h
    · rename_i hy
      have h1 := (rdTexts_length h).1
      have := (rdNum_bounds hr).2.2
      omega
    · cases h

theorem readRow_c (l : List UInt8) (most : Int) (hm : most ≤ 4294967296 ∨ l.length ≤ 4294967296) (h0 : l.length < 9223372036854775000) (w : World) : Calls Tryd.prog 28 #[.string ⟨l.toArray⟩, .int .i64 most] w (RowPost l most w) := by
  cases h : rdRow l most with
  | none => exact (readRow_none h hm w h0).mono fun e w' ⟨he, hB⟩ => ⟨none, 0, [], [], false, he, ⟨.inr ⟨rfl, h, rfl, rfl⟩, fun i hi => absurd hi (by simp), by simp⟩, hB⟩
  | some p =>
    have hl := rdRow_len h
    exact (readRow_some h hm w h0).mono fun e w' ⟨A, cap, he, hown, hB⟩ => ⟨A, cap, p.1, p.2, true, he, ⟨.inl ⟨rfl, h⟩, strs_of_own (ls := p.1) hown rfl, by omega⟩, hB⟩
end Go.Proofs.YthcmlbbbbcinkaaDoor

set_option linter.unusedVariables false
set_option linter.unusedSimpArgs false
namespace Go.Proofs.YthcmlbbbbcinkaaDoor
open Go.RowKit Pl
attribute [local go_sem] Lb.ba_get Lb.ba_cut Lb.ba_add Lb.ba_size Lb.take_rest

def DecPost (s : List UInt8) (w : World) (e : Ending) (w' : World) : Prop := ∃ (m : ManiD) (x : Int), e = .returned (.tuple #[.agg m.row, .int .i64 x]) ∧ DecOf s m x ∧ m.Ok w' w'.heap.size ∧ Below w.heap.size w w'
theorem len3 {α : Type} {ts : List α} (h : ts.length = 3) : ∃ a b c, ts = [a, b, c] :=
  match ts, h with
  | [a, b, c], _ => ⟨a, b, c, rfl⟩
theorem cell_spot {w : World} {p : Addr} {v : Value} (h : w.cell? p = some v) : p.spot = none := by
  unfold World.cell? at h
  split at h
  · by_cases hs : p.spot.isSome = true
    · rw [if_pos hs] at h; cases h
    · cases hp : p.spot with
      | none => rfl
      | some x => rw [hp] at hs; simp at hs
  · cases h
theorem strs3 {w : World} {B : Nat} {A : Option Addr} {a b c : List UInt8} (h : Strs w B A [a, b, c]) : ∃ g o, A = some ⟨g, o, none⟩ ∧ g < B ∧ w.cell? ⟨g, o, none⟩ = some (.string ⟨a.toArray⟩) ∧ w.cell? ⟨g, o + 1, none⟩ = some (.string ⟨b.toArray⟩) ∧ w.cell? ⟨g, o + 2, none⟩ = some (.string ⟨c.toArray⟩) := by
  obtain ⟨ad, rfl, had, ca⟩ := h 0 (by simp)
  have cb : w.cell? (ad.add 1) = some (.string ⟨b.toArray⟩) := by obtain ⟨ad', e, _, h⟩ := h 1 (by simp); cases e; exact h
  have cc : w.cell? (ad.add 2) = some (.string ⟨c.toArray⟩) := by obtain ⟨ad', e, _, h⟩ := h 2 (by simp); cases e; exact h
  have e0 : ad.add 0 = ad := by simp [Addr.add]
  rw [e0] at ca
  have hsp := cell_spot ca
  obtain ⟨g, o, sp⟩ := ad
  simp only at hsp
  subst hsp
  rw [Addr.add_lit] at cb cc
  exact ⟨g, o, rfl, had, ca, cb, cc⟩
theorem row3_len {s a b c : List UInt8} (h : rdRow s 3 = some ([a, b, c], [])) : a.length + b.length + c.length ≤ s.length := by
  have := row_of_rd h
  rw [List.append_nil] at this
  rw [← this]
  simp [srow, textsB, textB]
  omega
theorem flat_cuts_succ (t : List UInt8) (j : Nat) : ((cuts t (j + 1)).map byV).flatten = ((cuts t j).map byV).flatten ++ byV (cut32 t j) := by
  rw [cuts_succ, List.map_append, List.flatten_append]; simp

end Go.Proofs.YthcmlbbbbcinkaaDoor
