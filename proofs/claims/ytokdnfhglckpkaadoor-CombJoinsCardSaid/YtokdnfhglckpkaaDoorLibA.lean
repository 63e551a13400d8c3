/-
  Run equations over any program: bytes of an array that a call made, as a string; strings cut and joined.
-/
import Derived.WalkKit
import Derived.WalkSpells
import Derived.WalkLawsBesides
import Derived.Laws.IdiomStrings
import Derived.Lib.UnsafeStr
import Derived.Lib.Builder
import Derived.Lib.Hide
set_option linter.unusedVariables false
set_option linter.unusedSimpArgs false
namespace Go.Proofs.YtokdnfhglckpkaaDoor.Lb
open Go Go.RowKit

section
variable {P : Program}

/-- strings are lists of bytes -/
theorem ba_get (l : List UInt8) (i : Nat) (h : i < (⟨l.toArray⟩ : ByteArray).size) : (⟨l.toArray⟩ : ByteArray)[i]'h = l[i]'h := rfl
theorem ba_cut (l : List UInt8) (a b : Nat) : (ByteArray.mk l.toArray).extract a b = ByteArray.mk ((l.drop a).take (b - a)).toArray := ByteArray.extract_mk l a b
theorem ba_add (x y : List UInt8) : (ByteArray.mk x.toArray ++ ByteArray.mk y.toArray) = ByteArray.mk (x ++ y).toArray := ByteArray.mk_append_mk x y
theorem take_rest (l : List UInt8) (i : Nat) : (l.drop i).take (l.length - i) = l.drop i := List.take_of_length_le (by simp)
theorem ba_size (l : List UInt8) : (ByteArray.mk l.toArray).size = l.length := rfl

/-- 'arr[j:]' of an array variable of one-cell elements. -/
theorem run_arr_from {t e : TypeId} {n : Nat} {z : Value} (a : Addr) (ht : P.underlying t = some (.array n e)) (hi : (P.info? e).map (fun i => (i.zero, i.size)) = some (some z, 1)) (j : Nat) (hj : j ≤ n) (W : World) :
    (Instr.sliceAt t (.pointer (some a)) (some (.int .i64 (j : Int))) none none).run P W = .ok (.slice (some (if n = j then a else a.add j)) (n - j) (n - j)) W := by
  have h1 : P.arrayLen t = n := by unfold Program.arrayLen; rw [ht]
  have h2 : P.elem t = e := by unfold Program.elem; rw [ht]
  obtain ⟨i0, hi0, hp⟩ := Option.map_eq_some_iff.1 hi
  simp only [Prod.mk.injEq] at hp
  rw [run_sliceAt_array_l W t a (by rw [h1, h2]; exact ht) .i64 (j : Int) (by omega) (by rw [h1]; omega)]
  simp [sizeOf, typeInfo, h2, hi0, hp.2, slicedAt, h1, Result.andThen]

/-- 'string(b)' of a slice that lies in the block of one array. -/
theorem run_str_tail {src dst e t : TypeId} {fr : Nat × Nat} (hs : P.underlying src = some (.slice e)) (he : P.underlying e = some (.int .u8)) (hd : P.underlying dst = some .string)
    {b n : Nat} (j : Nat) {C : Array Value} {ds : List UInt8} (hds : C.toList.drop j = Lib.byteCells ds) (hl : ds.length = n - j) (hj : j ≤ n) (W : World) (hW : W.heap[b]? = some (.cells C t fr)) (cap : Nat) :
    (convert src dst (.slice (some (if n = j then ⟨b, 0, none⟩ else ⟨b, j, none⟩)) (n - j) cap)).run P W = .ok (.string ⟨ds.toArray⟩) W := by
  rw [← hl]
  apply run_convert_bytes_back W src dst e _ cap ds hs he hd
  intro k hk
  have hne : n ≠ j := by omega
  rw [if_neg hne]
  have ha : (⟨b, j, none⟩ : Addr).add k = ⟨b, j + k, none⟩ := by
    unfold Addr.add
    by_cases h2 : k = 0 <;> simp [h2]
  rw [ha, Lib.cell_of_heap hW]
  have h := congrArg (fun l => l[k]?) hds
  simp only [List.getElem?_drop, Lib.byteCells, List.getElem?_map, List.getElem?_eq_getElem hk, Option.map_some] at h
  rw [← h]
  simp

/-- both: 'string(arr[j:])', the cut's address a letter. -/
theorem arr_tail {src dst e t : TypeId} {z : Value} (hs : P.underlying src = some (.slice e)) (he : P.underlying e = some (.int .u8)) (hd : P.underlying dst = some .string)
    {b n : Nat} (j : Nat) {C : Array Value} {ds : List UInt8} (hds : C.toList.drop j = Lib.byteCells ds) (hl : ds.length = n - j) (hj : j ≤ n)
    (ht : P.underlying t = some (.array n e)) (hi : (P.info? e).map (fun i => (i.zero, i.size)) = some (some z, 1)) :
    ∃ A : Addr, (∀ W : World, (Instr.sliceAt t (.pointer (some ⟨b, 0, none⟩)) (some (.int .i64 (j : Int))) none none).run P W = .ok (.slice (some A) (n - j) (n - j)) W) ∧
      ∀ (W : World) (fr : Nat × Nat), W.heap[b]? = some (.cells C t fr) → (convert src dst (.slice (some A) (n - j) (n - j))).run P W = .ok (.string ⟨ds.toArray⟩) W := by
  refine ⟨_, fun W => ?_, fun W fr hW => run_str_tail hs he hd j hds hl hj W hW _⟩
  rw [run_arr_from ⟨b, 0, none⟩ ht hi j hj W]
  by_cases h : n = j
  · simp [h]
  · simp [h, Addr.add]
    omega

/-- 'string([]byte{x})' -/
theorem run_str_one {src dst e t : TypeId} {fr : Nat × Nat} (hs : P.underlying src = some (.slice e)) (he : P.underlying e = some (.int .u8)) (hd : P.underlying dst = some .string)
    {b : Nat} {x : Int} (h0 : 0 ≤ x) (h1 : x < 256) (W : World) (hW : W.heap[b]? = some (.cells #[.int .u8 x] t fr)) (cap : Nat) :
    (convert src dst (.slice (some ⟨b, 0, none⟩) 1 cap)).run P W = .ok (.string ⟨#[UInt8.ofNat x.toNat]⟩) W := by
  have := run_convert_bytes_back W src dst e ⟨b, 0, none⟩ cap [UInt8.ofNat x.toNat] hs he hd (fun j hj => by
    have : j = 0 := by simpa using hj
    subst this
    have e1 : ((⟨b, 0, none⟩ : Addr).add 0) = ⟨b, 0, none⟩ := by simp [Addr.add]
    rw [e1, Lib.cell_of_heap hW]
    have e2 : ((x.toNat % 256 : Nat) : Int) = x := by omega
    simp [UInt8.toNat_ofNat, e2])
  simpa using this
/-- '[]byte(s)': a new row that holds the bytes. -/
theorem str_bytes {src dst e : TypeId} (hs : P.underlying src = some .string) (hd : P.underlying dst = some (.slice e)) (he : P.underlying e = some (.int .u8)) (l : List UInt8) (w : World) :
    ∃ (W1 : World) (cap : Nat), (convert src dst (.string ⟨l.toArray⟩)).run P w = .ok (.slice (some ⟨w.heap.size, 0, none⟩) l.length cap) W1 ∧ Below w.heap.size w W1 ∧ w.heap.size < W1.heap.size ∧
      ∀ i (h : i < l.length), W1.cell? ⟨w.heap.size, i, none⟩ = some (.int .u8 ((l[i].toNat : Nat) : Int)) := by
  refine ⟨_, _, run_bytes_of_string w src dst e ⟨l.toArray⟩ hs hd he, ((Below.refl _ _).drew).alloc (Nat.le_refl _) _, by simp, fun i h => ?_⟩
  rw [show w.heap.size = w.drew.heap.size from rfl, World.cell?_alloc_mark, bytesRow_at _ _ _ (by simpa using h)]
  simp
end
end Go.Proofs.YtokdnfhglckpkaaDoor.Lb
