/-
  The walk of sap.Row.
-/
import Derived.Test.YthcmlbbbbcinkaaDoorSapAC
import Derived.Test.YthcmlbbbbcinkaaDoorBase
import Derived.Test.YthcmlbbbbcinkaaDoorBuilder
import Derived.Test.YthcmlbbbbcinkaaDoorShelf
set_option linter.unusedVariables false
set_option linter.unusedSimpArgs false
namespace Go.Proofs.YthcmlbbbbcinkaaDoor
open Go.RowKit Pl
attribute [local go_sem] Lb.ba_get Lb.ba_cut Lb.ba_add Lb.ba_size Lb.take_rest

theorem text_B (s : List UInt8) (w : World) (h0 : s.length < 9223372036854775000) :
    Calls Tryd.prog 38 #[.string ⟨s.toArray⟩] w fun e w' => e = .returned (.string ⟨(textB s).toArray⟩) ∧ Below w.heap.size w w' := text_any s w h0

set_option maxHeartbeats 2000000 in
set_option maxRecDepth 100000 in
theorem row_any (A : Option Addr) (cap : Nat) (ls : List (List UInt8)) (w : World) (hS : Strs w w.heap.size A ls) (hsum : (srow ls).length ≤ 140737488355328) :
    Calls Tryd.prog 16 #[.slice A ls.length cap] w fun e w' => e = .returned (.string ⟨(srow ls).toArray⟩) ∧ Below w.heap.size w w' := by
  obtain ⟨n, hn⟩ : ∃ n, n = ls.length := ⟨_, rfl⟩
  have hsum' : (num n).length + (textsB ls).length ≤ 140737488355328 := by rw [hn]; simpa [srow] using hsum
  have Hn := Lib.hid hn
  rw [← hn]
  have hnb : n ≤ 140737488355328 := by
    have h1 : ls.length ≤ (textsB ls).length := by
      clear hS hsum hsum' Hn hn
      induction ls with
      | nil => simp
      | cons a t ih =>
        have : textsB (a :: t) = textB a ++ textsB t := by simp [textsB]
        rw [this, List.length_append, List.length_cons]
        have : 1 ≤ (textB a).length := by simp [textB, num]
        omega
    omega
  have HS := Lib.hid hS
  clear hS hsum hn
  have hib := Lib.fresh_isBuilder 87 5 w
  go_enter Tryd.func16, Tryd.ntmps16
  go_wp2_with fail
  refine (num_any n _ (by omega) (by omega)).mono ?_
  rintro e w1 ⟨rfl, hB1⟩
  have hib1 := IsBuilder.below hib hB1
  have hsz1 := hB1.size
  simp only [World.size_alloc] at hsz1 hB1
  clear hib
  go_wp2_with fail
  refine (writeString_any w.heap.size w.heap.size [] _ _ hib1 (by simp [ByteArray.size]; omega) (by omega)).mono ?_
  rintro e w2 ⟨rfl, hib2, hB2⟩
  have hBe : Below w.heap.size w w2 := (((Below.refl _ w).alloc (Nat.le_refl _) _).trans (hB1.mono (by omega))).trans hB2
  have hib3 : Lib.IsBuilder 87 5 w.heap.size w.heap.size (Lib.byteCells (num n ++ textsB (ls.take 0))) w2 := .inr (by simpa [textsB, Lib.strCells_eq] using hib2)
  clear hib1 hib2 hB1 hB2 hsz1
  go_wp2
  go_loopw [12] (fun p wr => ∃ i : Nat, i ≤ n ∧ p = .int .i64 i ∧ Lib.IsBuilder 87 5 w.heap.size w.heap.size (Lib.byteCells (num n ++ textsB (ls.take i))) wr ∧ Below w.heap.size w wr) (fun p _ => n - (intOf p).toNat)
  case atStart => exact ⟨0, by omega, rfl, hib3, hBe⟩
  case round =>
    obtain ⟨i, hi, rfl, hb, hbe⟩ := hrel
    have hsz := hbe.size
    by_cases hin : i < n
    · have hlt : i < ls.length := by rw [← Hn.out]; exact hin
      obtain ⟨a, hA, hab, hcell⟩ := HS.out i hlt
      have hc := (hbe.cell (p := a.add i) (by rw [block_add]; exact hab)).trans hcell
      have htl := textB_le ls i hlt
      have Htk := Lib.hid (textsB_take ls i hlt)
      obtain ⟨s, hs⟩ : ∃ s, s = ls[i] := ⟨_, rfl⟩
      rw [← hs] at hc htl Htk
      have hsl : s.length ≤ (textB s).length := by simp [textB]
      subst hA
      clear hcell hs hib3 hBe
      go_wp2_with fail
      refine (text_B s _ (by omega)).mono ?_
      rintro e w3 ⟨rfl, hB3⟩
      have hb3 := IsBuilder.below hb hB3
      have hsz3 := hB3.size
      go_wp2_with fail
      refine (writeString_any w.heap.size w.heap.size _ _ _ hb3 (by simp [Lib.byteCells, ByteArray.size]; omega) (by omega)).mono ?_
      rintro e w4 ⟨rfl, hb4, hB4⟩
      have hBe : Below w.heap.size w w4 := (hbe.trans (hB3.mono (by omega))).trans hB4
      have hb5 : Hid (Lib.IsBuilder 87 5 w.heap.size w.heap.size (Lib.byteCells (num n ++ textsB (ls.take (i + 1)))) w4) := .inr (by rw [Htk.out]; simpa [Lib.strCells_eq, Lib.byteCells_append] using hb4)
      clear hb hb3 hB3 hsz3 hb4 hB4 hbe hsz hc
      go_wp2
      go_roundw
      case rel => exact ⟨i + 1, by omega, by go_num, hb5.out, hBe⟩
      case measure => simp [intOf]; omega
    · obtain rfl : i = n := by omega
      have hb' : Lib.IsBuilder 87 5 w.heap.size w.heap.size (Lib.byteCells (srow ls)) wr := by
        rw [Hn.out, List.take_length] at hb; exact hb
      clear hb hib3 hBe
      go_wp2_with fail
      refine (Tryd.Builder_String_any w.heap.size w.heap.size (srow ls) _ hb' (by omega)).mono ?_
      rintro e w3 ⟨rfl, hB3⟩
      go_wp2
      go_ret
      exact ⟨rfl, hbe.trans hB3⟩
end Go.Proofs.YthcmlbbbbcinkaaDoor
