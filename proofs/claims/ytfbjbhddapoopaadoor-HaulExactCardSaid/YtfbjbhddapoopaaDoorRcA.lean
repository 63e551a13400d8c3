/-
  Layer 3's reference: the walks of Split; of layer 1's Same.
-/
import Derived.Test.YtfbjbhddapoopaaDoorStV
import Derived.Test.YtfbjbhddapoopaaDoorCoC
set_option linter.unusedVariables false
set_option linter.unusedSimpArgs false
namespace Go.Proofs.YtfbjbhddapoopaaDoor
open Go.RowKit
attribute [local go_sem] Lb.ba_get Lb.ba_cut Lb.ba_add Lb.ba_size Lb.take_rest

set_option maxHeartbeats 4000000 in
set_option maxRecDepth 100000 in
theorem rsplit_any (l : List UInt8) (w : World) (hl : l.length ≤ 140737488351232) :
    Calls Tryd.prog 77 #[.string ⟨l.toArray⟩] w fun e w' => ∃ v, e = .returned v ∧ Txts w' w.heap.size v (chunks l) ∧ Below w.heap.size w w' := by
  obtain ⟨i0, hi0, hz0, hz1, hz2⟩ := info_parts str_info
  go_enter Tryd.func77, Tryd.ntmps77
  go_wp2_with fail
  go_loopw [0, 3] (fun s v wr => ∃ j : Nat, (j = 0 ∨ 64 * j < l.length) ∧ s = .string ⟨(l.drop (64 * j)).toArray⟩ ∧ Bag0 wr w.heap.size 1 v j (rowT (chunksN l j)) ∧ Below w.heap.size w wr) (fun s _ _ => match s with | .string x => x.size | _ => 0)
  case atStart => exact ⟨0, .inl rfl, rfl, .inr ⟨w.heap.size, 0, rfl, Nat.le_refl _, Nat.le_refl _, by unfold maxLen; omega, by simp, rfl, fun j u hu => by simp [rowT, chunksN] at hu, fun j hj => by omega⟩, (Below.refl _ w).alloc (Nat.le_refl _) _⟩
  case round =>
    obtain ⟨j, hj, rfl, hB, hb⟩ := hrel
    have hbs := hb.size
    obtain ⟨A, cap, rfl, -, -⟩ := hB.shape
    obtain ⟨r, hr⟩ : ∃ r, r = l.drop (64 * j) := ⟨_, rfl⟩
    have hrl : r.length = l.length - 64 * j := by rw [hr]; simp
    rw [← hr]
    have hr63 : (r.length : Int) ≤ 140737488351232 := by omega
    by_cases h64 : 64 < r.length
    · have hi64 : (64 : Int) < (r.length : Int) := by omega
      have hi64' : (64 : Int) ≤ (r.length : Int) := by omega
      have hb2 : Bag0 (wr.alloc (.cells #[.string ⟨(r.take 64).toArray⟩] 9)) w.heap.size 1 (.slice A j cap) j (rowT (chunksN l j)) := hB.alloc _
      have hsrc : Src Tryd.prog 1 54 (.slice (some ⟨wr.heap.size, 0, none⟩) 1 1) 1 [.string ⟨(r.take 64).toArray⟩] (wr.alloc (.cells #[.string ⟨(r.take 64).toArray⟩] 9)) :=
        str_src _ 1 _ (by rw [Lib.cell_of_heap (heap_alloc_new wr _)]; rfl)
      have hj2 : j + 1 ≤ 2199023255489 := by omega
      have Hb := Lib.hid hb
      have Hr := Lib.hid hr
      have hl2 : 64 * (j + 1) < l.length := by omega
      clear hB hb hr hrl
      go_wp2_with (at_builtin; refine wpList_append_bag0 _ rfl _ _ 54 54 rfl i0 (.string ByteArray.empty) 16 Tryd.underlying54 hi0 hz0 hz1 hz2 rfl (by simp; omega) rfl hb2 _ 1 _ rfl hsrc (by omega) (by unfold maxLen; omega) (by omega) ?_)
      intro v' w' hB' hb'
      have hB2 : Bag0 w' w.heap.size 1 v' (j + 1) (rowT (chunksN l (j + 1))) := by
        have e : r.take 64 = chunk l j := by rw [Hr.out]; rfl
        rw [chunksN_succ, rowT_append, ← e]; exact hB'
      have HB2 := Lib.hid hB2
      have Hb2 := Lib.hid ((Hb.out.alloc hbs _).trans hb')
      clear hB' hb' hB2 hsrc hb2
      go_wp2_with fail
      go_roundw
      case rel => exact ⟨j + 1, .inr hl2, by rw [Hr.out, List.drop_drop]; congr 3, HB2.out, Hb2.out⟩
      case measure => show (ByteArray.mk _).size < (ByteArray.mk _).size; simp only [Lb.ba_size, List.length_drop]; omega
    · have hi64 : ¬ (64 : Int) < (r.length : Int) := by omega
      by_cases h0 : r = []
      · have hl0 : l = [] := by
          rcases hj with rfl | h
          · rw [h0] at hr; simpa using hr.symm
          · rw [h0] at hrl; simp at hrl; omega
        have hj0 : j = 0 := by rcases hj with h | h <;> simp_all
        subst hj0
        subst hl0
        subst h0
        have HB := Lib.hid hB
        have Hb := Lib.hid hb
        clear hB hb hr hj hr63 hi64 hrl h64 hl hbs
        go_wp2_with fail
        go_ret
        exact ⟨_, rfl, HB.out, Hb.out⟩
      · have hn0 : ¬ (⟨r.toArray⟩ : ByteArray) = ByteArray.mk #[] := by
          intro h
          apply h0
          have := congrArg (fun b : ByteArray => b.data.toList) h
          simpa using this
        have hemp : r.isEmpty = false := by simpa using h0
        have hr0 : r.length ≠ 0 := by intro h; exact h0 (List.eq_nil_of_length_eq_zero h)
        have hb2 : Bag0 (wr.alloc (.cells #[.string ⟨r.toArray⟩] 9)) w.heap.size 1 (.slice A j cap) j (rowT (chunksN l j)) := hB.alloc _
        have hsrc : Src Tryd.prog 1 54 (.slice (some ⟨wr.heap.size, 0, none⟩) 1 1) 1 [.string ⟨r.toArray⟩] (wr.alloc (.cells #[.string ⟨r.toArray⟩] 9)) :=
          str_src _ 1 _ (by rw [Lib.cell_of_heap (heap_alloc_new wr _)]; rfl)
        have hj2 : j + 1 ≤ 2199023255489 := by omega
        have hcnt : (l.length + 63) / 64 = j + 1 := by omega
        have hch : r = chunk l j := by
          rw [hr]; unfold chunk; rw [← hr]; exact (List.take_of_length_le (by omega)).symm
        have Hb := Lib.hid hb
        have Hch := Lib.hid hch
        have Hcnt := Lib.hid hcnt
        clear hB hb hr hrl hj hch hcnt
        go_wp2_with (at_builtin; refine wpList_append_bag0 _ rfl _ _ 54 54 rfl i0 (.string ByteArray.empty) 16 Tryd.underlying54 hi0 hz0 hz1 hz2 rfl (by simp; omega) rfl hb2 _ 1 _ rfl hsrc (by omega) (by unfold maxLen; omega) (by omega) ?_)
        intro v' w' hB' hb'
        have hB2 : Txts w' w.heap.size v' (chunks l) := by
          unfold Txts
          rw [chunks_length, Hcnt.out]
          unfold chunks
          rw [Hcnt.out, chunksN_succ, rowT_append, ← Hch.out]; exact hB'
        have HB2 := Lib.hid hB2
        have Hb2 := Lib.hid ((Hb.out.alloc hbs _).trans hb')
        clear hB' hb' hB2 hsrc hb2
        go_wp2_with fail
        go_ret
        exact ⟨_, rfl, HB2.out, Hb2.out⟩
end Go.Proofs.YtfbjbhddapoopaaDoor
