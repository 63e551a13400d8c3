/-
  Layer 3's reference: the walk of digest.
-/
import Derived.Test.YtokdnfhglckpkaaDoorFmB
set_option linter.unusedVariables false
set_option linter.unusedSimpArgs false
namespace Go.Proofs.YtokdnfhglckpkaaDoor
open Go.RowKit
attribute [local go_sem] Lb.ba_get Lb.ba_cut Lb.ba_add Lb.ba_size Lb.take_rest

/-- a digest of which the first i bytes are filled -/
def fillD (t : List UInt8) (i : Nat) : List UInt8 := t.take i ++ List.replicate (32 - i) 0
theorem fillD_len (t : List UInt8) (i : Nat) (ht : t.length = 32) (hi : i ≤ 32) : (fillD t i).length = 32 := by simp [fillD]; omega
theorem fillD_zero (t : List UInt8) : fillD t 0 = List.replicate 32 0 := by simp [fillD]
theorem fillD_all (t : List UInt8) (ht : t.length = 32) : fillD t 32 = t := by simp [fillD, List.take_of_length_le (show t.length ≤ 32 by omega)]
theorem fillD_succ (t : List UInt8) (i : Nat) (ht : t.length = 32) (hi : i < 32) (h : i < t.length) : (fillD t i).set i t[i] = fillD t (i + 1) := by
  apply List.ext_getElem
  · simp [fillD]; omega
  · intro k h1 h2
    rw [List.getElem_set]
    split
    · rename_i e
      subst e
      simp only [fillD]
      rw [List.getElem_append_left (by simp; omega)]
      simp
    · rename_i e
      simp only [fillD]
      by_cases hk : k < i
      · rw [List.getElem_append_left (by simp; omega), List.getElem_append_left (by simp; omega)]
        simp
      · rw [List.getElem_append_right (by simp; omega), List.getElem_append_right (by simp; omega)]
        simp

set_option maxRecDepth 100000 in
set_option maxHeartbeats 2000000 in
theorem rdigest_any (t : List UInt8) (w : World) (ht : t.length = 32) :
    Calls Tryd.prog 66 #[.string ⟨t.toArray⟩] w fun e w' => e = .returned (.agg (digV t)) ∧ Below w.heap.size w w' := by
  have hzi : (Tryd.prog.info? 24).map (·.size) = some (digV (List.replicate 32 0)).size := by rw [dig_info]; rfl
  go_enter Tryd.func66, Tryd.ntmps66
  go_upto_region 2 with (refine wpList_store_row rfl 24 _ _ rfl (w.heap.size + 1) (digV (List.replicate 32 0)) rfl rfl 24 _ (heap_alloc2_new w _ _) hzi rfl (digV_one _) ?_)
  show Code.wp _ _ _ _ (((w.alloc (.cells (digV (List.replicate 32 0)) 24)).alloc (.cells (digV (List.replicate 32 0)) 24)).setRow (w.heap.size + 1) (digV (List.replicate 32 0)))
  obtain ⟨q, hq⟩ : ∃ q, q = w.heap.size := ⟨_, rfl⟩
  obtain ⟨p, hp⟩ : ∃ p, p = w.heap.size + 1 := ⟨_, rfl⟩
  have a1 : ((w.alloc (.cells (digV (List.replicate 32 0)) 24)).alloc (.cells (digV (List.replicate 32 0)) 24)).heap[w.heap.size]? = some (.cells (digV (List.replicate 32 0)) 24 (0, 0)) := (Below.heap_alloc _ _ _ (by simp)).trans (heap_alloc_new w _)
  have a2 := setRow_heap _ _ _ (digV (List.replicate 32 0)) _ _ (heap_alloc2_new w (.cells (digV (List.replicate 32 0)) 24) (.cells (digV (List.replicate 32 0)) 24))
  have o2 : Only [p] w (((w.alloc (.cells (digV (List.replicate 32 0)) 24)).alloc (.cells (digV (List.replicate 32 0)) 24)).setRow (w.heap.size + 1) (digV (List.replicate 32 0))) := (((Only.refl [p] w).alloc _).alloc _).setRow (by simp [hp]) _
  have a3 : (((w.alloc (.cells (digV (List.replicate 32 0)) 24)).alloc (.cells (digV (List.replicate 32 0)) 24)).setRow (w.heap.size + 1) (digV (List.replicate 32 0))).heap[w.heap.size]? = some (.cells (digV (List.replicate 32 0)) 24 (0, 0)) := (setRow_other _ _ _ _ (by omega)).trans a1
  obtain ⟨w1, hw1⟩ : ∃ w1, w1 = (((w.alloc (.cells (digV (List.replicate 32 0)) 24)).alloc (.cells (digV (List.replicate 32 0)) 24)).setRow (w.heap.size + 1) (digV (List.replicate 32 0))) := ⟨_, rfl⟩
  rw [← hw1] at a2 a3 o2 ⊢
  rw [← hp] at a2 ⊢
  rw [← hq] at a3 ⊢
  have H2 := Lib.hid a2
  have H3 := Lib.hid a3
  have B1 := Lib.hid (o2.below (Nat.le_refl _) (by intro x hx; simp at hx; omega))
  have Hq := Lib.hid hq
  have Hp := Lib.hid hp
  have hpq : p ≠ q := by omega
  have hq1 := heap_lt a3
  have hp1 := heap_lt a2
  clear hw1 a1 a2 a3 o2 hzi hq hp
  go_wp2_with fail
  go_loopw [4] (fun c wr => ∃ i : Nat, i ≤ 32 ∧ c = .int .i64 i ∧ wr.heap[p]? = some (.cells (digV (fillD t i)) 24 (0, 0)) ∧ Only [p] w1 wr) (fun c _ => 32 - (intOf c).toNat)
  case atStart => exact ⟨0, by omega, rfl, by rw [fillD_zero]; exact H2.out, Only.refl _ _⟩
  case round =>
    obtain ⟨i, hi, rfl, hW, ho⟩ := hrel
    by_cases hi32 : i < 32
    · have hit : i < t.length := by omega
      have i0 : (0 : Int) ≤ (i : Int) := by omega
      have i1 : (i : Int) < 32 := by omega
      have i2 : (i : Int) < (t.length : Int) := by omega
      have a2 : ∃ v, wr.cell? ⟨p, i, none⟩ = some v := by
        rw [Lib.cell_of_heap hW]
        have : i < (digV (fillD t i)).size := by rw [digV_size, fillD_len t i ht hi]; exact hi32
        exact ⟨_, Array.getElem?_eq_getElem this⟩
      obtain ⟨v0, a2⟩ := a2
      have z2 : wr.frozen? ⟨p, i, none⟩ = false := Lib.frozen_of_heap hW _
      have hWn := heap_setCell_same _ p i _ _ (.int .u8 ((t[i].toNat : Nat) : Int)) hW
      have hWm : (digV (fillD t i)).setIfInBounds i (.int .u8 ((t[i].toNat : Nat) : Int)) = digV (fillD t (i + 1)) := by
        rw [← fillD_succ t i ht hi32 hit]; simp [digV, byV, List.map_set]
      rw [hWm] at hWn
      have HWn := Lib.hid hWn
      have Ho := Lib.hid ho
      clear hWn hWm hW ho
      go_wp2_with fail
      go_roundw
      case rel => exact ⟨i + 1, by omega, by go_num, HWn.out, Ho.out.setCell (by simp) _⟩
      case measure => simp [intOf]; omega
    · obtain rfl : i = 32 := by omega
      rw [fillD_all t ht] at hW
      have hsz : (digV t).size = 32 := by rw [digV_size, ht]
      have hds : (Tryd.prog.info? 24).map (·.size) = some (digV t).size := by rw [dig_info, hsz]
      have h1c := digV_one t
      obtain ⟨C, hC⟩ : ∃ C, C = digV t := ⟨_, rfl⟩
      have HC := Lib.hid hC
      rw [← hC] at hW hsz h1c hds
      have HW := Lib.hid hW
      have HW3 := Lib.hid (ho.keep H3.out (by simp; omega))
      have Ho := Lib.hid ho
      clear hW ho hC
      go_wp2_with (first
        | (refine wpList_load_row rfl 24 _ rfl p rfl 24 _ (0, 0) _ HW.out Tryd.underlying24 rfl hds ?_)
        | (refine wpList_store_row rfl 24 _ _ rfl q C rfl rfl 24 _ HW3.out hds (by rw [hsz]; rfl) h1c ?_))
      (try simp only [Exit.inBlock, Exit.then])
      refine bodyPost_ret (results_cell_row rfl _ _ q 24 C (0, 0) _ rfl (setRow_heap _ _ _ _ _ _ HW3.out) Tryd.underlying24 rfl hds) rfl ?_
      refine ⟨by rw [HC.out], ?_⟩
      have o5 : Only [p, q] w1 (wr.setRow q C) := (Ho.out.mono (by intro k hk; simp at hk ⊢; exact .inl hk)).setRow (by simp) C
      exact B1.out.trans (o5.below B1.out.size (by have := Hq.out; have := Hp.out; intro x hx; simp at hx; omega))
end Go.Proofs.YtokdnfhglckpkaaDoor
