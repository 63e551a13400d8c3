/-
  Layer 3's reference: the walks of Split; of layer 1's Same.
-/
import Derived.Test.YtokdnfhglckpkaaDoorStV
import Derived.Test.YtokdnfhglckpkaaDoorCoC
set_option linter.unusedVariables false
set_option linter.unusedSimpArgs false
namespace Go.Proofs.YtokdnfhglckpkaaDoor
open Go.RowKit
attribute [local go_sem] Lb.ba_get Lb.ba_cut Lb.ba_add Lb.ba_size Lb.take_rest

set_option maxHeartbeats 4000000 in
set_option maxRecDepth 100000 in
theorem rsplit_any (l : List UInt8) (w : World) (hl : l.length ≤ 140737488351232) :
    Calls Tryd.prog 19 #[.string ⟨l.toArray⟩] w fun e w' => ∃ v, e = .returned v ∧ Txts w' w.heap.size v (chunks l) ∧ Below w.heap.size w w' := by
  obtain ⟨i0, hi0, hz0, hz1, hz2⟩ := info_parts str_info
  go_enter Tryd.func19, Tryd.ntmps19
  go_wp2_with fail
  go_loopw [0, 3] (fun s v wr => ∃ j : Nat, (j = 0 ∨ 64 * j < l.length) ∧ s = .string ⟨(l.drop (64 * j)).toArray⟩ ∧ Bag0 wr w.heap.size 1 v j (rowT (chunksN l j)) ∧ Below w.heap.size w wr) (fun s _ _ => match s with | .string x => x.size | _ => 0)
  case atStart => exact ⟨0, .inl rfl, rfl, .inr ⟨w.heap.size, 0, rfl, Nat.le_refl _, Nat.le_refl _, by unfold maxLen; omega, by simp, rfl, fun j u hu => by simp [rowT, chunksN] at hu, fun j hj => by omega⟩, (Below.refl _ w).alloc (Nat.le_refl _) _⟩
  case round =>
    obtain ⟨j, hj, rfl, hB, hb⟩ := hrel
    have hbs := hb.size
    obtain ⟨A, cap, rfl, -, -⟩ := hB.shape
    obtain ⟨r, hr⟩ : ∃ r, r = l.drop (64 * j) := ⟨_, rfl⟩
    have hrl : r.length = l.length - 64 * j := by rw [hr]; simp
    rw [← hr]
    have hr63 : (r.length : Int) ≤ 140737488351232 := by omega
    by_cases h64 : 64 < r.length
    · have hi64 : (64 : Int) < (r.length : Int) := by omega
      have hi64' : (64 : Int) ≤ (r.length : Int) := by omega
      have hb2 : Bag0 (wr.alloc (.cells #[.string ⟨(r.take 64).toArray⟩] 9)) w.heap.size 1 (.slice A j cap) j (rowT (chunksN l j)) := hB.alloc _
      have hsrc : Src Tryd.prog 1 32 (.slice (some ⟨wr.heap.size, 0, none⟩) 1 1) 1 [.string ⟨(r.take 64).toArray⟩] (wr.alloc (.cells #[.string ⟨(r.take 64).toArray⟩] 9)) :=
        str_src _ 1 _ (by rw [Lib.cell_of_heap (heap_alloc_new wr _)]; rfl)
      have hj2 : j + 1 ≤ 2199023255489 := by omega
      have Hb := Lib.hid hb
      have Hr := Lib.hid hr
      have hl2 : 64 * (j + 1) < l.length := by omega
      clear hB hb hr hrl
      go_wp2_with (at_builtin; refine wpList_append_bag0 _ rfl _ _ 32 32 rfl i0 (.string ByteArray.empty) 16 Tryd.underlying32 hi0 hz0 hz1 hz2 rfl (by simp; omega) rfl hb2 _ 1 _ rfl hsrc (by omega) (by unfold maxLen; omega) (by omega) ?_)
      intro v' w' hB' hb'
      have hB2 : Bag0 w' w.heap.size 1 v' (j + 1) (rowT (chunksN l (j + 1))) := by
        have e : r.take 64 = chunk l j := by rw [Hr.out]; rfl
        rw [chunksN_succ, rowT_append, ← e]; exact hB'
      have HB2 := Lib.hid hB2
      have Hb2 := Lib.hid ((Hb.out.alloc hbs _).trans hb')
      clear hB' hb' hB2 hsrc hb2
      go_wp2_with fail
      go_roundw
      case rel => exact ⟨j + 1, .inr hl2, by rw [Hr.out, List.drop_drop]; congr 3, HB2.out, Hb2.out⟩
      case measure => show (ByteArray.mk _).size < (ByteArray.mk _).size; simp only [Lb.ba_size, List.length_drop]; omega
    · have hi64 : ¬ (64 : Int) < (r.length : Int) := by omega
      by_cases h0 : r = []
      · have hl0 : l = [] := by
          rcases hj with rfl | h
          · rw [h0] at hr; simpa using hr.symm
          · rw [h0] at hrl; simp at hrl; omega
        have hj0 : j = 0 := by rcases hj with h | h <;> simp_all
        subst hj0
        subst hl0
        subst h0
        have HB := Lib.hid hB
        have Hb := Lib.hid hb
        clear hB hb hr hj hr63 hi64 hrl h64 hl hbs
        go_wp2_with fail
        go_ret
        exact ⟨_, rfl, HB.out, Hb.out⟩
      · have hn0 : ¬ (⟨r.toArray⟩ : ByteArray) = ByteArray.mk #[] := by
          intro h
          apply h0
          have := congrArg (fun b : ByteArray => b.data.toList) h
          simpa using this
        have hemp : r.isEmpty = false := by simpa using h0
        have hr0 : r.length ≠ 0 := by intro h; exact h0 (List.eq_nil_of_length_eq_zero h)
        have hb2 : Bag0 (wr.alloc (.cells #[.string ⟨r.toArray⟩] 9)) w.heap.size 1 (.slice A j cap) j (rowT (chunksN l j)) := hB.alloc _
        have hsrc : Src Tryd.prog 1 32 (.slice (some ⟨wr.heap.size, 0, none⟩) 1 1) 1 [.string ⟨r.toArray⟩] (wr.alloc (.cells #[.string ⟨r.toArray⟩] 9)) :=
          str_src _ 1 _ (by rw [Lib.cell_of_heap (heap_alloc_new wr _)]; rfl)
        have hj2 : j + 1 ≤ 2199023255489 := by omega
        have hcnt : (l.length + 63) / 64 = j + 1 := by omega
        have hch : r = chunk l j := by
          rw [hr]; unfold chunk; rw [← hr]; exact (List.take_of_length_le (by omega)).symm
        have Hb := Lib.hid hb
        have Hch := Lib.hid hch
        have Hcnt := Lib.hid hcnt
        clear hB hb hr hrl hj hch hcnt
        go_wp2_with (at_builtin; refine wpList_append_bag0 _ rfl _ _ 32 32 rfl i0 (.string ByteArray.empty) 16 Tryd.underlying32 hi0 hz0 hz1 hz2 rfl (by simp; omega) rfl hb2 _ 1 _ rfl hsrc (by omega) (by unfold maxLen; omega) (by omega) ?_)
        intro v' w' hB' hb'
        have hB2 : Txts w' w.heap.size v' (chunks l) := by
          unfold Txts
          rw [chunks_length, Hcnt.out]
          unfold chunks
          rw [Hcnt.out, chunksN_succ, rowT_append, ← Hch.out]; exact hB'
        have HB2 := Lib.hid hB2
        have Hb2 := Lib.hid ((Hb.out.alloc hbs _).trans hb')
        clear hB' hb' hB2 hsrc hb2
        go_wp2_with fail
        go_ret
        exact ⟨_, rfl, HB2.out, Hb2.out⟩

theorem ba_inj {a b : List UInt8} (h : (⟨a.toArray⟩ : ByteArray) = ⟨b.toArray⟩) : a = b := by
  have := congrArg (fun x : ByteArray => x.data.toList) h
  simpa using this

set_option maxHeartbeats 2000000 in
set_option maxRecDepth 100000 in
theorem rsame_ne (A B : Option Addr) (cA cB n m : Nat) (w : World) (h : n ≠ m) (hn : n ≤ maxLen) (hm : m ≤ maxLen) :
    Calls Tryd.prog 17 #[.slice A n cA, .slice B m cB] w fun e w' => e = .returned (.bool false) ∧ Below w.heap.size w w' := by
  unfold maxLen at hn hm
  have h1 : ((n : Int) != (m : Int)) = true := by simp; omega
  have h2 : (n != m) = true := by simp; omega
  go_enter Tryd.func17, Tryd.ntmps17
  go_wp2_with fail
  go_ret
  exact ⟨rfl, Below.refl _ _⟩

set_option maxHeartbeats 4000000 in
set_option maxRecDepth 100000 in
theorem rsame_eq (A B : Option Addr) (cA cB n : Nat) (ls ms : List (List UInt8)) (w : World) (hl : ls.length = n) (hm : ms.length = n) (hA : Strs w w.heap.size A ls) (hB : Strs w w.heap.size B ms) (hn : n ≤ maxLen) :
    Calls Tryd.prog 17 #[.slice A n cA, .slice B n cB] w fun e w' => e = .returned (.bool (ls == ms)) ∧ Below w.heap.size w w' := by
  unfold maxLen at hn
  have hnI : (n : Int) ≤ 9223372036854775807 := by omega
  have h1 : ((n : Int) != (n : Int)) = false := by simp
  have h2 : (n != n) = false := by simp
  have HA := Lib.hid hA
  have HB := Lib.hid hB
  have Hl := Lib.hid hl
  have Hm := Lib.hid hm
  clear hA hB hl hm
  go_enter Tryd.func17, Tryd.ntmps17
  go_wp2_with fail
  clear h1 h2
  go_loopw [5] (fun c wr => ∃ k d : Nat, k ≤ n ∧ c = .int .i64 k ∧ (∀ i, i < k → ls.getD i [] = ms.getD i []) ∧ wr = w.drewN d) (fun c _ => n - (intOf c).toNat)
  case atStart => exact ⟨0, 0, by omega, rfl, fun i hi => absurd hi (Nat.not_lt_zero _), rfl⟩
  case round =>
    obtain ⟨k, d, hk, rfl, hE, hwr⟩ := hrel
    have HE := Lib.hid hE
    clear hE
    by_cases hkn : k < n
    · have k1 : k < ls.length := by rw [Hl.out]; exact hkn
      have k2 : k < ms.length := by rw [Hm.out]; exact hkn
      obtain ⟨a, hAe, _, ca⟩ := HA.out k k1
      obtain ⟨b, hBe, _, cb⟩ := HB.out k k2
      subst hAe hBe
      have ca' : wr.cell? (a.add k) = some (.string ⟨(ls[k]).toArray⟩) := by rw [hwr]; exact ca
      have cb' : wr.cell? (b.add k) = some (.string ⟨(ms[k]).toArray⟩) := by rw [hwr]; exact cb
      obtain ⟨x, hx⟩ : ∃ x, x = ls[k] := ⟨_, rfl⟩
      obtain ⟨y, hy⟩ : ∃ y, y = ms[k] := ⟨_, rfl⟩
      rw [← hx] at ca'
      rw [← hy] at cb'
      have hgx : ls.getD k [] = x := by rw [List.getD_eq_getElem?_getD, List.getElem?_eq_getElem k1, hx]; rfl
      have hgy : ms.getD k [] = y := by rw [List.getD_eq_getElem?_getD, List.getElem?_eq_getElem k2, hy]; rfl
      have Hgx := Lib.hid hgx
      have Hgy := Lib.hid hgy
      have Hwr := Lib.hid hwr
      have k0 : (0 : Int) ≤ (k : Int) := by omega
      have kn : (k : Int) < (n : Int) := by omega
      clear ca cb hx hy hgx hgy hwr
      by_cases hxy : x = y
      · subst hxy
        have hb1 : (x != x) = false := by simp
        have hb2 : (x == x) = true := by simp
        have HE2 : Hid (∀ i, i < k + 1 → ls.getD i [] = ms.getD i []) := Lib.hid (fun i hi => by
          rcases Nat.lt_or_ge i k with h | h
          · exact HE.out i h
          · obtain rfl : i = k := by omega
            rw [Hgx.out, Hgy.out])
        go_upto_region 6 with fail
        go_quiet (fail)
        go_wp2_with fail
        go_roundw
        case rel => exact ⟨k + 1, d + _, by omega, by go_num, HE2.out, by rw [Hwr.out, World.drewN_drewN]⟩
        case measure => simp [intOf]; omega
      · have hb1 : (x != y) = true := by simpa using hxy
        have hb2 : (x == y) = false := by simpa using hxy
        have hres : (ls == ms) = false := by
          rw [beq_eq_false_iff_ne]
          intro h
          apply hxy
          rw [← Hgx.out, ← Hgy.out, h]
        have Hres := Lib.hid hres
        clear hxy hres
        go_upto_region 6 with fail
        go_quiet (fail)
        go_wp2_with fail
        go_ret
        exact ⟨by rw [Hres.out]; rfl, by rw [Hwr.out, World.drewN_drewN]; exact below_drewN'' (Below.refl _ _) _⟩
    · obtain rfl : k = n := by omega
      have hres : (ls == ms) = true := by
        rw [beq_iff_eq]
        apply List.ext_getElem (by rw [Hl.out, Hm.out])
        intro i h1 h2
        have := HE.out i (by rw [← Hl.out]; exact h1)
        rw [List.getD_eq_getElem?_getD, List.getD_eq_getElem?_getD, List.getElem?_eq_getElem h1, List.getElem?_eq_getElem h2] at this
        exact this
      have Hres := Lib.hid hres
      have Hwr := Lib.hid hwr
      clear hres hwr
      go_wp2_with fail
      go_ret
      exact ⟨by rw [Hres.out]; rfl, by rw [Hwr.out]; exact below_drewN'' (Below.refl _ _) _⟩
end Go.Proofs.YtokdnfhglckpkaaDoor
