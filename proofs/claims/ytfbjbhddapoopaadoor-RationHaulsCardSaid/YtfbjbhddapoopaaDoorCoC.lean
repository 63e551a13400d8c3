/-
  Layer 3 (comb): the walk of Fits.
-/
import Derived.Test.YtfbjbhddapoopaaDoorCoB
import Derived.BigQuiet
set_option linter.unusedVariables false
set_option linter.unusedSimpArgs false
namespace Go.Proofs.YtfbjbhddapoopaaDoor
open Go.RowKit
attribute [local go_sem] Lb.ba_get Lb.ba_cut Lb.ba_add Lb.ba_size Lb.take_rest

theorem below_drewN'' {B : Nat} {a w : World} (h : Below B a w) (n : Nat) : Below B a (w.drewN n) := ⟨h.os, h.tape, h.output, h.size, h.block⟩
theorem Laid.drew {K : List Int} {w : World} (h : Laid K w) : Laid K w.drew := ⟨h.len, h.row⟩
theorem Laid.alloc {K : List Int} {w : World} (h : Laid K w) (o : Obj) : Laid K (w.alloc o) := h.below ((Below.refl _ w).alloc (Nat.le_refl _) o)
theorem fts_new (w : World) (x : List UInt8) (T : TypeId) : Fts' (w.alloc (.cells #[.string ⟨x.toArray⟩] T)) 0 (some ⟨w.heap.size, 0, none⟩) x := ⟨_, rfl, by rw [Lib.cell_of_heap (heap_alloc_new w _)]; rfl⟩

set_option maxHeartbeats 4000000 in
set_option maxRecDepth 100000 in
theorem fits_any (K : List Int) (m : ManiD) (i : Int) (x : List UInt8) (w : World) (hL : Laid K w) (hm : m.Ok w w.heap.size) (ilo : -9223372036854775808 ≤ i) (ihi : i ≤ 9223372036854775807) (hx : x.length ≤ 140737488355328) :
    Calls Tryd.prog 36 #[.agg m.row, .int .i64 i, .string ⟨x.toArray⟩] w fun e w' => e = .returned (.bool (fitsS K m i x)) ∧ Below w.heap.size w w' := by
  go_enter Tryd.func36, Tryd.ntmps36
  go_upto_region 1 with fail
  obtain ⟨q, hq⟩ : ∃ q, q = w.heap.size := ⟨_, rfl⟩
  have h0 : (w.alloc (.cells m.row 39)).heap[q]? = some (.cells m.row 39 (0, 0)) := by rw [hq]; exact heap_alloc_new w _
  have b0 : Below w.heap.size w (w.alloc (.cells m.row 39)) := (Below.refl _ w).alloc (Nat.le_refl _) _
  obtain ⟨w1, hw1⟩ : ∃ w1, w1 = w.alloc (.cells m.row 39) := ⟨_, rfl⟩
  rw [← hw1] at h0 b0 ⊢
  rw [← hq]
  have hsz := m.row_size hm.whole
  have hg := good_any m w1 hm.whole hm.lo hm.hi hm.len
  have Hg := Lib.hid hg
  have H0 := Lib.hid h0
  have Hb0 := Lib.hid b0
  have HL1 := Lib.hid (hL.below b0)
  have Hm1 := Lib.hid ((hm.below b0 (Nat.le_refl _)).more b0.size)
  have Hq := Lib.hid hq
  have hc32 := m.at32 hm.whole
  have hc33 := m.at33 hm.whole
  have hn2 : m.parts.length ≤ maxLen := hm.len
  have lo := hm.lo
  have hi := hm.hi
  have hq1 := heap_lt h0
  clear hw1 hq h0 b0 hg hm hL
  go_wp2_with (refine wpList_load_row rfl 39 _ rfl q rfl 39 _ (0, 0) _ H0.out Tryd.underlying39 rfl (by rw [hsz]; kernel_rfl) ?_)
  refine Hg.out.mono ?_
  rintro e w2 ⟨rfl, hB2⟩
  obtain ⟨s, hs⟩ : ∃ s, s = m.size := ⟨_, rfl⟩
  obtain ⟨n, hn⟩ : ∃ n, n = m.parts.length := ⟨_, rfl⟩
  have H2 : Hid (w2.heap[q]? = some (.cells m.row 39 (0, 0))) := Lib.hid (below_keep hB2 H0.out)
  have c32 : w2.cell? ⟨q, 32, none⟩ = some (.int .i64 s) := by rw [Lib.cell_of_heap H2.out, hs]; exact hc32
  have c33 : w2.cell? ⟨q, 33, none⟩ = some (.slice m.A n m.cap) := by rw [Lib.cell_of_heap H2.out, hn]; exact hc33
  rw [← hs] at lo hi ⊢
  rw [← hn] at hn2 ⊢
  have hnI : (n : Int) ≤ 9223372036854775807 := by unfold maxLen at hn2; omega
  have Hs := Lib.hid hs
  have Hn := Lib.hid hn
  have HB2 := Lib.hid hB2
  have hq2 := heap_lt H2.out
  clear hs hn hc32 hc33 hB2 Hg H0 hsz
  by_cases hgood : goodS s n = true
  · rw [hgood]
    by_cases h0 : 0 ≤ i
    · by_cases hin : i < (n : Int)
      · obtain ⟨u, rfl⟩ : ∃ u : Nat, i = (u : Int) := ⟨i.toNat, by omega⟩
        have hun : u < n := by omega
        have hg5 : (0 : Int) ≤ s ∧ s ≤ 512 ∧ (n : Int) = (s + 63) / 64 := of_decide_eq_true hgood
        have hn9 : (n : Int) ≤ 8 := by omega
        obtain ⟨b, o, hA, hb, hrg⟩ := Hm1.out.digs u (by rw [← Hn.out]; exact hun)
        obtain ⟨d, hd⟩ : ∃ d, d = m.parts[u]'(by rw [← Hn.out]; exact hun) := ⟨_, rfl⟩
        rw [← hd] at hrg
        have hd32 : d.length = 32 := by rw [hd]; exact Hm1.out.each _ (List.getElem_mem _)
        have hrg2 : w2.rangeAt b (o + u * 32) (byV d) := range_below hrg HB2.out hb
        rw [hA] at c33
        have hmin : min (s - (u : Int) * 64) 64 = if 64 < s - (u : Int) * 64 then 64 else s - (u : Int) * 64 := by split <;> omega
        have hfit : fitsS K m (u : Int) x = (decide ((x.length : Int) = min (s - (u : Int) * 64) 64) && (hashB K x == d)) := by
          unfold fitsS
          rw [← Hs.out, ← Hn.out, hgood, hd]
          simp [List.getD_eq_getElem?_getD, hun, List.getElem?_eq_getElem (show u < m.parts.length by rw [← Hn.out]; exact hun)]
        have HL2 := Lib.hid (HL1.out.below HB2.out)
        have Hfit := Lib.hid hfit
        have heq : ∀ W : World, (Op.equalIn 10000 23 (.agg (digV (hashB K x))) (.agg (byV d).toArray)).run Tryd.prog W = .ok (hashB K x == d) W := fun W => eqIn_dig W (hashB K x) d (hashB_length K x) hd32
        have dinfo : (Tryd.prog.info? 23).map (·.size) = some (byV d).length := by rw [dig_info, byV_length, hd32]
        have dund := Tryd.underlying23
        have hB2 := (Below.refl w2.heap.size w2)
        have hbw : b < w2.heap.size := Nat.lt_of_lt_of_le hb HB2.out.size
        have hSB : ∀ w' : World, Below w2.heap.size w2 w' → (w'.cell? ⟨q, 32, none⟩ = some (.int .i64 s) ∧ w'.cell? ⟨q, 33, none⟩ = some (.slice (some ⟨b, o, none⟩) n m.cap) ∧ w'.rangeAt b (o + u * 32) (byV d) ∧ Below w2.heap.size w2 w') := fun w' h =>
          ⟨(h.cell (p := ⟨q, 32, none⟩) hq2).trans c32, (h.cell (p := ⟨q, 33, none⟩) hq2).trans c33, range_below hrg2 h hbw, h⟩
        have u0 : (0 : Int) ≤ (u : Int) := by omega
        have s512 : s ≤ 512 := hg5.2.1
        have s0 : 0 ≤ s := hg5.1
        clear hfit hA hrg hd hgood hg5 hmin
        have hw1 : IntKind.i64.wrap ((u : Int) * 64) = (u : Int) * 64 := IntWalk.i64_in _ (by omega)
        obtain ⟨t, ht⟩ : ∃ t, t = s - (u : Int) * 64 := ⟨_, rfl⟩
        have hw2 : IntKind.i64.wrap (s - (u : Int) * 64) = t := by rw [ht]; exact IntWalk.i64_in _ (by omega)
        obtain ⟨y, hy⟩ : ∃ y, y = min (s - (u : Int) * 64) 64 := ⟨_, rfl⟩
        have hif : (if 64 < t then (64 : Int) else t) = y := by rw [hy, ht]; split <;> omega
        have Hy := Lib.hid hy
        have Ht := Lib.hid ht
        clear hy ht
        by_cases hlen : (x.length : Int) = y
        · have hbe : ((x.length : Int) == y) = true := by rw [hlen]; simp
          have Hlen := Lib.hid hlen
          clear hlen
          go_upto_region 3 with fail
          go_region_held3 (fun w' => w'.cell? ⟨q, 32, none⟩ = some (.int .i64 s) ∧ w'.cell? ⟨q, 33, none⟩ = some (.slice (some ⟨b, o, none⟩) n m.cap) ∧ w'.rangeAt b (o + u * 32) (byV d) ∧ Below w2.heap.size w2 w')
            ((go_split_ands; refine hSB _ ?_; (repeat' first | assumption | exact Below.refl _ _ | refine Below.drew ?_ | refine Below.alloc ?_ (by simp) _)))
            ((go_at_call 24; (with_reducible refine (of_hash K _ 1 x _ ?_ ?_ ?_).mono ?_); exact (HL2.out.drew).alloc _; exact fts_new w2.drew x _; exact (by omega); rintro e w' ⟨rfl, hBw'⟩; have hz := (((Below.refl w2.heap.size w2).drew).alloc (Nat.le_refl _) (.cells #[.string ⟨x.toArray⟩] 9)).trans (hBw'.mono (by simp))))
          go_wp2_with fail
          go_ret
          refine ⟨?_, Hb0.out.trans ((HB2.out.mono Hb0.out.size).trans (hz.mono (Nat.le_trans Hb0.out.size HB2.out.size)))⟩
          rw [Hfit.out, ← Hy.out, Hlen.out]
          simp
        · have hbe : ((x.length : Int) == y) = false := by simpa using hlen
          have Hlen := Lib.hid hlen
          clear hlen
          go_upto_region 3 with fail
          go_quiet (fail)
          go_wp2_with fail
          go_ret
          refine ⟨?_, Hb0.out.trans (below_drewN'' (HB2.out.mono Hb0.out.size) _)⟩
          rw [Hfit.out, ← Hy.out, decide_eq_false Hlen.out]
          simp
      · have hfit : fitsS K m i x = false := by
          unfold fitsS
          rw [← Hn.out, decide_eq_false hin]
          simp
        have Hfit := Lib.hid hfit
        obtain ⟨u, rfl⟩ : ∃ u : Nat, i = (u : Int) := ⟨i.toNat, by omega⟩
        clear hfit
        go_wp2_with fail
        go_ret
        exact ⟨by rw [Hfit.out]; rfl, Hb0.out.trans (HB2.out.mono Hb0.out.size)⟩
    · have hfit : fitsS K m i x = false := by
        unfold fitsS
        rw [decide_eq_false h0]
        simp
      have hneg : i < 0 := by omega
      have Hfit := Lib.hid hfit
      clear hfit
      go_wp2_with fail
      go_ret
      exact ⟨by rw [Hfit.out]; rfl, Hb0.out.trans (HB2.out.mono Hb0.out.size)⟩
  · have hgf : goodS s n = false := by simpa using hgood
    have hfit : fitsS K m i x = false := by unfold fitsS; rw [← Hs.out, ← Hn.out, hgf]; rfl
    rw [hgf]
    have Hfit := Lib.hid hfit
    clear hfit hgf hgood
    go_wp2_with fail
    go_ret
    exact ⟨by rw [Hfit.out]; rfl, Hb0.out.trans (HB2.out.mono Hb0.out.size)⟩
end Go.Proofs.YtfbjbhddapoopaaDoor
