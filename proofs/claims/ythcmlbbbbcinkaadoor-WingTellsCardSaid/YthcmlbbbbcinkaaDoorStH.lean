/-
  The walk of layer 2 (stamp): Of one text.
-/
import Derived.Test.YthcmlbbbbcinkaaDoorStG
set_option linter.unusedVariables false
set_option linter.unusedSimpArgs false
namespace Go.Proofs.YthcmlbbbbcinkaaDoor
open Go.RowKit
attribute [local go_sem] Lb.ba_get Lb.ba_cut Lb.ba_add Lb.ba_size Lb.take_rest

/-- the digest's bytes of a text -/
def endV (K : List Int) (t : List UInt8) : List Int :=
  (eatN K ((padB (t.drop (64 * (t.length / 64))) t.length).length / 64) (eatN K (t.length / 64) begunS t).1 (padB (t.drop (64 * (t.length / 64))) t.length)).1
def hashL (K : List Int) (t : List UInt8) : List Int := digL (endV K t) 32
theorem hashL_length (K : List Int) (t : List UInt8) : (hashL K t).length = 32 := digL_length _ 32 (by omega)
/-- the package's words lie where they lie -/
structure Laid (K : List Int) (w : World) : Prop where
  len : K.length = 64
  row : ∃ TG fG, w.heap[0]? = some (.cells (rowW K) TG fG)
theorem Laid.only {K : List Int} {bs : List Nat} {w w' : World} (h : Laid K w) (ho : Only bs w w') (hn : 0 ∉ bs) : Laid K w' := by
  obtain ⟨T, f, hr⟩ := h.row
  exact ⟨h.len, T, f, ho.keep hr hn⟩
theorem Laid.below {K : List Int} {w w' : World} (h : Laid K w) (ho : Below w.heap.size w w') : Laid K w' := by
  obtain ⟨T, f, hr⟩ := h.row
  exact ⟨h.len, T, f, below_keep ho hr⟩
theorem Laid.lt {K : List Int} {w : World} (h : Laid K w) : 0 < w.heap.size := by
  obtain ⟨T, f, hr⟩ := h.row
  exact heap_lt hr

theorem hash_one (K : List Int) (t : List UInt8) : (rowB (hashL K t)).all (·.oneCell') = true := by
  rw [Array.all_eq_true_iff_forall_mem]
  intro v hv
  simp only [rowB, List.mem_toArray, List.mem_map] at hv
  obtain ⟨x, _, rfl⟩ := hv
  rfl
theorem rowB_size (l : List Int) : (rowB l).size = l.length := by simp [rowB]

set_option maxHeartbeats 2000000 in
set_option maxRecDepth 100000 in
theorem of_any (K : List Int) (A : Option Addr) (cap : Nat) (t : List UInt8) (w : World) (hL : Laid K w) (hA : Fts' w 0 A t) (ht : t.length ≤ 281474976710656) :
    Calls Tryd.prog 12 #[.slice A 1 cap] w fun e w' => e = .returned (.agg (rowB (hashL K t))) ∧ Below w.heap.size w w' := by
  have hlt := hL.lt
  have HL := Lib.hid hL
  have HA := Lib.hid hA
  have Ht := Lib.hid ht
  clear hL hA ht
  go_enter Tryd.func12, Tryd.ntmps12
  go_upto_region 1 with fail
  show Code.wp _ _ _ _ (w.alloc (.cells (rowB (List.replicate 32 0)) 23))
  obtain ⟨q, hq⟩ : ∃ q, q = w.heap.size := ⟨_, rfl⟩
  have h0 : (w.alloc (.cells (rowB (List.replicate 32 0)) 23)).heap[q]? = some (.cells (rowB (List.replicate 32 0)) 23 (0, 0)) := by
    rw [hq]; exact heap_alloc_new w _
  have o0 : Only [] w (w.alloc (.cells (rowB (List.replicate 32 0)) 23)) := (Only.refl [] w).alloc _
  obtain ⟨w1, hw1⟩ : ∃ w1, w1 = w.alloc (.cells (rowB (List.replicate 32 0)) 23) := ⟨_, rfl⟩
  rw [← hw1] at h0 o0 ⊢
  rw [← hq]
  have Hq := Lib.hid hq
  have hq1 := heap_lt h0
  have H0 := Lib.hid h0
  have HO := Lib.hid o0
  have HA1 : Hid (Fts' w1 0 A t) := Lib.hid (by
    obtain ⟨a, ha, hc⟩ := HA.out
    exact ⟨a, ha, by rw [HO.out.cell (World.block_lt_of_cell? w a hc) (by simp)]; exact hc⟩)
  clear hw1 h0 o0 hq
  go_wp2_with fail
  refine (press_any _).mono ?_
  rintro e w2 ⟨g, rfl, hg, hP, hB⟩
  have hL2 := (HL.out.only HO.out (by simp)).below hB
  have hA2 : Fts' w2 g A t := by
    obtain ⟨a, ha, hc⟩ := HA1.out
    exact ⟨a, ha, by rw [(Only.of_below (bs := []) hB).cell (World.block_lt_of_cell? w1 a hc) (by simp)]; exact hc⟩
  obtain ⟨TG, fG, hrow⟩ := hL2.row
  have hadd := add_any g begunS rfl A cap t K w2 hL2.len hrow (by omega) hP hA2 Ht.out
  have HB := Lib.hid hB
  have HL2 := Lib.hid hL2
  have Hadd := Lib.hid hadd
  have Hrow := Lib.hid hrow
  clear hP hB hL2 hA2 hadd hrow
  go_wp2_with fail
  refine Hadd.out.mono ?_
  rintro e w3 ⟨rfl, hP3, hO3⟩
  have hs := sum_any g (eatN K (t.length / 64) begunS t).1 (eatN_length K begunS t rfl _) (t.drop (64 * (t.length / 64))) t.length K w3 HL2.out.len (hO3.keep Hrow.out (by simp; omega)) hP3 (by simp; omega) Ht.out
  have Hs := Lib.hid hs
  have HO3 := Lib.hid hO3
  clear hs hO3 Hadd
  go_wp2_with fail
  refine Hs.out.mono ?_
  rintro e w4 ⟨rfl, hB4⟩
  have hfin : rowB (digL (eatN K ((padB (t.drop (64 * (t.length / 64))) t.length).length / 64) (eatN K (t.length / 64) begunS t).1 (padB (t.drop (64 * (t.length / 64))) t.length)).1 32) = rowB (hashL K t) := rfl
  rw [hfin]
  have hg4 : w4.heap[q]? = some (.cells (rowB (List.replicate 32 0)) 23 (0, 0)) := below_keep hB4 (HO3.out.keep (below_keep HB.out H0.out) (by simp; omega))
  obtain ⟨C, hC⟩ : ∃ C, C = rowB (hashL K t) := ⟨_, rfl⟩
  have hsz : C.size = 32 := by rw [hC, rowB_size, hashL_length]
  have h1c : C.all (·.oneCell') = true := by rw [hC]; exact hash_one K t
  rw [← hC]
  have hst := store_rowP (P := Tryd.prog) hg4 (by rw [hsz]; rfl) h1c
  have Hg := Lib.hid hg4
  have HC := Lib.hid hC
  have HB4 := Lib.hid hB4
  clear hg4 hC hB4 Hs hP3 hfin
  go_wp2_with fail
  (try simp only [Exit.inBlock, Exit.then])
  refine bodyPost_ret (results_cell_row rfl _ _ q 23 C (0, 0) _ rfl (setRow_heap _ _ _ _ _ _ Hg.out) Tryd.underlying23 rfl (by rw [hsz]; kernel_rfl)) rfl ?_
  refine ⟨by rw [HC.out], ?_⟩
  have hq2 := Hq.out
  have z0 := HO.out.size
  have o2 : Only [] w w2 := HO.out.trans (Only.of_below HB.out)
  have o3 : Only [g] w w3 := (o2.mono (by simp)).trans HO3.out
  have o4 : Only [g] w w4 := o3.trans (Only.of_below HB4.out)
  have o5 : Only [g, q] w (w4.setRow q C) := (o4.mono (by simp)).setRow (by simp) C
  exact o5.below (Nat.le_refl _) (by intro x hx; simp at hx; rcases hx with rfl | rfl <;> omega)
end Go.Proofs.YthcmlbbbbcinkaaDoor
