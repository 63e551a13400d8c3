/-
  The walks of layer 2 (stamp): Sum, Of of one text.
-/
import Derived.Test.YthcmlbbbbcinkaaDoorStE
import Derived.Test.YthcmlbbbbcinkaaDoorStF
set_option linter.unusedVariables false
set_option linter.unusedSimpArgs false
namespace Go.Proofs.YthcmlbbbbcinkaaDoor
open Go.RowKit
attribute [local go_sem] Lb.ba_get Lb.ba_cut Lb.ba_add Lb.ba_size Lb.take_rest

/-- so many noughts between the mark and the length -/
def zN (n : Nat) : Nat := (119 - n) % 64
def lenB (n i : Nat) : UInt8 := UInt8.ofNat (n * 8 / 2 ^ (8 * (7 - i)))
def endL (r : List UInt8) : List UInt8 := r ++ 128 :: List.replicate (zN r.length) 0
def lensL (n i : Nat) : List UInt8 := (List.range i).map (lenB n)
def padB (r : List UInt8) (n : Nat) : List UInt8 := endL r ++ lensL n 8
theorem lensL_succ (n i : Nat) : lensL n (i + 1) = lensL n i ++ [lenB n i] := by simp [lensL, List.range_succ]
theorem lensL_length (n i : Nat) : (lensL n i).length = i := by simp [lensL]
theorem endL_length (r : List UInt8) : (endL r).length = r.length + 1 + zN r.length := by simp [endL]; omega
theorem zN_mod (n : Nat) (h : n ≤ 63) : (n + 1 + zN n) % 64 = 56 := by unfold zN; omega
theorem zN_less (n k : Nat) (h : n ≤ 63) (hk : k < zN n) : (n + 1 + k) % 64 ≠ 56 := by unfold zN at hk; omega
theorem zN_le (n : Nat) : zN n ≤ 63 := by unfold zN; omega
theorem byV_append (a b : List UInt8) : byV (a ++ b) = byV a ++ byV b := by simp [byV]
theorem byV_length (a : List UInt8) : (byV a).length = a.length := by simp [byV]

theorem byte_src {w : World} (a : Addr) (n c : Nat) (b : UInt8) (x : Int) (hx : x = (b.toNat : Int)) (hn : n = 1) (h : w.cell? a = some (.int .u8 x)) : Src Tryd.prog 1 45 (.slice (some a) n c) n (byV [b]) w := by
  subst hn
  refine Src.ofSlice w Tryd.underlying45 a 1 c (byV [b]) (by simp [byV]) (fun j u hu => ?_) (fun u hu => ?_)
  · have hj : j = 0 := by have := (List.getElem?_eq_some_iff.1 hu).1; simpa [byV] using this
    subst hj
    simp only [byV, List.map_cons, List.map_nil, List.getElem?_cons_zero, Option.some.injEq] at hu
    rw [show a.add 0 = a by simp [Addr.add], h, hx, hu]
  · simp [byV] at hu; subst hu; rfl

theorem byteI : (Tryd.prog.info? 5).map (fun i => (i.zero, i.size, i.bytes)) = some (some (.int .u8 0), 1, 1) := by kernel_rfl

def lenOf : Value → Nat
  | .slice _ n _ => n
  | _ => 0
/-- a Bag of bytes, as bytes -/
def BagB (w : World) (g cap : Nat) (l : List UInt8) : Prop := Bag w 1 g cap l.length (byV l)

set_option maxHeartbeats 4000000 in
set_option maxRecDepth 100000 in
theorem sum_any {TG : TypeId} {fG : Nat × Nat} (g : Nat) (V : List Int) (hV : V.length = 8) (r : List UInt8) (n : Nat) (K : List Int) (w : World) (hK : K.length = 64) (hG : w.heap[0]? = some (.cells (rowW K) TG fG))
    (hP : PressAt w g V r n) (hr : r.length ≤ 63) (hn : n ≤ 281474976710656) :
    Calls Tryd.prog 35 #[.pointer (some ⟨g, 0, none⟩)] w fun e w' => e = .returned (.agg (rowB (digL (eatN K ((padB r n).length / 64) V (padB r n)).1 32))) ∧ Below w.heap.size w w' := by
  obtain ⟨i0, hi0, hz0, hz1, hz2⟩ := info_parts byteI
  have hgw := heap_lt hP
  have h0w := heap_lt hG
  have HG := Lib.hid hG
  have HK := Lib.hid hK
  have HV := Lib.hid hV
  have HP := Lib.hid hP
  clear hG hK hV hP
  go_enter Tryd.func35, Tryd.ntmps35
  go_upto_region 1 with fail
  show Code.wp _ _ _ _ (w.alloc (.cells (rowB (List.replicate 32 0)) 23))
  obtain ⟨q, hq⟩ : ∃ q, q = w.heap.size := ⟨_, rfl⟩
  have h0 : (w.alloc (.cells (rowB (List.replicate 32 0)) 23)).heap[q]? = some (.cells (rowB (List.replicate 32 0)) 23 (0, 0)) := by
    rw [hq]; exact heap_alloc_new w _
  have o0 : Only [] w (w.alloc (.cells (rowB (List.replicate 32 0)) 23)) := (Only.refl [] w).alloc _
  obtain ⟨w1, hw1⟩ : ∃ w1, w1 = w.alloc (.cells (rowB (List.replicate 32 0)) 23) := ⟨_, rfl⟩
  rw [← hw1] at h0 o0 ⊢
  rw [← hq]
  have hqw1 := heap_lt h0
  have Hq := Lib.hid hq
  have H0 := Lib.hid h0
  have HP1 := Lib.hid (o0.keep HP.out (by simp))
  have HO := Lib.hid o0
  obtain ⟨p8, p9, -⟩ := PressAt.cells (w := w1) HP1.out HV.out
  clear hw1 h0 o0
  have HO_ := HO
  clear HO
  obtain ⟨W1, cap, hconv, o1, hbag⟩ := bytes_bag r w1 (by omega)
  have hr63 : (r.length : Int) ≤ 63 := by omega
  have hb2 : Bag (W1.alloc (.cells #[.int .u8 128] 5)) 1 w1.heap.size cap r.length (byV r) := hbag.alloc _
  have hsrc : Src Tryd.prog 1 45 (.slice (some ⟨W1.heap.size, 0, none⟩) 1 1) 1 (byV [128]) (W1.alloc (.cells #[.int .u8 128] 5)) :=
    byte_src _ 1 1 128 128 rfl rfl (by rw [Lib.cell_of_heap (heap_alloc_new W1 _)]; rfl)
  have O1 := Lib.hid o1
  clear o1 hbag hq
  go_upto_region 3 with fail
  go_wp2_with (at_builtin; refine wpList_append_bag _ rfl _ _ 45 45 rfl i0 (.int .u8 0) 1 Tryd.underlying45 hi0 hz0 hz1 hz2 rfl rfl hb2 _ 1 (byV [128]) rfl hsrc (by unfold maxLen; omega) (by omega) ?_)
  intro g1 cap1 w2 hb3 ho3 hor
  have hB0 : Bag w2 1 g1 cap1 (r.length + 1) (byV (r ++ [128])) := by rw [byV_append]; exact hb3
  have hO2 : Only [] w1 w2 := (O1.out.alloc _).above ho3 (by simp)
  have hg1 : w1.heap.size ≤ g1 := by
    rcases hor with h | h
    · omega
    · have := O1.out.size
      try simp at h
      omega
  have HB0 := Lib.hid hB0
  have HO2 := Lib.hid hO2
  clear hB0 hO2 hb3 ho3 hor hb2 hsrc hconv O1
  go_wp2_with fail
  go_loopw [3] (fun v wx => ∃ (k : Nat) (g' cap' : Nat), k ≤ zN r.length ∧ v = .slice (some ⟨g', 0, none⟩) (r.length + 1 + k) cap' ∧ Bag wx 1 g' cap' (r.length + 1 + k) (byV (r ++ 128 :: List.replicate k 0)) ∧ w1.heap.size ≤ g' ∧ Only [] w1 wx) (fun v _ => 128 - lenOf v)
  case atStart => exact ⟨0, g1, cap1, by omega, rfl, HB0.out, hg1, HO2.out⟩
  case round =>
    clear HB0 HO2 hg1
    obtain ⟨k, g', cap', hk, rfl, hB, hg', hO⟩ := hrel
    have hz := zN_le r.length
    have hk63 : (k : Int) ≤ 63 := by omega
    obtain ⟨L, hL⟩ : ∃ L, L = r.length + 1 + k := ⟨_, rfl⟩
    have hLi : (L : Int) ≤ 127 := by omega
    rw [← hL] at hB ⊢
    by_cases hkz : k < zN r.length
    · have hm := zN_less r.length k (by omega) hkz
      obtain ⟨m, hmd⟩ : ∃ m, m = L % 64 := ⟨_, rfl⟩
      have tm : (L : Int).tmod 64 = (m : Int) := by rw [hmd]; rfl
      have hne : ((m : Int) != 56) = true := by rw [bne_iff_ne]; omega
      have hne' : ¬ (m : Int) = 56 := by omega
      have hb2 : Bag (wr.alloc (.cells #[.int .u8 0] 5)) 1 g' cap' L (byV (r ++ 128 :: List.replicate k 0)) := hB.alloc _
      have hsrc : Src Tryd.prog 1 45 (.slice (some ⟨wr.heap.size, 0, none⟩) 1 1) 1 (byV [0]) (wr.alloc (.cells #[.int .u8 0] 5)) :=
        byte_src _ 1 1 0 0 rfl rfl (by rw [Lib.cell_of_heap (heap_alloc_new wr _)]; rfl)
      have HO := Lib.hid hO
      have HL := Lib.hid hL
      clear hO hB hm hL hmd hk
      go_wp2_with (at_builtin; refine wpList_append_bag _ rfl _ _ 45 45 rfl i0 (.int .u8 0) 1 Tryd.underlying45 hi0 hz0 hz1 hz2 rfl rfl hb2 _ 1 (byV [0]) rfl hsrc (by unfold maxLen; omega) (by omega) ?_)
      intro g2 cap2 w3 hb3 ho3 hor
      have hB3 : Bag w3 1 g2 cap2 (r.length + 1 + (k + 1)) (byV (r ++ 128 :: List.replicate (k + 1) 0)) := by
        have e : r ++ 128 :: List.replicate (k + 1) 0 = (r ++ 128 :: List.replicate k 0) ++ [0] := by rw [List.replicate_succ']; simp
        rw [e, byV_append, show r.length + 1 + (k + 1) = L + 1 by have := HL.out; omega]
        exact hb3
      have hO3 : Only [] w1 w3 := (HO.out.alloc _).above ho3 (by simp; omega)
      have hg2 : w1.heap.size ≤ g2 := by
        rcases hor with h | h
        · omega
        · have := HO.out.size
          try simp at h
          omega
      have HB3 := Lib.hid hB3
      have HO3 := Lib.hid hO3
      clear hB3 hO3 hb3 ho3 hor hb2 hsrc HO
      go_wp2_with fail
      go_roundw
      case rel => exact ⟨k + 1, g2, cap2, by omega, by rw [show r.length + 1 + (k + 1) = L + 1 by have := HL.out; omega], HB3.out, hg2, HO3.out⟩
      case measure => simp [lenOf]; omega
    · have hk2 : k = zN r.length := by omega
      have hm := zN_mod r.length (by omega)
      have tm : (L : Int).tmod 64 = 56 := by rw [hL, hk2]; have : (((r.length + 1 + zN r.length : Nat)) : Int).tmod 64 = ((r.length + 1 + zN r.length) % 64 : Nat) := rfl; rw [this, hm]; rfl
      have hend : BagB wr g' cap' (endL r) ∧ (endL r).length = L := by
        have hl := endL_length r
        rw [← hk2, ← hL] at hl
        refine ⟨?_, hl⟩
        unfold BagB
        rw [hl]
        unfold endL
        rw [← hk2]
        exact hB
      obtain ⟨E, hE⟩ : ∃ E, E = endL r := ⟨_, rfl⟩
      rw [← hE] at hend
      obtain ⟨hBE, hEL⟩ := hend
      rw [← hEL] at tm ⊢
      have hL127 : E.length ≤ 127 := by omega
      have hLj : (E.length : Int) ≤ 127 := by omega
      have HE := Lib.hid hE
      have HBE := Lib.hid hBE
      have HO := Lib.hid hO
      clear hE hBE hO hB hm hk2 hkz hk hEL hL hLi hz hk63
      go_wp2_with fail
      go_loopw [3, 23] (fun v c wx => ∃ (i g' cap' : Nat), i ≤ 8 ∧ c = .int .i64 i ∧ v = .slice (some ⟨g', 0, none⟩) (E.length + i) cap' ∧ Bag wx 1 g' cap' (E.length + i) (byV (E ++ lensL n i)) ∧ w1.heap.size ≤ g' ∧ Only [] w1 wx) (fun _ c _ => 8 - (intOf c).toNat)
      case atStart => exact ⟨0, g', cap', by omega, rfl, rfl, by rw [show lensL n 0 = [] from rfl, List.append_nil]; exact HBE.out, hg', HO.out⟩
      case round =>
        clear HBE HO hg' tm
        obtain ⟨i, g'', cap'', hi, rfl, rfl, hB, hg', hO⟩ := hrel
        obtain ⟨L, hL⟩ : ∃ L, L = E.length + i := ⟨_, rfl⟩
        rw [← hL] at hB ⊢
        by_cases hi8 : i < 8
        · have ipos : (0 : Int) ≤ (i : Int) := by omega
          have ilt : (i : Int) < 8 := by omega
          obtain ⟨q8, q9, -⟩ := PressAt.cells (w := wr) (hO.keep HP1.out (by simp)) HV.out
          obtain ⟨j, hj⟩ : ∃ j, j = 7 - i := ⟨_, rfl⟩
          have ej : (7 : Int) - (i : Int) = (j : Int) := by omega
          have j1 : (j : Int) ≤ 7 := by omega
          have n1 : (n : Int) ≤ 281474976710656 := by omega
          have n0 : (0 : Int) ≤ (n : Int) := by omega
          obtain ⟨x, hx⟩ : ∃ x : Int, x = (n : Int) * 8 / 2 ^ (8 * j) % 256 := ⟨_, rfl⟩
          have hsrc : Src Tryd.prog 1 45 (.slice (some ⟨wr.heap.size, 0, none⟩) 1 1) 1 (byV [lenB n i]) (wr.alloc (.cells #[.int .u8 x] 5)) :=
            byte_src _ 1 1 (lenB n i) x (by rw [hx, hj]; unfold lenB; rw [UInt8.toNat_ofNat']; simp) rfl (by rw [Lib.cell_of_heap (heap_alloc_new wr _)]; rfl)
          have hb2 : Bag (wr.alloc (.cells #[.int .u8 x] 5)) 1 g'' cap'' L (byV (E ++ lensL n i)) := hB.alloc _
          have HO := Lib.hid hO
          have HL := Lib.hid hL
          have hLb : L ≤ 135 := by omega
          clear hO hB hL hj
          subst hx
          go_wp2_with (at_builtin; refine wpList_append_bag _ rfl _ _ 45 45 rfl i0 (.int .u8 0) 1 Tryd.underlying45 hi0 hz0 hz1 hz2 rfl rfl hb2 _ 1 (byV [lenB n i]) rfl hsrc (by unfold maxLen; omega) (by omega) ?_)
          intro g2 cap2 w3 hb3 ho3 hor
          have hB3 : Bag w3 1 g2 cap2 (E.length + (i + 1)) (byV (E ++ lensL n (i + 1))) := by
            rw [lensL_succ, ← List.append_assoc, byV_append, show E.length + (i + 1) = L + 1 by have := HL.out; omega]
            exact hb3
          have hO3 : Only [] w1 w3 := (HO.out.alloc _).above ho3 (by simp; omega)
          have hg2 : w1.heap.size ≤ g2 := by
            rcases hor with h | h
            · omega
            · have := HO.out.size
              try simp at h
              omega
          have HB3 := Lib.hid hB3
          have HO3 := Lib.hid hO3
          clear hB3 hO3 hb3 ho3 hor hb2 hsrc HO
          go_wp2_with fail
          go_roundw
          case rel => exact ⟨i + 1, g2, cap2, by omega, by go_num, by rw [show E.length + (i + 1) = L + 1 by have := HL.out; omega], HB3.out, hg2, HO3.out⟩
          case measure => simp [intOf]; omega
        · have hi8' : i = 8 := by omega
          subst hi8'
          have hend : BagB wr g'' cap'' (padB r n) ∧ (padB r n).length = L ∧ 64 * ((padB r n).length / 64) = (padB r n).length ∧ (padB r n).length ≤ 128 := by
            have e : padB r n = E ++ lensL n 8 := by rw [HE.out]; rfl
            have hl : (padB r n).length = L := by rw [e, List.length_append, lensL_length, hL]
            have h2 : (padB r n).length = r.length + 1 + zN r.length + 8 := by unfold padB; rw [List.length_append, lensL_length, endL_length]
            have h3 := zN_mod r.length (by omega)
            have h4 := zN_le r.length
            have h5 : zN r.length < 64 := by unfold zN; omega
            refine ⟨?_, hl, by omega, ?_⟩
            · unfold BagB; rw [hl, e]; exact hB
            · unfold zN at h2; omega
          obtain ⟨D, hD⟩ : ∃ D, D = padB r n := ⟨_, rfl⟩
          rw [← hD] at hend
          obtain ⟨hBD, hDL, hD64, hD128⟩ := hend
          rw [← hDL]
          have hO := hO
          have HD := Lib.hid hD
          have HBD := Lib.hid hBD
          have HO := Lib.hid hO
          clear hBD hD hB hL hi8 hi hDL HE hO
          obtain ⟨W2, hW2⟩ : ∃ W2, W2 = wr := ⟨_, rfl⟩
          have HP2 : Hid (PressAt W2 g V r n) := Lib.hid (by rw [hW2]; exact HO.out.keep HP1.out (by simp))
          rw [← hW2] at HBD HO ⊢
          clear hW2
          obtain ⟨v0, v1, v2, v3, v4, v5, v6, v7, hVe⟩ : ∃ v0 v1 v2 v3 v4 v5 v6 v7, V = [v0, v1, v2, v3, v4, v5, v6, v7] := by
            have := HV.out
            match V, this with
            | [v0, v1, v2, v3, v4, v5, v6, v7], _ => exact ⟨v0, v1, v2, v3, v4, v5, v6, v7, rfl⟩
          have c0 : W2.cell? ⟨g, 0, none⟩ = some (.int .u32 v0) := by rw [Lib.cell_of_heap HP2.out, hVe]; rfl
          have c1 : W2.cell? ⟨g, 1, none⟩ = some (.int .u32 v1) := by rw [Lib.cell_of_heap HP2.out, hVe]; rfl
          have c2 : W2.cell? ⟨g, 2, none⟩ = some (.int .u32 v2) := by rw [Lib.cell_of_heap HP2.out, hVe]; rfl
          have c3 : W2.cell? ⟨g, 3, none⟩ = some (.int .u32 v3) := by rw [Lib.cell_of_heap HP2.out, hVe]; rfl
          have c4 : W2.cell? ⟨g, 4, none⟩ = some (.int .u32 v4) := by rw [Lib.cell_of_heap HP2.out, hVe]; rfl
          have c5 : W2.cell? ⟨g, 5, none⟩ = some (.int .u32 v5) := by rw [Lib.cell_of_heap HP2.out, hVe]; rfl
          have c6 : W2.cell? ⟨g, 6, none⟩ = some (.int .u32 v6) := by rw [Lib.cell_of_heap HP2.out, hVe]; rfl
          have c7 : W2.cell? ⟨g, 7, none⟩ = some (.int .u32 v7) := by rw [Lib.cell_of_heap HP2.out, hVe]; rfl
          have HVe := Lib.hid hVe
          rw [show ((8 : Nat) : Int) = 8 from rfl]
          clear hVe
          go_wp2_with fail
          obtain ⟨s, hs⟩ : ∃ s, s = W2.heap.size := ⟨_, rfl⟩
          have hS : (W2.alloc (.cells #[.int .u32 v0, .int .u32 v1, .int .u32 v2, .int .u32 v3, .int .u32 v4, .int .u32 v5, .int .u32 v6, .int .u32 v7] 123)).heap[s]? = some (.cells ((V.map fun x => Value.int .u32 x) ++ []).toArray 123 (0, 0)) := by
            rw [hs, HVe.out]; exact heap_alloc_new W2 _
          have oS := (Only.refl [] W2).alloc (.cells #[.int .u32 v0, .int .u32 v1, .int .u32 v2, .int .u32 v3, .int .u32 v4, .int .u32 v5, .int .u32 v6, .int .u32 v7] 123)
          obtain ⟨W3, hW3⟩ : ∃ W3, W3 = W2.alloc (.cells #[.int .u32 v0, .int .u32 v1, .int .u32 v2, .int .u32 v3, .int .u32 v4, .int .u32 v5, .int .u32 v6, .int .u32 v7] 123) := ⟨_, rfl⟩
          rw [← hW3] at hS oS ⊢
          rw [← hs]
          have hgs : g'' < s := by rw [hs]; exact HBD.out.lt
          have h0s : 0 < s := by omega
          have HS := Lib.hid hS
          have HO3 := Lib.hid (HO.out.trans oS)
          have HBD3 : Hid (BagB W3 g'' cap'' D) := Lib.hid (HBD.out.only oS (by simp))
          have HG3 : Hid (W3.heap[0]? = some (.cells (rowW K) TG fG)) := Lib.hid (((HO_.out.trans HO.out).trans oS).keep HG.out (by simp))
          have Hs := Lib.hid hs
          have hcap : D.length ≤ cap'' := HBD.out.le
          have hcmx := HBD.out.max
          clear hW3 hs hS oS HBD c0 c1 c2 c3 c4 c5 c6 c7
          go_loopw [3] (fun v wx => ∃ (j C : Nat) (A : Addr), 64 * j ≤ D.length ∧ C = cap'' - 64 * j ∧ v = .slice (some A) (D.length - 64 * j) C ∧ (64 * j < D.length → A = ⟨g'', 64 * j, none⟩) ∧ wx.heap[s]? = some (.cells ((eatN K j V D).1.map (fun x => Value.int .u32 x) ++ []).toArray 123 (0, 0)) ∧ Only [s] W3 wx) (fun v _ => lenOf v)
          case atStart => exact ⟨0, cap'', ⟨g'', 0, none⟩, by omega, rfl, rfl, fun _ => rfl, HS.out, Only.refl _ _⟩
          case round =>
            clear HS
            obtain ⟨j, C, A, hj, hC, rfl, hA, hS, hO⟩ := hrel
            by_cases hlt : 64 * j < D.length
            · obtain rfl := hA hlt
              obtain ⟨o, ho⟩ : ∃ o, o = 64 * j := ⟨_, rfl⟩
              obtain ⟨L, hL⟩ : ∃ L, L = D.length - 64 * j := ⟨_, rfl⟩
              have hL64 : 64 ≤ L := by omega
              have hLC : L ≤ C := by omega
              have hL64i : (64 : Int) ≤ (L : Int) := by omega
              have hL128 : (L : Int) ≤ 128 := by omega
              have hL0 : (0 : Int) < (L : Int) := by omega
              have hCx : C ≤ maxLen := by omega
              have hC64 : (64 : Int) ≤ (C : Int) := by omega
              have hCx2 : (C : Int) ≤ 9223372036854775807 := by unfold maxLen at hCx; omega
              rw [← hL, ← ho]
              obtain ⟨bl, hbl⟩ : ∃ bl, bl = (D.drop (64 * j)).take 64 := ⟨_, rfl⟩
              have hbl64 : bl.length = 64 := by rw [hbl]; simp; omega
              have hBw := HBD3.out.only hO (by simp; omega)
              have hconv : ∀ cap, (convert 45 9 (.slice (some ⟨g'', o, none⟩) 64 cap)).run Tryd.prog wr = .ok (.string ⟨bl.toArray⟩) wr := by
                intro cap
                rw [← hbl64]
                refine run_convert_bytes_back wr 45 9 5 ⟨g'', o, none⟩ cap bl Tryd.underlying45 Tryd.underlying5 Tryd.underlying9 fun k hk => ?_
                rw [Addr.add_lit]
                refine hBw.holds (o + k) _ ?_
                have e : D[o + k]? = bl[k]? := by rw [hbl, List.getElem?_take, if_pos (by omega), List.getElem?_drop, ho]
                rw [byV, List.getElem?_map, e, List.getElem?_eq_getElem hk]
                rfl
              have hE := eatN_length K V D HV.out j
              have hrest := eatN_rest K j V D
              have hsucc := eatN_succ K j V D
              have hm := mix_list s 123 (eatN K j V D).1 hE [] bl K wr hbl64 HK.out (hO.keep HG3.out (by simp; omega)) (by omega) hS
              rw [hrest, ← hbl] at hsucc
              have Hm := Lib.hid hm
              have Hsucc := Lib.hid hsucc
              have HO5 := Lib.hid hO
              have Ho := Lib.hid ho
              have HL := Lib.hid hL
              have HC := Lib.hid hC
              clear hm hsucc hrest hE hBw hbl64 hbl hS hO ho hL hC hA hj hlt
              go_wp2_with fail
              refine Hm.out.mono ?_
              rintro e w4 ⟨rfl, hP4, ho4⟩
              have HP4 : Hid (w4.heap[s]? = some (.cells ((eatN K (j + 1) V D).1.map (fun x => Value.int .u32 x) ++ []).toArray 123 (0, 0))) := Lib.hid (by rw [Hsucc.out]; exact hP4)
              have HO6 := Lib.hid (HO5.out.trans ho4)
              clear hP4 ho4 Hm Hsucc HO5 hconv
              go_wp2_with fail
              go_roundw
              case rel =>
                have e1 := Ho.out
                have e2 := HL.out
                have e3 := HC.out
                refine ⟨j + 1, C - 64, if C = 64 then ⟨g'', o, none⟩ else ⟨g'', o + 64, none⟩, by omega, by omega, ?_, fun h => ?_, HP4.out, HO6.out⟩
                · rw [show D.length - 64 * (j + 1) = L - 64 by omega]
                  by_cases h : C = 64
                  · rw [if_pos h, if_pos h]
                  · rw [if_neg h, if_neg h]
                · rw [if_neg (by omega), e1]; rfl
              case measure => simp [lenOf]; omega
            · have h0 : D.length - 64 * j = 0 := by omega
              rw [h0]
              have hjj : j = D.length / 64 := by omega
              have hE := eatN_length K V D HV.out j
              have hd := digest_any s 123 (eatN K j V D).1 [] wr hE hS
              have hq5 := hO.keep (HO3.out.keep H0.out (by simp)) (g := q) (by simp; rw [Hs.out]; have := HO.out.size; omega)
              have Hd := Lib.hid hd
              have Hq5 := Lib.hid hq5
              have HO5 := Lib.hid hO
              have Hjj := Lib.hid hjj
              clear hd hq5 hO hjj hE hS hA hj hC h0
              go_wp2_with fail
              refine Hd.out.mono ?_
              rintro e w5 ⟨rfl, hB5⟩
              have hg : w5.heap[q]? = some (.cells (rowB (List.replicate 32 0)) 23 (0, 0)) := below_keep hB5 Hq5.out
              obtain ⟨C5, hC5⟩ : ∃ C5, C5 = rowB (digL (eatN K j V D).1 32) := ⟨_, rfl⟩
              have hsz : C5.size = 32 := by rw [hC5]; simp [rowB, digL_length _ 32 (by omega)]
              have h1c : C5.all (·.oneCell') = true := by
                rw [hC5, Array.all_eq_true_iff_forall_mem]
                intro v hv
                simp only [rowB, List.mem_toArray, List.mem_map] at hv
                obtain ⟨x, _, rfl⟩ := hv
                rfl
              rw [← hC5]
              have hst := store_rowP (P := Tryd.prog) hg (by rw [hsz]; rfl) h1c
              have Hg := Lib.hid hg
              have HC5 := Lib.hid hC5
              have HB5 := Lib.hid hB5
              clear hg hC5 hB5 Hd
              go_wp2_with fail
              (try simp only [Exit.inBlock, Exit.then])
              refine bodyPost_ret (results_cell_row rfl _ _ q 23 C5 (0, 0) _ rfl (setRow_heap _ _ _ _ _ _ Hg.out) Tryd.underlying23 rfl (by rw [hsz]; kernel_rfl)) rfl ?_
              refine ⟨by rw [HC5.out, Hjj.out, HD.out], ?_⟩
              have hs2 := Hs.out
              have hq2 := Hq.out
              have z1 := HO_.out.size
              have z2 := HO.out.size
              have o5 : Only [s] w wr := (((HO_.out.trans HO3.out).mono (by simp))).trans HO5.out
              have o6 : Only [s, q] w (w5.setRow q C5) := ((o5.trans (Only.of_below HB5.out)).mono (by simp)).setRow (by simp) C5
              exact o6.below (Nat.le_refl _) (by intro x hx; simp at hx; rcases hx with rfl | rfl <;> omega)
end Go.Proofs.YthcmlbbbbcinkaaDoor
