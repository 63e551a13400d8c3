/-
  The walks of layer 2 (stamp): digest, New. The walks of layer 2 (stamp): Add of one text.
-/
import Derived.Test.YthcmlbbbbcinkaaDoorBase
set_option linter.unusedVariables false
set_option linter.unusedSimpArgs false
namespace Go.Proofs.YthcmlbbbbcinkaaDoor
open Go.RowKit
attribute [local go_sem] Lb.ba_get Lb.ba_cut Lb.ba_add Lb.ba_size Lb.take_rest

def byteOf (V : List Int) (i : Nat) : Int := V.getD (i / 4) 0 / 2 ^ (24 - i % 4 * 8) % 256
def digL (V : List Int) (i : Nat) : List Int := (List.range i).map (byteOf V) ++ List.replicate (32 - i) 0
def rowB (l : List Int) : Array Value := (l.map fun x => Value.int .u8 x).toArray

theorem digL_length (V : List Int) (i : Nat) (h : i ≤ 32) : (digL V i).length = 32 := by simp [digL]; omega
theorem digL_at (V : List Int) (i : Nat) (h : i < 32) : (digL V i)[i]? = some 0 := by
  unfold digL
  rw [List.getElem?_append_right (by simp), List.getElem?_replicate]
  simp only [List.length_map, List.length_range, Nat.sub_self]
  rw [if_pos (by omega)]
theorem digL_succ (V : List Int) (i : Nat) (h : i < 32) : (digL V i).set i (byteOf V i) = digL V (i + 1) := by
  unfold digL
  rw [List.set_append_right _ _ (by simp)]
  have e : 32 - i = (32 - (i + 1)) + 1 := by omega
  rw [e, List.replicate_succ, List.range_succ, List.map_append]
  simp

set_option maxRecDepth 100000 in
set_option maxHeartbeats 4000000 in
theorem digest_any (b : Nat) (T : TypeId) (V : List Int) (X : List Value) (w : World) (hV : V.length = 8)
    (hS : w.heap[b]? = some (.cells ((V.map fun x => Value.int .u32 x) ++ X).toArray T (0, 0))) :
    Calls Tryd.prog 71 #[.pointer (some ⟨b, 0, none⟩)] w fun e w' => e = .returned (.agg (rowB (digL V 32))) ∧ Below w.heap.size w w' := by
  have HS := Lib.hid hS
  have HV := Lib.hid hV
  have hbw := heap_lt hS
  clear hS hV
  go_enter Tryd.func71, Tryd.ntmps71
  go_upto_block 0 with fail
  show Code.wp _ _ _ _ (w.alloc (.cells (rowB (List.replicate 32 0)) 23))
  obtain ⟨q, hq⟩ : ∃ q, q = w.heap.size := ⟨_, rfl⟩
  have h0 : (w.alloc (.cells (rowB (List.replicate 32 0)) 23)).heap[q]? = some (.cells (rowB (digL V 0)) 23 (0, 0)) := by
    rw [hq]; exact heap_alloc_new w _
  have o0 : Only [] w (w.alloc (.cells (rowB (List.replicate 32 0)) 23)) := (Only.refl [] w).alloc _
  obtain ⟨w1, hw1⟩ : ∃ w1, w1 = w.alloc (.cells (rowB (List.replicate 32 0)) 23) := ⟨_, rfl⟩
  rw [← hw1] at h0 o0 ⊢
  rw [← hq]
  rw [← hq] at hbw
  have Hq := Lib.hid hq
  have H0 := Lib.hid h0
  have HS1 := Lib.hid (o0.keep HS.out (by simp))
  have HO := Lib.hid o0
  clear hw1 hq h0 o0
  go_wp2_with fail
  go_loopw [4] (fun p wr => ∃ i : Nat, i ≤ 32 ∧ p = .int .i64 i ∧ wr.heap[q]? = some (.cells (rowB (digL V i)) 23 (0, 0)) ∧ Only [q] w1 wr) (fun p _ => 32 - (intOf p).toNat)
  case atStart => exact ⟨0, by omega, rfl, H0.out, Only.refl _ _⟩
  case round =>
    clear H0
    obtain ⟨i, hi, rfl, hW, ho⟩ := hrel
    by_cases hi32 : i < 32
    · have hS2 := ho.keep HS1.out (by simp; omega)
      have hj : i / 4 < V.length := by rw [HV.out]; omega
      obtain ⟨x, hx⟩ : ∃ x, x = V.getD (i / 4) 0 := ⟨_, rfl⟩
      have hxe : V[i / 4]? = some x := by rw [hx, List.getD_eq_getElem?_getD, List.getElem?_eq_getElem hj]; rfl
      obtain ⟨j, hjd⟩ : ∃ j, j = i / 4 := ⟨_, rfl⟩
      have a1 : wr.cell? ⟨b, j, none⟩ = some (.int .u32 x) := by
        rw [hjd, Lib.cell_of_heap hS2]
        rw [List.getElem?_toArray, List.getElem?_append_left (by simpa using hj), List.getElem?_map, hxe]
        rfl
      have a2 : wr.cell? ⟨q, i, none⟩ = some (.int .u8 0) := by
        rw [Lib.cell_of_heap hW]; simp [rowB, digL_at V i hi32]
      have z2 : wr.frozen? ⟨q, i, none⟩ = false := Lib.frozen_of_heap hW _
      obtain ⟨m, hm⟩ : ∃ m, m = i % 4 := ⟨_, rfl⟩
      obtain ⟨s, hs⟩ : ∃ s, s = 24 - m * 8 := ⟨_, rfl⟩
      have td : (i : Int).tdiv 4 = (j : Int) := by rw [hjd]; rfl
      have tm : (i : Int).tmod 4 = (m : Int) := by rw [hm]; rfl
      have ts : (24 : Int) - (m : Int) * 8 = (s : Int) := by omega
      have i0 : (0 : Int) ≤ (i : Int) := by omega
      have i1 : (i : Int) < 32 := by omega
      have j0 : (0 : Int) ≤ (j : Int) := by omega
      have j1 : (j : Int) < 8 := by omega
      have m1 : (m : Int) < 4 := by omega
      have s1 : (s : Int) ≤ 24 := by omega
      have hB : byteOf V i = x / 2 ^ s % 256 := by unfold byteOf; rw [← hx, hs, hm]
      have hWn := heap_setCell_same _ q i _ _ (.int .u8 (x / 2 ^ s % 256)) hW
      have hWm : (rowB (digL V i)).setIfInBounds i (.int .u8 (x / 2 ^ s % 256)) = rowB (digL V (i + 1)) := by
        rw [← digL_succ V i hi32, hB]; simp [rowB, List.map_set]
      rw [hWm] at hWn
      have HWn := Lib.hid hWn
      have Ho := Lib.hid ho
      clear hS2 hj hx hxe hjd hm hs hB hWn hWm hW ho
      go_wp2_with fail
      go_roundw
      case rel => exact ⟨i + 1, by omega, by go_num, HWn.out, Ho.out.setCell (by simp) _⟩
      case measure => simp [intOf]; omega
    · have hi32' : i = 32 := by omega
      subst hi32'
      have hsz : (rowB (digL V 32)).size = 32 := by simp [rowB, digL_length V 32 (by omega)]
      have h1c : (rowB (digL V 32)).all (·.oneCell') = true := by
        rw [Array.all_eq_true_iff_forall_mem]
        intro v hv
        simp only [rowB, List.mem_toArray, List.mem_map] at hv
        obtain ⟨x, _, rfl⟩ := hv
        rfl
      obtain ⟨C, hC⟩ : ∃ C, C = rowB (digL V 32) := ⟨_, rfl⟩
      have hg : wr.heap[q]? = some (.cells C 23 (0, 0)) := by rw [hC]; exact hW
      rw [← hC] at hsz h1c
      have hst := store_rowP (P := Tryd.prog) hg rfl h1c
      have Hg := Lib.hid hg
      have HC := Lib.hid hC
      have Ho := Lib.hid ho
      clear hW hC ho hg
      go_wp2_with (refine wpList_load_row rfl 23 _ rfl q rfl 23 _ (0, 0) _ Hg.out Tryd.underlying23 rfl (by rw [hsz]; kernel_rfl) ?_)
      (try simp only [Exit.inBlock, Exit.then])
      refine bodyPost_ret (results_cell_row rfl _ _ q 23 C (0, 0) _ rfl (setRow_heap _ _ _ _ _ _ Hg.out) Tryd.underlying23 rfl (by rw [hsz]; kernel_rfl)) rfl ?_
      refine ⟨by rw [HC.out], ?_⟩
      have o5 : Only [q] w1 (wr.setRow q C) := Ho.out.setRow (by simp) C
      have b1 : Below w.heap.size w w1 := HO.out.below (Nat.le_refl _) (by simp)
      exact b1.trans (o5.below HO.out.size (by intro x hx; simp at hx; rw [hx, Hq.out]; exact Nat.le_refl _))
def begunS : List Int := [1779033703, 3144134277, 1013904242, 2773480762, 1359893119, 2600822924, 528734635, 1541459225]
def PressAt (w : World) (g : Nat) (V : List Int) (r : List UInt8) (n : Nat) : Prop := w.heap[g]? = some (.cells ((V.map fun x => Value.int .u32 x) ++ [Value.string ⟨r.toArray⟩, Value.int .i64 (n : Int)]).toArray 126 (0, 0))

set_option maxHeartbeats 1000000 in
theorem begun_any (w : World) :
    Calls Tryd.prog 69 #[] w fun e w' => e = .returned (.agg (begunS.map fun x => Value.int .u32 x).toArray) ∧ Below w.heap.size w w' := by
  go_enter Tryd.func69, Tryd.ntmps69
  go_wp2
  refine bodyPost_ret (results_cell_row rfl _ _ w.heap.size 123 (begunS.map fun x => Value.int .u32 x).toArray (0, 0) _ rfl (heap_alloc_new w _) Tryd.underlying123 rfl (by kernel_rfl)) rfl ?_
  exact ⟨rfl, (Below.refl _ w).alloc (Nat.le_refl _) _⟩

set_option maxHeartbeats 1000000 in
theorem press_any (w : World) :
    Calls Tryd.prog 33 #[] w fun e w' => ∃ g, e = .returned (.pointer (some ⟨g, 0, none⟩)) ∧ w.heap.size ≤ g ∧ PressAt w' g begunS [] 0 ∧ Below w.heap.size w w' := by
  go_enter Tryd.func33, Tryd.ntmps33
  go_wp2_with fail
  refine (begun_any w).mono ?_
  rintro e w1 ⟨rfl, hB⟩
  have hsz := hB.size
  go_wp2
  go_ret
  exact ⟨w1.heap.size, rfl, hsz, heap_alloc_new w1 _, hB.alloc hsz _⟩
end Go.Proofs.YthcmlbbbbcinkaaDoor

set_option linter.unusedVariables false
set_option linter.unusedSimpArgs false
namespace Go.Proofs.YthcmlbbbbcinkaaDoor
open Go.RowKit
attribute [local go_sem] Lb.ba_get Lb.ba_cut Lb.ba_add Lb.ba_size Lb.take_rest

/-- all whole blocks of l mixed in, and what is left -/
def eatN (K : List Int) : Nat → List Int → List UInt8 → List Int × List UInt8
  | 0, V, l => (V, l)
  | n + 1, V, l => eatN K n (mixS K (l.take 64) V) (l.drop 64)
theorem mixS_length (K : List Int) (bl : List UInt8) (V : List Int) : (mixS K bl V).length = 8 := by simp [mixS, addL]
theorem eatN_succ (K : List Int) : ∀ (n : Nat) (V : List Int) (l : List UInt8), eatN K (n + 1) V l = (mixS K ((eatN K n V l).2.take 64) (eatN K n V l).1, (eatN K n V l).2.drop 64)
  | 0, V, l => rfl
  | n + 1, V, l => by
    have := eatN_succ K n (mixS K (l.take 64) V) (l.drop 64)
    exact this
theorem eatN_rest (K : List Int) : ∀ (n : Nat) (V : List Int) (l : List UInt8), (eatN K n V l).2 = l.drop (64 * n)
  | 0, V, l => by simp [eatN]
  | n + 1, V, l => by
    rw [eatN_succ]
    simp only [eatN_rest K n V l, List.drop_drop]
    congr 1
theorem eatN_length (K : List Int) (V : List Int) (l : List UInt8) (hV : V.length = 8) : ∀ n, (eatN K n V l).1.length = 8
  | 0 => hV
  | n + 1 => by rw [eatN_succ]; exact mixS_length _ _ _

theorem mix_list {TG : TypeId} {fG : Nat × Nat} (b : Nat) (T : TypeId) (V : List Int) (hV : V.length = 8) (X : List Value) (bl : List UInt8) (K : List Int) (w : World) (hbl : bl.length = 64) (hK : K.length = 64) (hG : w.heap[0]? = some (.cells (rowW K) TG fG)) (hb0 : b ≠ 0)
    (hS : w.heap[b]? = some (.cells ((V.map fun x => Value.int .u32 x) ++ X).toArray T (0, 0))) :
    Calls Tryd.prog 70 #[.pointer (some ⟨b, 0, none⟩), .string ⟨bl.toArray⟩] w fun e w' => e = .returned (.tuple #[]) ∧ w'.heap[b]? = some (.cells ((mixS K bl V).map (fun x => Value.int .u32 x) ++ X).toArray T (0, 0)) ∧ Only [b] w w' := by
  match V, hV with
  | [v0, v1, v2, v3, v4, v5, v6, v7], _ => exact mix_any b T v0 v1 v2 v3 v4 v5 v6 v7 X bl K w hbl hK hG hb0 hS

theorem PressAt.cells {w : World} {g : Nat} {V : List Int} {r : List UInt8} {n : Nat} (h : PressAt w g V r n) (hV : V.length = 8) : w.cell? ⟨g, 8, none⟩ = some (.string ⟨r.toArray⟩) ∧ w.cell? ⟨g, 9, none⟩ = some (.int .i64 (n : Int)) ∧ (∀ j, w.frozen? ⟨g, j, none⟩ = false) := by
  have hl : (V.map fun x => Value.int .u32 x).length = 8 := by simp [hV]
  refine ⟨?_, ?_, fun j => Lib.frozen_of_heap h _⟩
  · rw [Lib.cell_of_heap h, List.getElem?_toArray, List.getElem?_append_right (by omega), hl]; rfl
  · rw [Lib.cell_of_heap h, List.getElem?_toArray, List.getElem?_append_right (by omega), hl]; rfl
theorem PressAt.set8 {w : World} {g : Nat} {V : List Int} {r : List UInt8} {n : Nat} (h : PressAt w g V r n) (hV : V.length = 8) (r' : List UInt8) : PressAt (w.setCell ⟨g, 8, none⟩ (.string ⟨r'.toArray⟩)) g V r' n := by
  have hl : (V.map fun x => Value.int .u32 x).length = 8 := by simp [hV]
  refine (heap_setCell_same _ g 8 _ _ _ h).trans ?_
  simp only [List.setIfInBounds_toArray]
  rw [List.set_append_right _ _ (by omega), hl]; rfl
theorem PressAt.set9 {w : World} {g : Nat} {V : List Int} {r : List UInt8} {n : Nat} (h : PressAt w g V r n) (hV : V.length = 8) (m : Nat) : PressAt (w.setCell ⟨g, 9, none⟩ (.int .i64 (m : Int))) g V r m := by
  have hl : (V.map fun x => Value.int .u32 x).length = 8 := by simp [hV]
  refine (heap_setCell_same _ g 9 _ _ _ h).trans ?_
  simp only [List.setIfInBounds_toArray]
  rw [List.set_append_right _ _ (by omega), hl]; rfl

def restLen (w : World) (g : Nat) : Nat := match w.cell? ⟨g, 8, none⟩ with
  | some (.string s) => s.size
  | _ => 0
theorem PressAt.restLen {w : World} {g : Nat} {V : List Int} {r : List UInt8} {n : Nat} (h : PressAt w g V r n) (hV : V.length = 8) : restLen w g = r.length := by
  unfold Go.Proofs.YthcmlbbbbcinkaaDoor.restLen
  rw [(h.cells hV).1]; rfl
/-- the slice's one text, apart from block g -/
def Fts' (w : World) (g : Nat) (A : Option Addr) (t : List UInt8) : Prop := ∃ a : Addr, A = some a ∧ w.cell? a = some (.string ⟨t.toArray⟩)

set_option maxRecDepth 100000 in
set_option maxHeartbeats 4000000 in
theorem add_any {TG : TypeId} {fG : Nat × Nat} (g : Nat) (V : List Int) (hV : V.length = 8) (A : Option Addr) (cap : Nat) (t : List UInt8) (K : List Int) (w : World) (hK : K.length = 64) (hG : w.heap[0]? = some (.cells (rowW K) TG fG)) (hg0 : g ≠ 0)
    (hP : PressAt w g V [] 0) (hA : Fts' w g A t) (ht : t.length ≤ 281474976710656) :
    Calls Tryd.prog 34 #[.pointer (some ⟨g, 0, none⟩), .slice A 1 cap] w fun e w' => e = .returned (.pointer (some ⟨g, 0, none⟩)) ∧ PressAt w' g (eatN K (t.length / 64) V t).1 (t.drop (64 * (t.length / 64))) t.length ∧ Only [g] w w' := by
  have HK := Lib.hid hK
  have HV := Lib.hid hV
  obtain ⟨a, rfl, hc⟩ := hA
  obtain ⟨p8, p9, pz⟩ := hP.cells hV
  have z8 := pz 8
  have z9 := pz 9
  have P1 := hP.set9 hV t.length
  obtain ⟨w1, hw1⟩ : ∃ w1, w1 = w.setCell ⟨g, 9, none⟩ (.int .i64 (t.length : Int)) := ⟨_, rfl⟩
  rw [← hw1] at P1
  obtain ⟨q8, -, qz⟩ := P1.cells hV
  have y8 := qz 8
  have P2 := P1.set8 hV t
  have o1 : Only [g] w w1 := by rw [hw1]; exact (Only.refl _ _).setCell (by simp) _
  have HG := Lib.hid hG
  have HP2 := Lib.hid P2
  have O1 := Lib.hid (o1.setCell (p := ⟨g, 8, none⟩) (by simp) (.string ⟨t.toArray⟩))
  clear hK hV hG hP pz qz P1 P2 o1
  go_enter Tryd.func34, Tryd.ntmps34
  go_wp2_with fail
  go_loopw [11] (fun p wr => (p = .int .i64 0 ∧ wr = w) ∨ (p = .int .i64 1 ∧ PressAt wr g (eatN K (t.length / 64) V t).1 (t.drop (64 * (t.length / 64))) t.length ∧ Only [g] w wr)) (fun p _ => 1 - (intOf p).toNat)
  case atStart => exact .inl ⟨rfl, rfl⟩
  case round =>
    rcases hrel with ⟨rfl, rfl⟩ | ⟨rfl, hP, ho⟩
    · go_upto_block 2 with fail
      rw [← hw1]
      obtain ⟨w2, hw2⟩ : ∃ w2, w2 = w1.setCell ⟨g, 8, none⟩ (.string ⟨t.toArray⟩) := ⟨_, rfl⟩
      rw [← hw2] at HP2 O1 ⊢
      clear hw2 hw1 q8 y8 p8 p9 z8 z9 hc
      go_wp2_with fail
      obtain ⟨wr_, hwr_⟩ : ∃ wr_, wr_ = wr := ⟨_, rfl⟩
      rw [← hwr_] at HG O1
      go_loopw [32] (fun _ wi => ∃ k : Nat, 64 * k ≤ t.length ∧ PressAt wi g (eatN K k V t).1 (t.drop (64 * k)) t.length ∧ Only [g] wr_ wi) (fun _ wi => restLen wi g)
      case atStart => exact ⟨0, by omega, HP2.out, O1.out⟩
      case round =>
        obtain ⟨k, hk, hP, ho⟩ := hrel
        have hE := eatN_length K V t HV.out k
        have hsucc := eatN_succ K k V t
        have hrest := eatN_rest K k V t
        obtain ⟨r, hr⟩ : ∃ r, r = t.drop (64 * k) := ⟨_, rfl⟩
        obtain ⟨E, hEd⟩ : ∃ E, E = (eatN K k V t).1 := ⟨_, rfl⟩
        rw [← hr, ← hEd] at hP
        rw [← hEd] at hE hsucc
        rw [hrest, ← hr] at hsucc
        have hrl : r.length = t.length - 64 * k := by rw [hr]; simp
        obtain ⟨p8, -, pz⟩ := hP.cells hE
        have hrle : (r.length : Int) ≤ 281474976710656 := by omega
        by_cases h64 : 64 ≤ r.length
        · have hG := ho.keep HG.out (by simp; omega)
          have hm := mix_list g 126 E hE [Value.string ⟨r.toArray⟩, Value.int .i64 (t.length : Int)] (r.take 64) K wr.drew (by simp; omega) HK.out hG hg0 hP
          have Hm := Lib.hid hm
          have hml := hP.restLen hE
          have Hml := Lib.hid hml
          have Ho := Lib.hid ho
          have Hsucc := Lib.hid hsucc
          have hd : r.drop 64 = t.drop (64 * (k + 1)) := by rw [hr, List.drop_drop]; congr 1
          have Hd := Lib.hid hd
          have h64i : (64 : Int) ≤ (r.length : Int) := by omega
          have hk2 : 64 * (k + 1) ≤ t.length := by omega
          clear hm hml ho hsucc hd hG hrest hEd hr hP pz hE hrl
          go_upto_region 9 with fail
          go_region_with (go_at_call 70; refine Hm.out.mono ?_; rintro e w3 ⟨rfl, hP3, ho3⟩)
          have hE3 := mixS_length K (r.take 64) E
          have P3 : PressAt w3 g (mixS K (r.take 64) E) r t.length := hP3
          obtain ⟨q8, -, qz⟩ := P3.cells hE3
          have z8 := qz 8
          have P4 := P3.set8 hE3 (r.drop 64)
          have hml2 := P4.restLen hE3
          have HP4 := Lib.hid P4
          have Hml2 := Lib.hid hml2
          have Ho4 : Hid (Only [g] wr_ (w3.setCell ⟨g, 8, none⟩ (.string ⟨(r.drop 64).toArray⟩))) := Lib.hid (((Ho.out.drew).trans ho3).setCell (by simp) _)
          clear P3 qz P4 hml2 hP3 ho3 hE3 p8
          go_wp2_with fail
          go_roundw
          case rel =>
            refine ⟨k + 1, hk2, ?_, Ho4.out⟩
            rw [Hsucc.out, ← Hd.out]
            exact HP4.out
          case measure =>
            rw [Hml2.out, Hml.out, List.length_drop]; omega
        · have hk64 : k = t.length / 64 := by omega
          have hf : ¬ ((64 : Int) ≤ (r.length : Int)) := by omega
          have HP := Lib.hid hP
          have Ho := Lib.hid ho
          have Hr := Lib.hid hr
          have HE := Lib.hid hEd
          have Hk := Lib.hid hk64
          clear hP ho hr hEd hsucc hrest hE pz hk64
          go_wp2_with fail
          go_roundw
          case rel => exact .inr ⟨by go_num, by rw [← Hk.out, ← HE.out, ← Hr.out]; exact HP.out, by rw [← hwr_]; exact Ho.out⟩
          case measure => simp [intOf]
    · have HP := Lib.hid hP
      have Ho := Lib.hid ho
      clear hP ho
      go_wp2_with fail
      go_ret
      exact ⟨rfl, HP.out, Ho.out⟩
end Go.Proofs.YthcmlbbbbcinkaaDoor
