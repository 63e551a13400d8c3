/-
  The walks of layer 2 (stamp): the words of a block's rounds.
-/
import Derived.Test.YtokdnfhglckpkaaDoorStA
import Derived.Deep.RegionHeld3
set_option linter.unusedVariables false
set_option linter.unusedSimpArgs false
namespace Go.Proofs.YtokdnfhglckpkaaDoor
open Go.RowKit
attribute [local go_sem] Lb.ba_get Lb.ba_cut Lb.ba_add Lb.ba_size Lb.take_rest

theorem store_rowP {P : Program} {w : World} {g : Nat} {old cs : Array Value} {T : TypeId} (hg : w.heap[g]? = some (.cells old T (0, 0))) (hs : old.size = cs.size) (h1 : cs.all (·.oneCell') = true) :
    (storeCells ⟨g, 0, none⟩ cs.toList 0).run P w = .ok () (w.setRow g cs) := by
  have := run_storeCells_from (P := P) g T cs.toList 0 old w hg (by simp; omega) (fun v hv => (Array.all_eq_true_iff_forall_mem.1 h1) v (by simpa using hv))
  simpa using this
def wordOf (bs : List UInt8) : Int := bs.foldl (fun (o : Int) (b : UInt8) => bits .or .u32 (o * 256 % 4294967296) (b.toNat : Int)) 0
def rowW (W : List Int) : Array Value := (W.map fun x => Value.int .u32 x).toArray
/-- the first t words come of the block -/
def firstW (bl : List UInt8) (t : Nat) : List Int := (List.range t).map (fun i => wordOf ((bl.drop (4 * i)).take 4)) ++ List.replicate (64 - t) 0
def WAt (w : World) (q : Nat) (W : List Int) : Prop := w.heap[q]? = some (.cells (rowW W) 133 (0, 0))

theorem rowW_get {W : List Int} {k : Nat} {x : Int} (h : W[k]? = some x) : (rowW W)[k]? = some (.int .u32 x) := by simp [rowW, h]
theorem rowW_set (W : List Int) (k : Nat) (x : Int) : (rowW W).setIfInBounds k (.int .u32 x) = rowW (W.set k x) := by simp [rowW, List.map_set]
theorem WAt.cell {w : World} {q : Nat} {W : List Int} (h : WAt w q W) (k : Nat) {x : Int} (hk : W[k]? = some x) : w.cell? ⟨q, k, none⟩ = some (.int .u32 x) := by
  rw [Lib.cell_of_heap h]; exact rowW_get hk
theorem WAt.set {w : World} {q : Nat} {W : List Int} (h : WAt w q W) (k : Nat) (x : Int) : WAt (w.setCell ⟨q, k, none⟩ (.int .u32 x)) q (W.set k x) := by
  have := heap_setCell_same _ q k _ _ (.int .u32 x) h
  rw [rowW_set] at this
  exact this
theorem firstW_length (bl : List UInt8) (t : Nat) (h : t ≤ 64) : (firstW bl t).length = 64 := by simp [firstW]; omega
theorem firstW_at (bl : List UInt8) (t : Nat) (h : t < 64) : (firstW bl t)[t]? = some 0 := by
  unfold firstW
  rw [List.getElem?_append_right (by simp), List.getElem?_replicate]
  simp only [List.length_map, List.length_range, Nat.sub_self]
  rw [if_pos (by omega)]
theorem firstW_succ (bl : List UInt8) (t : Nat) (h : t < 64) : (firstW bl t).set t (wordOf ((bl.drop (4 * t)).take 4)) = firstW bl (t + 1) := by
  unfold firstW
  rw [List.set_append_right _ _ (by simp)]
  have e : 64 - t = (64 - (t + 1)) + 1 := by omega
  rw [e, List.replicate_succ, List.range_succ, List.map_append]
  simp
theorem wordOf_succ (bs : List UInt8) (k : Nat) (h : k < bs.length) : wordOf (bs.take (k + 1)) = bits .or .u32 (wordOf (bs.take k) * 256 % 4294967296) (bs[k].toNat : Int) := by
  unfold wordOf
  rw [List.take_succ_eq_append_getElem h, List.foldl_append]; rfl

theorem List.set_getElem_self'' {α : Type} {l : List α} {k : Nat} {x : α} (h : l[k]? = some x) : l.set k x = l := by
  obtain ⟨hl, rfl⟩ := List.getElem?_eq_some_iff.1 h
  exact List.set_getElem_self hl
/-- a word of a later round -/
def nextX (x2 x7 x15 x16 : Int) : Int :=
  (((bits .xor .u32 (turnedS x2 [17, 19]) (x2 / 1024) + x7) % 4294967296 + bits .xor .u32 (turnedS x15 [7, 18]) (x15 / 8)) % 4294967296 + x16) % 4294967296
def nextW (W : List Int) (t : Nat) : Int := nextX (W.getD (t - 2) 0) (W.getD (t - 7) 0) (W.getD (t - 15) 0) (W.getD (t - 16) 0)
def schedW (bl : List UInt8) : Nat → List Int
  | 0 => firstW bl 16
  | k + 1 => (schedW bl k).set (16 + k) (nextW (schedW bl k) (16 + k))
theorem schedW_length (bl : List UInt8) : ∀ k, (schedW bl k).length = 64
  | 0 => firstW_length bl 16 (by omega)
  | k + 1 => by unfold schedW; rw [List.length_set]; exact schedW_length bl k

theorem ints_two (W : World) (g : Nat) (a b : Nat) (h : W.heap[g]? = some (.cells #[.int .i64 (a : Int), .int .i64 (b : Int)] 3 (0, 0))) : Ints W W.heap.size (some ⟨g, 0, none⟩) ([a, b].map fun (n : Nat) => (n : Int)) := by
  intro i hi
  have hi2 : i = 0 ∨ i = 1 := by simp at hi; omega
  refine ⟨_, rfl, heap_lt h, ?_⟩
  rcases hi2 with rfl | rfl
  · have := Lib.cell_of_heap h (j := 0)
    exact this
  · have := Lib.cell_of_heap h (j := 1)
    exact this

theorem turn_a (x : Int) (W : World) (g : Nat) (h : W.heap[g]? = some (.cells #[.int .i64 17, .int .i64 19] 3 (0, 0))) :
    Calls Tryd.prog 112 #[.int .u32 x, .slice (some ⟨g, 0, none⟩) 2 2] W fun e w' => e = .returned (.int .u32 (turnedS x [17, 19])) ∧ W = w' :=
  turned_any x (some ⟨g, 0, none⟩) 2 [17, 19] W (ints_two W g 17 19 h) (by decide) (by decide)
theorem turn_b (x : Int) (W : World) (g : Nat) (h : W.heap[g]? = some (.cells #[.int .i64 7, .int .i64 18] 3 (0, 0))) :
    Calls Tryd.prog 112 #[.int .u32 x, .slice (some ⟨g, 0, none⟩) 2 2] W fun e w' => e = .returned (.int .u32 (turnedS x [7, 18])) ∧ W = w' :=
  turned_any x (some ⟨g, 0, none⟩) 2 [7, 18] W (ints_two W g 7 18 h) (by decide) (by decide)

set_option maxRecDepth 100000 in
set_option maxHeartbeats 4000000 in
theorem schedule_any (bl : List UInt8) (w : World) (hbl : bl.length = 64) :
    Calls Tryd.prog 111 #[.string ⟨bl.toArray⟩] w fun e w' => e = .returned (.agg (rowW (schedW bl 48))) ∧ Below w.heap.size w w' := by
  have Hbl := Lib.hid hbl
  have hbl64 : (bl.length : Int) = 64 := by omega
  clear hbl
  go_enter Tryd.func111, Tryd.ntmps111
  go_upto_block 0 with fail
  show Code.wp _ _ _ _ (w.alloc (.cells (rowW (List.replicate 64 0)) 133))
  obtain ⟨q, hq⟩ : ∃ q, q = w.heap.size := ⟨_, rfl⟩
  have h0 : WAt (w.alloc (.cells (rowW (List.replicate 64 0)) 133)) q (firstW bl 0) := by
    rw [hq]; exact heap_alloc_new w _
  have b0 : Below w.heap.size w (w.alloc (.cells (rowW (List.replicate 64 0)) 133)) := (Below.refl _ w).alloc (Nat.le_refl _) _
  obtain ⟨w1, hw1⟩ : ∃ w1, w1 = w.alloc (.cells (rowW (List.replicate 64 0)) 133) := ⟨_, rfl⟩
  rw [← hw1] at h0 b0 ⊢
  rw [← hq]
  have Hq := Lib.hid hq
  have H0 := Lib.hid h0
  clear hw1 hq h0
  go_wp2_with fail
  go_loopw [7] (fun p wr => ∃ t : Nat, t ≤ 16 ∧ p = .int .i64 t ∧ WAt wr q (firstW bl t) ∧ Below w.heap.size w wr) (fun p _ => 16 - (intOf p).toNat)
  case atStart => exact ⟨0, by omega, rfl, H0.out, b0⟩
  case round =>
    clear H0 b0
    obtain ⟨t, ht, rfl, hW, hB⟩ := hrel
    by_cases ht16 : t < 16
    · have t0 : (0 : Int) ≤ (t : Int) := by omega
      have t1 : (t : Int) < 16 := by omega
      have hcut4 : ((bl.drop (4 * t)).take 4).length = 4 := by simp; have := Hbl.out; omega
      obtain ⟨W1, cap, hcv, hB1, hsz, hcell⟩ := Lb.str_bytes (P := Tryd.prog) (src := 9) (dst := 45) (e := 5) Tryd.underlying9 Tryd.underlying45 Tryd.underlying5 ((bl.drop (4 * t)).take 4) wr
      rw [hcut4] at hcv
      have HW := Lib.hid hW
      have HB := Lib.hid hB
      have Hcell := Lib.hid hcell
      have Hcut4 := Lib.hid hcut4
      have HB1 := Lib.hid hB1
      clear hW hB hcell hcut4 hB1
      have hqs : q < wr.heap.size := heap_lt HW.out
      have h1 : WAt W1 q (firstW bl t) := below_keep HB1.out HW.out
      have H1 := Lib.hid h1
      obtain ⟨bs, hbs⟩ : ∃ bs, bs = (bl.drop (4 * t)).take 4 := ⟨_, rfl⟩
      rw [← hbs] at Hcell Hcut4
      have Hbs := Lib.hid hbs
      obtain ⟨g, hg⟩ : ∃ g, g = wr.heap.size := ⟨_, rfl⟩
      rw [← hg] at Hcell hcv hsz hqs
      have b1 : Below w.heap.size w W1 := HB.out.trans (HB1.out.mono HB.out.size)
      have B1 := Lib.hid b1
      go_wp2_with fail
      clear hcv h1 hbs b1
      rw [← hg]
      clear hg
      go_loopw [19] (fun p wi => ∃ j : Nat, j ≤ 4 ∧ p = .int .i64 j ∧ WAt wi q ((firstW bl t).set t (wordOf (bs.take j))) ∧ Only [q] W1 wi) (fun p _ => 4 - (intOf p).toNat)
      case atStart => exact ⟨0, by omega, rfl, by rw [show wordOf (bs.take 0) = 0 from rfl, List.set_getElem_self'' (firstW_at bl t (by omega))]; exact H1.out, Only.refl _ _⟩
      case round =>
        obtain ⟨j, hj, rfl, hW, ho⟩ := hrel
        have hlen := firstW_length bl t (by omega)
        by_cases hj4 : j < 4
        · obtain ⟨c, hc⟩ : ∃ c, c = bs[j]'(by rw [Hcut4.out]; exact hj4) := ⟨_, rfl⟩
          have a1 : wr.cell? ⟨g, j, none⟩ = some (.int .u8 ((c.toNat : Nat) : Int)) := by
            rw [hc, ← Hcell.out j (by rw [Hcut4.out]; exact hj4)]
            exact ho.cell (p := ⟨g, j, none⟩) hsz (by simp; omega)
          obtain ⟨o, ho'⟩ : ∃ o, o = wordOf (bs.take j) := ⟨_, rfl⟩
          have a2 : wr.cell? ⟨q, t, none⟩ = some (.int .u32 o) := by
            rw [ho']; exact hW.cell t (by rw [List.getElem?_set_self (by omega)])
          have z2 : wr.frozen? ⟨q, t, none⟩ = false := Lib.frozen_of_heap hW _
          have hsucc := wordOf_succ bs j (by rw [Hcut4.out]; exact hj4)
          rw [← hc, ← ho'] at hsucc
          have hWn := hW.set t (bits .or .u32 (o * 256 % 4294967296) (c.toNat : Int))
          rw [List.set_set] at hWn
          have HWn := Lib.hid hWn
          have Hs := Lib.hid hsucc
          have Ho := Lib.hid ho
          have hc256 : (c.toNat : Int) < 256 := by have := c.toNat_lt; omega
          have j0 : (0 : Int) ≤ (j : Int) := by omega
          have j1 : (j : Int) < 4 := by omega
          clear hWn hsucc hc ho' hW ho hlen
          go_wp2_with fail
          go_roundw
          case rel => exact ⟨j + 1, by omega, by go_num, by rw [Hs.out]; exact HWn.out, Ho.out.setCell (by simp) _⟩
          case measure => simp [intOf]; omega
        · have hj4' : j = 4 := by omega
          subst hj4'
          have hWn : WAt wr q (firstW bl (t + 1)) := by
            rw [← firstW_succ bl t (by omega), ← Hbs.out]
            rw [List.take_of_length_le (by rw [Hcut4.out]; exact Nat.le_refl _)] at hW
            exact hW
          have HWn := Lib.hid hWn
          have hB2 : Below w.heap.size w wr := B1.out.trans (ho.below B1.out.size (by intro x hx; simp at hx; rw [hx, Hq.out]; exact Nat.le_refl _))
          have HB2 := Lib.hid hB2
          clear hW hWn ho hB2 hlen
          go_wp2_with fail
          go_roundw
          case rel => exact ⟨t + 1, by omega, by go_num, HWn.out, HB2.out⟩
          case measure => simp [intOf]; omega
    · have ht' : t = 16 := by omega
      subst ht'
      rw [show ((16 : Nat) : Int) = 16 from rfl]
      have HW := Lib.hid hW
      have HB := Lib.hid hB
      clear hW hB ht
      go_wp2_with fail
      go_loopw [6] (fun p wr => ∃ k : Nat, k ≤ 48 ∧ p = .int .i64 (16 + k : Nat) ∧ WAt wr q (schedW bl k) ∧ Below w.heap.size w wr) (fun p _ => 64 - (intOf p).toNat)
      case atStart => exact ⟨0, by omega, rfl, HW.out, HB.out⟩
      case round =>
        clear HW HB
        obtain ⟨k, hk, rfl, hW, hB⟩ := hrel
        by_cases hk48 : k < 48
        · have hlen := schedW_length bl k
          obtain ⟨W, hWd⟩ : ∃ W, W = schedW bl k := ⟨_, rfl⟩
          rw [← hWd] at hlen hW
          have g2 : ∃ x2, W[16 + k - 2]? = some x2 := ⟨_, List.getElem?_eq_getElem (by omega)⟩
          have g7 : ∃ x7, W[16 + k - 7]? = some x7 := ⟨_, List.getElem?_eq_getElem (by omega)⟩
          have g15 : ∃ x15, W[16 + k - 15]? = some x15 := ⟨_, List.getElem?_eq_getElem (by omega)⟩
          have g16 : ∃ x16, W[16 + k - 16]? = some x16 := ⟨_, List.getElem?_eq_getElem (by omega)⟩
          obtain ⟨x2, g2⟩ := g2
          obtain ⟨x7, g7⟩ := g7
          obtain ⟨x15, g15⟩ := g15
          obtain ⟨x16, g16⟩ := g16
          have a2 := hW.cell _ g2
          have a7 := hW.cell _ g7
          have a15 := hW.cell _ g15
          have a16 := hW.cell _ g16
          have gt : ∃ xt, W[16 + k]? = some xt := ⟨_, List.getElem?_eq_getElem (by omega)⟩
          obtain ⟨xt, gt⟩ := gt
          have at_ := hW.cell (16 + k) gt
          have zt : wr.frozen? ⟨q, 16 + k, none⟩ = false := Lib.frozen_of_heap hW _
          obtain ⟨t, htk⟩ : ∃ t, t = 16 + k := ⟨_, rfl⟩
          rw [← htk] at a2 a7 a15 a16 at_ zt ⊢
          have t0 : (16 : Int) ≤ (t : Int) := by omega
          have t1 : (t : Int) < 64 := by omega
          obtain ⟨j2, e2⟩ : ∃ j2, j2 = t - 2 := ⟨_, rfl⟩
          rw [← e2] at a2
          have i2 : (t : Int) - 2 = (j2 : Int) := by omega
          have n2 : (0 : Int) ≤ (j2 : Int) := by omega
          have m2 : (j2 : Int) < 64 := by omega
          obtain ⟨j7, e7⟩ : ∃ j7, j7 = t - 7 := ⟨_, rfl⟩
          rw [← e7] at a7
          have i7 : (t : Int) - 7 = (j7 : Int) := by omega
          have n7 : (0 : Int) ≤ (j7 : Int) := by omega
          have m7 : (j7 : Int) < 64 := by omega
          obtain ⟨j15, e15⟩ : ∃ j15, j15 = t - 15 := ⟨_, rfl⟩
          rw [← e15] at a15
          have i15 : (t : Int) - 15 = (j15 : Int) := by omega
          have n15 : (0 : Int) ≤ (j15 : Int) := by omega
          have m15 : (j15 : Int) < 64 := by omega
          obtain ⟨j16, e16⟩ : ∃ j16, j16 = t - 16 := ⟨_, rfl⟩
          rw [← e16] at a16
          have i16 : (t : Int) - 16 = (j16 : Int) := by omega
          have n16 : (0 : Int) ≤ (j16 : Int) := by omega
          have m16 : (j16 : Int) < 64 := by omega
          have r2 : IntKind.i64.wrap (j2 : Int) = (j2 : Int) := IntWalk.i64_in _ (by omega)
          have r7 : IntKind.i64.wrap (j7 : Int) = (j7 : Int) := IntWalk.i64_in _ (by omega)
          have r15 : IntKind.i64.wrap (j15 : Int) = (j15 : Int) := IntWalk.i64_in _ (by omega)
          have r16 : IntKind.i64.wrap (j16 : Int) = (j16 : Int) := IntWalk.i64_in _ (by omega)
          have qt : ∀ o o', ((wr.alloc o).alloc o').cell? ⟨q, t, none⟩ = some (.int .u32 xt) := fun o o' => by rw [← at_]; exact (((Only.refl [] wr).alloc o).alloc o').cell (p := ⟨q, t, none⟩) (heap_lt hW) (by simp)
          have s2 : ∀ o o' v, (((wr.alloc o).alloc o').setCell ⟨q, t, none⟩ v).cell? ⟨q, j2, none⟩ = some (.int .u32 x2) := fun o o' v => by
            have h' := ((((Only.refl [] wr).alloc o).alloc o').keep hW (by simp))
            rw [Lib.cell_of_heap (heap_setCell_same _ q t _ _ v h'), Array.getElem?_setIfInBounds_ne (by omega)]
            rw [← a2, Lib.cell_of_heap hW]
          have s7 : ∀ o o' v, (((wr.alloc o).alloc o').setCell ⟨q, t, none⟩ v).cell? ⟨q, j7, none⟩ = some (.int .u32 x7) := fun o o' v => by
            have h' := ((((Only.refl [] wr).alloc o).alloc o').keep hW (by simp))
            rw [Lib.cell_of_heap (heap_setCell_same _ q t _ _ v h'), Array.getElem?_setIfInBounds_ne (by omega)]
            rw [← a7, Lib.cell_of_heap hW]
          have s15 : ∀ o o' v, (((wr.alloc o).alloc o').setCell ⟨q, t, none⟩ v).cell? ⟨q, j15, none⟩ = some (.int .u32 x15) := fun o o' v => by
            have h' := ((((Only.refl [] wr).alloc o).alloc o').keep hW (by simp))
            rw [Lib.cell_of_heap (heap_setCell_same _ q t _ _ v h'), Array.getElem?_setIfInBounds_ne (by omega)]
            rw [← a15, Lib.cell_of_heap hW]
          have s16 : ∀ o o' v, (((wr.alloc o).alloc o').setCell ⟨q, t, none⟩ v).cell? ⟨q, j16, none⟩ = some (.int .u32 x16) := fun o o' v => by
            have h' := ((((Only.refl [] wr).alloc o).alloc o').keep hW (by simp))
            rw [Lib.cell_of_heap (heap_setCell_same _ q t _ _ v h'), Array.getElem?_setIfInBounds_ne (by omega)]
            rw [← a16, Lib.cell_of_heap hW]
          have zq : ∀ o o', ((wr.alloc o).alloc o').frozen? ⟨q, t, none⟩ = false := fun o o' => Lib.frozen_of_heap (((Only.refl [] wr).alloc o).alloc o' |>.keep hW (by simp)) _
          have rt : IntKind.i64.wrap (t : Int) = (t : Int) := IntWalk.i64_in _ (by omega)
          have Htk := Lib.hid htk
          have HW := Lib.hid hW
          have HB := Lib.hid hB
          have HWd := Lib.hid hWd
          have hnx : nextW W t = nextX x2 x7 x15 x16 := by
            unfold nextW
            rw [htk]
            simp only [List.getD_eq_getElem?_getD, g2, g7, g15, g16, Option.getD_some]
          have Hnx := Lib.hid hnx
          have hfin : ∀ o o' v, v = nextX x2 x7 x15 x16 → WAt ((((wr.alloc o).alloc o').setCell ⟨q, t, none⟩ (.int .u32 v)).drew) q (schedW bl (k + 1)) := by
            intro o o' v hv
            have h' : WAt ((wr.alloc o).alloc o') q W := (((Only.refl [] wr).alloc o).alloc o').keep hW (by simp)
            have h2 := h'.set t v
            have e : schedW bl (k + 1) = W.set t v := by
              rw [hv, ← hnx, htk, hWd]; rfl
            rw [e]; exact h2
          have Hfin := Lib.hid hfin
          have hbel : ∀ o o' v, Below w.heap.size w ((((wr.alloc o).alloc o').setCell ⟨q, t, none⟩ v).drew) := by
            intro o o' v
            have h1 : Only [q] wr ((((wr.alloc o).alloc o').setCell ⟨q, t, none⟩ v).drew) := ((((Only.refl [q] wr).alloc o).alloc o').setCell (by simp) v).drew
            exact hB.trans (h1.below hB.size (by intro x hx; simp at hx; rw [hx, Hq.out]; exact Nat.le_refl _))
          have Hbel := Lib.hid hbel
          clear hfin hbel
          clear hW hB hWd htk g2 g7 g15 g16 gt hnx e2 e7 e15 e16
          go_upto_region 13 with fail
          go_region_held3 (fun w' => w'.cell? ⟨q, j2, none⟩ = some (.int .u32 x2) ∧ w'.cell? ⟨q, j7, none⟩ = some (.int .u32 x7) ∧ w'.cell? ⟨q, j15, none⟩ = some (.int .u32 x15) ∧ w'.cell? ⟨q, j16, none⟩ = some (.int .u32 x16)) (go_keep)
            (first
              | (go_at_call 112; (first | with_reducible refine (turn_a x2 _ _ ?_).mono ?_ | with_reducible refine (turn_b x15 _ _ ?_).mono ?_); (first | exact heap_alloc_new wr _ | exact heap_alloc2_new wr _ _ | exact heap_alloc2_old wr _ _); rintro e w' ⟨rfl, rfl⟩))
          all_goals
            go_wp2
            go_roundw
            case rel =>
              refine ⟨k + 1, by omega, ?_, Hfin.out _ _ _ ?_, Hbel.out _ _ _⟩
              · have := Htk.out
                rw [show (((16 + (k + 1) : Nat)) : Int) = (t : Int) + 1 by omega]
              · simp only [nextX, IntKind.wrap_u32']
            case measure => have := Htk.out; simp [intOf]; omega
        · have hk48' : k = 48 := by omega
          subst hk48'
          rw [show ((16 + 48 : Nat) : Int) = 64 from rfl]
          have HW := Lib.hid hW
          have HB := Lib.hid hB
          have hsz : (rowW (schedW bl 48)).size = 64 := by simp [rowW, schedW_length]
          have h1c : (rowW (schedW bl 48)).all (·.oneCell') = true := by
            rw [Array.all_eq_true_iff_forall_mem]
            intro v hv
            simp only [rowW, List.mem_toArray, List.mem_map] at hv
            obtain ⟨x, _, rfl⟩ := hv
            rfl
          obtain ⟨C, hC⟩ : ∃ C, C = rowW (schedW bl 48) := ⟨_, rfl⟩
          have hg : wr.heap[q]? = some (.cells C 133 (0, 0)) := by rw [hC]; exact hW
          rw [← hC] at hsz h1c
          have hst := store_rowP (P := Tryd.prog) hg rfl h1c
          have Hg := Lib.hid hg
          have HC := Lib.hid hC
          clear hW hB hC
          go_wp2_with (refine wpList_load_row rfl 133 _ rfl q rfl 133 _ (0, 0) _ Hg.out Tryd.underlying133 rfl (by rw [hsz]; kernel_rfl) ?_)
          (try simp only [Exit.inBlock, Exit.then])
          refine bodyPost_ret (results_cell_row rfl _ _ q 133 C (0, 0) _ rfl (setRow_heap _ _ _ _ _ _ Hg.out) Tryd.underlying133 rfl (by rw [hsz]; kernel_rfl)) rfl ?_
          refine ⟨by rw [HC.out], ?_⟩
          exact HB.out.trans (((Only.refl [q] wr).setRow (by simp) C).below HB.out.size (by intro x hx; simp at hx; rw [hx, Hq.out]; exact Nat.le_refl _))
end Go.Proofs.YtokdnfhglckpkaaDoor
