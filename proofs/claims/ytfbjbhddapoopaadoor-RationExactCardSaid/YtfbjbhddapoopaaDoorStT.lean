/-
  Layer 2's reference: the walk of block.
-/
import Derived.Test.YtfbjbhddapoopaaDoorStS
set_option linter.unusedVariables false
set_option linter.unusedSimpArgs false
namespace Go.Proofs.YtfbjbhddapoopaaDoor
open Go.RowKit
attribute [local go_sem] Lb.ba_get Lb.ba_cut Lb.ba_add Lb.ba_size Lb.take_rest

theorem roundsS_range (K W V : List Int) (hV : ∀ x ∈ V, R32 x) : ∀ k, ∀ x ∈ roundsS K W V k, R32 x
  | 0 => hV
  | k + 1 => by
    have ih := roundsS_range K W V hV k
    unfold roundsS
    intro x hx
    generalize roundsS K W V k = l at ih hx
    match l, ih, hx with
    | [a, b, c, d, e, f, g, h], ih, hx =>
      simp only [rstep, List.mem_cons, List.not_mem_nil, or_false] at hx
      rcases hx with rfl | rfl | rfl | rfl | rfl | rfl | rfl | rfl
      · exact R32.mod _
      · exact ih _ (by simp)
      · exact ih _ (by simp)
      · exact ih _ (by simp)
      · exact R32.mod _
      · exact ih _ (by simp)
      · exact ih _ (by simp)
      · exact ih _ (by simp)
    | [], ih, hx => exact ih x hx
    | [_], ih, hx => exact ih x hx
    | [_, _], ih, hx => exact ih x hx
    | [_, _, _], ih, hx => exact ih x hx
    | [_, _, _, _], ih, hx => exact ih x hx
    | [_, _, _, _, _], ih, hx => exact ih x hx
    | [_, _, _, _, _, _], ih, hx => exact ih x hx
    | [_, _, _, _, _, _, _], ih, hx => exact ih x hx
    | _ :: _ :: _ :: _ :: _ :: _ :: _ :: _ :: _ :: _, ih, hx => exact ih x hx

set_option maxHeartbeats 6000000 in
set_option maxRecDepth 100000 in
theorem block_any (v0 v1 v2 v3 v4 v5 v6 v7 : Int) (K : List Int) (bl : List UInt8) (w : World) (hK : K.length = 64) (hbl : bl.length = 64) (hr : ∀ x ∈ [v0, v1, v2, v3, v4, v5, v6, v7], R32 x) :
    Calls Tryd.prog 130 #[.agg (rowW [v0, v1, v2, v3, v4, v5, v6, v7]), .agg (rowW K), .string ⟨bl.toArray⟩] w fun e w' => e = .returned (.agg (rowW (mixS K bl [v0, v1, v2, v3, v4, v5, v6, v7]))) ∧ Below w.heap.size w w' := by
  obtain ⟨V, hV⟩ : ∃ V, V = [v0, v1, v2, v3, v4, v5, v6, v7] := ⟨_, rfl⟩
  rw [← hV] at hr ⊢
  obtain ⟨RV, hRV⟩ : ∃ R, R = rowW V := ⟨_, rfl⟩
  obtain ⟨RK, hRK⟩ : ∃ R, R = rowW K := ⟨_, rfl⟩
  rw [← hRV, ← hRK]
  have HV := Lib.hid hV
  have HRV := Lib.hid hRV
  have HRK := Lib.hid hRK
  have HK := Lib.hid hK
  have Hr := Lib.hid hr
  have Hbl := Lib.hid hbl
  clear hV hRV hRK hK hr
  go_enter Tryd.func130, Tryd.ntmps130
  go_upto_region 1 with fail
  obtain ⟨b, hb⟩ : ∃ b, b = w.heap.size := ⟨_, rfl⟩
  obtain ⟨b1, hb1⟩ : ∃ b, b = w.heap.size + 1 := ⟨_, rfl⟩
  obtain ⟨b2, hb2⟩ : ∃ b, b = w.heap.size + 1 + 1 := ⟨_, rfl⟩
  have h0 : (((w.alloc (.cells RV 180)).alloc (.cells RK 204)).alloc (.cells (rowW (List.replicate 8 0)) 180)).heap[b]? = some (.cells RV 180 (0, 0)) := by
    rw [hb]; exact (Below.heap_alloc _ _ _ (by simp; omega)).trans ((Below.heap_alloc _ _ _ (by simp)).trans (heap_alloc_new w _))
  have h1 : (((w.alloc (.cells RV 180)).alloc (.cells RK 204)).alloc (.cells (rowW (List.replicate 8 0)) 180)).heap[b1]? = some (.cells RK 204 (0, 0)) := by
    rw [hb1]; exact (Below.heap_alloc _ _ _ (by simp)).trans (heap_alloc2_new w _ _)
  have h2 : (((w.alloc (.cells RV 180)).alloc (.cells RK 204)).alloc (.cells (rowW (List.replicate 8 0)) 180)).heap[b2]? = some (.cells (rowW (List.replicate 8 0)) 180 (0, 0)) := by
    rw [hb2]; have := heap_alloc_new ((w.alloc (.cells RV 180)).alloc (.cells RK 204)) (.cells (rowW (List.replicate 8 0)) 180); simpa using this
  have o1 : Only [] w (((w.alloc (.cells RV 180)).alloc (.cells RK 204)).alloc (.cells (rowW (List.replicate 8 0)) 180)) := (((Only.refl [] w).alloc _).alloc _).alloc _
  show Code.wp _ _ _ _ (((w.alloc (.cells RV 180)).alloc (.cells RK 204)).alloc (.cells (rowW (List.replicate 8 0)) 180))
  obtain ⟨w1, hw1⟩ : ∃ w1, w1 = ((w.alloc (.cells RV 180)).alloc (.cells RK 204)).alloc (.cells (rowW (List.replicate 8 0)) 180) := ⟨_, rfl⟩
  rw [← hw1] at h0 h1 h2 o1 ⊢
  rw [← hb2, ← hb1, ← hb]
  have hl0 := heap_lt h0
  have hl1 := heap_lt h1
  have hl2 := heap_lt h2
  have H0 := Lib.hid h0
  have H1 := Lib.hid h1
  have H2 := Lib.hid h2
  have O1 := Lib.hid o1
  have Hb := Lib.hid hb
  have Hb1 := Lib.hid hb1
  have Hb2 := Lib.hid hb2
  clear hw1 h0 h1 h2 o1 hb hb1 hb2
  obtain ⟨Z, hZ⟩ : ∃ Z, Z = rowW (List.replicate 64 0) := ⟨_, rfl⟩
  have hZs : Z.size = 64 := by rw [hZ]; rfl
  have hZ1 : Z.all (·.oneCell') = true := by rw [hZ]; exact rowW_one _
  have HZ := Lib.hid hZ
  clear hZ
  go_upto_region 2 with (first
    | (refine wpList_build rfl 204 _ rfl (by kernel_rfl) ?_; rw [show (Option.getD (Program.built _ _ _) _) = rowW (List.replicate 64 0) from (by kernel_rfl), ← HZ.out])
    | (refine wpList_store_row rfl 204 _ _ rfl w1.heap.size Z rfl rfl 204 _ (heap_alloc_new w1 _) (by rw [hZs]; kernel_rfl) (by rw [hZs]; rfl) hZ1 ?_))
  show Code.wp _ _ _ _ ((w1.alloc (.cells (rowW (List.replicate 64 0)) 204)).setRow w1.heap.size Z)
  obtain ⟨q, hq⟩ : ∃ q, q = w1.heap.size := ⟨_, rfl⟩
  have h3 : WAt ((w1.alloc (.cells (rowW (List.replicate 64 0)) 204)).setRow w1.heap.size Z) q (firstW bl 0) := by
    rw [hq, HZ.out]; exact setRow_heap _ _ _ _ _ _ (heap_alloc_new w1 _)
  have o3 : Only [q] w1 ((w1.alloc (.cells (rowW (List.replicate 64 0)) 204)).setRow w1.heap.size Z) := ((Only.refl [q] w1).alloc _).setRow (by simp [hq]) Z
  obtain ⟨w2, hw2⟩ : ∃ w2, w2 = (w1.alloc (.cells (rowW (List.replicate 64 0)) 204)).setRow w1.heap.size Z := ⟨_, rfl⟩
  rw [← hw2] at h3 o3 ⊢
  rw [← hq]
  have H3 := Lib.hid h3
  have O3 := Lib.hid o3
  have Hq := Lib.hid hq
  clear hw2 h3 o3 hq hZs hZ1
  go_wp2_with fail
  go_loopw [8] (fun p wr => ∃ t : Nat, t ≤ 16 ∧ p = .int .i64 t ∧ WAt wr q (firstW bl t) ∧ Only [q] w1 wr) (fun p _ => 16 - (intOf p).toNat)
  case atStart => exact ⟨0, by omega, rfl, H3.out, O3.out⟩
  case round =>
    clear H3 O3
    obtain ⟨t, ht, rfl, hW, hO⟩ := hrel
    by_cases ht16 : t < 16
    · have t0 : (0 : Int) ≤ (t : Int) := by omega
      have t1 : (t : Int) < 16 := by omega
      obtain ⟨a0, ha0⟩ : ∃ a0, a0 = 4 * t := ⟨_, rfl⟩
      have hb64 : (bl.length : Int) = 64 := by omega
      have e0 : (4 : Int) * (t : Int) = (a0 : Int) := by omega
      have w0_ : IntKind.i64.wrap ((4 : Int) * (t : Int)) = (a0 : Int) := by rw [IntWalk.i64_in _ (by omega)]; exact e0
      have p0 : (0 : Int) ≤ (a0 : Int) := by omega
      have p1 : (a0 : Int) ≤ 60 := by omega
      obtain ⟨a1, ha1⟩ : ∃ a1, a1 = a0 + 1 := ⟨_, rfl⟩
      obtain ⟨a2, ha2⟩ : ∃ a2, a2 = a0 + 2 := ⟨_, rfl⟩
      obtain ⟨a3, ha3⟩ : ∃ a3, a3 = a0 + 3 := ⟨_, rfl⟩
      have e1 : (a0 : Int) + 1 = (a1 : Int) := by omega
      have e2 : (a0 : Int) + 2 = (a2 : Int) := by omega
      have e3 : (a0 : Int) + 3 = (a3 : Int) := by omega
      have x0 : IntKind.i64.wrap (a0 : Int) = (a0 : Int) := IntWalk.i64_in _ (by omega)
      have x1 : IntKind.i64.wrap (a1 : Int) = (a1 : Int) := IntWalk.i64_in _ (by omega)
      have x2 : IntKind.i64.wrap (a2 : Int) = (a2 : Int) := IntWalk.i64_in _ (by omega)
      have x3 : IntKind.i64.wrap (a3 : Int) = (a3 : Int) := IntWalk.i64_in _ (by omega)
      have y1 : (0 : Int) ≤ (a1 : Int) := by omega
      have y2 : (0 : Int) ≤ (a2 : Int) := by omega
      have y3 : (0 : Int) ≤ (a3 : Int) := by omega
      have z0 : (a0 : Int) < 64 := by omega
      have z1 : (a1 : Int) < 64 := by omega
      have z2 : (a2 : Int) < 64 := by omega
      have z3 : (a3 : Int) < 64 := by omega
      obtain ⟨c0, hc0⟩ : ∃ c, c = bl[a0]'(by omega) := ⟨_, rfl⟩
      obtain ⟨c1, hc1⟩ : ∃ c, c = bl[a1]'(by omega) := ⟨_, rfl⟩
      obtain ⟨c2, hc2⟩ : ∃ c, c = bl[a2]'(by omega) := ⟨_, rfl⟩
      obtain ⟨c3, hc3⟩ : ∃ c, c = bl[a3]'(by omega) := ⟨_, rfl⟩
      have g0 : ∀ h, bl[a0]'h = c0 := fun _ => hc0.symm
      have g1 : ∀ h, bl[a1]'h = c1 := fun _ => hc1.symm
      have g2 : ∀ h, bl[a2]'h = c2 := fun _ => hc2.symm
      have g3 : ∀ h, bl[a3]'h = c3 := fun _ => hc3.symm
      have hword : wordOf [c0, c1, c2, c3] = wordOf ((bl.drop (4 * t)).take 4) := by
        congr 1
        apply List.ext_getElem
        · simp; omega
        · intro i h1 h2
          have hi : i = 0 ∨ i = 1 ∨ i = 2 ∨ i = 3 := by simp at h1; omega
          rcases hi with rfl | rfl | rfl | rfl
          · simp [hc0, ha0]
          · simp [hc1, ha1, ha0]
          · simp [hc2, ha2, ha0]
          · simp [hc3, ha3, ha0]
      have h4 := word4 c0 c1 c2 c3
      have Hword := Lib.hid hword
      have H4 := Lib.hid h4
      clear hword h4 hc0 hc1 hc2 hc3 ha1 ha2 ha3
      have hW1 := Lib.hid hW
      have HO := Lib.hid hO
      have zq : wr.frozen? ⟨q, t, none⟩ = false := Lib.frozen_of_heap hW _
      have cq : wr.cell? ⟨q, t, none⟩ = some (.int .u32 0) := hW.cell t (firstW_at bl t (by omega))
      have Ha0 := Lib.hid ha0
      clear hW hO ha0
      go_upto_region 5 with fail
      go_region
      have m0 : ((c0.toNat : Nat) : Int) % 4294967296 = ((c0.toNat : Nat) : Int) := by have := c0.toNat_lt; omega
      have m1 : ((c1.toNat : Nat) : Int) % 4294967296 = ((c1.toNat : Nat) : Int) := by have := c1.toNat_lt; omega
      have m2 : ((c2.toNat : Nat) : Int) % 4294967296 = ((c2.toNat : Nat) : Int) := by have := c2.toNat_lt; omega
      have m3 : ((c3.toNat : Nat) : Int) % 4294967296 = ((c3.toNat : Nat) : Int) := by have := c3.toNat_lt; omega
      simp only [m0, m1, m2, m3, H4.out]
      obtain ⟨x, hx⟩ : ∃ x, x = wordOf [c0, c1, c2, c3] := ⟨_, rfl⟩
      rw [← hx]
      have hWn : WAt (wr.setCell ⟨q, t, none⟩ (.int .u32 x)) q (firstW bl (t + 1)) := by
        rw [← firstW_succ bl t (by omega), ← Hword.out, ← hx]; exact hW1.out.set t x
      have HWn := Lib.hid hWn
      have HOn := Lib.hid (((HO.out.setCell (p := ⟨q, t, none⟩) (by simp) (.int .u32 x))).drew)
      clear hWn hx g0 g1 g2 g3 m0 m1 m2 m3
      go_wp2_with fail
      go_roundw
      case rel => exact ⟨t + 1, by omega, by go_num, HWn.out, HOn.out⟩
      case measure => simp [intOf]; omega
    · have ht' : t = 16 := by omega
      subst ht'
      rw [show ((16 : Nat) : Int) = 16 from rfl]
      have HW := Lib.hid hW
      have HO := Lib.hid hO
      clear hW hO ht
      go_wp2_with fail
      go_loopw [9] (fun p wr => ∃ k : Nat, k ≤ 48 ∧ p = .int .i64 (16 + k : Nat) ∧ WAt wr q (schedW bl k) ∧ Only [q] w1 wr) (fun p _ => 64 - (intOf p).toNat)
      case atStart => exact ⟨0, by omega, rfl, HW.out, HO.out⟩
      case round =>
        clear HW HO
        obtain ⟨k, hk, rfl, hW, hO⟩ := hrel
        by_cases hk48 : k < 48
        · have hlen := schedW_length bl k
          obtain ⟨W, hWd⟩ : ∃ W, W = schedW bl k := ⟨_, rfl⟩
          have hrng : ∀ x ∈ W, R32 x := by rw [hWd]; exact schedW_range bl k
          rw [← hWd] at hlen hW
          obtain ⟨x2, g2⟩ : ∃ x2, W[16 + k - 2]? = some x2 := ⟨_, List.getElem?_eq_getElem (by omega)⟩
          obtain ⟨x7, g7⟩ : ∃ x7, W[16 + k - 7]? = some x7 := ⟨_, List.getElem?_eq_getElem (by omega)⟩
          obtain ⟨x15, g15⟩ : ∃ x15, W[16 + k - 15]? = some x15 := ⟨_, List.getElem?_eq_getElem (by omega)⟩
          obtain ⟨x16, g16⟩ : ∃ x16, W[16 + k - 16]? = some x16 := ⟨_, List.getElem?_eq_getElem (by omega)⟩
          obtain ⟨xt, gt⟩ : ∃ xt, W[16 + k]? = some xt := ⟨_, List.getElem?_eq_getElem (by omega)⟩
          have r2 : R32 x2 := hrng _ (List.mem_of_getElem? g2)
          have r15 : R32 x15 := hrng _ (List.mem_of_getElem? g15)
          have a2 := hW.cell _ g2
          have a7 := hW.cell _ g7
          have a15 := hW.cell _ g15
          have a16 := hW.cell _ g16
          have at_ := hW.cell (16 + k) gt
          have zt : wr.frozen? ⟨q, 16 + k, none⟩ = false := Lib.frozen_of_heap hW _
          have hnx : nextW W (16 + k) = nextX x2 x7 x15 x16 := by
            unfold nextW
            simp only [List.getD_eq_getElem?_getD, g2, g7, g15, g16, Option.getD_some]
          have hnx2 : nextX x2 x7 x15 x16 = (((bits .xor .u32 (bits .xor .u32 (rotr x2 17) (rotr x2 19)) (x2 / 1024) + x7) % 4294967296 + bits .xor .u32 (bits .xor .u32 (rotr x15 7) (rotr x15 18)) (x15 / 8)) % 4294967296 + x16) % 4294967296 := by
            unfold nextX
            rw [turned_two r2, turned_two r15]
          obtain ⟨t, htk⟩ : ∃ t, t = 16 + k := ⟨_, rfl⟩
          rw [← htk] at a2 a7 a15 a16 at_ zt hnx ⊢
          have t0 : (16 : Int) ≤ (t : Int) := by omega
          have t1 : (t : Int) < 64 := by omega
          obtain ⟨j2, e2⟩ : ∃ j2, j2 = t - 2 := ⟨_, rfl⟩
          rw [← e2] at a2
          obtain ⟨j7, e7⟩ : ∃ j7, j7 = t - 7 := ⟨_, rfl⟩
          rw [← e7] at a7
          obtain ⟨j15, e15⟩ : ∃ j15, j15 = t - 15 := ⟨_, rfl⟩
          rw [← e15] at a15
          obtain ⟨j16, e16⟩ : ∃ j16, j16 = t - 16 := ⟨_, rfl⟩
          rw [← e16] at a16
          have i2 : (t : Int) - 2 = (j2 : Int) := by omega
          have i7 : (t : Int) - 7 = (j7 : Int) := by omega
          have i15 : (t : Int) - 15 = (j15 : Int) := by omega
          have i16 : (t : Int) - 16 = (j16 : Int) := by omega
          have q2 : IntKind.i64.wrap (j2 : Int) = (j2 : Int) := IntWalk.i64_in _ (by omega)
          have q7 : IntKind.i64.wrap (j7 : Int) = (j7 : Int) := IntWalk.i64_in _ (by omega)
          have q15 : IntKind.i64.wrap (j15 : Int) = (j15 : Int) := IntWalk.i64_in _ (by omega)
          have q16 : IntKind.i64.wrap (j16 : Int) = (j16 : Int) := IntWalk.i64_in _ (by omega)
          have qt : IntKind.i64.wrap (t : Int) = (t : Int) := IntWalk.i64_in _ (by omega)
          have n2 : (0 : Int) ≤ (j2 : Int) := by omega
          have n7 : (0 : Int) ≤ (j7 : Int) := by omega
          have n15 : (0 : Int) ≤ (j15 : Int) := by omega
          have n16 : (0 : Int) ≤ (j16 : Int) := by omega
          have l2 : (j2 : Int) < 64 := by omega
          have l7 : (j7 : Int) < 64 := by omega
          have l15 : (j15 : Int) < 64 := by omega
          have l16 : (j16 : Int) < 64 := by omega
          have Htk := Lib.hid htk
          have HW := Lib.hid hW
          have HO := Lib.hid hO
          have HWd := Lib.hid hWd
          have Hnx := Lib.hid hnx
          have Hnx2 := Lib.hid hnx2
          have H17 := Lib.hid (fun w => rturn_lit x2 17 17 rfl w r2 (by decide) (by decide))
          have H19 := Lib.hid (fun w => rturn_lit x2 19 19 rfl w r2 (by decide) (by decide))
          have H7 := Lib.hid (fun w => rturn_lit x15 7 7 rfl w r15 (by decide) (by decide))
          have H18 := Lib.hid (fun w => rturn_lit x15 18 18 rfl w r15 (by decide) (by decide))
          clear hW hO hWd htk g2 g7 g15 g16 gt hnx hnx2 e2 e7 e15 e16 hlen hrng r2 r15
          go_upto_region 11 with fail
          have st7 : ∀ v, (wr.setCell ⟨q, t, none⟩ v).cell? ⟨q, j7, none⟩ = some (.int .u32 x7) := fun v => by
            rw [World.cell?_setCell_other wr _ _ _ (by intro e; injection e with _ e2; omega)]; exact a7
          have st16 : ∀ v, (wr.setCell ⟨q, t, none⟩ v).cell? ⟨q, j16, none⟩ = some (.int .u32 x16) := fun v => by
            rw [World.cell?_setCell_other wr _ _ _ (by intro e; injection e with _ e2; omega)]; exact a16
          have hfin : ∀ nd v, v = nextX x2 x7 x15 x16 → WAt ((wr.drewN nd).setCell ⟨q, t, none⟩ (.int .u32 v)) q (schedW bl (k + 1)) := fun nd v hv => by
            have h1 : WAt (wr.drewN nd) q W := HW.out
            have h2 := h1.set t v
            have e : schedW bl (k + 1) = W.set t v := by
              rw [hv, ← Hnx.out, Htk.out, HWd.out]; rfl
            rw [e]; exact h2
          have honl : ∀ nd v, Only [q] w1 ((wr.drewN nd).setCell ⟨q, t, none⟩ v) := fun nd v => (HO.out.drewN nd).setCell (by simp) v
          have Hfin := Lib.hid hfin
          have Honl := Lib.hid honl
          clear hfin honl
          go_region_held3 (fun w' => w'.cell? ⟨q, j7, none⟩ = some (.int .u32 x7) ∧ w'.cell? ⟨q, j16, none⟩ = some (.int .u32 x16))
            (first | exact ⟨a7, a16⟩ | exact ⟨st7 _, st16 _⟩)
            (first
              | ((go_at_call 150; first | (with_reducible refine (H17.out _).mono ?_) | (with_reducible refine (H19.out _).mono ?_) | (with_reducible refine (H7.out _).mono ?_) | (with_reducible refine (H18.out _).mono ?_)); rintro e w' ⟨rfl, k', rfl⟩))
          go_wp2_with fail
          go_roundw
          case rel =>
            refine ⟨k + 1, by omega, ?_, Hfin.out _ _ ?_, Honl.out _ _⟩
            · have := Htk.out
              rw [show (((16 + (k + 1) : Nat)) : Int) = (t : Int) + 1 by omega]
            · rw [Hnx2.out]
              try simp only [IntKind.wrap_u32']
          case measure => have := Htk.out; simp [intOf]; omega
        · have hk48' : k = 48 := by omega
          subst hk48'
          rw [show ((16 + 48 : Nat) : Int) = 64 from rfl]
          have hWs := schedW_length bl 48
          obtain ⟨Ws, hWsd⟩ : ∃ Ws, Ws = schedW bl 48 := ⟨_, rfl⟩
          have hWr : ∀ x ∈ Ws, R32 x := by rw [hWsd]; exact schedW_range bl 48
          rw [← hWsd] at hW hWs
          have hS : wr.heap[b]? = some (.cells RV 180 (0, 0)) := hO.keep H0.out (by have := Hq.out; simp; omega)
          have hRVs : RV.size = 8 := by rw [HRV.out, HV.out]; rfl
          have hRV1 : RV.all (·.oneCell') = true := by rw [HRV.out]; exact rowW_one V
          have HW := Lib.hid hW
          have HO := Lib.hid hO
          have HS := Lib.hid hS
          have HWsd := Lib.hid hWsd
          clear hW hO hS hWsd
          go_upto_region 13 with (first
            | (refine wpList_load_row rfl 180 _ rfl b rfl 180 _ (0, 0) _ HS.out Tryd.underlying180 rfl (by rw [hRVs]; kernel_rfl) ?_)
            | (refine wpList_store_row rfl 180 _ _ rfl wr.heap.size RV rfl rfl 180 _ (heap_alloc_new wr _) (by rw [hRVs]; kernel_rfl) (by rw [hRVs]; rfl) hRV1 ?_))
          show Code.wp _ _ _ _ ((wr.alloc (.cells (rowW (List.replicate 8 0)) 180)).setRow wr.heap.size RV)
          obtain ⟨p, hp⟩ : ∃ p, p = wr.heap.size := ⟨_, rfl⟩
          have h5 := setRow_heap _ _ _ RV _ _ (heap_alloc_new wr (.cells (rowW (List.replicate 8 0)) 180))
          have o5 : Only [p] wr ((wr.alloc (.cells (rowW (List.replicate 8 0)) 180)).setRow wr.heap.size RV) := ((Only.refl [p] wr).alloc _).setRow (by simp [hp]) RV
          obtain ⟨w5, hw5⟩ : ∃ w5, w5 = (wr.alloc (.cells (rowW (List.replicate 8 0)) 180)).setRow wr.heap.size RV := ⟨_, rfl⟩
          rw [← hw5] at h5 o5 ⊢
          rw [← hp] at h5 ⊢
          have hqr := heap_lt HW.out
          have hbr := heap_lt HS.out
          have H5 : Hid (w5.heap[p]? = some (.cells (eightV v0 v1 v2 v3 v4 v5 v6 v7) 180 (0, 0))) := Lib.hid (by rw [h5, HRV.out, HV.out]; rfl)
          have HW5 : Hid (WAt w5 q Ws) := Lib.hid (o5.keep HW.out (by simp; omega))
          have HS5 : Hid (w5.heap[b]? = some (.cells RV 180 (0, 0))) := Lib.hid (o5.keep HS.out (by simp; omega))
          have HK5 : Hid (w5.heap[b1]? = some (.cells RK 204 (0, 0))) := Lib.hid (o5.keep (HO.out.keep H1.out (by have := Hq.out; simp; omega)) (by have := Hq.out; have := HO.out.size; simp; omega))
          have H25 : Hid (w5.heap[b2]? = some (.cells (rowW (List.replicate 8 0)) 180 (0, 0))) := Lib.hid (o5.keep (HO.out.keep H2.out (by have := Hq.out; simp; omega)) (by have := Hq.out; have := HO.out.size; simp; omega))
          have HO5 : Hid (Only [q, p] w1 w5) := Lib.hid ((HO.out.mono (by simp)).trans (o5.mono (by simp)))
          have hpq : q < p := by omega
          have hpb : b < p := by omega
          have hpb1 : b1 < p := by have := HO.out.size; omega
          have hpb2 : b2 < p := by have := HO.out.size; omega
          have HWs := Lib.hid hWs
          have HVr : Hid (∀ x ∈ V, R32 x) := Hr
          clear hw5 h5 o5 hp hWs hWr HW HS HO H1 H2 H0 hRVs hRV1
          go_wp2_with fail
          go_loopw [13] (fun c wr => ∃ (k : Nat) (a b' c' d e f g h : Int), k ≤ 64 ∧ c = .int .i64 k ∧ roundsS K Ws V k = [a, b', c', d, e, f, g, h] ∧ wr.heap[p]? = some (.cells (eightV a b' c' d e f g h) 180 (0, 0)) ∧ Only [p] w5 wr) (fun c _ => 64 - (intOf c).toNat)
          case atStart => exact ⟨0, v0, v1, v2, v3, v4, v5, v6, v7, by omega, rfl, HV.out, H5.out, Only.refl _ _⟩
          case round =>
            clear H5
            obtain ⟨k, a, b', c', d, e, f, g, y, hk, rfl, hR, hP, ho⟩ := hrel
            have d0 : wr.cell? ⟨p, 0, none⟩ = some (.int .u32 a) := by rw [Lib.cell_of_heap hP]; rfl
            have d1 : wr.cell? ⟨p, 1, none⟩ = some (.int .u32 b') := by rw [Lib.cell_of_heap hP]; rfl
            have d2 : wr.cell? ⟨p, 2, none⟩ = some (.int .u32 c') := by rw [Lib.cell_of_heap hP]; rfl
            have d3 : wr.cell? ⟨p, 3, none⟩ = some (.int .u32 d) := by rw [Lib.cell_of_heap hP]; rfl
            have d4 : wr.cell? ⟨p, 4, none⟩ = some (.int .u32 e) := by rw [Lib.cell_of_heap hP]; rfl
            have d5 : wr.cell? ⟨p, 5, none⟩ = some (.int .u32 f) := by rw [Lib.cell_of_heap hP]; rfl
            have d6 : wr.cell? ⟨p, 6, none⟩ = some (.int .u32 g) := by rw [Lib.cell_of_heap hP]; rfl
            have d7 : wr.cell? ⟨p, 7, none⟩ = some (.int .u32 y) := by rw [Lib.cell_of_heap hP]; rfl
            have hrng := roundsS_range K Ws V HVr.out k
            rw [hR] at hrng
            have ra : R32 a := hrng a (by simp)
            have re_ : R32 e := hrng e (by simp)
            by_cases hk64 : k < 64
            · obtain ⟨x, hx⟩ : ∃ x, Ws[k]? = some x := ⟨_, List.getElem?_eq_getElem (by rw [HWs.out]; exact hk64)⟩
              obtain ⟨kk, hkk⟩ : ∃ kk, K[k]? = some kk := ⟨_, List.getElem?_eq_getElem (by rw [HK.out]; exact hk64)⟩
              have hWk : WAt wr q Ws := ho.keep HW5.out (by simp; omega)
              have dx : wr.cell? ⟨q, k, none⟩ = some (.int .u32 x) := hWk.cell k hx
              have dk : wr.cell? ⟨b1, k, none⟩ = some (.int .u32 kk) := by rw [Lib.cell_of_heap (ho.keep HK5.out (by simp; omega)), HRK.out]; exact rowW_get hkk
              have k0 : (0 : Int) ≤ (k : Int) := by omega
              have k1 : (k : Int) < 64 := by omega
              have hnext : roundsS K Ws V (k + 1) = [(t1S e f g y kk x + t2S a b' c') % 4294967296, a, b', c', (d + t1S e f g y kk x) % 4294967296, e, f, g] := by
                unfold roundsS
                rw [hR]
                simp only [List.getD_eq_getElem?_getD, hx, hkk, Option.getD_some, rstep]
              have ht1 : t1S e f g y kk x = ((y + bits .xor .u32 (bits .xor .u32 (rotr e 6) (rotr e 11)) (rotr e 25) + bits .xor .u32 (bits .and .u32 e f) (bits .and .u32 (bits .xor .u32 (if IntKind.u32.signed = true then -1 else IntKind.u32.max) e) g) + kk) % 4294967296 + x) % 4294967296 := by
                unfold t1S
                rw [turned_three re_]
                simp only [IntKind.wrap_u32']
                show _ = ((y + bits .xor .u32 (bits .xor .u32 (rotr e 6) (rotr e 11)) (rotr e 25) + bits .xor .u32 (bits .and .u32 e f) (bits .and .u32 (bits .xor .u32 IntKind.u32.max e) g) + kk) % 4294967296 + x) % 4294967296
                omega
              have ht2 : t2S a b' c' = (bits .xor .u32 (bits .xor .u32 (rotr a 2) (rotr a 13)) (rotr a 22) + bits .xor .u32 (bits .xor .u32 (bits .and .u32 a b') (bits .and .u32 a c')) (bits .and .u32 b' c')) % 4294967296 := by
                unfold t2S; rw [turned_three ra]; simp only [IntKind.wrap_u32']
              have Hnext := Lib.hid hnext
              have Ht1 := Lib.hid ht1
              have Ht2 := Lib.hid ht2
              have E6 := Lib.hid (fun w => rturn_lit e 6 6 rfl w re_ (by decide) (by decide))
              have E11 := Lib.hid (fun w => rturn_lit e 11 11 rfl w re_ (by decide) (by decide))
              have E25 := Lib.hid (fun w => rturn_lit e 25 25 rfl w re_ (by decide) (by decide))
              have A2 := Lib.hid (fun w => rturn_lit a 2 2 rfl w ra (by decide) (by decide))
              have A13 := Lib.hid (fun w => rturn_lit a 13 13 rfl w ra (by decide) (by decide))
              have A22 := Lib.hid (fun w => rturn_lit a 22 22 rfl w ra (by decide) (by decide))
              have HP := Lib.hid hP
              have Ho := Lib.hid ho
              clear hnext ht1 ht2 hR hP ho hx hkk hWk hrng ra re_
              go_upto_region 18 with fail
              go_quiet (first | (go_at_call 150; first | (with_reducible exact Calls.quiet_of (E6.out _)) | (with_reducible exact Calls.quiet_of (E11.out _)) | (with_reducible exact Calls.quiet_of (E25.out _))))
              go_upto_region 19 with fail
              obtain ⟨w6, hw6⟩ : ∃ w6, w6 = wr.drewN nq := ⟨_, rfl⟩
              have hP6 : w6.heap[p]? = some (.cells (eightV a b' c' d e f g y) 180 (0, 0)) := by rw [hw6]; exact HP.out
              have ho6 : Only [p] w5 w6 := by rw [hw6]; exact Ho.out.drewN _
              rw [← hw6]
              clear hw6 d0 d1 d2 d3 d4 d5 d6 d7 dx dk
              have d0 : w6.cell? ⟨p, 0, none⟩ = some (.int .u32 a) := by rw [Lib.cell_of_heap hP6]; rfl
              have d1 : w6.cell? ⟨p, 1, none⟩ = some (.int .u32 b') := by rw [Lib.cell_of_heap hP6]; rfl
              have d2 : w6.cell? ⟨p, 2, none⟩ = some (.int .u32 c') := by rw [Lib.cell_of_heap hP6]; rfl
              have d3 : w6.cell? ⟨p, 3, none⟩ = some (.int .u32 d) := by rw [Lib.cell_of_heap hP6]; rfl
              have d4 : w6.cell? ⟨p, 4, none⟩ = some (.int .u32 e) := by rw [Lib.cell_of_heap hP6]; rfl
              have d5 : w6.cell? ⟨p, 5, none⟩ = some (.int .u32 f) := by rw [Lib.cell_of_heap hP6]; rfl
              have d6 : w6.cell? ⟨p, 6, none⟩ = some (.int .u32 g) := by rw [Lib.cell_of_heap hP6]; rfl
              have d7 : w6.cell? ⟨p, 7, none⟩ = some (.int .u32 y) := by rw [Lib.cell_of_heap hP6]; rfl
              have HP6 := Lib.hid hP6
              have HO6 := Lib.hid ho6
              clear hP6 ho6
              rw [← Ht1.out]
              obtain ⟨t1, ht1⟩ : ∃ t1, t1 = t1S e f g y kk x := ⟨_, rfl⟩
              rw [← ht1]
              have Hd1 := Lib.hid ht1
              clear ht1
              go_quiet (first | (go_at_call 150; first | (with_reducible exact Calls.quiet_of (A2.out _)) | (with_reducible exact Calls.quiet_of (A13.out _)) | (with_reducible exact Calls.quiet_of (A22.out _))))
              go_upto_region 20 with fail
              obtain ⟨w7, hw7⟩ : ∃ w7, w7 = w6.drewN nq := ⟨_, rfl⟩
              have hP7 : w7.heap[p]? = some (.cells (eightV a b' c' d e f g y) 180 (0, 0)) := by rw [hw7]; exact HP6.out
              have ho7 : Only [p] w5 w7 := by rw [hw7]; exact HO6.out.drewN _
              rw [← hw7]
              clear hw7 d0 d1 d2 d3 d4 d5 d6 d7
              have d0 : w7.cell? ⟨p, 0, none⟩ = some (.int .u32 a) := by rw [Lib.cell_of_heap hP7]; rfl
              have d1 : w7.cell? ⟨p, 1, none⟩ = some (.int .u32 b') := by rw [Lib.cell_of_heap hP7]; rfl
              have d2 : w7.cell? ⟨p, 2, none⟩ = some (.int .u32 c') := by rw [Lib.cell_of_heap hP7]; rfl
              have d3 : w7.cell? ⟨p, 3, none⟩ = some (.int .u32 d) := by rw [Lib.cell_of_heap hP7]; rfl
              have d4 : w7.cell? ⟨p, 4, none⟩ = some (.int .u32 e) := by rw [Lib.cell_of_heap hP7]; rfl
              have d5 : w7.cell? ⟨p, 5, none⟩ = some (.int .u32 f) := by rw [Lib.cell_of_heap hP7]; rfl
              have d6 : w7.cell? ⟨p, 6, none⟩ = some (.int .u32 g) := by rw [Lib.cell_of_heap hP7]; rfl
              have d7 : w7.cell? ⟨p, 7, none⟩ = some (.int .u32 y) := by rw [Lib.cell_of_heap hP7]; rfl
              have HP7 := Lib.hid hP7
              have HO7 := Lib.hid ho7
              clear hP7 ho7
              rw [← Ht2.out]
              obtain ⟨t2, ht2⟩ : ∃ t2, t2 = t2S a b' c' := ⟨_, rfl⟩
              rw [← ht2]
              have Hd2 := Lib.hid ht2
              obtain ⟨s0, hs0⟩ : ∃ s0, s0 = (t1 + t2) % 4294967296 := ⟨_, rfl⟩
              obtain ⟨s4, hs4⟩ : ∃ s4, s4 = (d + t1) % 4294967296 := ⟨_, rfl⟩
              have s0w : IntKind.u32.wrap (t1 + t2) = s0 := by rw [hs0]; exact IntKind.wrap_u32' _
              have s4w : IntKind.u32.wrap (d + t1) = s4 := by rw [hs4]; exact IntKind.wrap_u32' _
              have s0e : (t1 + t2) % 4294967296 = s0 := hs0.symm
              have s4e : (d + t1) % 4294967296 = s4 := hs4.symm
              have HP8 : Hid ((w7.setRow p (eightV s0 a b' c' s4 e f g)).heap[p]? = some (.cells (eightV s0 a b' c' s4 e f g) 180 (0, 0))) := Lib.hid (setRow_heap _ _ _ _ _ _ HP7.out)
              have HO8 : Hid (Only [p] w5 (w7.setRow p (eightV s0 a b' c' s4 e f g))) := Lib.hid (HO7.out.setRow (by simp) _)
              have HR8 : Hid (roundsS K Ws V (k + 1) = [s0, a, b', c', s4, e, f, g]) := Lib.hid (by rw [Hnext.out, ← Hd1.out, ← Hd2.out, s0e, s4e])
              clear ht2 hs0 hs4 Hnext
              go_upto_region 15 with (refine wpList_store_row rfl 180 _ _ rfl p _ rfl rfl 180 _ HP7.out (by kernel_rfl) (by rfl) (by kernel_rfl) ?_)
              show Code.wp _ _ _ _ (w7.setRow p (eightV s0 a b' c' s4 e f g))
              obtain ⟨w8, hw8⟩ : ∃ w8, w8 = w7.setRow p (eightV s0 a b' c' s4 e f g) := ⟨_, rfl⟩
              rw [← hw8] at HP8 HO8 ⊢
              clear hw8
              go_wp2_with fail
              go_roundw
              case rel => exact ⟨k + 1, s0, a, b', c', s4, e, f, g, by omega, by go_num, HR8.out, HP8.out, HO8.out⟩
              case measure => simp [intOf]; omega
            · have hk64' : k = 64 := by omega
              subst hk64'
              rw [show ((64 : Nat) : Int) = 64 from rfl]
              obtain ⟨R, hRd⟩ : ∃ R, R = [a, b', c', d, e, f, g, y] := ⟨_, rfl⟩
              have hmix : mixS K bl V = addL V R 8 := by unfold mixS; rw [← HWsd.out, hR, hRd]
              have hS : wr.heap[b]? = some (.cells (rowW (addL V R 0)) 180 (0, 0)) := by
                rw [show addL V R 0 = V by rw [HV.out]; rfl, ← HRV.out]
                exact ho.keep HS5.out (by simp; omega)
              have hstep : ∀ i, i < 8 → (addL V R i).set i ((V.getD i 0 + R.getD i 0) % 4294967296) = addL V R (i + 1) ∧ (addL V R i)[i]? = some (V.getD i 0) ∧ (addL V R i).length = 8 := by
                intro i hi
                rw [HV.out, hRd]
                have hi8 : i = 0 ∨ i = 1 ∨ i = 2 ∨ i = 3 ∨ i = 4 ∨ i = 5 ∨ i = 6 ∨ i = 7 := by omega
                rcases hi8 with rfl | rfl | rfl | rfl | rfl | rfl | rfl | rfl <;> exact ⟨rfl, rfl, rfl⟩
              have hcq : ∀ i, i < 8 → (eightV a b' c' d e f g y)[i]? = some (.int .u32 (R.getD i 0)) := by
                intro i hi
                rw [hRd]
                have hi8 : i = 0 ∨ i = 1 ∨ i = 2 ∨ i = 3 ∨ i = 4 ∨ i = 5 ∨ i = 6 ∨ i = 7 := by omega
                rcases hi8 with rfl | rfl | rfl | rfl | rfl | rfl | rfl | rfl <;> rfl
              have Hstep := Lib.hid hstep
              have Hcq := Lib.hid hcq
              have Hmix := Lib.hid hmix
              have HS9 := Lib.hid hS
              have HP9 := Lib.hid hP
              have H29 : Hid (wr.heap[b2]? = some (.cells (rowW (List.replicate 8 0)) 180 (0, 0))) := Lib.hid (ho.keep H25.out (by simp; omega))
              have HO9 : Hid (Only [q, p] w1 wr) := Lib.hid (HO5.out.trans (ho.mono (by simp)))
              have hbb2 : b ≠ b2 := by have := Hb.out; have := Hb2.out; omega
              clear hstep hcq hmix hS hP ho hR hrng ra re_ d0 d1 d2 d3 d4 d5 d6 d7 hRd hk
              obtain ⟨w9, hw9⟩ : ∃ w9, w9 = wr := ⟨_, rfl⟩
              rw [← hw9] at HS9 HP9 H29 HO9 ⊢
              clear hw9
              go_wp2_with fail
              go_loopw [18] (fun c wr => ∃ i : Nat, i ≤ 8 ∧ c = .int .i64 i ∧ wr.heap[b]? = some (.cells (rowW (addL V R i)) 180 (0, 0)) ∧ Only [b] w9 wr) (fun c _ => 8 - (intOf c).toNat)
              case atStart => exact ⟨0, by omega, rfl, HS9.out, Only.refl _ _⟩
              case round =>
                clear HS9
                obtain ⟨i, hi, rfl, hB, ho⟩ := hrel
                by_cases hi8 : i < 8
                · obtain ⟨s1, s2, s3⟩ := Hstep.out i hi8
                  have hcv := Hcq.out i hi8
                  obtain ⟨x, hx⟩ : ∃ x, x = V.getD i 0 := ⟨_, rfl⟩
                  obtain ⟨r, hr'⟩ : ∃ r, r = R.getD i 0 := ⟨_, rfl⟩
                  rw [← hx, ← hr'] at s1
                  rw [← hx] at s2
                  rw [← hr'] at hcv
                  have a1 : wr.cell? ⟨b, i, none⟩ = some (.int .u32 x) := by rw [Lib.cell_of_heap hB]; exact rowW_get s2
                  have a2 : wr.cell? ⟨p, i, none⟩ = some (.int .u32 r) := by
                    rw [Lib.cell_of_heap (ho.keep HP9.out (by simp; omega))]; exact hcv
                  have z1 : wr.frozen? ⟨b, i, none⟩ = false := Lib.frozen_of_heap hB _
                  obtain ⟨y', hy'⟩ : ∃ y', y' = (x + r) % 4294967296 := ⟨_, rfl⟩
                  have yw : IntKind.u32.wrap (x + r) = y' := by rw [hy']; exact IntKind.wrap_u32' _
                  have ye : (x + r) % 4294967296 = y' := hy'.symm
                  rw [← hy'] at s1
                  have hBn : (wr.setCell ⟨b, i, none⟩ (.int .u32 y')).heap[b]? = some (.cells (rowW (addL V R (i + 1))) 180 (0, 0)) := by
                    refine (heap_setCell_same _ b i _ _ _ hB).trans ?_
                    rw [rowW_set, s1]
                  have HBn := Lib.hid hBn
                  have Ho := Lib.hid ho
                  have i0 : (0 : Int) ≤ (i : Int) := by omega
                  have i1 : (i : Int) < 8 := by omega
                  clear hBn hB ho s1 s2 s3 hcv hx hr' hy'
                  go_upto_region 24 with fail
                  go_region
                  go_wp2_with fail
                  go_roundw
                  case rel => exact ⟨i + 1, by omega, by go_num, HBn.out, (Ho.out.setCell (by simp) _).drew⟩
                  case measure => simp [intOf]; omega
                · have hi8' : i = 8 := by omega
                  subst hi8'
                  obtain ⟨C, hC⟩ : ∃ C, C = rowW (addL V R 8) := ⟨_, rfl⟩
                  rw [← hC] at hB
                  have hCs : C.size = 8 := by rw [hC]; simp [rowW, addL]
                  have hC1 : C.all (·.oneCell') = true := by rw [hC]; exact rowW_one _
                  have hinf8 : (Tryd.prog.info? 180).map (·.size) = some C.size := by rw [hCs]; kernel_rfl
                  have HB := Lib.hid hB
                  have H2r := Lib.hid (ho.keep H29.out (by simp; omega))
                  have HOr := Lib.hid (HO9.out.mono (cs := [q, p, b]) (by simp) |>.trans (ho.mono (by simp)))
                  have HC := Lib.hid hC
                  clear hB ho hC
                  go_wp2_with (first
                    | (refine wpList_load_row rfl 180 _ rfl b rfl 180 _ (0, 0) _ HB.out Tryd.underlying180 rfl hinf8 ?_)
                    | (refine wpList_store_row rfl 180 _ _ rfl b2 C rfl rfl 180 _ H2r.out hinf8 (by rw [hCs]; rfl) hC1 ?_))
                  (try simp only [Exit.inBlock, Exit.then])
                  refine bodyPost_ret (results_cell_row rfl _ _ b2 180 C (0, 0) _ rfl (setRow_heap _ _ _ _ _ _ H2r.out) Tryd.underlying180 rfl hinf8) rfl ?_
                  refine ⟨by rw [Hmix.out, HC.out], ?_⟩
                  have hq' := Hq.out
                  have hbw := Hb.out
                  have hb2w := Hb2.out
                  have s1 := O1.out.size
                  exact ((O1.out.mono (by simp) |>.trans (HOr.out.mono (by simp)) : Only [q, p, b, b2] w wr).setRow (by simp) C).below (Nat.le_refl _) (by intro x hx; simp at hx; rcases hx with rfl | rfl | rfl | rfl <;> omega)
end Go.Proofs.YtfbjbhddapoopaaDoor
