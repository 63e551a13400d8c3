/-
  Layer 2's reference: ranges of words; the walk of turn, consts.
-/
import Derived.Test.YtfbjbhddapoopaaDoorLaid
import Derived.Laws.BitsAllLaws
set_option linter.unusedVariables false
set_option linter.unusedSimpArgs false
namespace Go.Proofs.YtfbjbhddapoopaaDoor
open Go.RowKit
attribute [local go_sem] Lb.ba_get Lb.ba_cut Lb.ba_add Lb.ba_size Lb.take_rest

/-- a word -/
def R32 (x : Int) : Prop := 0 ≤ x ∧ x < 4294967296
theorem R32.mod (x : Int) : R32 (x % 4294967296) := ⟨by omega, by omega⟩
theorem or_nat (a b : Int) (ha : R32 a) (hb : R32 b) : bits .or .u32 a b = ((a.toNat ||| b.toNat : Nat) : Int) := u32_or a b ha.1 ha.2 hb.1 hb.2
theorem xor_nat (a b : Int) (ha : R32 a) (hb : R32 b) : bits .xor .u32 a b = ((a.toNat ^^^ b.toNat : Nat) : Int) := u32_xor a b ha.1 ha.2 hb.1 hb.2
theorem R32.or {a b : Int} (ha : R32 a) (hb : R32 b) : R32 (bits .or .u32 a b) := by
  rw [or_nat a b ha hb]
  have := Nat.or_lt_two_pow (x := a.toNat) (y := b.toNat) (n := 32) (by have := ha.2; omega) (by have := hb.2; omega)
  exact ⟨by omega, by omega⟩
theorem R32.xor {a b : Int} (ha : R32 a) (hb : R32 b) : R32 (bits .xor .u32 a b) := by
  rw [xor_nat a b ha hb]
  have := Nat.xor_lt_two_pow (x := a.toNat) (y := b.toNat) (n := 32) (by have := ha.2; omega) (by have := hb.2; omega)
  exact ⟨by omega, by omega⟩
theorem R32.zero : R32 0 := ⟨by omega, by omega⟩
theorem shl_range (x : Int) (k : Nat) : R32 (shl32 x k) := R32.mod _
theorem shr_range {x : Int} (h : R32 x) (k : Nat) : R32 (shr32 x k) := by
  obtain ⟨n, rfl⟩ : ∃ n : Nat, x = n := ⟨x.toNat, by have := h.1; omega⟩
  unfold shr32
  have h1 : ((n : Int) / 2 ^ k) = ((n / 2 ^ k : Nat) : Int) := by simp
  rw [h1]
  have h2 := Nat.div_le_self n (2 ^ k)
  have := h.2
  obtain ⟨q, hq⟩ : ∃ q, q = n / 2 ^ k := ⟨_, rfl⟩
  rw [← hq] at h2 ⊢
  clear h1 hq
  exact ⟨by omega, by omega⟩
theorem rotr_range {x : Int} (h : R32 x) (n : Nat) : R32 (rotr x n) := (shl_range _ _).or (shr_range h n)
theorem rotr_swap {x : Int} (h : R32 x) (n : Nat) : bits .or .u32 (shr32 x n) (shl32 x (32 - n)) = rotr x n := by
  unfold rotr
  rw [or_nat _ _ (shr_range h n) (shl_range _ _), or_nat _ _ (shl_range _ _) (shr_range h n), Nat.or_comm]
theorem xor_zero {x : Int} (h : R32 x) : bits .xor .u32 0 x = x := by
  rw [xor_nat _ _ R32.zero h]
  have := h.1
  simp
  omega
theorem turned_two {x : Int} (h : R32 x) (a b : Nat) : turnedS x [a, b] = bits .xor .u32 (rotr x a) (rotr x b) := by
  show bits .xor .u32 (bits .xor .u32 0 (rotr x a)) (rotr x b) = _
  rw [xor_zero (rotr_range h a)]
theorem turned_three {x : Int} (h : R32 x) (a b c : Nat) : turnedS x [a, b, c] = bits .xor .u32 (bits .xor .u32 (rotr x a) (rotr x b)) (rotr x c) := by
  show bits .xor .u32 (bits .xor .u32 (bits .xor .u32 0 (rotr x a)) (rotr x b)) (rotr x c) = _
  rw [xor_zero (rotr_range h a)]

set_option maxHeartbeats 1000000 in
theorem rturn_any (x : Int) (n : Nat) (w : World) (hx : R32 x) (h1 : 0 < n) (h2 : n < 32) :
    Calls Tryd.prog 150 #[.int .u32 x, .int .i64 (n : Int)] w fun e w' => e = .returned (.int .u32 (rotr x n)) ∧ ∃ k, w' = w.drewN k := by
  obtain ⟨k, hk⟩ : ∃ k, k = 32 - n := ⟨_, rfl⟩
  have hs : IntKind.i64.wrap (32 - (n : Int)) = (k : Int) := by rw [IntWalk.i64_in _ (by omega)]; omega
  have hs' : (32 : Int) - (n : Int) = (k : Int) := by omega
  have k0 : (0 : Int) ≤ (k : Int) := by omega
  have n0 : (0 : Int) ≤ (n : Int) := by omega
  have hr := rotr_swap hx n
  rw [← hk] at hr
  have Hr := Lib.hid hr
  clear hr hk hx
  go_enter Tryd.func150, Tryd.ntmps150
  go_upto_region 1 with fail
  go_quiet (fail)
  go_wp2_with fail
  go_ret
  exact ⟨by rw [← Hr.out]; rfl, _, rfl⟩

theorem rturn_lit (x : Int) (n : Nat) (i : Int) (hi : i = (n : Int)) (w : World) (hx : R32 x) (h1 : 0 < n) (h2 : n < 32) :
    Calls Tryd.prog 150 #[.int .u32 x, .int .i64 i] w fun e w' => e = .returned (.int .u32 (rotr x n)) ∧ ∃ k, w' = w.drewN k := by
  subst hi
  exact rturn_any x n w hx h1 h2

theorem words_info : (Tryd.prog.info? 204).map (·.size) = some 64 := by kernel_rfl
theorem rowW_one (W : List Int) : (rowW W).all (·.oneCell') = true := by
  rw [Array.all_eq_true_iff_forall_mem]
  intro v hv
  simp only [rowW, List.mem_toArray, List.mem_map] at hv
  obtain ⟨x, _, rfl⟩ := hv
  rfl
set_option maxHeartbeats 2000000 in
set_option maxRecDepth 100000 in
theorem consts_any (w : World) :
    Calls Tryd.prog 129 #[] w fun e w' => e = .returned (.agg (rowW KK)) ∧ Below w.heap.size w w' := by
  go_enter Tryd.func129, Tryd.ntmps129
  go_upto_region 1 with fail
  show Code.wp _ _ _ _ (w.alloc (.cells (rowW (List.replicate 64 0)) 204))
  obtain ⟨q, hq⟩ : ∃ q, q = w.heap.size := ⟨_, rfl⟩
  have h0 : (w.alloc (.cells (rowW (List.replicate 64 0)) 204)).heap[q]? = some (.cells (rowW (List.replicate 64 0)) 204 (0, 0)) := by rw [hq]; exact heap_alloc_new w _
  have o0 : Only [q] w (w.alloc (.cells (rowW (List.replicate 64 0)) 204)) := (Only.refl _ w).alloc _
  obtain ⟨w1, hw1⟩ : ∃ w1, w1 = w.alloc (.cells (rowW (List.replicate 64 0)) 204) := ⟨_, rfl⟩
  rw [← hw1] at h0 o0 ⊢
  rw [← hq]
  obtain ⟨C, hC⟩ : ∃ C, C = rowW KK := ⟨_, rfl⟩
  have hsz : C.size = 64 := by rw [hC]; rfl
  have h1c : C.all (·.oneCell') = true := by rw [hC]; exact rowW_one KK
  have H0 := Lib.hid h0
  have HC := Lib.hid hC
  have Hq := Lib.hid hq
  have HO := Lib.hid o0
  clear h0 hw1 hq o0 hC
  go_wp2_with (first
    | (refine wpList_build rfl 204 _ rfl (by kernel_rfl) ?_; rw [show (Option.getD (Program.built _ _ _) _) = rowW KK from (by kernel_rfl), ← HC.out])
    | (refine wpList_store_row rfl 204 _ _ rfl q C rfl rfl 204 _ H0.out (by rw [hsz]; kernel_rfl) (by rw [hsz]; rfl) h1c ?_))
  (try simp only [Exit.inBlock, Exit.then])
  refine bodyPost_ret (results_cell_row rfl _ _ q 204 C (0, 0) _ rfl (setRow_heap _ _ _ _ _ _ H0.out) Tryd.underlying204 rfl (by rw [hsz]; kernel_rfl)) rfl ?_
  exact ⟨by rw [HC.out], (HO.out.setRow (by simp) C).below (Nat.le_refl _) (by intro x hx; simp at hx; rw [hx, Hq.out]; exact Nat.le_refl _)⟩
end Go.Proofs.YtfbjbhddapoopaaDoor
