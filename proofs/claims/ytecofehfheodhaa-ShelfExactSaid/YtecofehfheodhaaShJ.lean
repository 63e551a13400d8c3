/-
  The walks of the law helpers of layer 4: kept, awake.
-/
import Derived.Test.YtecofehfheodhaaShI
set_option linter.unusedVariables false
set_option linter.unusedSimpArgs false
namespace Go.Proofs.Ytecofehfheodhaa
open Go.RowKit Sh
attribute [local go_sem] Lb.ba_get Lb.ba_cut Lb.ba_add Lb.ba_size Lb.take_rest

/-- what kept answers -/
def keptS (fs : List Int) : St := St.on (St.off (St.write (St.sync (St.write (St.new 1) 0 [97, 98, 99])) 0 [120, 121])) fs
def keptT (fs : List Int) : List UInt8 := St.read (keptS fs) 0

set_option maxHeartbeats 1000000 in
theorem kept_any (A : Option Addr) (cap : Nat) (fs : List Int) (w : World) (hI : Ints w w.heap.size A fs) (hfs : ∀ f ∈ fs, -9223372036854775808 ≤ f ∧ f ≤ 9223372036854775807) (hfl : fs.length ≤ maxLen) :
    Calls Try.prog 55 #[.slice A fs.length cap] w fun e w' => e = .returned (.string ⟨(keptT fs).toArray⟩) ∧ Below w.heap.size w w' := by
  have Hfs := Lib.hid hfs
  have HI := Lib.hid hI
  have Hfl := Lib.hid hfl
  have e : ∃ s, s = keptS fs := ⟨_, rfl⟩
  unfold keptT
  unfold keptS
  clear hfs hI hfl e
  go_enter Try.func55, Try.ntmps55
  go_wp2_with fail
  refine (live_new w 1 w (by omega) (Below.refl _ w)).mono ?_
  rintro e w1 ⟨rfl, L1⟩
  go_wp2_with fail
  refine (live_write L1 0 [97, 98, 99] (by decide)).mono ?_
  rintro e w2 ⟨rfl, L2⟩
  go_wp2_with fail
  refine (live_sync L2).mono ?_
  rintro e w3 ⟨rfl, L3⟩
  go_wp2_with fail
  refine (live_write L3 0 [120, 121] (by decide)).mono ?_
  rintro e w4 ⟨rfl, L4⟩
  go_wp2_with fail
  refine (live_off L4).mono ?_
  rintro e w5 ⟨rfl, L5⟩
  go_wp2_with fail
  refine (live_on L5 A cap fs (L5.ints HI.out) Hfs.out Hfl.out).mono ?_
  rintro e w6 ⟨rfl, L6⟩
  go_wp2_with fail
  refine (live_read L6 0).mono ?_
  rintro e w7 ⟨rfl, rfl⟩
  go_wp2_with fail
  go_ret
  exact ⟨rfl, L6.old⟩

theorem ints_one (w : World) (n : Int) : Ints (w.alloc (.cells #[.int .i64 n] 3)) (w.alloc (.cells #[.int .i64 n] 3)).heap.size (some ⟨w.heap.size, 0, none⟩) [n] := by
  intro i hi
  have hi0 : i = 0 := by simpa using hi
  subst hi0
  refine ⟨_, rfl, by simp, ?_⟩
  have hh : (w.alloc (.cells #[.int .i64 n] 3)).cell? ⟨w.heap.size, 0, none⟩ = some (.int .i64 n) := by
    rw [Lib.cell_of_heap (show ((w.alloc (.cells #[.int .i64 n] 3)).heap[w.heap.size]? = some (.cells #[.int .i64 n] 3 (0, 0))) from heap_alloc_new w _)]; rfl
  exact hh
theorem kept_one (n : Int) (t : List UInt8) (w : World) (hn : -9223372036854775808 ≤ n ∧ n ≤ 9223372036854775807) (h : keptT [n] = t) :
    Calls Try.prog 55 #[.slice (some ⟨w.heap.size, 0, none⟩) 1 1] (w.alloc (.cells #[.int .i64 n] 3)) fun e w' => e = .returned (.string ⟨t.toArray⟩) ∧ Below w.heap.size w w' := by
  refine (kept_any (some ⟨w.heap.size, 0, none⟩) 1 [n] _ (ints_one w n) (by simpa using hn) (by simp [maxLen])).mono ?_
  rintro e w1 ⟨rfl, hB⟩
  exact ⟨by rw [h], ((Below.refl _ w).alloc (Nat.le_refl _) _).trans (hB.mono (by simp))⟩
theorem kept_none (w : World) :
    Calls Try.prog 55 #[.slice none 0 0] w fun e w' => e = .returned (.string ⟨#[97, 98, 99]⟩) ∧ Below w.heap.size w w' := by
  have h : keptT [] = [97, 98, 99] := by decide +kernel
  refine (kept_any none 0 [] _ (fun i hi => absurd hi (by simp)) (by simp) (by decide)).mono ?_
  rintro e w1 ⟨rfl, hB⟩
  exact ⟨by rw [h], hB⟩

def awS1 : St := St.write (St.write (St.new 2) 1 [116]) 2 [116]
def awS2 : St := St.off (St.sync awS1)
def awS3 : St := St.on awS2 []

set_option maxHeartbeats 2000000 in
theorem awake4_any (w : World) :
    Calls Try.prog 29 #[] w fun e w' => e = .returned (.bool true) ∧ Below w.heap.size w w' := by
  have k1 : keptT [1] = [120, 121] := by decide +kernel
  have k0 : keptT [0] = [97, 98, 99] := by decide +kernel
  have k5 : keptT [5] = [120, 98, 99] := by decide +kernel
  have a1 : St.writeErr (St.new 2) 1 [116] = 0 := by decide +kernel
  have a2 : St.writeErr (St.write (St.new 2) 1 [116]) 2 [116] = 1 := by decide +kernel
  have a3 : St.syncErr awS1 = 0 := by decide +kernel
  have a4 : St.read awS2 1 = [] := by decide +kernel
  have a5 : St.atErr awS2 1 = 10 := by decide +kernel
  have a6 : St.read awS3 1 = [116] := by decide +kernel
  have a7 : St.atErr awS3 1 = 0 := by decide +kernel
  have a8 : awS3.pw.acts = 2 := by decide +kernel
  have a9 : awS3.pw.life = 1 := by decide +kernel
  have a10 : awS3.slots.length = 2 := by decide +kernel
  have K1 := Lib.hid (fun w => kept_one 1 _ w (by omega) k1)
  have K0 := Lib.hid (fun w => kept_one 0 _ w (by omega) k0)
  have K5 := Lib.hid (fun w => kept_one 5 _ w (by omega) k5)
  have A1 := Lib.hid a1
  have A2 := Lib.hid a2
  have A3 := Lib.hid a3
  have A4 := Lib.hid a4
  have A5 := Lib.hid a5
  have A6 := Lib.hid a6
  have A7 := Lib.hid a7
  have A8 := Lib.hid a8
  have A9 := Lib.hid a9
  have A10 := Lib.hid a10
  clear k1 k0 k5 a1 a2 a3 a4 a5 a6 a7 a8 a9 a10
  go_enter Try.func29, Try.ntmps29
  go_wp2_with fail
  refine (live_new w 2 w (by omega) (Below.refl _ w)).mono ?_
  rintro e w1 ⟨rfl, L1⟩
  go_wp2_with fail
  refine (live_write L1 1 [116] (by decide)).mono ?_
  rintro e w2 ⟨rfl, L2⟩
  rw [A1.out]
  go_wp2_with fail
  refine (live_write L2 2 [116] (by decide)).mono ?_
  rintro e w3 ⟨rfl, L3⟩
  rw [A2.out]
  have L3' : Live w w3 (w.heap.size + 1) w.heap.size awS1 _ := L3
  clear L3
  go_wp2_with fail
  refine (live_sync L3').mono ?_
  rintro e w4 ⟨rfl, L4⟩
  rw [A3.out]
  go_wp2_with fail
  refine (live_off L4).mono ?_
  rintro e w5 ⟨rfl, L5⟩
  have L5' : Live w w5 (w.heap.size + 1) w.heap.size awS2 _ := L5
  clear L5
  go_wp2_with fail
  refine (live_read L5' 1).mono ?_
  rintro e w6 ⟨rfl, rfl⟩
  rw [A4.out, A5.out]
  go_wp2_with fail
  refine (live_on L5' none 0 [] (L5'.nofts none) (by simp) (by decide)).mono ?_
  rintro e w6 ⟨rfl, L6⟩
  have L6' : Live w w6 (w.heap.size + 1) w.heap.size awS3 _ := L6
  clear L6
  go_wp2_with fail
  refine (live_read L6' 1).mono ?_
  rintro e w7 ⟨rfl, rfl⟩
  rw [A6.out, A7.out]
  go_wp2_with fail
  refine (K1.out w6).mono ?_
  rintro e w8 ⟨rfl, hB⟩
  have L8 := L6'.below hB
  clear hB
  go_wp2_with fail
  refine (K0.out w8).mono ?_
  rintro e w9 ⟨rfl, hB⟩
  have L9 := L8.below hB
  clear hB
  go_wp2_with fail
  refine (K5.out w9).mono ?_
  rintro e w10 ⟨rfl, hB⟩
  have L10 := L9.below hB
  clear hB
  go_wp2_with fail
  refine (kept_none w10).mono ?_
  rintro e w11 ⟨rfl, hB⟩
  have L11 := L10.below hB
  clear hB
  go_wp2_with fail
  refine (acts_any _ _ _ _ L11.here).mono ?_
  rintro e w12 ⟨rfl, rfl⟩
  rw [A8.out]
  go_wp2_with fail
  refine (life_any _ _ _ _ L11.here).mono ?_
  rintro e w12 ⟨rfl, rfl⟩
  rw [A9.out]
  go_wp2_with fail
  refine (len_any _ _ _ _ L11.here).mono ?_
  rintro e w12 ⟨rfl, rfl⟩
  rw [A10.out]
  go_wp2
  go_ret
  exact ⟨rfl, L11.old⟩
end Go.Proofs.Ytecofehfheodhaa
