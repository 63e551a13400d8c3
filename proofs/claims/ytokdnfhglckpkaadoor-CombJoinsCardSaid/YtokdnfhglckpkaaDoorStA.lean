/-
  The walks of layer 2 (stamp): a word turned.
-/
import Derived.Test.YtokdnfhglckpkaaDoorProg
import Derived.Test.YtokdnfhglckpkaaDoorMemB
import Derived.Test.YtokdnfhglckpkaaDoorLibA
import Derived.WalkKit
import Derived.WalkSpells
import Derived.WalkLawsBesides
import Derived.BigRegion
import Derived.BigQuiet
import Derived.Deep.QuietTactic
import Derived.Deep.DeepCutAuto
import Derived.Deep.RegionWith
import Derived.Deep.CutBlock
import Derived.Deep.WholeRow
import Derived.Lib.Hide
set_option linter.unusedVariables false
set_option linter.unusedSimpArgs false
namespace Go.Proofs.YtokdnfhglckpkaaDoor
open Go.RowKit
attribute [local go_sem] Lb.ba_get Lb.ba_cut Lb.ba_add Lb.ba_size Lb.take_rest

/-- shifts and turns of words -/
def shl32 (x : Int) (k : Nat) : Int := x * 2 ^ k % 4294967296
def shr32 (x : Int) (k : Nat) : Int := x / 2 ^ k
def rotr (x : Int) (n : Nat) : Int := bits .or .u32 (shl32 x (32 - n)) (shr32 x n)
def turnedS (x : Int) (ns : List Nat) : Int := ns.foldl (fun o n => bits .xor .u32 o (rotr x n)) 0

theorem neg_and31 (n : Nat) (h1 : 0 < n) (h2 : n < 32) : bits .and .u64 (IntKind.u64.wrap (-(n : Int))) 31 = ((32 - n : Nat) : Int) := by
  have e : IntKind.u64.wrap (-(n : Int)) = ((18446744073709551616 - n : Nat) : Int) := by
    simp only [IntKind.wrap_u64]; omega
  rw [e]
  have := u64_and_nat (18446744073709551616 - n) 31 (by omega) (by omega)
  rw [show ((31 : Nat) : Int) = 31 from rfl] at this
  rw [this]
  congr 1
  have h := Nat.and_two_pow_sub_one_eq_mod (18446744073709551616 - n) 5
  have e5 : (2 : Nat) ^ 5 - 1 = 31 := by decide
  rw [e5] at h
  rw [h]
  omega

set_option maxHeartbeats 1000000 in
theorem rot_any (x : Int) (n : Nat) (w : World) (h1 : 0 < n) (h2 : n < 32) :
    Calls Tryd.prog 126 #[.int .u32 x, .int .i64 (-(n : Int))] w fun e w' => e = .returned (.int .u32 (rotr x n)) ∧ w = w' := by
  have hb := neg_and31 n h1 h2
  obtain ⟨k, hk⟩ : ∃ k, k = 32 - n := ⟨_, rfl⟩
  rw [← hk] at hb
  have hs : IntKind.u64.wrap (32 - (k : Int)) = (n : Int) := by simp only [IntKind.wrap_u64]; omega
  have hs' : (32 : Int) - (k : Int) = (n : Int) := by omega
  have hr : rotr x n = bits .or .u32 (shl32 x k) (shr32 x n) := by rw [hk]; rfl
  have Hr := Lib.hid hr
  clear hr hk
  go_enter Tryd.func126, Tryd.ntmps126
  go_wp2
  go_ret
  exact ⟨by rw [Hr.out]; rfl, rfl⟩

set_option maxHeartbeats 1000000 in
theorem turned_any (x : Int) (A : Option Addr) (cap : Nat) (ns : List Nat) (w : World) (hA : Ints w w.heap.size A (ns.map fun (n : Nat) => (n : Int))) (hn : ∀ n ∈ ns, 0 < n ∧ n < 32) (hl : ns.length ≤ 100) :
    Calls Tryd.prog 112 #[.int .u32 x, .slice A ns.length cap] w fun e w' => e = .returned (.int .u32 (turnedS x ns)) ∧ w = w' := by
  have HA := Lib.hid hA
  have HN := Lib.hid hn
  obtain ⟨m, hm⟩ : ∃ m, m = ns.length := ⟨_, rfl⟩
  rw [← hm] at hl ⊢
  have Hm := Lib.hid hm
  clear hA hn hm
  go_enter Tryd.func112, Tryd.ntmps112
  go_wp2_with fail
  go_loopw [4, 9] (fun o p wr => ∃ k : Nat, k ≤ m ∧ p = .int .i64 k ∧ o = .int .u32 (turnedS x (ns.take k)) ∧ w = wr) (fun _ p _ => m - (intOf p).toNat)
  case atStart => exact ⟨0, by omega, rfl, rfl, rfl⟩
  case round =>
    obtain ⟨k, hk, rfl, rfl, rfl⟩ := hrel
    by_cases hkm : k < m
    · have hk' : k < ns.length := by rw [← Hm.out]; exact hkm
      obtain ⟨a, rfl, _, hc⟩ := HA.out k (by simpa using hk')
      obtain ⟨n, hn⟩ : ∃ n, n = ns[k] := ⟨_, rfl⟩
      simp only [List.getElem_map] at hc
      rw [← hn] at hc
      obtain ⟨n1, n2⟩ := HN.out n (by rw [hn]; exact List.getElem_mem hk')
      have hsucc : turnedS x (ns.take (k + 1)) = bits .xor .u32 (turnedS x (ns.take k)) (rotr x n) := by
        unfold turnedS
        rw [List.take_succ_eq_append_getElem hk', List.foldl_append, ← hn]; rfl
      have Hs := Lib.hid hsucc
      have k0 : (0 : Int) ≤ (k : Int) := by omega
      have k1 : (k : Int) < (m : Int) := by omega
      clear hsucc hn hk'
      obtain ⟨o, ho⟩ : ∃ o, o = turnedS x (ns.take k) := ⟨_, rfl⟩
      rw [← ho] at Hs
      rw [← ho]
      clear ho
      go_wp2_with fail
      refine (rot_any x n _ n1 n2).mono ?_
      rintro e w1 ⟨rfl, rfl⟩
      go_wp2
      go_roundw
      case rel => exact ⟨k + 1, by omega, by go_num, by rw [Hs.out], by first | rfl | trivial⟩
      case measure => simp [intOf]; omega
    · have hkm' : k = m := by omega
      subst hkm'
      have he : turnedS x (ns.take k) = turnedS x ns := by rw [Hm.out, List.take_length]
      have He := Lib.hid he
      clear he
      go_wp2
      go_ret
      exact ⟨by first | rfl | (rw [He.out]; rfl), rfl⟩
end Go.Proofs.YtokdnfhglckpkaaDoor
