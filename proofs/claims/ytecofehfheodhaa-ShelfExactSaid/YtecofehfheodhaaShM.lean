/-
  The walks of shelf's calls on no shelf; torn.
-/
import Derived.Test.YtecofehfheodhaaShK
set_option linter.unusedVariables false
set_option linter.unusedSimpArgs false
namespace Go.Proofs.Ytecofehfheodhaa
open Go.RowKit Sh
attribute [local go_sem] Lb.ba_get Lb.ba_cut Lb.ba_add Lb.ba_size Lb.take_rest

theorem at_nil (i : Int) (w : World) :
    Calls Try.prog 56 #[.pointer none, .int .i64 i] w fun e w' => e = .returned (.tuple #[.pointer none, .int .i64 2]) ∧ w = w' := by
  go_enter Try.func56, Try.ntmps56
  go_wp2
  go_ret2
  exact ⟨rfl, rfl⟩
theorem read_nil (i : Int) (w : World) :
    Calls Try.prog 34 #[.pointer none, .int .i64 i] w fun e w' => e = .returned (.tuple #[.string ⟨#[]⟩, .int .i64 2]) ∧ w = w' := by
  go_enter Try.func34, Try.ntmps34
  go_wp2_with (go_at_call 56; refine (at_nil i w).mono ?_; rintro e w1 ⟨rfl, rfl⟩)
  go_ret2
  exact ⟨rfl, rfl⟩
theorem write_nil (i : Int) (t : List UInt8) (w : World) :
    Calls Try.prog 31 #[.pointer none, .int .i64 i, .string ⟨t.toArray⟩] w fun e w' => e = .returned (.int .i64 2) ∧ w = w' := by
  go_enter Try.func31, Try.ntmps31
  go_wp2_with (go_at_call 56; refine (at_nil i w).mono ?_; rintro e w1 ⟨rfl, rfl⟩)
  go_ret
  exact ⟨rfl, rfl⟩
theorem sync_nil (w : World) :
    Calls Try.prog 36 #[.pointer none] w fun e w' => e = .returned (.int .i64 2) ∧ w = w' := by
  go_enter Try.func36, Try.ntmps36
  go_wp2
  go_ret
  exact ⟨rfl, rfl⟩
theorem down_nil (w : World) :
    Calls Try.prog 45 #[.pointer none] w fun e w' => e = .returned (.bool true) ∧ w = w' := by
  go_enter Try.func45, Try.ntmps45
  go_wp2
  go_ret
  exact ⟨rfl, rfl⟩
theorem len_nil (w : World) :
    Calls Try.prog 50 #[.pointer none] w fun e w' => e = .returned (.int .i64 0) ∧ w = w' := by
  go_enter Try.func50, Try.ntmps50
  go_wp2
  go_ret
  exact ⟨rfl, rfl⟩

set_option maxHeartbeats 1000000 in
theorem torn_any (s t u : List UInt8) (k : Nat) (w : World) (hk : k ≤ t.length) (he : s = t.take k ++ u.drop k) (ht : t.length ≤ 640) (hu : u.length ≤ 640) :
    Calls Try.prog 51 #[.string ⟨s.toArray⟩, .string ⟨t.toArray⟩, .string ⟨u.toArray⟩] w fun e w' => e = .returned (.bool true) ∧ w' = w := by
  have He := Lib.hid he
  have hs : s.length ≤ 1280 := by rw [he]; simp; omega
  clear he
  go_enter Try.func51, Try.ntmps51
  go_wp2_with fail
  go_loopw [7] (fun p wr => ∃ i : Nat, i ≤ k ∧ p = .int .i64 i ∧ w = wr) (fun p _ => k - (intOf p).toNat)
  case atStart => exact ⟨0, by omega, rfl, rfl⟩
  case round =>
    obtain ⟨i, hi, rfl, rfl⟩ := hrel
    have i0 : (0 : Int) ≤ (i : Int) := by omega
    have i1 : (i : Int) ≤ (t.length : Int) := by omega
    go_upto_if 18 with fail
    go_cut [8] from 9 to 28 (fun v wx => v = .string ⟨(u.drop i).toArray⟩ ∧ wx = w)
    case first =>
      by_cases h1 : i < u.length
      · have j1 : (i : Int) < (u.length : Int) := by omega
        go_wp2_with fail
        go_meet
        case rel => exact ⟨by first | rfl | simp, rfl⟩
      · have j1 : ¬ ((i : Int) < (u.length : Int)) := by omega
        have e : u.drop i = [] := List.drop_eq_nil_of_le (by omega)
        have j2 : decide (i < u.length) = false := by simpa using h1
        have E := Lib.hid e
        clear e
        go_wp2_with fail
        go_meet
        case rel => exact ⟨by rw [E.out], rfl⟩
    obtain ⟨rfl, rfl⟩ := hcut
    by_cases hsi : s = t.take i ++ u.drop i
    · have hb : (s == t.take i ++ u.drop i) = true := by simpa using hsi
      clear hsi
      go_wp2
      go_ret
      exact ⟨rfl, rfl⟩
    · have hik : i ≠ k := by rintro rfl; exact hsi He.out
      have hb : (s == t.take i ++ u.drop i) = false := by simpa using hsi
      clear hsi
      go_wp2
      go_roundw
      case rel => exact ⟨i + 1, by omega, by go_num, by first | rfl | trivial⟩
      case measure => simp [intOf]; omega
end Go.Proofs.Ytecofehfheodhaa
