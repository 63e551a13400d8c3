/-
  The walks of sap.count, sap.ReadText, sap.Text.
-/
import Derived.Test.YtfbjbhddapoopaaDoorSapB
set_option linter.unusedVariables false
set_option linter.unusedSimpArgs false
namespace Go.Proofs.YtfbjbhddapoopaaDoor
open Go.RowKit Pl
attribute [local go_sem] Lb.ba_get Lb.ba_cut Lb.ba_add Lb.ba_size Lb.take_rest

set_option maxHeartbeats 1000000 in
theorem count_none {l : List UInt8} (most : Int) (h : rdNum l = none) (w : World) (h0 : l.length < 9223372036854775807) :
    Calls Tryd.prog 152 #[.string ⟨l.toArray⟩, .int .i64 most] w fun e w' => e = .returned (.tuple #[.int .i64 0, .string ⟨#[]⟩, .bool false]) ∧ Below w.heap.size w w' := by
  go_enter Tryd.func152, Tryd.ntmps152
  go_wp2_with (go_at_call 121; refine (readNum_none h _ h0).mono ?_; rintro e w1 ⟨rfl, hB⟩)
  go_ret3
  exact ⟨rfl, hB⟩

set_option maxHeartbeats 1000000 in
theorem count_no {l r : List UInt8} {n : Int} (most : Int) (h : rdNum l = some (n, r)) (hno : ¬ (0 ≤ n ∧ n ≤ most ∧ n ≤ r.length)) (w : World) (h0 : l.length < 9223372036854775807) :
    Calls Tryd.prog 152 #[.string ⟨l.toArray⟩, .int .i64 most] w fun e w' => e = .returned (.tuple #[.int .i64 n, .string ⟨r.toArray⟩, .bool false]) ∧ Below w.heap.size w w' := by
  have H := Lib.hid h
  clear h
  have hc : n < 0 ∨ 0 ≤ n ∧ (most < n ∨ n ≤ most ∧ (r.length : Int) < n) := by omega
  clear hno
  rcases hc with hc | ⟨hc, hd | ⟨hd, he⟩⟩
  all_goals
    go_enter Tryd.func152, Tryd.ntmps152
    go_wp2_with (go_at_call 121; refine (readNum_some H.out _ h0).mono ?_; rintro e w1 ⟨rfl, hB⟩)
    go_ret3
    exact ⟨by first | (simp; done) | (simp; omega), hB⟩

set_option maxHeartbeats 1000000 in
theorem count_yes {l r : List UInt8} {n : Nat} {most : Int} (h : rdNum l = some ((n : Int), r)) (h1 : (n : Int) ≤ most) (h2 : n ≤ r.length) (w : World) (h0 : l.length < 9223372036854775807) :
    Calls Tryd.prog 152 #[.string ⟨l.toArray⟩, .int .i64 most] w fun e w' => e = .returned (.tuple #[.int .i64 n, .string ⟨r.toArray⟩, .bool true]) ∧ Below w.heap.size w w' := by
  have H := Lib.hid h
  clear h
  have h3 : (n : Int) ≤ (r.length : Int) := by omega
  go_enter Tryd.func152, Tryd.ntmps152
  go_wp2_with (go_at_call 121; refine (readNum_some H.out _ h0).mono ?_; rintro e w1 ⟨rfl, hB⟩)
  go_ret3
  exact ⟨by simp, hB⟩

set_option maxHeartbeats 1000000 in
theorem readText_none {l : List UInt8} {most : Int} (h : rdText l most = none) (w : World) (h0 : l.length < 9223372036854775807) :
    Calls Tryd.prog 153 #[.string ⟨l.toArray⟩, .int .i64 most] w fun e w' => e = .returned (.tuple #[.string ⟨#[]⟩, .string ⟨#[]⟩, .bool false]) ∧ Below w.heap.size w w' := by
  have hc : ∃ n r, ∀ w : World, Calls Tryd.prog 152 #[.string ⟨l.toArray⟩, .int .i64 most] w fun e w' => e = .returned (.tuple #[.int .i64 n, .string ⟨List.toArray r⟩, .bool false]) ∧ Below w.heap.size w w' := by
    unfold rdText at h
    cases hr : rdNum l with
    | none => exact ⟨0, [], fun w => count_none most hr w h0⟩
    | some p =>
      obtain ⟨n, r⟩ := p
      rw [hr] at h
      simp only at h
      split at h
      · cases h
      · rename_i hno
        exact ⟨n, r, fun w => count_no most hr hno w h0⟩
  obtain ⟨n, r, hc⟩ := hc
  have Hc := Lib.hid hc
  clear hc h
  go_enter Tryd.func153, Tryd.ntmps153
  go_wp2_with (go_at_call 152; refine (Hc.out _).mono ?_; rintro e w1 ⟨rfl, hB⟩)
  go_ret3
  exact ⟨rfl, hB⟩

theorem rdText_some {l t r : List UInt8} {most : Int} (h : rdText l most = some (t, r)) : ∃ (n : Nat) (q : List UInt8), rdNum l = some ((n : Int), q) ∧ (n : Int) ≤ most ∧ n ≤ q.length ∧ t = q.take n ∧ r = q.drop n := by
  unfold rdText at h
  cases hr : rdNum l with
  | none => rw [hr] at h; cases h
  | some p =>
    obtain ⟨n, q⟩ := p
    rw [hr] at h
    simp only at h
    split at h
    · rename_i hy
      simp only [Option.some.injEq, Prod.mk.injEq] at h
      refine ⟨n.toNat, q, ?_, by omega, by omega, h.1.symm, h.2.symm⟩
      rw [Int.toNat_of_nonneg hy.1]
    · cases h

set_option maxHeartbeats 1000000 in
theorem readText_some {l t r : List UInt8} {most : Int} (h : rdText l most = some (t, r)) (w : World) (h0 : l.length < 9223372036854775807) :
    Calls Tryd.prog 153 #[.string ⟨l.toArray⟩, .int .i64 most] w fun e w' => e = .returned (.tuple #[.string ⟨t.toArray⟩, .string ⟨r.toArray⟩, .bool true]) ∧ Below w.heap.size w w' := by
  obtain ⟨n, q, h1, h2, h3, rfl, rfl⟩ := rdText_some h
  have Hc := Lib.hid (count_yes h1 h2 h3)
  clear h h1
  have h4 : (n : Int) ≤ (q.length : Int) := by omega
  have h5 : (0 : Int) ≤ (n : Int) := by omega
  go_enter Tryd.func153, Tryd.ntmps153
  go_wp2_with (go_at_call 152; refine (Hc.out _ h0).mono ?_; rintro e w1 ⟨rfl, hB⟩)
  go_region
  go_wp2
  go_ret3
  exact ⟨by simp, hB.drew⟩

set_option maxHeartbeats 1000000 in
theorem text_any (l : List UInt8) (w : World) (h0 : l.length < 9223372036854775000) :
    Calls Tryd.prog 136 #[.string ⟨l.toArray⟩] w fun e w' => e = .returned (.string ⟨(num l.length ++ l).toArray⟩) ∧ Below w.heap.size w w' := by
  have hn : (num l.length).length ≤ 9 := num_length l.length (by omega)
  go_enter Tryd.func136, Tryd.ntmps136
  go_wp2_with (go_at_call 122; refine (num_any l.length _ (by omega) (by omega)).mono ?_; rintro e w1 ⟨rfl, hB⟩)
  go_ret
  exact ⟨rfl, hB⟩
end Go.Proofs.YtfbjbhddapoopaaDoor
