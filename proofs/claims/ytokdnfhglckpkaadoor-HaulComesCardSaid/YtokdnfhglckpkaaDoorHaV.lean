/-
  Layer 17, plain: from a node that answers, a blob comes: every number of chunks, whichever tick's frames are lost.
-/
import Derived.Test.YtokdnfhglckpkaaDoorHaU
set_option linter.unusedVariables false
set_option linter.unusedSimpArgs false
namespace Go.Proofs.YtokdnfhglckpkaaDoor
open Go.RowKit

namespace Hl
/-- the frames that are under way in one tick: each asks, and is answered, or is lost -/
def inner (n : Nat) (lost : Bool) : Nat → HlD → List Int → HlD
  | 0, a, _ => a
  | _ + 1, a, [] => a
  | k + 1, a, x :: q => if lost = true then inner n lost k a q else if x < 0 then inner n lost k (abMani n a).1 (q ++ (abMani n a).2) else inner n lost k (abPart x.toNat a).1 (q ++ (abPart x.toNat a).2)
def aAt (n : Nat) (one : Int) : Nat → HlD
  | 0 => new [] 3
  | i + 1 => inner n ((i : Int) == one) 60 (tick (aAt n one i)).1 (tick (aAt n one i)).2
def comesB (n : Nat) (one : Int) : Bool := (aAt n one 14).done && !(aAt n one 14).failed
set_option maxRecDepth 100000 in
theorem comes_all : ((List.range 9).all fun n => (List.range 15).all fun j => comesB n ((j : Int) - 1)) = true := by decide +kernel
theorem comes (n : Nat) (one : Int) (hn : n ≤ 8) (h1 : -1 ≤ one) (h2 : one ≤ 13) : (aAt n one 14).done = true ∧ (aAt n one 14).failed = false := by
  have h := comes_all
  rw [List.all_eq_true] at h
  have h3 := h n (List.mem_range.2 (by omega))
  rw [List.all_eq_true] at h3
  have h4 := h3 (one + 1).toNat (List.mem_range.2 (by omega))
  have e : (((one + 1).toNat : Nat) : Int) - 1 = one := by omega
  rw [e] at h4
  unfold comesB at h4
  simpa using h4
/-- a place that is asked for is one of a chunk, or the manifest's -/
theorem fillAt_in (t : Int) (cks : List Ck) (n : Nat) : ∀ j, ∀ x ∈ (fillAt t cks n j).2.2, 0 ≤ x ∧ x < cks.length
  | 0, x, h => by simp [fillAt] at h
  | j + 1, x, h => by
    have ih := fillAt_in t cks n j
    rw [fillAt] at h
    unfold fillStep at h
    split at h
    · rename_i c hc
      split at h
      · rcases List.mem_append.1 h with h | h
        · exact ih x h
        · simp only [List.mem_singleton] at h
          subst h
          have := (List.getElem?_eq_some_iff.1 hc).1
          rw [fillAt_len] at this
          omega
      · exact ih x h
    · exact ih x h
theorem againAt_in (t : Int) (cks : List Ck) : ∀ j, ∀ x ∈ (againAt t cks j).2, 0 ≤ x ∧ x < cks.length
  | 0, x, h => by simp [againAt] at h
  | j + 1, x, h => by
    have ih := againAt_in t cks j
    rw [againAt] at h
    unfold againStep at h
    split at h
    · rename_i c hc
      split at h
      · rcases List.mem_append.1 h with h | h
        · exact ih x h
        · simp only [List.mem_singleton] at h
          subst h
          have := (List.getElem?_eq_some_iff.1 hc).1
          rw [againAt_len] at this
          omega
      · exact ih x h
    · exact ih x h
theorem tick_in {d : HlD} {n : Nat} (h : d.cks.length ≤ n) : ∀ x ∈ (tick d).2, -1 ≤ x ∧ x < n := by
  intro x hx
  unfold tick at hx
  split at hx
  · simp at hx
  · split at hx
    · simp at hx
    · split at hx
      · rcases List.mem_append.1 hx with hx | hx
        · have := againAt_in _ _ _ x hx; omega
        · have := fillAt_in _ _ _ _ x hx
          have hl := again_len (d.ticks + 1) d.cks
          omega
      · split at hx
        · simp at hx; omega
        · simp at hx
theorem abSettle_in (a : HlD) (n : Nat) (h : a.cks.length ≤ n) : ∀ x ∈ (abSettle a).2, -1 ≤ x ∧ x < n := by
  intro x hx
  unfold abSettle at hx
  split at hx
  · simp at hx
  · have := fillAt_in _ _ _ _ x hx; omega
theorem abMani_in (a : HlD) (n : Nat) : ∀ x ∈ (abMani n a).2, -1 ≤ x ∧ x < n := by
  intro x hx
  unfold abMani at hx
  split at hx
  · simp at hx
  · split at hx
    · simp at hx
    · exact abSettle_in _ n (by simp) x hx
theorem abPart_in (i : Nat) (a : HlD) (n : Nat) (h : a.cks.length ≤ n) : ∀ x ∈ (abPart i a).2, -1 ≤ x ∧ x < n := by
  intro x hx
  unfold abPart at hx
  split at hx
  · simp at hx
  · split at hx
    · simp at hx
    · split at hx
      · split at hx
        · simp at hx
        · exact abSettle_in _ n (by simpa using h) x hx
      · simp at hx
/-- at most 8 chunks of an own blob -/
theorem Own.cks_le {K : List Int} {l : List UInt8} {d : HlD} (h : Own K l d) (ok : Ok d) : d.cks.length ≤ (chunks l).length := by
  cases hq : d.mani with
  | none => rw [ok.none hq]; exact Nat.zero_le _
  | some sp => exact Nat.le_of_eq (h.mani sp hq).2
theorem tick_two (d : HlD) (ok : Ok d) : (tick d).2.length ≤ 16 := by
  have h8 := ok.len
  unfold tick
  split
  · simp
  · split
    · simp
    · split
      · rw [List.length_append]
        have h1 := again_ats (d.ticks + 1) d.cks
        have h2 := fill_ats (d.ticks + 1) (again (d.ticks + 1) d.cks).1
        have h3 := again_len (d.ticks + 1) d.cks
        omega
      · split <;> simp
theorem inner_nil (n : Nat) (lost : Bool) (k : Nat) (a : HlD) : inner n lost k a [] = a := by cases k <;> rfl
theorem inner_cons (n : Nat) (lost : Bool) (k : Nat) (a : HlD) (x : Int) (q : List Int) : inner n lost (k + 1) a (x :: q) = if lost = true then inner n lost k a q else if x < 0 then inner n lost k (abMani n a).1 (q ++ (abMani n a).2) else inner n lost k (abPart x.toNat a).1 (q ++ (abPart x.toNat a).2) := rfl
theorem tick_peer (d : HlD) : (tick d).1.peer = d.peer := by
  unfold tick
  split
  · rfl
  · split
    · rfl
    · split
      · rfl
      · split <;> rfl
theorem hear_peer (K : List Int) (d : HlD) (f : FrD) : (hearOf K d f).1.peer = d.peer := by
  rcases hear_cases K d f with e | ⟨-, -, d', sp, e, -, -, -, -, -, e6⟩
  · rw [e]
  · rw [e, ← e6]
    unfold settle
    split <;> rfl
end Hl
end Go.Proofs.YtokdnfhglckpkaaDoor
