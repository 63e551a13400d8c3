/-
  Layer 17, plain: what is there at the end has the digest that was asked for; at most two at a time; an end for every fetch.
-/
import Derived.Test.YtokdnfhglckpkaaDoorHaS
set_option linter.unusedVariables false
set_option linter.unusedSimpArgs false
namespace Go.Proofs.YtokdnfhglckpkaaDoor
open Go.RowKit

namespace Hl
structure Tru (K : List Int) (o : List UInt8) (d : HlD) : Prop where
  out : d.out = o
  done : d.done = true → d.failed = false ∧ hashB K d.blob = o
  undone : d.done = false → d.blob = []
  len : d.blob.length ≤ 512
theorem tru_new (K : List Int) (o : List UInt8) (peer : Int) : Tru K o (new o peer) := ⟨rfl, (fun e => by cases e), (fun _ => rfl), by show 0 ≤ 512; decide⟩
theorem tru_tick {K : List Int} {o : List UInt8} {d : HlD} (h : Tru K o d) : Tru K o (tick d).1 := by
  unfold tick
  split
  · exact h
  · rename_i hc
    have hdn : d.done = false := by cases hq : d.done <;> simp_all
    split
    · exact ⟨h.out, (fun e => by rw [show ({ d with ticks := d.ticks + 1, failed := true } : HlD).done = d.done from rfl, hdn] at e; cases e), h.undone, h.len⟩
    · split
      · exact ⟨h.out, h.done, h.undone, h.len⟩
      · split <;> exact ⟨h.out, h.done, h.undone, h.len⟩
theorem joinS_len (K : List Int) (m : ManiD) (ts : List (List UInt8)) : (joinS K m ts).1.length ≤ 512 := by
  unfold joinS
  split
  · rename_i hg
    split
    · rename_i hf
      split
      · obtain ⟨hg1, hg2⟩ := hg
        unfold goodS at hg1
        simp only [decide_eq_true_eq] at hg1
        have h64 : ∀ t ∈ ts, t.length ≤ 64 := by
          intro t ht
          obtain ⟨i, hi, rfl⟩ := List.mem_iff_getElem.1 ht
          rw [List.all_eq_true] at hf
          have h := hf i (List.mem_range.2 hi)
          have e : ts.getD i [] = ts[i] := by simp [List.getD, hi]
          rw [e] at h
          exact (fitsS_in h).2.2
        have h8 := flat_le ts 64 h64
        show ts.flatten.length ≤ 512
        have : ts.length ≤ 8 := by omega
        omega
      · simp
    · simp
  · simp
theorem tru_settle {K : List Int} {o : List UInt8} {d : HlD} (h : Tru K o d) (hdn : d.done = false) (sp : Int × List (List UInt8)) : Tru K o (settle K d sp).1 := by
  unfold settle
  split
  · have hj : (joinS K (mk d.out sp) (d.cks.map (·.data))).2 = 0 ∧ hashB K (joinS K (mk d.out sp) (d.cks.map (·.data))).1 = d.out ∨ (joinS K (mk d.out sp) (d.cks.map (·.data))).2 ≠ 0 ∧ (joinS K (mk d.out sp) (d.cks.map (·.data))).1 = [] := by
      unfold joinS
      split
      · split
        · split
          · rename_i hw
            exact .inl ⟨rfl, hw⟩
          · exact .inr ⟨by decide, rfl⟩
        · exact .inr ⟨by decide, rfl⟩
      · exact .inr ⟨by decide, rfl⟩
    have hjl := joinS_len K (mk d.out sp) (d.cks.map (·.data))
    obtain ⟨j, hjj⟩ : ∃ j, j = joinS K (mk d.out sp) (d.cks.map (·.data)) := ⟨_, rfl⟩
    rw [← hjj] at hj hjl ⊢
    rcases hj with ⟨h1, h2⟩ | ⟨h1, h2⟩
    · refine ⟨h.out, fun _ => ⟨by simp [h1], by rw [← h.out]; exact h2⟩, fun e => ?_, hjl⟩
      simp [h1] at e
    · refine ⟨h.out, fun e => ?_, fun _ => h2, hjl⟩
      simp [h1] at e
  · exact ⟨h.out, h.done, h.undone, h.len⟩
theorem hear_cases (K : List Int) (d : HlD) (f : FrD) : hearOf K d f = (d, []) ∨ (d.done = false ∧ d.failed = false ∧ ∃ d' sp, hearOf K d f = settle K d' sp ∧ d'.out = d.out ∧ d'.done = d.done ∧ d'.blob = d.blob ∧ d'.failed = d.failed ∧ d'.ticks = d.ticks ∧ d'.peer = d.peer) := by
  by_cases hc : d.done = true ∨ d.failed = true
  · exact .inl (hear_shut hc)
  · have hdn : d.done = false := by cases hq : d.done <;> simp_all
    have hfl : d.failed = false := by cases hq : d.failed <;> simp_all
    unfold hearOf hear
    split
    · exact .inl rfl
    · split
      · split
        · exact .inl rfl
        · split
          · exact .inr ⟨hdn, hfl, _, _, rfl, rfl, rfl, rfl, rfl, rfl, rfl⟩
          · exact .inl rfl
      · split
        · split
          · exact .inl rfl
          · split
            · exact .inr ⟨hdn, hfl, _, _, rfl, rfl, rfl, rfl, rfl, rfl, rfl⟩
            · exact .inl rfl
        · exact .inl rfl
theorem tru_hear {K : List Int} {o : List UInt8} {d : HlD} (h : Tru K o d) (f : FrD) : Tru K o (hearOf K d f).1 := by
  rcases hear_cases K d f with e | ⟨hdn, hfl, d', sp, e, e1, e2, e3, e4, e5, e6⟩
  · rw [e]; exact h
  · rw [e]
    exact tru_settle ⟨e1.trans h.out, fun x => by rw [e2] at x; rw [e4, e3]; exact h.done x, fun x => by rw [e2] at x; rw [e3]; exact h.undone x, by rw [e3]; exact h.len⟩ (by rw [e2]; exact hdn) sp
theorem fillAt_two (t : Int) (cks : List Ck) (n : Nat) : ∀ j, (fillAt t cks n j).2.2.length + n = (fillAt t cks n j).2.1 ∧ ((fillAt t cks n j).2.1 ≤ 2 ∨ (fillAt t cks n j).2.2 = [])
  | 0 => ⟨by simp [fillAt], .inr rfl⟩
  | j + 1 => by
    obtain ⟨h1, h2⟩ := fillAt_two t cks n j
    rw [fillAt]
    unfold fillStep
    split
    · split
      · rename_i hc
        refine ⟨by simp only [List.length_append, List.length_singleton]; omega, .inl (by simp only; omega)⟩
      · exact ⟨h1, h2⟩
    · exact ⟨h1, h2⟩
theorem fill_two (t : Int) (cks : List Ck) : (fill t cks).2.length ≤ 2 := by
  obtain ⟨h1, h2⟩ := fillAt_two t cks (askN cks cks.length) cks.length
  unfold fill
  simp only
  rcases h2 with h2 | h2
  · omega
  · rw [h2]; simp
theorem hear_two (K : List Int) (d : HlD) (f : FrD) : (hearOf K d f).2.length ≤ 2 := by
  rcases hear_cases K d f with e | ⟨-, -, d', sp, e, -⟩
  · rw [e]; simp
  · rw [e]
    unfold settle
    split
    · simp
    · exact fill_two _ _
def over (d : HlD) : Bool := d.done || d.failed
theorem over_or {d : HlD} : over d = true ↔ d.done = true ∨ d.failed = true := by unfold over; simp
theorem over_hear (K : List Int) {d : HlD} (f : FrD) (h : over d = true) : hearOf K d f = (d, []) := hear_shut (over_or.1 h)
theorem over_tick {d : HlD} (h : over d = true) : tick d = (d, []) := by unfold tick; rw [if_pos (over_or.1 h)]
theorem over_after_hear (K : List Int) {d : HlD} (f : FrD) (h : over d = true) : over (hearOf K d f).1 = true := by rw [over_hear K f h]; exact h
theorem over_after_tick {d : HlD} (h : over d = true) : over (tick d).1 = true := by rw [over_tick h]; exact h
/-- as long as it is open its own count of ticks is the number of ticks -/
def Count (d : HlD) (n : Nat) : Prop := over d = false → d.ticks = n
theorem count_tick {d : HlD} {n : Nat} (h : Count d n) : Count (tick d).1 (n + 1) := by
  intro ho
  by_cases hc : over d = true
  · rw [over_tick hc, hc] at ho; cases ho
  · have hc' : over d = false := by simpa using hc
    have e := h hc'
    have hn : ¬ (d.done = true ∨ d.failed = true) := fun hh => hc (over_or.2 hh)
    unfold tick at ho ⊢
    rw [if_neg hn] at ho ⊢
    split
    · show d.ticks + 1 = _; omega
    · split
      · show d.ticks + 1 = _; omega
      · split <;> (show d.ticks + 1 = _; omega)
theorem settle_ticks (K : List Int) (d : HlD) (sp : Int × List (List UInt8)) : (settle K d sp).1.ticks = d.ticks := by unfold settle; split <;> rfl
theorem count_hear {K : List Int} {d : HlD} {n : Nat} (f : FrD) (h : Count d n) : Count (hearOf K d f).1 n := by
  intro ho
  rcases hear_cases K d f with e | ⟨hdn, hfl, d', sp, e, -, -, -, -, e5, -⟩
  · rw [e] at ho ⊢; exact h ho
  · rw [e, settle_ticks, e5]
    exact h (by unfold over; rw [hdn, hfl]; rfl)
/-- after 15 ticks it is at its end -/
theorem count_end {d : HlD} {n : Nat} (ok : Ok d) (h : Count d n) (hn : 15 ≤ n) : over d = true := by
  cases ho : over d with
  | true => rfl
  | false =>
    have e := h ho
    have hf : d.failed = false := by unfold over at ho; simp at ho; exact ho.2
    have := ok.open14 hf
    omega
end Hl
end Go.Proofs.YtokdnfhglckpkaaDoor
