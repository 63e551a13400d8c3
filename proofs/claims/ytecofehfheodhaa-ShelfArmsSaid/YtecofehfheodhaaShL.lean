/-
  Plain: a shelf that is armed, act by act.
-/
import Derived.Test.YtecofehfheodhaaShK
set_option linter.unusedVariables false
set_option linter.unusedSimpArgs false
namespace Go.Proofs.Ytecofehfheodhaa
open Go.RowKit Sh

/-- four slots, armed at n, d acts done -/
structure Armed (s : St) (n d : Nat) : Prop where
  down : s.pw.down = decide (d = n)
  acts : s.pw.acts = d
  armed : s.pw.armed = n - d
  life : s.pw.life = if d = n then 1 else 0
  len : s.slots.length = 4
  le : d ≤ n

theorem Pw.ext' {p q : Pw} (h1 : p.down = q.down) (h2 : p.acts = q.acts) (h3 : p.armed = q.armed) (h4 : p.life = q.life) : p = q := by
  cases p; cases q; simp at h1 h2 h3 h4; simp [h1, h2, h3, h4]
theorem armed_act {s : St} {n d : Nat} (h : Armed s n d) (hd : d < n) (ss : List Slot) (hs : ss.length = 4) : Armed { pw := s.pw.act, slots := ss } n (d + 1) ∧ s.pw.err = if d + 1 = n then 10 else 0 := by
  obtain ⟨h1, h2, h3, h4, h5, h6⟩ := h
  have hne : ¬ d = n := by omega
  simp only [hne, decide_false, if_false] at h1 h4
  by_cases he : d + 1 = n
  · have ha : s.pw.armed = 1 := by omega
    refine ⟨⟨?_, ?_, ?_, ?_, hs, by omega⟩, ?_⟩
    · simp [Pw.act, Pw.off, ha, h1, he]
    · simp [Pw.act, Pw.off, ha, h1, h2]
    · simp [Pw.act, Pw.off, ha, h1, he]
    · simp [Pw.act, Pw.off, ha, h1, he, h4]
    · simp [Pw.err, ha, he]
  · have ha : s.pw.armed ≠ 1 := by omega
    have ha0 : s.pw.armed ≠ 0 := by omega
    refine ⟨⟨?_, ?_, ?_, ?_, hs, by omega⟩, ?_⟩
    · simp [Pw.act, ha, ha0, h1, he]
    · simp [Pw.act, ha, ha0, h2]
    · simp [Pw.act, ha, ha0]; omega
    · simp [Pw.act, ha, ha0, h4, he]
    · simp [Pw.err, ha, he]
theorem armed_new (n : Nat) (hn : 0 < n) : Armed (St.arm (St.new 4) n) n 0 := by
  refine ⟨?_, rfl, ?_, ?_, by simp [St.arm, St.new], by omega⟩
  · simp [St.arm, St.new]; omega
  · simp [St.arm, St.new]
  · rw [if_neg (by omega)]; rfl
theorem Armed.sync {s : St} {n d : Nat} (h : Armed s n d) (hd : d < n) : Armed (St.sync s) n (d + 1) ∧ St.syncErr s = if d + 1 = n then 10 else 0 := by
  have h1 : s.pw.down = false := by rw [h.down]; simp; omega
  obtain ⟨a1, a2⟩ := armed_act h hd s.slots h.len
  obtain ⟨b1, b2⟩ := armed_act h hd (s.slots.map sure1) (by simp [h.len])
  refine ⟨?_, ?_⟩
  · unfold St.sync
    rw [if_neg (by simp [h1])]
    split
    · exact b1
    · exact a1
  · unfold St.syncErr
    rw [if_neg (by simp [h1])]
    exact a2
theorem Armed.write {s : St} {n d : Nat} (h : Armed s n d) (hd : d < n) (k : Nat) (hk : k < 4) (t : List UInt8) (ht : t.length ≤ 640) : Armed (St.write s k t) n (d + 1) ∧ St.writeErr s k t = if d + 1 = n then 10 else 0 := by
  have h1 : s.pw.down = false := by rw [h.down]; simp; omega
  have he : St.atErr s k = 0 := by unfold St.atErr; rw [if_neg (by simp [h1]), if_neg (by rw [h.len]; omega)]
  obtain ⟨a1, a2⟩ := armed_act h hd (setNow s.slots k t) (by rw [setNow_length, h.len])
  unfold St.write St.writeErr
  rw [if_neg (by simp [he]; omega), if_neg (by simp [he]), if_neg (by omega)]
  exact ⟨a1, a2⟩
theorem Armed.arg {s : St} {n d : Nat} (h : Armed s n d) (hd : d < n) (k : Int) (hk : k < 0 ∨ 4 ≤ k) (t : List UInt8) : St.write s k t = s ∧ St.writeErr s k t = 1 := by
  have h1 : s.pw.down = false := by rw [h.down]; simp; omega
  have he : St.atErr s k = 1 := by unfold St.atErr; rw [if_neg (by simp [h1]), if_pos (by rw [h.len]; omega)]
  unfold St.write St.writeErr
  rw [if_pos (.inl (by simp [he])), if_pos (by simp [he])]
  exact ⟨rfl, he⟩
theorem Armed.gone {s : St} {n d : Nat} (h : Armed s n d) (hd : d = n) (k : Int) (t : List UInt8) : St.write s k t = s ∧ St.writeErr s k t = 10 := by
  have h1 : s.pw.down = true := by rw [h.down]; simp [hd]
  have he : St.atErr s k = 10 := by unfold St.atErr; rw [if_pos h1]
  unfold St.write St.writeErr
  rw [if_pos (.inl (by simp [he])), if_pos (by simp [he])]
  exact ⟨rfl, he⟩
end Go.Proofs.Ytecofehfheodhaa
