/-
  The walks of shelf: at, Write, Read.
-/
import Derived.Test.YtfbjbhddapoopaaDoorShA
set_option linter.unusedVariables false
set_option linter.unusedSimpArgs false
namespace Go.Proofs.YtfbjbhddapoopaaDoor
open Go.RowKit Sh
attribute [local go_sem] Lb.ba_get Lb.ba_cut Lb.ba_add Lb.ba_size Lb.take_rest

def slotCells (ss : List Slot) : List Value := ss.flatMap fun s => [.string ⟨s.now.toArray⟩, .string ⟨s.sure.toArray⟩, .bool s.opn]
def SlotsAt (w : World) (g : Nat) (ss : List Slot) : Prop := w.heap[g]? = some (.cells (slotCells ss).toArray 161 (0, 0))
def slV (g n : Nat) : Value := .slice (some ⟨g, 0, none⟩) n n
structure ShAt (w : World) (b g : Nat) (s : St) : Prop where
  pw : PwAt w b s.pw (slV g s.slots.length)
  slots : SlotsAt w g s.slots
  ne : b ≠ g
  len : s.slots.length ≤ 128

theorem slotCells_get : ∀ (ss : List Slot) (i : Nat) (h : i < ss.length), (slotCells ss)[i * 3]? = some (.string ⟨(ss[i]).now.toArray⟩) ∧ (slotCells ss)[i * 3 + 1]? = some (.string ⟨(ss[i]).sure.toArray⟩) ∧ (slotCells ss)[i * 3 + 2]? = some (.bool (ss[i]).opn)
  | s :: ss, 0, _ => by simp [slotCells]
  | s :: ss, i + 1, h => by
    have := slotCells_get ss i (by simpa using h)
    have e : slotCells (s :: ss) = [.string ⟨s.now.toArray⟩, .string ⟨s.sure.toArray⟩, .bool s.opn] ++ slotCells ss := by simp [slotCells]
    rw [e, show (i + 1) * 3 = i * 3 + 3 from by omega]
    simpa using this

theorem slotCells_set : ∀ (ss : List Slot) (i : Nat) (h : i < ss.length) (t : List UInt8), (slotCells ss).set (i * 3) (.string ⟨t.toArray⟩) = slotCells (ss.set i { ss[i] with now := t })
  | s :: ss, 0, _, t => by simp [slotCells]
  | s :: ss, i + 1, h, t => by
    have := slotCells_set ss i (by simpa using h) t
    have e : ∀ x : Slot, ∀ l, slotCells (x :: l) = .string ⟨x.now.toArray⟩ :: .string ⟨x.sure.toArray⟩ :: .bool x.opn :: slotCells l := by intro x l; simp [slotCells]
    rw [show (i + 1) * 3 = i * 3 + 3 from by omega]
    simp only [e, List.set_cons_succ, List.getElem_cons_succ, this]
theorem slotCells_set1 : ∀ (ss : List Slot) (i : Nat) (h : i < ss.length) (t : List UInt8), (slotCells ss).set (i * 3 + 1) (.string ⟨t.toArray⟩) = slotCells (ss.set i { ss[i] with sure := t })
  | s :: ss, 0, _, t => by simp [slotCells]
  | s :: ss, i + 1, h, t => by
    have := slotCells_set1 ss i (by simpa using h) t
    have e : ∀ x : Slot, ∀ l, slotCells (x :: l) = .string ⟨x.now.toArray⟩ :: .string ⟨x.sure.toArray⟩ :: .bool x.opn :: slotCells l := by intro x l; simp [slotCells]
    rw [show (i + 1) * 3 + 1 = i * 3 + 1 + 3 from by omega]
    simp only [e, List.set_cons_succ, List.getElem_cons_succ, this]
theorem slotCells_set2 : ∀ (ss : List Slot) (i : Nat) (h : i < ss.length) (t : Bool), (slotCells ss).set (i * 3 + 2) (.bool t) = slotCells (ss.set i { ss[i] with opn := t })
  | s :: ss, 0, _, t => by simp [slotCells]
  | s :: ss, i + 1, h, t => by
    have := slotCells_set2 ss i (by simpa using h) t
    have e : ∀ x : Slot, ∀ l, slotCells (x :: l) = .string ⟨x.now.toArray⟩ :: .string ⟨x.sure.toArray⟩ :: .bool x.opn :: slotCells l := by intro x l; simp [slotCells]
    rw [show (i + 1) * 3 + 2 = i * 3 + 2 + 3 from by omega]
    simp only [e, List.set_cons_succ, List.getElem_cons_succ, this]

theorem ShAt.cell {w : World} {b g : Nat} {s : St} (h : ShAt w b g s) (i : Nat) (hi : i < s.slots.length) :
    w.cell? ⟨g, i * 3, none⟩ = some (.string ⟨(s.slots[i]).now.toArray⟩) ∧ w.cell? ⟨g, i * 3 + 1, none⟩ = some (.string ⟨(s.slots[i]).sure.toArray⟩) ∧ w.cell? ⟨g, i * 3 + 2, none⟩ = some (.bool (s.slots[i]).opn) := by
  have := slotCells_get s.slots i hi
  rw [Lib.cell_of_heap h.slots, Lib.cell_of_heap h.slots, Lib.cell_of_heap h.slots]
  simpa using this

/-- the error of a slot -/
def St.atErr (s : St) (i : Int) : Int := if s.pw.down then 10 else if i < 0 ∨ s.slots.length ≤ i then 1 else 0

set_option maxHeartbeats 1000000 in
theorem at_err (b g : Nat) (s : St) (i : Int) (w : World) (h : ShAt w b g s) (hne : St.atErr s i ≠ 0) :
    Calls Tryd.prog 103 #[.pointer (some ⟨b, 0, none⟩), .int .i64 i] w fun e w' => e = .returned (.tuple #[.pointer none, .int .i64 (St.atErr s i)]) ∧ w = w' := by
  have c0 : w.cell? ⟨b, 0, none⟩ = some (.bool s.pw.down) := by rw [Lib.cell_of_heap h.pw]; rfl
  have c4 : w.cell? ⟨b, 4, none⟩ = some (.slice (some ⟨g, 0, none⟩) s.slots.length s.slots.length) := by rw [Lib.cell_of_heap h.pw]; rfl
  have hl := h.len
  unfold St.atErr at hne ⊢
  obtain ⟨n, hn⟩ : ∃ n, n = s.slots.length := ⟨_, rfl⟩
  rw [← hn] at c4 hl hne ⊢
  cases hd : s.pw.down with
  | true =>
    rw [hd] at c0
    clear hd hne hn h
    go_enter Tryd.func103, Tryd.ntmps103
    go_wp2
    go_ret2
    exact ⟨rfl, rfl⟩
  | false =>
    rw [hd] at c0 hne
    have hc : i < 0 ∨ 0 ≤ i ∧ (n : Int) ≤ i := by
      by_cases h1 : i < 0
      · exact .inl h1
      · by_cases h2 : (n : Int) ≤ i
        · exact .inr ⟨by omega, h2⟩
        · exact absurd (by simp [h1, h2]) hne
    have e1 : (if (false = true) then (10 : Int) else if i < 0 ∨ (n : Int) ≤ i then 1 else 0) = 1 := by rw [if_neg (by simp), if_pos (by omega)]
    rw [e1]
    clear hd hne hn h e1
    rcases hc with hc | ⟨hc, hc'⟩
    all_goals
      go_enter Tryd.func103, Tryd.ntmps103
      go_wp2
      go_ret2
      exact ⟨rfl, rfl⟩

set_option maxHeartbeats 1000000 in
theorem at_ok (b g : Nat) (s : St) (i : Nat) (w : World) (h : ShAt w b g s) (hd : s.pw.down = false) (hi : i < s.slots.length) :
    Calls Tryd.prog 103 #[.pointer (some ⟨b, 0, none⟩), .int .i64 i] w fun e w' => e = .returned (.tuple #[.pointer (some ⟨g, i * 3, none⟩), .int .i64 0]) ∧ w = w' := by
  have c0 : w.cell? ⟨b, 0, none⟩ = some (.bool s.pw.down) := by rw [Lib.cell_of_heap h.pw]; rfl
  have c4 : w.cell? ⟨b, 4, none⟩ = some (.slice (some ⟨g, 0, none⟩) s.slots.length s.slots.length) := by rw [Lib.cell_of_heap h.pw]; rfl
  have hl := h.len
  obtain ⟨n, hn⟩ : ∃ n, n = s.slots.length := ⟨_, rfl⟩
  rw [← hn] at c4 hl hi
  rw [hd] at c0
  clear hd hn h
  have t1 : ¬ ((i : Int) < 0) := by omega
  have t2 : ¬ ((n : Int) ≤ (i : Int)) := by omega
  go_enter Tryd.func103, Tryd.ntmps103
  go_wp2
  go_ret2
  exact ⟨rfl, rfl⟩

end Go.Proofs.YtfbjbhddapoopaaDoor
