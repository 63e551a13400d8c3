/-
  The walks of shelf: rest, left.
-/
import Derived.Test.YteihfoacdocgkaaDoorProg
import Derived.Test.YteihfoacdocgkaaDoorBase
import Derived.Test.YteihfoacdocgkaaDoorShPlain
import Derived.WalkKit
import Derived.WalkSpells
import Derived.WalkLawsBesides
import Derived.BigRegion
import Derived.BigQuiet
import Derived.Deep.QuietTactic
import Derived.Deep.DeepCutAuto
import Derived.Lib.Hide
set_option linter.unusedVariables false
set_option linter.unusedSimpArgs false
namespace Go.Proofs.YteihfoacdocgkaaDoor
open Go.RowKit Sh
attribute [local go_sem] Lb.ba_get Lb.ba_cut Lb.ba_add Lb.ba_size Lb.take_rest

def pwCells (p : Pw) (sl : Value) : Array Value := #[.bool p.down, .int .i64 p.acts, .int .i64 p.armed, .int .i64 p.life, sl]
def PwAt (w : World) (b : Nat) (p : Pw) (sl : Value) : Prop := w.heap[b]? = some (.cells (pwCells p sl) 125 (0, 0))

set_option maxHeartbeats 1000000 in
theorem off_any (b : Nat) (p : Pw) (sl : Value) (w : World) (h : PwAt w b p sl) (hf : p.fits 1) :
    Calls Tryd.prog 77 #[.pointer (some ⟨b, 0, none⟩)] w fun e w' => e = .returned (.tuple #[]) ∧ PwAt w' b p.off sl ∧ Only [b] w w' := by
  obtain ⟨d, ac, ar, li⟩ := p
  obtain ⟨f1, f2, f3⟩ := hf
  simp only at f1 f2 f3
  have c0 : w.cell? ⟨b, 0, none⟩ = some (.bool d) := by rw [Lib.cell_of_heap h]; rfl
  have c3 : w.cell? ⟨b, 3, none⟩ = some (.int .i64 li) := by rw [Lib.cell_of_heap h]; rfl
  have c2 : w.cell? ⟨b, 2, none⟩ = some (.int .i64 ar) := by rw [Lib.cell_of_heap h]; rfl
  have z0 : w.frozen? ⟨b, 0, none⟩ = false := Lib.frozen_of_heap h 0
  have z2 : w.frozen? ⟨b, 2, none⟩ = false := Lib.frozen_of_heap h 2
  have z3 : w.frozen? ⟨b, 3, none⟩ = false := Lib.frozen_of_heap h 3
  have H := Lib.hid h
  clear h
  cases d
  · go_enter Tryd.func77, Tryd.ntmps77
    go_wp2
    go_end0
    refine ⟨rfl, ?_, ?_⟩
    · exact heap_setCell_same _ b 3 _ _ _ (heap_setCell_same _ b 2 _ _ _ (heap_setCell_same _ b 0 _ _ _ H.out))
    · exact (((Only.refl _ _).setCell (by simp) _).setCell (by simp) _).setCell (by simp) _
  · go_enter Tryd.func77, Tryd.ntmps77
    go_wp2
    go_end0
    exact ⟨rfl, H.out, Only.refl _ _⟩

set_option maxHeartbeats 1000000 in
theorem act_any (b : Nat) (p : Pw) (sl : Value) (w : World) (h : PwAt w b p sl) (hf : p.fits 2) :
    Calls Tryd.prog 85 #[.pointer (some ⟨b, 0, none⟩)] w fun e w' => e = .returned (.int .i64 p.err) ∧ PwAt w' b p.act sl ∧ Only [b] w w' := by
  obtain ⟨d, ac, ar, li⟩ := p
  obtain ⟨f1, f2, f3⟩ := hf
  simp only at f1 f2 f3
  have c1 : w.cell? ⟨b, 1, none⟩ = some (.int .i64 ac) := by rw [Lib.cell_of_heap h]; rfl
  have c2 : w.cell? ⟨b, 2, none⟩ = some (.int .i64 ar) := by rw [Lib.cell_of_heap h]; rfl
  have z1 : w.frozen? ⟨b, 1, none⟩ = false := Lib.frozen_of_heap h 1
  have z2 : w.frozen? ⟨b, 2, none⟩ = false := Lib.frozen_of_heap h 2
  have H := Lib.hid h
  clear h
  have hc : ar = 0 ∨ ar = 1 ∨ 1 < ar := by omega
  rcases hc with rfl | rfl | hc
  · go_enter Tryd.func85, Tryd.ntmps85
    go_wp2
    go_ret
    refine ⟨rfl, ?_, (Only.refl _ _).setCell (by simp) _⟩
    exact heap_setCell_same _ b 1 _ _ _ H.out
  · go_enter Tryd.func85, Tryd.ntmps85
    go_wp2_with fail
    have h2 : PwAt ((w.setCell ⟨b, 1, none⟩ (.int .i64 (↑ac + 1))).setCell ⟨b, 2, none⟩ (.int .i64 0)) b ⟨d, ac + 1, 0, li⟩ sl := heap_setCell_same _ b 2 _ _ _ (heap_setCell_same _ b 1 _ _ _ H.out)
    refine (off_any b _ sl _ h2 ⟨by simp; omega, by simp, by simp; omega⟩).mono ?_
    rintro e w2 ⟨rfl, hp, ho⟩
    go_wp2
    go_ret
    exact ⟨rfl, hp, (((Only.refl _ _).setCell (by simp) _).setCell (by simp) _).trans ho⟩
  · have t1 : ((ar : Int) == 0) = false := by simp; omega
    have t2 : ((ar : Int) - 1 == 0) = false := by simp; omega
    go_enter Tryd.func85, Tryd.ntmps85
    go_wp2
    go_ret
    refine ⟨?_, ?_, ((Only.refl _ _).setCell (by simp) _).setCell (by simp) _⟩
    · have : ({ down := d, acts := ac, armed := ar, life := li } : Pw).err = 0 := by unfold Pw.err; rw [if_neg (by simp; omega)]
      rw [this]; rfl
    · have e : ({ down := d, acts := ac, armed := ar, life := li } : Pw).act = { down := d, acts := ac + 1, armed := ar - 1, life := li } := by
        unfold Pw.act; rw [if_neg (by simp; omega), if_neg (by simp; omega)]
      rw [e]
      have e2 : pwCells { down := d, acts := ac + 1, armed := ar - 1, life := li } sl = ((pwCells { down := d, acts := ac, armed := ar, life := li } sl).setIfInBounds 1 (.int .i64 (↑ac + 1))).setIfInBounds 2 (.int .i64 (↑ar - 1)) := by
        have : ((ar - 1 : Nat) : Int) = (ar : Int) - 1 := by omega
        simp [pwCells, this]
      unfold PwAt
      rw [e2]
      exact heap_setCell_same _ b 2 _ _ _ (heap_setCell_same _ b 1 _ _ _ H.out)
end Go.Proofs.YteihfoacdocgkaaDoor

set_option linter.unusedVariables false
set_option linter.unusedSimpArgs false
namespace Go.Proofs.YteihfoacdocgkaaDoor
open Go.RowKit Sh
attribute [local go_sem] Lb.ba_get Lb.ba_cut Lb.ba_add Lb.ba_size Lb.take_rest

def slotCells (ss : List Slot) : List Value := ss.flatMap fun s => [.string ⟨s.now.toArray⟩, .string ⟨s.sure.toArray⟩, .bool s.opn]
def SlotsAt (w : World) (g : Nat) (ss : List Slot) : Prop := w.heap[g]? = some (.cells (slotCells ss).toArray 141 (0, 0))
def slV (g n : Nat) : Value := .slice (some ⟨g, 0, none⟩) n n
structure ShAt (w : World) (b g : Nat) (s : St) : Prop where
  pw : PwAt w b s.pw (slV g s.slots.length)
  slots : SlotsAt w g s.slots
  ne : b ≠ g
  len : s.slots.length ≤ 128

theorem slotCells_get : ∀ (ss : List Slot) (i : Nat) (h : i < ss.length), (slotCells ss)[i * 3]? = some (.string ⟨(ss[i]).now.toArray⟩) ∧ (slotCells ss)[i * 3 + 1]? = some (.string ⟨(ss[i]).sure.toArray⟩) ∧ (slotCells ss)[i * 3 + 2]? = some (.bool (ss[i]).opn)
  | s :: ss, 0, _ => by simp [slotCells]
  | s :: ss, i + 1, h => by
    have := slotCells_get ss i (by simpa using h)
    have e : slotCells (s :: ss) = [.string ⟨s.now.toArray⟩, .string ⟨s.sure.toArray⟩, .bool s.opn] ++ slotCells ss := by simp [slotCells]
    rw [e, show (i + 1) * 3 = i * 3 + 3 from by omega]
    simpa using this

theorem slotCells_set : ∀ (ss : List Slot) (i : Nat) (h : i < ss.length) (t : List UInt8), (slotCells ss).set (i * 3) (.string ⟨t.toArray⟩) = slotCells (ss.set i { ss[i] with now := t })
  | s :: ss, 0, _, t => by simp [slotCells]
  | s :: ss, i + 1, h, t => by
    have := slotCells_set ss i (by simpa using h) t
    have e : ∀ x : Slot, ∀ l, slotCells (x :: l) = .string ⟨x.now.toArray⟩ :: .string ⟨x.sure.toArray⟩ :: .bool x.opn :: slotCells l := by intro x l; simp [slotCells]
    rw [show (i + 1) * 3 = i * 3 + 3 from by omega]
    simp only [e, List.set_cons_succ, List.getElem_cons_succ, this]
theorem slotCells_set1 : ∀ (ss : List Slot) (i : Nat) (h : i < ss.length) (t : List UInt8), (slotCells ss).set (i * 3 + 1) (.string ⟨t.toArray⟩) = slotCells (ss.set i { ss[i] with sure := t })
  | s :: ss, 0, _, t => by simp [slotCells]
  | s :: ss, i + 1, h, t => by
    have := slotCells_set1 ss i (by simpa using h) t
    have e : ∀ x : Slot, ∀ l, slotCells (x :: l) = .string ⟨x.now.toArray⟩ :: .string ⟨x.sure.toArray⟩ :: .bool x.opn :: slotCells l := by intro x l; simp [slotCells]
    rw [show (i + 1) * 3 + 1 = i * 3 + 1 + 3 from by omega]
    simp only [e, List.set_cons_succ, List.getElem_cons_succ, this]
theorem slotCells_set2 : ∀ (ss : List Slot) (i : Nat) (h : i < ss.length) (t : Bool), (slotCells ss).set (i * 3 + 2) (.bool t) = slotCells (ss.set i { ss[i] with opn := t })
  | s :: ss, 0, _, t => by simp [slotCells]
  | s :: ss, i + 1, h, t => by
    have := slotCells_set2 ss i (by simpa using h) t
    have e : ∀ x : Slot, ∀ l, slotCells (x :: l) = .string ⟨x.now.toArray⟩ :: .string ⟨x.sure.toArray⟩ :: .bool x.opn :: slotCells l := by intro x l; simp [slotCells]
    rw [show (i + 1) * 3 + 2 = i * 3 + 2 + 3 from by omega]
    simp only [e, List.set_cons_succ, List.getElem_cons_succ, this]

theorem ShAt.cell {w : World} {b g : Nat} {s : St} (h : ShAt w b g s) (i : Nat) (hi : i < s.slots.length) :
    w.cell? ⟨g, i * 3, none⟩ = some (.string ⟨(s.slots[i]).now.toArray⟩) ∧ w.cell? ⟨g, i * 3 + 1, none⟩ = some (.string ⟨(s.slots[i]).sure.toArray⟩) ∧ w.cell? ⟨g, i * 3 + 2, none⟩ = some (.bool (s.slots[i]).opn) := by
  have := slotCells_get s.slots i hi
  rw [Lib.cell_of_heap h.slots, Lib.cell_of_heap h.slots, Lib.cell_of_heap h.slots]
  simpa using this

/-- the error of a slot -/
def St.atErr (s : St) (i : Int) : Int := if s.pw.down then 10 else if i < 0 ∨ s.slots.length ≤ i then 1 else 0

set_option maxHeartbeats 1000000 in
theorem at_err (b g : Nat) (s : St) (i : Int) (w : World) (h : ShAt w b g s) (hne : St.atErr s i ≠ 0) :
    Calls Tryd.prog 84 #[.pointer (some ⟨b, 0, none⟩), .int .i64 i] w fun e w' => e = .returned (.tuple #[.pointer none, .int .i64 (St.atErr s i)]) ∧ w = w' := by
  have c0 : w.cell? ⟨b, 0, none⟩ = some (.bool s.pw.down) := by rw [Lib.cell_of_heap h.pw]; rfl
  have c4 : w.cell? ⟨b, 4, none⟩ = some (.slice (some ⟨g, 0, none⟩) s.slots.length s.slots.length) := by rw [Lib.cell_of_heap h.pw]; rfl
  have hl := h.len
  unfold St.atErr at hne ⊢
  obtain ⟨n, hn⟩ : ∃ n, n = s.slots.length := ⟨_, rfl⟩
  rw [← hn] at c4 hl hne ⊢
  cases hd : s.pw.down with
  | true =>
    rw [hd] at c0
    clear hd hne hn h
    go_enter Tryd.func84, Tryd.ntmps84
    go_wp2
    go_ret2
    exact ⟨rfl, rfl⟩
  | false =>
    rw [hd] at c0 hne
    have hc : i < 0 ∨ 0 ≤ i ∧ (n : Int) ≤ i := by
      by_cases h1 : i < 0
      · exact .inl h1
      · by_cases h2 : (n : Int) ≤ i
        · exact .inr ⟨by omega, h2⟩
        · exact absurd (by simp [h1, h2]) hne
    have e1 : (if (false = true) then (10 : Int) else if i < 0 ∨ (n : Int) ≤ i then 1 else 0) = 1 := by rw [if_neg (by simp), if_pos (by omega)]
    rw [e1]
    clear hd hne hn h e1
    rcases hc with hc | ⟨hc, hc'⟩
    all_goals
      go_enter Tryd.func84, Tryd.ntmps84
      go_wp2
      go_ret2
      exact ⟨rfl, rfl⟩

set_option maxHeartbeats 1000000 in
theorem at_ok (b g : Nat) (s : St) (i : Nat) (w : World) (h : ShAt w b g s) (hd : s.pw.down = false) (hi : i < s.slots.length) :
    Calls Tryd.prog 84 #[.pointer (some ⟨b, 0, none⟩), .int .i64 i] w fun e w' => e = .returned (.tuple #[.pointer (some ⟨g, i * 3, none⟩), .int .i64 0]) ∧ w = w' := by
  have c0 : w.cell? ⟨b, 0, none⟩ = some (.bool s.pw.down) := by rw [Lib.cell_of_heap h.pw]; rfl
  have c4 : w.cell? ⟨b, 4, none⟩ = some (.slice (some ⟨g, 0, none⟩) s.slots.length s.slots.length) := by rw [Lib.cell_of_heap h.pw]; rfl
  have hl := h.len
  obtain ⟨n, hn⟩ : ∃ n, n = s.slots.length := ⟨_, rfl⟩
  rw [← hn] at c4 hl hi
  rw [hd] at c0
  clear hd hn h
  have t1 : ¬ ((i : Int) < 0) := by omega
  have t2 : ¬ ((n : Int) ≤ (i : Int)) := by omega
  go_enter Tryd.func84, Tryd.ntmps84
  go_wp2
  go_ret2
  exact ⟨rfl, rfl⟩

end Go.Proofs.YteihfoacdocgkaaDoor

set_option linter.unusedVariables false
set_option linter.unusedSimpArgs false
namespace Go.Proofs.YteihfoacdocgkaaDoor
open Go.RowKit Sh
attribute [local go_sem] Lb.ba_get Lb.ba_cut Lb.ba_add Lb.ba_size Lb.take_rest

def St.writeErr (s : St) (i : Int) (t : List UInt8) : Int := if St.atErr s i ≠ 0 then St.atErr s i else if 640 < t.length then 1 else s.pw.err
def setNow (ss : List Slot) (i : Nat) (t : List UInt8) : List Slot := match ss[i]? with
  | some x => ss.set i { x with now := t, opn := true }
  | none => ss
def St.write (s : St) (i : Int) (t : List UInt8) : St := if St.atErr s i ≠ 0 ∨ 640 < t.length then s else { pw := s.pw.act, slots := setNow s.slots i.toNat t }

theorem setNow_length (ss : List Slot) (i : Nat) (t : List UInt8) : (setNow ss i t).length = ss.length := by
  unfold setNow; split <;> simp
theorem atErr_ok {s : St} {i : Int} (h : St.atErr s i = 0) : s.pw.down = false ∧ ∃ k : Nat, i = k ∧ k < s.slots.length := by
  unfold St.atErr at h
  split at h
  · cases h
  · rename_i hd
    split at h
    · cases h
    · exact ⟨by simpa using hd, i.toNat, by omega, by omega⟩
theorem atErr_vals (s : St) (i : Int) : St.atErr s i = 0 ∨ St.atErr s i = 1 ∨ St.atErr s i = 10 := by
  unfold St.atErr; split
  · simp
  · split <;> simp
theorem err_vals (p : Pw) : p.err = 0 ∨ p.err = 10 := by unfold Pw.err; split <;> simp

set_option maxHeartbeats 2000000 in
theorem write_any (b g : Nat) (s : St) (i : Int) (t : List UInt8) (w : World) (h : ShAt w b g s) (hf : s.pw.fits 2) (ht : t.length ≤ 9223372036854775807) :
    Calls Tryd.prog 38 #[.pointer (some ⟨b, 0, none⟩), .int .i64 i, .string ⟨t.toArray⟩] w fun e w' => e = .returned (.int .i64 (St.writeErr s i t)) ∧ ShAt w' b g (St.write s i t) ∧ Only [b, g] w w' := by
  by_cases he : St.atErr s i = 0
  · obtain ⟨hd, k, rfl, hk⟩ := atErr_ok he
    by_cases hl : 640 < t.length
    · have e1 : St.writeErr s k t = 1 := by unfold St.writeErr; rw [if_neg (by simpa using he), if_pos hl]
      have e2 : St.write s k t = s := by unfold St.write; rw [if_pos (.inr hl)]
      rw [e1, e2]
      have hl' : (640 : Int) < (t.length : Int) := by omega
      have Hc := Lib.hid (at_ok b g s k w h hd hk)
      have H := Lib.hid h
      clear h he e1 e2 hd hk
      go_enter Tryd.func38, Tryd.ntmps38
      go_wp2_with (go_at_call 84; refine Hc.out.mono ?_; rintro e w1 ⟨rfl, rfl⟩)
      go_ret
      exact ⟨rfl, H.out, Only.refl _ _⟩
    · have e1 : St.writeErr s k t = s.pw.err := by unfold St.writeErr; rw [if_neg (by simpa using he), if_neg hl]
      have e2 : St.write s k t = { pw := s.pw.act, slots := setNow s.slots k t } := by unfold St.write; rw [if_neg (by simp [he]; omega)]; rfl
      have e3 : setNow s.slots k t = (s.slots.set k { s.slots[k] with now := t }).set k { s.slots[k] with now := t, opn := true } := by
        unfold setNow; rw [List.getElem?_eq_getElem hk]; simp
      rw [e1, e2]
      obtain ⟨c0, c1, c2⟩ := h.cell k hk
      have z0 : w.frozen? ⟨g, k * 3, none⟩ = false := Lib.frozen_of_heap h.slots _
      have z2 : w.frozen? ⟨g, k * 3 + 2, none⟩ = false := Lib.frozen_of_heap h.slots _
      have Hc := Lib.hid (at_ok b g s k w h hd hk)
      have H := Lib.hid h
      have E3 := Lib.hid e3
      have hne := h.ne
      clear h he e1 e2 e3 hd
      go_enter Tryd.func38, Tryd.ntmps38
      go_wp2_with (go_at_call 84; refine Hc.out.mono ?_; rintro e w1 ⟨rfl, rfl⟩)
      have hs1 : SlotsAt ((w.setCell ⟨g, k * 3, none⟩ (.string ⟨t.toArray⟩)).setCell ⟨g, k * 3 + 2, none⟩ (.bool true)) g (setNow s.slots k t) := by
        have a1 := heap_setCell_same _ g (k * 3) _ _ (.string ⟨t.toArray⟩) H.out.slots
        have a2 := heap_setCell_same _ g (k * 3 + 2) _ _ (.bool true) a1
        have e := slotCells_set s.slots k hk t
        have e' := slotCells_set2 (s.slots.set k { s.slots[k] with now := t }) k (by simpa using hk) true
        unfold SlotsAt
        rw [a2, E3.out]
        simp only [List.getElem_set_self] at e'
        simp [List.setIfInBounds_toArray, e, e']
      have hp1 : PwAt ((w.setCell ⟨g, k * 3, none⟩ (.string ⟨t.toArray⟩)).setCell ⟨g, k * 3 + 2, none⟩ (.bool true)) b s.pw (slV g s.slots.length) :=
        Only.keep (bs := [g]) (((Only.refl [g] w).setCell (p := ⟨g, k * 3, none⟩) (by simp) _).setCell (p := ⟨g, k * 3 + 2, none⟩) (by simp) _) H.out.pw (by simpa using hne)
      have ho1 : Only [b, g] w ((w.setCell ⟨g, k * 3, none⟩ (.string ⟨t.toArray⟩)).setCell ⟨g, k * 3 + 2, none⟩ (.bool true)) := ((Only.refl _ w).setCell (p := ⟨g, k * 3, none⟩) (by simp) _).setCell (p := ⟨g, k * 3 + 2, none⟩) (by simp) _
      refine (act_any b s.pw _ _ hp1 hf).mono ?_
      rintro e w2 ⟨rfl, hp2, ho2⟩
      go_wp2
      go_ret
      refine ⟨rfl, ⟨?_, ho2.keep hs1 (by simpa using fun e => hne e.symm), hne, ?_⟩, ho1.trans (ho2.mono (by simp))⟩
      · simp only [setNow_length]; exact hp2
      · simp only [setNow_length]; exact H.out.len
  · have e1 : St.writeErr s i t = St.atErr s i := by unfold St.writeErr; rw [if_pos he]
    have e2 : St.write s i t = s := by unfold St.write; rw [if_pos (.inl he)]
    rw [e1, e2]
    have Hc := Lib.hid (at_err b g s i w h he)
    have H := Lib.hid h
    have hv := atErr_vals s i
    obtain ⟨z, hz⟩ : ∃ z, z = St.atErr s i := ⟨_, rfl⟩
    have t1 : (z != 0) = true := by rw [hz]; simpa using he
    have Hc' : Hid (∀ _ : Unit, Calls Tryd.prog 84 #[.pointer (some ⟨b, 0, none⟩), .int .i64 i] w fun e w' => e = .returned (.tuple #[.pointer none, .int .i64 z]) ∧ w = w') := Lib.hid (fun _ => by rw [hz]; exact Hc.out)
    rw [← hz]
    clear h he e1 e2 Hc hv hz
    go_enter Tryd.func38, Tryd.ntmps38
    go_wp2_with (go_at_call 84; refine (Hc'.out ()).mono ?_; rintro e w1 ⟨rfl, rfl⟩)
    go_ret
    exact ⟨rfl, H.out, Only.refl _ _⟩

end Go.Proofs.YteihfoacdocgkaaDoor

set_option linter.unusedVariables false
set_option linter.unusedSimpArgs false
namespace Go.Proofs.YteihfoacdocgkaaDoor
open Go.RowKit Sh
attribute [local go_sem] Lb.ba_get Lb.ba_cut Lb.ba_add Lb.ba_size Lb.take_rest

/-- what Read tells of a slot -/
def St.read (s : St) (i : Int) : List UInt8 := if St.atErr s i ≠ 0 then [] else ((s.slots[i.toNat]?).map Slot.now).getD []
def St.off (s : St) : St := { s with pw := s.pw.off }
def St.arm (s : St) (n : Int) : St := { s with pw := { s.pw with armed := n.toNat } }

set_option maxHeartbeats 1000000 in
theorem read_any (b g : Nat) (s : St) (i : Int) (w : World) (h : ShAt w b g s) :
    Calls Tryd.prog 123 #[.pointer (some ⟨b, 0, none⟩), .int .i64 i] w fun e w' => e = .returned (.tuple #[.string ⟨(St.read s i).toArray⟩, .int .i64 (St.atErr s i)]) ∧ w = w' := by
  by_cases he : St.atErr s i = 0
  · obtain ⟨hd, k, rfl, hk⟩ := atErr_ok he
    have e1 : St.read s k = (s.slots[k]).now := by
      unfold St.read; rw [if_neg (by simpa using he)]; simp [List.getElem?_eq_getElem hk]
    rw [he, e1]
    obtain ⟨c0, c1, c2⟩ := h.cell k hk
    have Hc := Lib.hid (at_ok b g s k w h hd hk)
    clear h he e1 hd
    go_enter Tryd.func123, Tryd.ntmps123
    go_wp2_with (go_at_call 84; refine Hc.out.mono ?_; rintro e w1 ⟨rfl, rfl⟩)
    go_ret2
    exact ⟨rfl, rfl⟩
  · have e1 : St.read s i = [] := by unfold St.read; rw [if_pos he]
    rw [e1]
    have Hc := Lib.hid (at_err b g s i w h he)
    obtain ⟨z, hz⟩ : ∃ z, z = St.atErr s i := ⟨_, rfl⟩
    have t1 : (z != 0) = true := by rw [hz]; simpa using he
    have Hc' : Hid (∀ _ : Unit, Calls Tryd.prog 84 #[.pointer (some ⟨b, 0, none⟩), .int .i64 i] w fun e w' => e = .returned (.tuple #[.pointer none, .int .i64 z]) ∧ w = w') := Lib.hid (fun _ => by rw [hz]; exact Hc.out)
    rw [← hz]
    clear h he e1 Hc hz
    go_enter Tryd.func123, Tryd.ntmps123
    go_wp2_with (go_at_call 84; refine (Hc'.out ()).mono ?_; rintro e w1 ⟨rfl, rfl⟩)
    go_ret2
    exact ⟨rfl, rfl⟩

theorem offd_any (b g : Nat) (s : St) (w : World) (h : ShAt w b g s) (hf : s.pw.fits 1) :
    Calls Tryd.prog 33 #[.pointer (some ⟨b, 0, none⟩)] w fun e w' => e = .returned (.tuple #[]) ∧ ShAt w' b g (St.off s) ∧ Only [b, g] w w' := by
  have H := Lib.hid h
  clear h
  go_enter Tryd.func33, Tryd.ntmps33
  go_wp2_with (go_at_call 77; refine (off_any b s.pw _ w H.out.pw hf).mono ?_; rintro e w1 ⟨rfl, hp, ho⟩)
  go_end0
  exact ⟨rfl, ⟨hp, ho.keep H.out.slots (by simpa using fun e => H.out.ne e.symm), H.out.ne, H.out.len⟩, ho.mono (by simp)⟩

theorem len_any (b g : Nat) (s : St) (w : World) (h : ShAt w b g s) :
    Calls Tryd.prog 122 #[.pointer (some ⟨b, 0, none⟩)] w fun e w' => e = .returned (.int .i64 s.slots.length) ∧ w = w' := by
  have c4 : w.cell? ⟨b, 4, none⟩ = some (.slice (some ⟨g, 0, none⟩) s.slots.length s.slots.length) := by rw [Lib.cell_of_heap h.pw]; rfl
  clear h
  go_enter Tryd.func122, Tryd.ntmps122
  go_wp2
  go_ret
  exact ⟨rfl, rfl⟩
theorem down_any (b g : Nat) (s : St) (w : World) (h : ShAt w b g s) :
    Calls Tryd.prog 63 #[.pointer (some ⟨b, 0, none⟩)] w fun e w' => e = .returned (.bool s.pw.down) ∧ w = w' := by
  have c0 : w.cell? ⟨b, 0, none⟩ = some (.bool s.pw.down) := by rw [Lib.cell_of_heap h.pw]; rfl
  clear h
  go_enter Tryd.func63, Tryd.ntmps63
  go_wp2
  go_ret
  exact ⟨rfl, rfl⟩
theorem life_any (b g : Nat) (s : St) (w : World) (h : ShAt w b g s) :
    Calls Tryd.prog 64 #[.pointer (some ⟨b, 0, none⟩)] w fun e w' => e = .returned (.int .i64 s.pw.life) ∧ w = w' := by
  have c0 : w.cell? ⟨b, 3, none⟩ = some (.int .i64 s.pw.life) := by rw [Lib.cell_of_heap h.pw]; rfl
  clear h
  go_enter Tryd.func64, Tryd.ntmps64
  go_wp2
  go_ret
  exact ⟨rfl, rfl⟩

end Go.Proofs.YteihfoacdocgkaaDoor

set_option linter.unusedVariables false
set_option linter.unusedSimpArgs false
namespace Go.Proofs.YteihfoacdocgkaaDoor
open Go.RowKit Sh
attribute [local go_sem] Lb.ba_get Lb.ba_cut Lb.ba_add Lb.ba_size Lb.take_rest

def sure1 (x : Slot) : Slot := { now := x.now, sure := x.now, opn := false }
/-- the first k slots are sure as they are -/
def setl (ss : List Slot) (k : Nat) : List Slot := (ss.take k).map sure1 ++ ss.drop k
def St.syncErr (s : St) : Int := if s.pw.down then 10 else s.pw.err
def St.settle (s : St) : St := { s with slots := s.slots.map sure1 }

def St.sync (s : St) : St := if s.pw.down then s else if s.pw.err = 0 then St.settle { s with pw := s.pw.act } else { s with pw := s.pw.act }

theorem setl_length (ss : List Slot) (k : Nat) : (setl ss k).length = ss.length := by simp [setl]; omega
theorem setl_zero (ss : List Slot) : setl ss 0 = ss := by simp [setl]
theorem setl_all (ss : List Slot) : setl ss ss.length = ss.map sure1 := by simp [setl]
theorem setl_get (ss : List Slot) (k : Nat) (h : k < ss.length) : (setl ss k)[k]'(by rw [setl_length]; exact h) = ss[k] := by
  simp [setl, List.getElem_append_right, show min k ss.length = k from by omega]
theorem setl_succ (ss : List Slot) (k : Nat) (h : k < ss.length) : setl ss (k + 1) = (setl ss k).set k (sure1 ss[k]) := by
  unfold setl
  have hm : ((ss.take k).map sure1).length = k := by simp; omega
  rw [List.take_succ_eq_append_getElem h, List.map_append, List.set_append_right _ _ (by omega), hm]
  have hd : (ss.drop k).set (k - k) (sure1 ss[k]) = sure1 ss[k] :: ss.drop (k + 1) := by
    rw [Nat.sub_self, List.drop_eq_getElem_cons h]; rfl
  rw [hd]
  simp

set_option maxHeartbeats 1000000 in
theorem shsettle_any (b g : Nat) (s : St) (w : World) (h : ShAt w b g s) :
    Calls Tryd.prog 79 #[.pointer (some ⟨b, 0, none⟩)] w fun e w' => e = .returned (.tuple #[]) ∧ ShAt w' b g (St.settle s) ∧ Only [g] w w' := by
  have H := Lib.hid h
  have hl := h.len
  obtain ⟨n, hn⟩ : ∃ n, n = s.slots.length := ⟨_, rfl⟩
  have c4 : w.cell? ⟨b, 4, none⟩ = some (.slice (some ⟨g, 0, none⟩) n n) := by rw [Lib.cell_of_heap h.pw, hn]; rfl
  rw [← hn] at hl
  have Hn := Lib.hid hn
  clear h hn
  go_enter Tryd.func79, Tryd.ntmps79
  go_wp2
  go_loopw [8] (fun p wr => ∃ k : Nat, k ≤ n ∧ p = .int .i64 k ∧ SlotsAt wr g (setl s.slots k) ∧ Only [g] w wr) (fun p _ => n - (intOf p).toNat)
  case atStart => exact ⟨0, by omega, rfl, by rw [setl_zero]; exact H.out.slots, Only.refl _ _⟩
  case round =>
    obtain ⟨k, hk, rfl, hS, ho⟩ := hrel
    have HS := Lib.hid hS
    clear hS
    by_cases he : k < n
    · have hk' : k < s.slots.length := by rw [← Hn.out]; exact he
      have hkl : k < (setl s.slots k).length := by rw [setl_length]; exact hk'
      have d4 : wr.cell? ⟨b, 4, none⟩ = some (.slice (some ⟨g, 0, none⟩) n n) := by
        rw [Lib.cell_of_heap (ho.keep H.out.pw (by simpa using H.out.ne)), Hn.out]; rfl
      have d0 : wr.cell? ⟨g, k * 3, none⟩ = some (.string ⟨(s.slots[k]).now.toArray⟩) := by
        rw [Lib.cell_of_heap HS.out]
        have := (slotCells_get (setl s.slots k) k hkl).1
        rw [setl_get _ _ hk'] at this
        simpa using this
      have d1 : ∃ v, wr.cell? ⟨g, k * 3 + 1, none⟩ = some v := by
        rw [Lib.cell_of_heap HS.out]
        have := (slotCells_get (setl s.slots k) k hkl).2.1
        exact ⟨_, by simpa using this⟩
      have d2 : ∃ v, wr.cell? ⟨g, k * 3 + 2, none⟩ = some v := by
        rw [Lib.cell_of_heap HS.out]
        have := (slotCells_get (setl s.slots k) k hkl).2.2
        exact ⟨_, by simpa using this⟩
      obtain ⟨v1, d1⟩ := d1
      obtain ⟨v2, d2⟩ := d2
      have z1 : wr.frozen? ⟨g, k * 3 + 1, none⟩ = false := Lib.frozen_of_heap HS.out _
      have z2 : wr.frozen? ⟨g, k * 3 + 2, none⟩ = false := Lib.frozen_of_heap HS.out _
      obtain ⟨tx, htx⟩ : ∃ tx, tx = (s.slots[k]).now := ⟨_, rfl⟩
      rw [← htx] at d0
      have Htx := Lib.hid htx
      have he' : (k : Int) < (n : Int) := by omega
      have he0 : (0 : Int) ≤ (k : Int) := by omega
      clear htx hkl
      go_upto_region 3 with fail
      go_region
      go_wp2
      go_roundw
      case rel =>
        refine ⟨k + 1, by omega, by go_num, ?_, ((ho.setCell (by simp) _).setCell (by simp) _).drew⟩
        have a1 := heap_setCell_same _ g (k * 3 + 1) _ _ (.string ⟨tx.toArray⟩) HS.out
        have a2 := heap_setCell_same _ g (k * 3 + 2) _ _ (.bool false) a1
        have hkl : k < (setl s.slots k).length := by rw [setl_length]; exact hk'
        have e := slotCells_set1 (setl s.slots k) k hkl tx
        have e' := slotCells_set2 ((setl s.slots k).set k { (setl s.slots k)[k] with sure := tx }) k (by simpa using hkl) false
        simp only [List.getElem_set_self, List.set_set, setl_get _ _ hk'] at e e'
        have e3 : setl s.slots (k + 1) = (setl s.slots k).set k { now := (s.slots[k]).now, sure := tx, opn := false } := by rw [setl_succ _ _ hk', Htx.out]; rfl
        unfold SlotsAt
        refine a2.trans ?_
        rw [e3]
        simp [List.setIfInBounds_toArray, e, e']
      case measure => simp [intOf]; omega
    · have hkn : k = n := by omega
      subst hkn
      go_wp2
      go_end0
      have e1 : setl s.slots k = s.slots.map sure1 := by rw [Hn.out]; exact setl_all _
      refine ⟨rfl, ⟨?_, ?_, H.out.ne, ?_⟩, ho⟩
      · have := ho.keep H.out.pw (by simpa using H.out.ne)
        simpa [St.settle, PwAt] using this
      · have := HS.out
        rw [e1] at this
        exact this
      · simpa [St.settle] using H.out.len

set_option maxHeartbeats 1000000 in
theorem sync_any (b g : Nat) (s : St) (w : World) (h : ShAt w b g s) (hf : s.pw.fits 2) :
    Calls Tryd.prog 76 #[.pointer (some ⟨b, 0, none⟩)] w fun e w' => e = .returned (.int .i64 (St.syncErr s)) ∧ ShAt w' b g (St.sync s) ∧ Only [b, g] w w' := by
  have H := Lib.hid h
  cases hd : s.pw.down with
  | true =>
    have e1 : St.syncErr s = 10 := by unfold St.syncErr; rw [if_pos hd]
    have e2 : St.sync s = s := by unfold St.sync; rw [if_pos hd]
    have c0 : w.cell? ⟨b, 0, none⟩ = some (.bool true) := by rw [Lib.cell_of_heap h.pw]; simp [pwCells, hd]
    rw [e1, e2]
    clear h hd e1 e2
    go_enter Tryd.func76, Tryd.ntmps76
    go_wp2
    go_ret
    exact ⟨rfl, H.out, Only.refl _ _⟩
  | false =>
    have e1 : St.syncErr s = s.pw.err := by unfold St.syncErr; rw [if_neg (by simp [hd])]
    have c0 : w.cell? ⟨b, 0, none⟩ = some (.bool false) := by rw [Lib.cell_of_heap h.pw]; simp [pwCells, hd]
    rw [e1]
    have Hd := Lib.hid hd
    rcases err_vals s.pw with he | he
    · have e2 : St.sync s = St.settle { s with pw := s.pw.act } := by unfold St.sync; rw [if_neg (by simp [hd]), if_pos he]
      rw [he, e2]
      have Ha : Hid (Calls Tryd.prog 85 #[.pointer (some ⟨b, 0, none⟩)] w fun e w' => e = .returned (.int .i64 0) ∧ PwAt w' b s.pw.act (slV g s.slots.length) ∧ Only [b] w w') := Lib.hid (by rw [← he]; exact act_any b s.pw _ w h.pw hf)
      clear h hd e1 e2 he
      go_enter Tryd.func76, Tryd.ntmps76
      go_wp2_with fail
      refine Ha.out.mono ?_
      rintro e w1 ⟨rfl, hp, ho⟩
      have h1 : ShAt w1 b g { s with pw := s.pw.act } := ⟨hp, ho.keep H.out.slots (by simpa using fun e => H.out.ne e.symm), H.out.ne, H.out.len⟩
      clear hp
      go_wp2_with fail
      refine (shsettle_any b g _ w1 h1).mono ?_
      rintro e w2 ⟨rfl, h2, ho2⟩
      go_wp2
      go_ret
      exact ⟨rfl, h2, (ho.mono (by simp)).trans (ho2.mono (by simp))⟩
    · have e2 : St.sync s = { s with pw := s.pw.act } := by unfold St.sync; rw [if_neg (by simp [hd]), if_neg (by rw [he]; decide)]
      rw [he, e2]
      have Ha : Hid (Calls Tryd.prog 85 #[.pointer (some ⟨b, 0, none⟩)] w fun e w' => e = .returned (.int .i64 10) ∧ PwAt w' b s.pw.act (slV g s.slots.length) ∧ Only [b] w w') := Lib.hid (by rw [← he]; exact act_any b s.pw _ w h.pw hf)
      clear h hd e1 e2 he
      go_enter Tryd.func76, Tryd.ntmps76
      go_wp2_with fail
      refine Ha.out.mono ?_
      rintro e w1 ⟨rfl, hp, ho⟩
      have h1 : ShAt w1 b g { s with pw := s.pw.act } := ⟨hp, ho.keep H.out.slots (by simpa using fun e => H.out.ne e.symm), H.out.ne, H.out.len⟩
      clear hp
      go_wp2
      go_ret
      exact ⟨rfl, h1, ho.mono (by simp)⟩
end Go.Proofs.YteihfoacdocgkaaDoor

set_option linter.unusedVariables false
set_option linter.unusedSimpArgs false
namespace Go.Proofs.YteihfoacdocgkaaDoor
open Go.RowKit Sh
attribute [local go_sem] Lb.ba_get Lb.ba_cut Lb.ba_add Lb.ba_size Lb.take_rest

theorem tmod_facts (n : Int) (k : Nat) (hk : 0 < k) : -(k : Int) < n.tmod k ∧ n.tmod k < k ∧ (0 ≤ n.tmod k → n.tmod k = n % k) ∧ (n.tmod k < 0 → n.tmod k + k = n % k) := by
  have h1 : n.tmod k < k := Int.tmod_lt_of_pos n (by omega)
  have h2 : -(k : Int) < n.tmod k := by have := Int.lt_tmod_of_pos n (show (0 : Int) < k by omega); omega
  have h3 : n % k = n.tmod k % k := by
    conv => lhs; rw [← Int.mul_tdiv_add_tmod n k]
    simp
  refine ⟨h2, h1, fun h => ?_, fun h => ?_⟩
  · rw [h3, Int.emod_eq_of_lt h h1]
  · rw [h3, ← Int.add_emod_right, Int.emod_eq_of_lt (by omega) (by omega)]

set_option maxHeartbeats 1000000 in
theorem rest_any (n : Int) (k : Nat) (w : World) (hn : -9223372036854775808 ≤ n ∧ n ≤ 9223372036854775807) (hk : 0 < k) (hk' : (k : Int) ≤ 9223372036854775807) :
    Calls Tryd.prog 131 #[.int .i64 n, .int .i64 k] w fun e w' => e = .returned (.int .i64 (n % k)) ∧ w = w' := by
  obtain ⟨n1, n2⟩ := hn
  obtain ⟨f1, f2, f3, f4⟩ := tmod_facts n k hk
  have F3 := Lib.hid f3
  have F4 := Lib.hid f4
  clear f3 f4
  have hk0 : ((k : Int) == 0) = false := by simp; omega
  have hkm : ((k : Int) == -1) = false := by simp
  by_cases h : n.tmod k < 0
  · go_enter Tryd.func131, Tryd.ntmps131
    go_wp2
    go_ret
    exact ⟨by rw [F4.out h]; rfl, rfl⟩
  · go_enter Tryd.func131, Tryd.ntmps131
    go_wp2
    go_ret
    exact ⟨by rw [F3.out (by omega)]; rfl, rfl⟩

/-- what a fate leaves of an unsure slot -/
def left (x : Slot) (f : Int) : List UInt8 := if f % 3 = 0 then x.sure else if f % 3 = 1 then x.now else x.now.take (f.tdiv 3 % ((x.now.length + 1 : Nat) : Int)).toNat ++ x.sure.drop (f.tdiv 3 % ((x.now.length + 1 : Nat) : Int)).toNat
def slotV (x : Slot) : Value := .agg #[.string ⟨x.now.toArray⟩, .string ⟨x.sure.toArray⟩, .bool x.opn]

set_option maxHeartbeats 1000000 in
theorem left_any (x : Slot) (f : Int) (w : World) (hf : -9223372036854775808 ≤ f ∧ f ≤ 9223372036854775807) (h1 : x.now.length ≤ 640) (h2 : x.sure.length ≤ 640) :
    Calls Tryd.prog 78 #[slotV x, .int .i64 f] w fun e w' => e = .returned (.string ⟨(left x f).toArray⟩) ∧ Below w.heap.size w w' := by
  obtain ⟨nw, su, op⟩ := x
  simp only at h1 h2
  have hm : f % 3 = 0 ∨ f % 3 = 1 ∨ f % 3 = 2 := by omega
  have Hr := Lib.hid (fun w => rest_any f 3 w hf (by omega) (by omega))
  simp only [slotV]
  rcases hm with hm | hm | hm
  · have e1 : left ⟨nw, su, op⟩ f = su := by simp [left, hm]
    rw [e1]
    have Hr' : Hid (∀ w, Calls Tryd.prog 131 #[.int .i64 f, .int .i64 3] w fun e w' => e = .returned (.int .i64 0) ∧ w = w') := Lib.hid (fun w => by have := Hr.out w; rw [show (f % ((3 : Nat) : Int)) = 0 from hm] at this; exact this)
    clear Hr hm e1
    go_enter Tryd.func78, Tryd.ntmps78
    go_wp2_with (go_at_call 131; refine (Hr'.out _).mono ?_; rintro e w1 ⟨rfl, rfl⟩)
    go_ret
    exact ⟨rfl, (Below.refl _ w).alloc (Nat.le_refl _) _⟩
  · have e1 : left ⟨nw, su, op⟩ f = nw := by simp [left, hm]
    rw [e1]
    have Hr' : Hid (∀ w, Calls Tryd.prog 131 #[.int .i64 f, .int .i64 3] w fun e w' => e = .returned (.int .i64 1) ∧ w = w') := Lib.hid (fun w => by have := Hr.out w; rw [show (f % ((3 : Nat) : Int)) = 1 from hm] at this; exact this)
    clear Hr hm e1
    go_enter Tryd.func78, Tryd.ntmps78
    go_wp2_with (go_at_call 131; refine (Hr'.out _).mono ?_; rintro e w1 ⟨rfl, rfl⟩)
    go_ret
    exact ⟨rfl, (Below.refl _ w).alloc (Nat.le_refl _) _⟩
  · have hq : -9223372036854775808 ≤ f.tdiv 3 ∧ f.tdiv 3 ≤ 9223372036854775807 := by
      have a1 := Int.mul_tdiv_add_tmod f 3
      have a2 : -(3 : Int) < f.tmod 3 := (tmod_facts f 3 (by omega)).1
      have a3 : f.tmod 3 < 3 := (tmod_facts f 3 (by omega)).2.1
      omega
    obtain ⟨q, hqe⟩ : ∃ q, q = f.tdiv 3 := ⟨_, rfl⟩
    obtain ⟨k, hk⟩ : ∃ k : Nat, (k : Int) = q % ((nw.length + 1 : Nat) : Int) := ⟨(q % ((nw.length + 1 : Nat) : Int)).toNat, by have := Int.emod_nonneg q (show ((nw.length + 1 : Nat) : Int) ≠ 0 by omega); omega⟩
    have hk1 : k ≤ nw.length := by have := Int.emod_lt_of_pos q (show (0 : Int) < ((nw.length + 1 : Nat) : Int) by omega); omega
    have e1 : left ⟨nw, su, op⟩ f = nw.take k ++ su.drop k := by
      have hk2 : (f.tdiv 3 % ((nw.length + 1 : Nat) : Int)).toNat = k := by rw [← hqe, ← hk]; simp
      unfold left
      rw [if_neg (by omega), if_neg (by omega), hk2]
    rw [e1]
    rw [← hqe] at hq
    have Hq2 : Hid (∀ w, Calls Tryd.prog 131 #[.int .i64 q, .int .i64 ((nw.length : Int) + 1)] w fun e w' => e = .returned (.int .i64 k) ∧ w = w') := Lib.hid (fun w => by have := rest_any q (nw.length + 1) w hq (by omega) (by omega); rw [← hk] at this; exact this)
    have Hr' : Hid (∀ w, Calls Tryd.prog 131 #[.int .i64 f, .int .i64 3] w fun e w' => e = .returned (.int .i64 2) ∧ w = w') := Lib.hid (fun w => by have := Hr.out w; rw [show (f % ((3 : Nat) : Int)) = 2 from hm] at this; exact this)
    have hqe' : f.tdiv 3 = q := hqe.symm
    clear Hr hm e1 hqe hk
    go_enter Tryd.func78, Tryd.ntmps78
    go_wp2_with fail
    refine (Hr'.out _).mono ?_
    rintro e w1 ⟨rfl, rfl⟩
    go_wp2_with fail
    refine (Hq2.out _).mono ?_
    rintro e w1 ⟨rfl, rfl⟩
    have k0 : (0 : Int) ≤ (k : Int) := by omega
    have k1 : (k : Int) ≤ (nw.length : Int) := by omega
    clear hqe' hk1 hq
    go_wp2
    go_region
    go_wp2
    all_goals
      go_ret
      refine ⟨?_, ((Below.refl _ w).alloc (Nat.le_refl _) _).drew⟩
    · have _z := h
      have : su.drop k = [] := List.drop_eq_nil_of_le (by omega)
      rw [this]; simp
    · rfl
end Go.Proofs.YteihfoacdocgkaaDoor
