/-
  The walks of shelf: Write, Read, settle, Sync.
-/
import Derived.Test.YtfbjbhddapoopaaDoorShB
set_option linter.unusedVariables false
set_option linter.unusedSimpArgs false
namespace Go.Proofs.YtfbjbhddapoopaaDoor
open Go.RowKit Sh
attribute [local go_sem] Lb.ba_get Lb.ba_cut Lb.ba_add Lb.ba_size Lb.take_rest

def St.writeErr (s : St) (i : Int) (t : List UInt8) : Int := if St.atErr s i ≠ 0 then St.atErr s i else if 640 < t.length then 1 else s.pw.err
def setNow (ss : List Slot) (i : Nat) (t : List UInt8) : List Slot := match ss[i]? with
  | some x => ss.set i { x with now := t, opn := true }
  | none => ss
def St.write (s : St) (i : Int) (t : List UInt8) : St := if St.atErr s i ≠ 0 ∨ 640 < t.length then s else { pw := s.pw.act, slots := setNow s.slots i.toNat t }

theorem setNow_length (ss : List Slot) (i : Nat) (t : List UInt8) : (setNow ss i t).length = ss.length := by
  unfold setNow; split <;> simp
theorem St.write_length (s : St) (i : Int) (t : List UInt8) : (St.write s i t).slots.length = s.slots.length := by
  unfold St.write; split
  · rfl
  · exact setNow_length _ _ _

theorem atErr_ok {s : St} {i : Int} (h : St.atErr s i = 0) : s.pw.down = false ∧ ∃ k : Nat, i = k ∧ k < s.slots.length := by
  unfold St.atErr at h
  split at h
  · cases h
  · rename_i hd
    split at h
    · cases h
    · exact ⟨by simpa using hd, i.toNat, by omega, by omega⟩
theorem atErr_vals (s : St) (i : Int) : St.atErr s i = 0 ∨ St.atErr s i = 1 ∨ St.atErr s i = 10 := by
  unfold St.atErr; split
  · simp
  · split <;> simp
theorem err_vals (p : Pw) : p.err = 0 ∨ p.err = 10 := by unfold Pw.err; split <;> simp

set_option maxHeartbeats 2000000 in
theorem write_any (b g : Nat) (s : St) (i : Int) (t : List UInt8) (w : World) (h : ShAt w b g s) (hf : s.pw.fits 2) (ht : t.length ≤ 9223372036854775807) :
    Calls Tryd.prog 56 #[.pointer (some ⟨b, 0, none⟩), .int .i64 i, .string ⟨t.toArray⟩] w fun e w' => e = .returned (.int .i64 (St.writeErr s i t)) ∧ ShAt w' b g (St.write s i t) ∧ Only [b, g] w w' := by
  by_cases he : St.atErr s i = 0
  · obtain ⟨hd, k, rfl, hk⟩ := atErr_ok he
    by_cases hl : 640 < t.length
    · have e1 : St.writeErr s k t = 1 := by unfold St.writeErr; rw [if_neg (by simpa using he), if_pos hl]
      have e2 : St.write s k t = s := by unfold St.write; rw [if_pos (.inr hl)]
      rw [e1, e2]
      have hl' : (640 : Int) < (t.length : Int) := by omega
      have Hc := Lib.hid (at_ok b g s k w h hd hk)
      have H := Lib.hid h
      clear h he e1 e2 hd hk
      go_enter Tryd.func56, Tryd.ntmps56
      go_wp2_with (go_at_call 103; refine Hc.out.mono ?_; rintro e w1 ⟨rfl, rfl⟩)
      go_ret
      exact ⟨rfl, H.out, Only.refl _ _⟩
    · have e1 : St.writeErr s k t = s.pw.err := by unfold St.writeErr; rw [if_neg (by simpa using he), if_neg hl]
      have e2 : St.write s k t = { pw := s.pw.act, slots := setNow s.slots k t } := by unfold St.write; rw [if_neg (by simp [he]; omega)]; rfl
      have e3 : setNow s.slots k t = (s.slots.set k { s.slots[k] with now := t }).set k { s.slots[k] with now := t, opn := true } := by
        unfold setNow; rw [List.getElem?_eq_getElem hk]; simp
      rw [e1, e2]
      obtain ⟨c0, c1, c2⟩ := h.cell k hk
      have z0 : w.frozen? ⟨g, k * 3, none⟩ = false := Lib.frozen_of_heap h.slots _
      have z2 : w.frozen? ⟨g, k * 3 + 2, none⟩ = false := Lib.frozen_of_heap h.slots _
      have Hc := Lib.hid (at_ok b g s k w h hd hk)
      have H := Lib.hid h
      have E3 := Lib.hid e3
      have hne := h.ne
      clear h he e1 e2 e3 hd
      go_enter Tryd.func56, Tryd.ntmps56
      go_wp2_with (go_at_call 103; refine Hc.out.mono ?_; rintro e w1 ⟨rfl, rfl⟩)
      have hs1 : SlotsAt ((w.setCell ⟨g, k * 3, none⟩ (.string ⟨t.toArray⟩)).setCell ⟨g, k * 3 + 2, none⟩ (.bool true)) g (setNow s.slots k t) := by
        have a1 := heap_setCell_same _ g (k * 3) _ _ (.string ⟨t.toArray⟩) H.out.slots
        have a2 := heap_setCell_same _ g (k * 3 + 2) _ _ (.bool true) a1
        have e := slotCells_set s.slots k hk t
        have e' := slotCells_set2 (s.slots.set k { s.slots[k] with now := t }) k (by simpa using hk) true
        unfold SlotsAt
        rw [a2, E3.out]
        simp only [List.getElem_set_self] at e'
        simp [List.setIfInBounds_toArray, e, e']
      have hp1 : PwAt ((w.setCell ⟨g, k * 3, none⟩ (.string ⟨t.toArray⟩)).setCell ⟨g, k * 3 + 2, none⟩ (.bool true)) b s.pw (slV g s.slots.length) :=
        Only.keep (bs := [g]) (((Only.refl [g] w).setCell (p := ⟨g, k * 3, none⟩) (by simp) _).setCell (p := ⟨g, k * 3 + 2, none⟩) (by simp) _) H.out.pw (by simpa using hne)
      have ho1 : Only [b, g] w ((w.setCell ⟨g, k * 3, none⟩ (.string ⟨t.toArray⟩)).setCell ⟨g, k * 3 + 2, none⟩ (.bool true)) := ((Only.refl _ w).setCell (p := ⟨g, k * 3, none⟩) (by simp) _).setCell (p := ⟨g, k * 3 + 2, none⟩) (by simp) _
      refine (act_any b s.pw _ _ hp1 hf).mono ?_
      rintro e w2 ⟨rfl, hp2, ho2⟩
      go_wp2
      go_ret
      refine ⟨rfl, ⟨?_, ho2.keep hs1 (by simpa using fun e => hne e.symm), hne, ?_⟩, ho1.trans (ho2.mono (by simp))⟩
      · simp only [setNow_length]; exact hp2
      · simp only [setNow_length]; exact H.out.len
  · have e1 : St.writeErr s i t = St.atErr s i := by unfold St.writeErr; rw [if_pos he]
    have e2 : St.write s i t = s := by unfold St.write; rw [if_pos (.inl he)]
    rw [e1, e2]
    have Hc := Lib.hid (at_err b g s i w h he)
    have H := Lib.hid h
    have hv := atErr_vals s i
    obtain ⟨z, hz⟩ : ∃ z, z = St.atErr s i := ⟨_, rfl⟩
    have t1 : (z != 0) = true := by rw [hz]; simpa using he
    have Hc' : Hid (∀ _ : Unit, Calls Tryd.prog 103 #[.pointer (some ⟨b, 0, none⟩), .int .i64 i] w fun e w' => e = .returned (.tuple #[.pointer none, .int .i64 z]) ∧ w = w') := Lib.hid (fun _ => by rw [hz]; exact Hc.out)
    rw [← hz]
    clear h he e1 e2 Hc hv hz
    go_enter Tryd.func56, Tryd.ntmps56
    go_wp2_with (go_at_call 103; refine (Hc'.out ()).mono ?_; rintro e w1 ⟨rfl, rfl⟩)
    go_ret
    exact ⟨rfl, H.out, Only.refl _ _⟩

end Go.Proofs.YtfbjbhddapoopaaDoor
