/-
  The walks of shelf: Read, Off, Len, Down, Acts, Life, Arm.
-/
import Derived.Test.YtfbjbhddapoopaaDoorShC
set_option linter.unusedVariables false
set_option linter.unusedSimpArgs false
namespace Go.Proofs.YtfbjbhddapoopaaDoor
open Go.RowKit Sh
attribute [local go_sem] Lb.ba_get Lb.ba_cut Lb.ba_add Lb.ba_size Lb.take_rest

/-- what Read tells of a slot -/
def St.read (s : St) (i : Int) : List UInt8 := if St.atErr s i ≠ 0 then [] else ((s.slots[i.toNat]?).map Slot.now).getD []
def St.off (s : St) : St := { s with pw := s.pw.off }
def St.arm (s : St) (n : Int) : St := { s with pw := { s.pw with armed := n.toNat } }

set_option maxHeartbeats 1000000 in
theorem read_any (b g : Nat) (s : St) (i : Int) (w : World) (h : ShAt w b g s) :
    Calls Tryd.prog 112 #[.pointer (some ⟨b, 0, none⟩), .int .i64 i] w fun e w' => e = .returned (.tuple #[.string ⟨(St.read s i).toArray⟩, .int .i64 (St.atErr s i)]) ∧ w = w' := by
  by_cases he : St.atErr s i = 0
  · obtain ⟨hd, k, rfl, hk⟩ := atErr_ok he
    have e1 : St.read s k = (s.slots[k]).now := by
      unfold St.read; rw [if_neg (by simpa using he)]; simp [List.getElem?_eq_getElem hk]
    rw [he, e1]
    obtain ⟨c0, c1, c2⟩ := h.cell k hk
    have Hc := Lib.hid (at_ok b g s k w h hd hk)
    clear h he e1 hd
    go_enter Tryd.func112, Tryd.ntmps112
    go_wp2_with (go_at_call 103; refine Hc.out.mono ?_; rintro e w1 ⟨rfl, rfl⟩)
    go_ret2
    exact ⟨rfl, rfl⟩
  · have e1 : St.read s i = [] := by unfold St.read; rw [if_pos he]
    rw [e1]
    have Hc := Lib.hid (at_err b g s i w h he)
    obtain ⟨z, hz⟩ : ∃ z, z = St.atErr s i := ⟨_, rfl⟩
    have t1 : (z != 0) = true := by rw [hz]; simpa using he
    have Hc' : Hid (∀ _ : Unit, Calls Tryd.prog 103 #[.pointer (some ⟨b, 0, none⟩), .int .i64 i] w fun e w' => e = .returned (.tuple #[.pointer none, .int .i64 z]) ∧ w = w') := Lib.hid (fun _ => by rw [hz]; exact Hc.out)
    rw [← hz]
    clear h he e1 Hc hz
    go_enter Tryd.func112, Tryd.ntmps112
    go_wp2_with (go_at_call 103; refine (Hc'.out ()).mono ?_; rintro e w1 ⟨rfl, rfl⟩)
    go_ret2
    exact ⟨rfl, rfl⟩

theorem offd_any (b g : Nat) (s : St) (w : World) (h : ShAt w b g s) (hf : s.pw.fits 1) :
    Calls Tryd.prog 51 #[.pointer (some ⟨b, 0, none⟩)] w fun e w' => e = .returned (.tuple #[]) ∧ ShAt w' b g (St.off s) ∧ Only [b, g] w w' := by
  have H := Lib.hid h
  clear h
  go_enter Tryd.func51, Tryd.ntmps51
  go_wp2_with (go_at_call 96; refine (off_any b s.pw _ w H.out.pw hf).mono ?_; rintro e w1 ⟨rfl, hp, ho⟩)
  go_end0
  exact ⟨rfl, ⟨hp, ho.keep H.out.slots (by simpa using fun e => H.out.ne e.symm), H.out.ne, H.out.len⟩, ho.mono (by simp)⟩

theorem len_any (b g : Nat) (s : St) (w : World) (h : ShAt w b g s) :
    Calls Tryd.prog 116 #[.pointer (some ⟨b, 0, none⟩)] w fun e w' => e = .returned (.int .i64 s.slots.length) ∧ w = w' := by
  have c4 : w.cell? ⟨b, 4, none⟩ = some (.slice (some ⟨g, 0, none⟩) s.slots.length s.slots.length) := by rw [Lib.cell_of_heap h.pw]; rfl
  clear h
  go_enter Tryd.func116, Tryd.ntmps116
  go_wp2
  go_ret
  exact ⟨rfl, rfl⟩
theorem down_any (b g : Nat) (s : St) (w : World) (h : ShAt w b g s) :
    Calls Tryd.prog 84 #[.pointer (some ⟨b, 0, none⟩)] w fun e w' => e = .returned (.bool s.pw.down) ∧ w = w' := by
  have c0 : w.cell? ⟨b, 0, none⟩ = some (.bool s.pw.down) := by rw [Lib.cell_of_heap h.pw]; rfl
  clear h
  go_enter Tryd.func84, Tryd.ntmps84
  go_wp2
  go_ret
  exact ⟨rfl, rfl⟩
theorem life_any (b g : Nat) (s : St) (w : World) (h : ShAt w b g s) :
    Calls Tryd.prog 85 #[.pointer (some ⟨b, 0, none⟩)] w fun e w' => e = .returned (.int .i64 s.pw.life) ∧ w = w' := by
  have c0 : w.cell? ⟨b, 3, none⟩ = some (.int .i64 s.pw.life) := by rw [Lib.cell_of_heap h.pw]; rfl
  clear h
  go_enter Tryd.func85, Tryd.ntmps85
  go_wp2
  go_ret
  exact ⟨rfl, rfl⟩

end Go.Proofs.YtfbjbhddapoopaaDoor
