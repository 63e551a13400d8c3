/-
  The document's shelf: Write, Read, Sync.
-/
import Derived.Test.YtecofehfheodhaaRfA
set_option linter.unusedVariables false
set_option linter.unusedSimpArgs false
namespace Go.Proofs.Ytecofehfheodhaa
open Go.RowKit Sh
attribute [local go_sem] Lb.ba_get Lb.ba_cut Lb.ba_add Lb.ba_size Lb.take_rest

theorem RefAt.drew {w : World} {b g1 g2 g3 : Nat} {s : St} (h : RefAt w b g1 g2 g3 s) : RefAt w.drew b g1 g2 g3 s := ⟨h.top, h.now, h.sure, h.opn, h.ap, h.len⟩
theorem RefAt.cell {w : World} {b g1 g2 g3 : Nat} {s : St} (h : RefAt w b g1 g2 g3 s) (k : Nat) {x : Slot} (hk : s.slots[k]? = some x) :
    w.cell? ⟨g1, k, none⟩ = some (.string ⟨x.now.toArray⟩) ∧ w.cell? ⟨g2, k, none⟩ = some (.string ⟨x.sure.toArray⟩) ∧ w.cell? ⟨g3, k, none⟩ = some (.bool x.opn) := by
  refine ⟨?_, ?_, ?_⟩
  · rw [Lib.cell_of_heap h.now]; simp [nowCells, hk]
  · rw [Lib.cell_of_heap h.sure]; simp [sureCells, hk]
  · rw [Lib.cell_of_heap h.opn]; simp [openCells, hk]
theorem RefAt.tops {w : World} {b g1 g2 g3 : Nat} {s : St} (h : RefAt w b g1 g2 g3 s) :
    w.cell? ⟨b, 0, none⟩ = some (.slice (some ⟨g1, 0, none⟩) s.slots.length s.slots.length) ∧ w.cell? ⟨b, 1, none⟩ = some (.slice (some ⟨g2, 0, none⟩) s.slots.length s.slots.length) ∧ w.cell? ⟨b, 2, none⟩ = some (.slice (some ⟨g3, 0, none⟩) s.slots.length s.slots.length) ∧ w.cell? ⟨b, 3, none⟩ = some (.bool s.pw.down) := by
  refine ⟨?_, ?_, ?_, ?_⟩ <;> rw [Lib.cell_of_heap h.top] <;> rfl

set_option maxHeartbeats 2000000 in
theorem refread_any (b g1 g2 g3 : Nat) (s : St) (i : Int) (w : World) (h : RefAt w b g1 g2 g3 s) :
    Calls Try.prog 39 #[.pointer (some ⟨b, 0, none⟩), .int .i64 i] w fun e w' => e = .returned (.tuple #[.string ⟨(St.read s i).toArray⟩, .int .i64 (St.atErr s i)]) ∧ w = w' := by
  have Hc := Lib.hid (ready_any b g1 g2 g3 s i w h)
  by_cases he : St.atErr s i = 0
  · obtain ⟨hd, k, rfl, hk⟩ := atErr_ok he
    obtain ⟨x, hkx⟩ : ∃ x, s.slots[k]? = some x := ⟨_, List.getElem?_eq_getElem hk⟩
    have e1 : St.read s k = x.now := by
      unfold St.read; rw [if_neg (by simpa using he)]; simp [hkx]
    have Hc' := Hc.out
    rw [he] at Hc' ⊢
    rw [e1]
    obtain ⟨c0, -, -⟩ := h.cell k hkx
    obtain ⟨d0, -, -, -⟩ := h.tops
    have hl := h.len
    obtain ⟨n, hn⟩ : ∃ n, n = s.slots.length := ⟨_, rfl⟩
    obtain ⟨tx, htx⟩ : ∃ tx, tx = x.now := ⟨_, rfl⟩
    rw [← hn] at d0 hl
    rw [← htx] at c0 ⊢
    have k0 : (0 : Int) ≤ (k : Int) := by omega
    have k1 : (k : Int) < (n : Int) := by omega
    have HC := Lib.hid Hc'
    clear h he e1 hd Hc hk Hc' htx hn hkx
    go_enter Try.func39, Try.ntmps39
    go_wp2_with (go_at_call 61; refine HC.out.mono ?_; rintro e w1 ⟨rfl, rfl⟩)
    go_ret2
    exact ⟨rfl, rfl⟩
  · have e1 : St.read s i = [] := by unfold St.read; rw [if_pos he]
    rw [e1]
    obtain ⟨z, hz⟩ : ∃ z, z = St.atErr s i := ⟨_, rfl⟩
    have t1 : (z != 0) = true := by rw [hz]; simpa using he
    have Hc' := Hc.out
    rw [← hz] at Hc' ⊢
    have HC := Lib.hid Hc'
    clear h he e1 Hc hz Hc'
    go_enter Try.func39, Try.ntmps39
    go_wp2_with (go_at_call 61; refine HC.out.mono ?_; rintro e w1 ⟨rfl, rfl⟩)
    go_ret2
    exact ⟨rfl, rfl⟩

set_option maxHeartbeats 2000000 in
theorem refwrite_any (b g1 g2 g3 : Nat) (s : St) (i : Int) (t : List UInt8) (w : World) (h : RefAt w b g1 g2 g3 s) (hf : s.pw.fits 2) (ht : t.length ≤ 9223372036854775807) :
    Calls Try.prog 38 #[.pointer (some ⟨b, 0, none⟩), .int .i64 i, .string ⟨t.toArray⟩] w fun e w' => e = .returned (.int .i64 (St.writeErr s i t)) ∧ RefAt w' b g1 g2 g3 (St.write s i t) ∧ Only [b, g1, g2, g3] w w' := by
  have Hc := Lib.hid (ready_any b g1 g2 g3 s i w h)
  by_cases he : St.atErr s i = 0
  · obtain ⟨hd, k, rfl, hk⟩ := atErr_ok he
    have Hc' := Hc.out
    rw [he] at Hc'
    have HC := Lib.hid Hc'
    by_cases hl : 640 < t.length
    · have e1 : St.writeErr s k t = 1 := by unfold St.writeErr; rw [if_neg (by simpa using he), if_pos hl]
      have e2 : St.write s k t = s := by unfold St.write; rw [if_pos (.inr hl)]
      rw [e1, e2]
      have hl' : (640 : Int) < (t.length : Int) := by omega
      have H := Lib.hid h
      clear h he e1 e2 hd hk Hc Hc'
      go_enter Try.func38, Try.ntmps38
      go_wp2_with (go_at_call 61; refine HC.out.mono ?_; rintro e w1 ⟨rfl, rfl⟩)
      go_ret
      exact ⟨rfl, H.out, Only.refl _ _⟩
    · have e1 : St.writeErr s k t = s.pw.err := by unfold St.writeErr; rw [if_neg (by simpa using he), if_neg hl]
      have e2 : St.write s k t = { pw := s.pw.act, slots := setNow s.slots k t } := by unfold St.write; rw [if_neg (by simp [he]; omega)]; rfl
      rw [e1, e2]
      obtain ⟨x, hkx⟩ : ∃ x, s.slots[k]? = some x := ⟨_, List.getElem?_eq_getElem hk⟩
      obtain ⟨c0, -, c2⟩ := h.cell k hkx
      obtain ⟨d0, -, d2, -⟩ := h.tops
      have z0 : w.frozen? ⟨g1, k, none⟩ = false := Lib.frozen_of_heap h.now _
      have hlen := h.len
      obtain ⟨n, hn⟩ : ∃ n, n = s.slots.length := ⟨_, rfl⟩
      rw [← hn] at d0 d2 hlen
      have k0 : (0 : Int) ≤ (k : Int) := by omega
      have k1 : (k : Int) < (n : Int) := by omega
      have hl' : ¬ ((640 : Int) < (t.length : Int)) := by omega
      have H := Lib.hid h
      have Hkx := Lib.hid hkx
      have Hn := Lib.hid hn
      clear h he e1 e2 hd hk Hc Hc' hkx hn
      go_enter Try.func38, Try.ntmps38
      go_upto_region 7 with (go_at_call 61; refine HC.out.mono ?_; rintro e w1 ⟨rfl, rfl⟩)
      have o1 : Only [g1] w (w.setCell ⟨g1, k, none⟩ (.string ⟨t.toArray⟩)) := (Only.refl _ _).setCell (by simp) _
      have hN := heap_setCell_same _ g1 k _ _ (.string ⟨t.toArray⟩) H.out.now
      rw [nowCells_set _ _ Hkx.out] at hN
      obtain ⟨w1, hw1⟩ : ∃ w1, w1 = w.setCell ⟨g1, k, none⟩ (.string ⟨t.toArray⟩) := ⟨_, rfl⟩
      rw [← hw1] at o1 hN ⊢
      have hap := H.out.ap
      have hT := o1.keep H.out.top (by simpa using hap.1)
      have hS := o1.keep H.out.sure (by simpa using hap.2.2.2.1.symm)
      have hO := o1.keep H.out.opn (by simpa using hap.2.2.2.2.1.symm)
      have f2 : w1.cell? ⟨b, 2, none⟩ = some (.slice (some ⟨g3, 0, none⟩) n n) := by rw [Lib.cell_of_heap hT, Hn.out]; rfl
      have f3 : w1.cell? ⟨g3, k, none⟩ = some (.bool x.opn) := by rw [Lib.cell_of_heap hO]; simp [openCells, Hkx.out]
      have z3 : w1.frozen? ⟨g3, k, none⟩ = false := Lib.frozen_of_heap hO _
      clear hw1 c0 c2 d0 d2 z0
      have Hap := Lib.hid hap
      clear hap
      have o2 : Only [g3] w1 (w1.setCell ⟨g3, k, none⟩ (.bool true)) := (Only.refl _ _).setCell (by simp) _
      have hR : RefAt (w1.setCell ⟨g3, k, none⟩ (.bool true)) b g1 g2 g3 { pw := s.pw, slots := setNow s.slots k t } := by
        refine ⟨?_, o2.keep hN (by simpa using Hap.out.2.2.2.2.1), ?_, ?_, Hap.out, ?_⟩
        · simp only [setNow_length]; exact o2.keep hT (by simpa using Hap.out.2.2.1)
        · rw [← sureCells_set _ _ Hkx.out]; exact o2.keep hS (by simpa using Hap.out.2.2.2.2.2)
        · rw [← openCells_set _ _ Hkx.out t]; exact heap_setCell_same _ g3 k _ _ _ hO
        · simp only [setNow_length]; exact H.out.len
      have HR := Lib.hid hR
      clear hR hT hS hO hN
      go_wp2_with fail
      refine (refact_any b g1 g2 g3 _ _ HR.out hf).mono ?_
      rintro e w2 ⟨rfl, hp2, ho2⟩
      go_wp2
      go_ret
      exact ⟨rfl, hp2, ((o1.mono (by simp)).trans (o2.mono (by simp))).trans (ho2.mono (by simp))⟩
  · have e1 : St.writeErr s i t = St.atErr s i := by unfold St.writeErr; rw [if_pos he]
    have e2 : St.write s i t = s := by unfold St.write; rw [if_pos (.inl he)]
    rw [e1, e2]
    have H := Lib.hid h
    obtain ⟨z, hz⟩ : ∃ z, z = St.atErr s i := ⟨_, rfl⟩
    have t1 : (z != 0) = true := by rw [hz]; simpa using he
    have Hc' := Hc.out
    rw [← hz] at Hc' ⊢
    have HC := Lib.hid Hc'
    clear h he e1 e2 Hc hz Hc'
    go_enter Try.func38, Try.ntmps38
    go_wp2_with (go_at_call 61; refine HC.out.mono ?_; rintro e w1 ⟨rfl, rfl⟩)
    go_ret
    exact ⟨rfl, H.out, Only.refl _ _⟩
end Go.Proofs.Ytecofehfheodhaa
