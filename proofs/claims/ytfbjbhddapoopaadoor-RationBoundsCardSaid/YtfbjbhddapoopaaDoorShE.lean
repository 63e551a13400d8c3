/-
  The walks of shelf: settle, Sync.
-/
import Derived.Test.YtfbjbhddapoopaaDoorShD
set_option linter.unusedVariables false
set_option linter.unusedSimpArgs false
namespace Go.Proofs.YtfbjbhddapoopaaDoor
open Go.RowKit Sh
attribute [local go_sem] Lb.ba_get Lb.ba_cut Lb.ba_add Lb.ba_size Lb.take_rest

def sure1 (x : Slot) : Slot := { now := x.now, sure := x.now, opn := false }
/-- the first k slots are sure as they are -/
def setl (ss : List Slot) (k : Nat) : List Slot := (ss.take k).map sure1 ++ ss.drop k
def St.syncErr (s : St) : Int := if s.pw.down then 10 else s.pw.err
def St.settle (s : St) : St := { s with slots := s.slots.map sure1 }

def St.sync (s : St) : St := if s.pw.down then s else if s.pw.err = 0 then St.settle { s with pw := s.pw.act } else { s with pw := s.pw.act }

theorem setl_length (ss : List Slot) (k : Nat) : (setl ss k).length = ss.length := by simp [setl]; omega
theorem setl_zero (ss : List Slot) : setl ss 0 = ss := by simp [setl]
theorem setl_all (ss : List Slot) : setl ss ss.length = ss.map sure1 := by simp [setl]
theorem setl_get (ss : List Slot) (k : Nat) (h : k < ss.length) : (setl ss k)[k]'(by rw [setl_length]; exact h) = ss[k] := by
  simp [setl, List.getElem_append_right, show min k ss.length = k from by omega]
theorem setl_succ (ss : List Slot) (k : Nat) (h : k < ss.length) : setl ss (k + 1) = (setl ss k).set k (sure1 ss[k]) := by
  unfold setl
  have hm : ((ss.take k).map sure1).length = k := by simp; omega
  rw [List.take_succ_eq_append_getElem h, List.map_append, List.set_append_right _ _ (by omega), hm]
  have hd : (ss.drop k).set (k - k) (sure1 ss[k]) = sure1 ss[k] :: ss.drop (k + 1) := by
    rw [Nat.sub_self, List.drop_eq_getElem_cons h]; rfl
  rw [hd]
  simp

set_option maxHeartbeats 1000000 in
theorem shsettle_any (b g : Nat) (s : St) (w : World) (h : ShAt w b g s) :
    Calls Tryd.prog 98 #[.pointer (some ⟨b, 0, none⟩)] w fun e w' => e = .returned (.tuple #[]) ∧ ShAt w' b g (St.settle s) ∧ Only [g] w w' := by
  have H := Lib.hid h
  have hl := h.len
  obtain ⟨n, hn⟩ : ∃ n, n = s.slots.length := ⟨_, rfl⟩
  have c4 : w.cell? ⟨b, 4, none⟩ = some (.slice (some ⟨g, 0, none⟩) n n) := by rw [Lib.cell_of_heap h.pw, hn]; rfl
  rw [← hn] at hl
  have Hn := Lib.hid hn
  clear h hn
  go_enter Tryd.func98, Tryd.ntmps98
  go_wp2
  go_loopw [8] (fun p wr => ∃ k : Nat, k ≤ n ∧ p = .int .i64 k ∧ SlotsAt wr g (setl s.slots k) ∧ Only [g] w wr) (fun p _ => n - (intOf p).toNat)
  case atStart => exact ⟨0, by omega, rfl, by rw [setl_zero]; exact H.out.slots, Only.refl _ _⟩
  case round =>
    obtain ⟨k, hk, rfl, hS, ho⟩ := hrel
    have HS := Lib.hid hS
    clear hS
    by_cases he : k < n
    · have hk' : k < s.slots.length := by rw [← Hn.out]; exact he
      have hkl : k < (setl s.slots k).length := by rw [setl_length]; exact hk'
      have d4 : wr.cell? ⟨b, 4, none⟩ = some (.slice (some ⟨g, 0, none⟩) n n) := by
        rw [Lib.cell_of_heap (ho.keep H.out.pw (by simpa using H.out.ne)), Hn.out]; rfl
      have d0 : wr.cell? ⟨g, k * 3, none⟩ = some (.string ⟨(s.slots[k]).now.toArray⟩) := by
        rw [Lib.cell_of_heap HS.out]
        have := (slotCells_get (setl s.slots k) k hkl).1
        rw [setl_get _ _ hk'] at this
        simpa using this
      have d1 : ∃ v, wr.cell? ⟨g, k * 3 + 1, none⟩ = some v := by
        rw [Lib.cell_of_heap HS.out]
        have := (slotCells_get (setl s.slots k) k hkl).2.1
        exact ⟨_, by simpa using this⟩
      have d2 : ∃ v, wr.cell? ⟨g, k * 3 + 2, none⟩ = some v := by
        rw [Lib.cell_of_heap HS.out]
        have := (slotCells_get (setl s.slots k) k hkl).2.2
        exact ⟨_, by simpa using this⟩
      obtain ⟨v1, d1⟩ := d1
      obtain ⟨v2, d2⟩ := d2
      have z1 : wr.frozen? ⟨g, k * 3 + 1, none⟩ = false := Lib.frozen_of_heap HS.out _
      have z2 : wr.frozen? ⟨g, k * 3 + 2, none⟩ = false := Lib.frozen_of_heap HS.out _
      obtain ⟨tx, htx⟩ : ∃ tx, tx = (s.slots[k]).now := ⟨_, rfl⟩
      rw [← htx] at d0
      have Htx := Lib.hid htx
      have he' : (k : Int) < (n : Int) := by omega
      have he0 : (0 : Int) ≤ (k : Int) := by omega
      clear htx hkl
      go_upto_region 3 with fail
      go_region
      go_wp2
      go_roundw
      case rel =>
        refine ⟨k + 1, by omega, by go_num, ?_, ((ho.setCell (by simp) _).setCell (by simp) _).drew⟩
        have a1 := heap_setCell_same _ g (k * 3 + 1) _ _ (.string ⟨tx.toArray⟩) HS.out
        have a2 := heap_setCell_same _ g (k * 3 + 2) _ _ (.bool false) a1
        have hkl : k < (setl s.slots k).length := by rw [setl_length]; exact hk'
        have e := slotCells_set1 (setl s.slots k) k hkl tx
        have e' := slotCells_set2 ((setl s.slots k).set k { (setl s.slots k)[k] with sure := tx }) k (by simpa using hkl) false
        simp only [List.getElem_set_self, List.set_set, setl_get _ _ hk'] at e e'
        have e3 : setl s.slots (k + 1) = (setl s.slots k).set k { now := (s.slots[k]).now, sure := tx, opn := false } := by rw [setl_succ _ _ hk', Htx.out]; rfl
        unfold SlotsAt
        refine a2.trans ?_
        rw [e3]
        simp [List.setIfInBounds_toArray, e, e']
      case measure => simp [intOf]; omega
    · have hkn : k = n := by omega
      subst hkn
      go_wp2
      go_end0
      have e1 : setl s.slots k = s.slots.map sure1 := by rw [Hn.out]; exact setl_all _
      refine ⟨rfl, ⟨?_, ?_, H.out.ne, ?_⟩, ho⟩
      · have := ho.keep H.out.pw (by simpa using H.out.ne)
        simpa [St.settle, PwAt] using this
      · have := HS.out
        rw [e1] at this
        exact this
      · simpa [St.settle] using H.out.len

set_option maxHeartbeats 1000000 in
theorem sync_any (b g : Nat) (s : St) (w : World) (h : ShAt w b g s) (hf : s.pw.fits 2) :
    Calls Tryd.prog 95 #[.pointer (some ⟨b, 0, none⟩)] w fun e w' => e = .returned (.int .i64 (St.syncErr s)) ∧ ShAt w' b g (St.sync s) ∧ Only [b, g] w w' := by
  have H := Lib.hid h
  cases hd : s.pw.down with
  | true =>
    have e1 : St.syncErr s = 10 := by unfold St.syncErr; rw [if_pos hd]
    have e2 : St.sync s = s := by unfold St.sync; rw [if_pos hd]
    have c0 : w.cell? ⟨b, 0, none⟩ = some (.bool true) := by rw [Lib.cell_of_heap h.pw]; simp [pwCells, hd]
    rw [e1, e2]
    clear h hd e1 e2
    go_enter Tryd.func95, Tryd.ntmps95
    go_wp2
    go_ret
    exact ⟨rfl, H.out, Only.refl _ _⟩
  | false =>
    have e1 : St.syncErr s = s.pw.err := by unfold St.syncErr; rw [if_neg (by simp [hd])]
    have c0 : w.cell? ⟨b, 0, none⟩ = some (.bool false) := by rw [Lib.cell_of_heap h.pw]; simp [pwCells, hd]
    rw [e1]
    have Hd := Lib.hid hd
    rcases err_vals s.pw with he | he
    · have e2 : St.sync s = St.settle { s with pw := s.pw.act } := by unfold St.sync; rw [if_neg (by simp [hd]), if_pos he]
      rw [he, e2]
      have Ha : Hid (Calls Tryd.prog 104 #[.pointer (some ⟨b, 0, none⟩)] w fun e w' => e = .returned (.int .i64 0) ∧ PwAt w' b s.pw.act (slV g s.slots.length) ∧ Only [b] w w') := Lib.hid (by rw [← he]; exact act_any b s.pw _ w h.pw hf)
      clear h hd e1 e2 he
      go_enter Tryd.func95, Tryd.ntmps95
      go_wp2_with fail
      refine Ha.out.mono ?_
      rintro e w1 ⟨rfl, hp, ho⟩
      have h1 : ShAt w1 b g { s with pw := s.pw.act } := ⟨hp, ho.keep H.out.slots (by simpa using fun e => H.out.ne e.symm), H.out.ne, H.out.len⟩
      clear hp
      go_wp2_with fail
      refine (shsettle_any b g _ w1 h1).mono ?_
      rintro e w2 ⟨rfl, h2, ho2⟩
      go_wp2
      go_ret
      exact ⟨rfl, h2, (ho.mono (by simp)).trans (ho2.mono (by simp))⟩
    · have e2 : St.sync s = { s with pw := s.pw.act } := by unfold St.sync; rw [if_neg (by simp [hd]), if_neg (by rw [he]; decide)]
      rw [he, e2]
      have Ha : Hid (Calls Tryd.prog 104 #[.pointer (some ⟨b, 0, none⟩)] w fun e w' => e = .returned (.int .i64 10) ∧ PwAt w' b s.pw.act (slV g s.slots.length) ∧ Only [b] w w') := Lib.hid (by rw [← he]; exact act_any b s.pw _ w h.pw hf)
      clear h hd e1 e2 he
      go_enter Tryd.func95, Tryd.ntmps95
      go_wp2_with fail
      refine Ha.out.mono ?_
      rintro e w1 ⟨rfl, hp, ho⟩
      have h1 : ShAt w1 b g { s with pw := s.pw.act } := ⟨hp, ho.keep H.out.slots (by simpa using fun e => H.out.ne e.symm), H.out.ne, H.out.len⟩
      clear hp
      go_wp2
      go_ret
      exact ⟨rfl, h1, ho.mono (by simp)⟩
end Go.Proofs.YtfbjbhddapoopaaDoor
