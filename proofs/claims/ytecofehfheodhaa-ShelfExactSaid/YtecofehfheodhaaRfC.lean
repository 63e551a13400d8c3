/-
  The document's shelf: Sync.
-/
import Derived.Test.YtecofehfheodhaaRfB
set_option linter.unusedVariables false
set_option linter.unusedSimpArgs false
namespace Go.Proofs.Ytecofehfheodhaa
open Go.RowKit Sh
attribute [local go_sem] Lb.ba_get Lb.ba_cut Lb.ba_add Lb.ba_size Lb.take_rest

theorem nowCells_at (ss : List Slot) (k : Nat) (y : Slot) : (nowCells ss).setIfInBounds k (.string ⟨y.now.toArray⟩) = nowCells (ss.set k y) := by
  simp [nowCells, List.map_set]
theorem sureCells_at (ss : List Slot) (k : Nat) (y : Slot) : (sureCells ss).setIfInBounds k (.string ⟨y.sure.toArray⟩) = sureCells (ss.set k y) := by
  simp [sureCells, List.map_set]
theorem openCells_at (ss : List Slot) (k : Nat) (y : Slot) : (openCells ss).setIfInBounds k (.bool y.opn) = openCells (ss.set k y) := by
  simp [openCells, List.map_set]
theorem nowCells_still (ss : List Slot) (k : Nat) {x y : Slot} (hk : ss[k]? = some x) (h : y.now = x.now) : nowCells (ss.set k y) = nowCells ss := by
  unfold nowCells
  congr 1
  rw [List.map_set]
  refine (List.ext_getElem? fun i => ?_)
  by_cases hi : i = k
  · subst hi
    have hl := (List.getElem?_eq_some_iff.1 hk).1
    rw [List.getElem?_set_self (by simpa using hl)]
    simp [hk, h]
  · rw [List.getElem?_set_ne (by omega)]

/-- the three rows behind 'slot k is y' -/
theorem RefAt.sets {w w' : World} {b g1 g2 g3 : Nat} {p : Pw} {ss : List Slot} (k : Nat) (y : Slot) (h : RefAt w b g1 g2 g3 ⟨p, ss⟩)
    (hT : w'.heap[b]? = w.heap[b]?) (hN : w'.heap[g1]? = some (.cells (nowCells (ss.set k y)) 9 (0, 0))) (hS : w'.heap[g2]? = some (.cells (sureCells (ss.set k y)) 9 (0, 0)))
    (hO : w'.heap[g3]? = some (.cells (openCells (ss.set k y)) 4 (0, 0))) : RefAt w' b g1 g2 g3 ⟨p, ss.set k y⟩ :=
  ⟨by unfold RefTop; rw [hT]; simp only [List.length_set]; exact h.top, hN, hS, hO, h.ap, by simpa using h.len⟩

set_option maxHeartbeats 2000000 in
theorem refsync_any (b g1 g2 g3 : Nat) (s : St) (w : World) (h : RefAt w b g1 g2 g3 s) (hf : s.pw.fits 2) :
    Calls Try.prog 40 #[.pointer (some ⟨b, 0, none⟩)] w fun e w' => e = .returned (.int .i64 (St.syncErr s)) ∧ RefAt w' b g1 g2 g3 (St.sync s) ∧ Only [b, g1, g2, g3] w w' := by
  have H := Lib.hid h
  cases hd : s.pw.down with
  | true =>
    have e1 : St.syncErr s = 10 := by unfold St.syncErr; rw [if_pos hd]
    have e2 : St.sync s = s := by unfold St.sync; rw [if_pos hd]
    have c3 := h.tops.2.2.2
    rw [hd] at c3
    rw [e1, e2]
    clear h hd e1 e2
    go_enter Try.func40, Try.ntmps40
    go_wp2
    go_ret
    exact ⟨rfl, H.out, Only.refl _ _⟩
  | false =>
    have e1 : St.syncErr s = s.pw.err := by unfold St.syncErr; rw [if_neg (by simp [hd])]
    have c3 := h.tops.2.2.2
    rw [hd] at c3
    rw [e1]
    have Hd := Lib.hid hd
    have Ha := Lib.hid (refact_any b g1 g2 g3 s w h hf)
    rcases err_vals s.pw with he | he
    · have e2 : St.sync s = St.settle { s with pw := s.pw.act } := by unfold St.sync; rw [if_neg (by simp [hd]), if_pos he]
      have Ha' := Ha.out
      rw [he] at Ha' ⊢
      rw [e2]
      have HA := Lib.hid Ha'
      obtain ⟨n, hn⟩ : ∃ n, n = s.slots.length := ⟨_, rfl⟩
      have hl := h.len
      rw [← hn] at hl
      have Hn := Lib.hid hn
      obtain ⟨p, hp⟩ : ∃ p, p = s.pw.act := ⟨_, rfl⟩
      obtain ⟨ss, hss⟩ : ∃ ss, ss = s.slots := ⟨_, rfl⟩
      have e3 : St.settle { s with pw := s.pw.act } = ⟨p, ss.map sure1⟩ := by rw [hp, hss]; rfl
      have E3 := Lib.hid e3
      have Hn' : Hid (n = ss.length) := Lib.hid (by rw [hss]; exact hn)
      have Hs : Hid (∀ w', RefAt w' b g1 g2 g3 { s with pw := s.pw.act } → RefAt w' b g1 g2 g3 ⟨p, ss⟩) := Lib.hid (by rw [hp, hss]; exact fun _ h => h)
      clear h hd e1 e2 he Ha' Ha hn hp hss e3
      go_enter Try.func40, Try.ntmps40
      go_wp2_with fail
      refine HA.out.mono ?_
      rintro e w1 ⟨rfl, h1, ho1⟩
      have H1 := Lib.hid (Hs.out _ h1)
      clear h1 HA
      go_wp2_with fail
      go_loopw [4] (fun q wr => ∃ k : Nat, k ≤ n ∧ q = .int .i64 k ∧ RefAt wr b g1 g2 g3 ⟨p, setl ss k⟩ ∧ Only [g1, g2, g3] w1 wr) (fun q _ => n - (intOf q).toNat)
      case atStart => exact ⟨0, by omega, rfl, by rw [setl_zero]; exact H1.out, Only.refl _ _⟩
      case round =>
        obtain ⟨k, hk, rfl, hR, ho⟩ := hrel
        obtain ⟨d0, d1, d2, -⟩ := hR.tops
        have hsl : (setl ss k).length = n := by rw [setl_length]; exact Hn'.out.symm
        simp only [hsl] at d0 d1 d2
        by_cases hkn : k < n
        · have hk' : k < ss.length := by rw [← Hn'.out]; exact hkn
          obtain ⟨x, hx⟩ : ∃ x, ss[k]? = some x := ⟨_, List.getElem?_eq_getElem hk'⟩
          have hx' : (setl ss k)[k]? = some x := by
            rw [List.getElem?_eq_getElem (by rw [setl_length]; exact hk'), setl_get ss k hk', ← hx, List.getElem?_eq_getElem hk']
          obtain ⟨a1, a2, a3⟩ := hR.cell k hx'
          have z2 : wr.frozen? ⟨g2, k, none⟩ = false := Lib.frozen_of_heap hR.sure _
          have k0 : (0 : Int) ≤ (k : Int) := by omega
          have k1 : (k : Int) < (n : Int) := by omega
          have hap := hR.ap
          have hsucc : setl ss (k + 1) = (setl ss k).set k (sure1 x) := by
            rw [setl_succ ss k hk']; rw [List.getElem?_eq_getElem hk'] at hx; injection hx with hx; rw [hx]
          obtain ⟨tx, htx⟩ : ∃ tx, tx = x.now := ⟨_, rfl⟩
          rw [← htx] at a1
          have o1 : Only [g2] wr (wr.setCell ⟨g2, k, none⟩ (.string ⟨tx.toArray⟩)) := (Only.refl _ _).setCell (by simp) _
          have f2 : (wr.setCell ⟨g2, k, none⟩ (.string ⟨tx.toArray⟩)).cell? ⟨b, 2, none⟩ = some (.slice (some ⟨g3, 0, none⟩) n n) := by
            rw [← hsl]; rw [Lib.cell_of_heap (o1.keep hR.top (by simpa using hap.2.1))]; rfl
          have f3 : (wr.setCell ⟨g2, k, none⟩ (.string ⟨tx.toArray⟩)).cell? ⟨g3, k, none⟩ = some (.bool x.opn) := by
            rw [Lib.cell_of_heap (o1.keep hR.opn (by simpa using hap.2.2.2.2.2.symm))]; simp [openCells, hx']
          have z3 : (wr.setCell ⟨g2, k, none⟩ (.string ⟨tx.toArray⟩)).frozen? ⟨g3, k, none⟩ = false := Lib.frozen_of_heap (o1.keep hR.opn (by simpa using hap.2.2.2.2.2.symm)) _
          have o2 : Only [g1, g2, g3] w1 ((wr.setCell ⟨g2, k, none⟩ (.string ⟨tx.toArray⟩)).setCell ⟨g3, k, none⟩ (.bool false)) := (ho.setCell (by simp) _).setCell (by simp) _
          have hRn : RefAt ((wr.setCell ⟨g2, k, none⟩ (.string ⟨tx.toArray⟩)).setCell ⟨g3, k, none⟩ (.bool false)) b g1 g2 g3 ⟨p, setl ss (k + 1)⟩ := by
            have o3 : Only [g3] (wr.setCell ⟨g2, k, none⟩ (.string ⟨tx.toArray⟩)) ((wr.setCell ⟨g2, k, none⟩ (.string ⟨tx.toArray⟩)).setCell ⟨g3, k, none⟩ (.bool false)) := (Only.refl _ _).setCell (by simp) _
            rw [hsucc]
            refine hR.sets k (sure1 x) ?_ ?_ ?_ ?_
            · rw [o3.keep (o1.keep hR.top (by simpa using hap.2.1)) (by simpa using hap.2.2.1)]; exact hR.top.symm
            · rw [nowCells_still _ k (y := sure1 x) hx' rfl]; exact o3.keep (o1.keep hR.now (by simpa using hap.2.2.2.1)) (by simpa using hap.2.2.2.2.1)
            · refine o3.keep ?_ (by simpa using hap.2.2.2.2.2)
              rw [← sureCells_at, htx]; exact heap_setCell_same _ g2 k _ _ _ hR.sure
            · rw [← openCells_at]; exact heap_setCell_same _ g3 k _ _ _ (o1.keep hR.opn (by simpa using hap.2.2.2.2.2.symm))
          have HR := Lib.hid hRn
          have Ho := Lib.hid o2
          clear hRn o2 o1 hR hsucc hx hx' hap htx hsl hk'
          go_upto_region 11 with fail
          go_region
          go_wp2
          go_roundw
          case rel => exact ⟨k + 1, by omega, by go_num, HR.out.drew, Ho.out.drew⟩
          case measure => simp [intOf]; omega
        · have hkn : k = n := by omega
          subst hkn
          have hR' : RefAt wr b g1 g2 g3 ⟨p, ss.map sure1⟩ := by rw [← setl_all, ← Hn'.out]; exact hR
          have HR := Lib.hid hR'
          have Ho := Lib.hid ho
          clear hR hR' ho
          go_wp2
          go_ret
          refine ⟨rfl, ?_, (ho1.mono (by simp)).trans (Ho.out.mono (by simp))⟩
          first | (rw [E3.out]; exact HR.out) | exact HR.out
    · have e2 : St.sync s = { s with pw := s.pw.act } := by unfold St.sync; rw [if_neg (by simp [hd]), if_neg (by rw [he]; decide)]
      have Ha' := Ha.out
      rw [he] at Ha' ⊢
      rw [e2]
      have HA := Lib.hid Ha'
      clear h hd e1 e2 he Ha' Ha
      go_enter Try.func40, Try.ntmps40
      go_wp2_with fail
      refine HA.out.mono ?_
      rintro e w1 ⟨rfl, h1, ho1⟩
      go_wp2
      go_ret
      exact ⟨rfl, h1, ho1.mono (by simp)⟩
end Go.Proofs.Ytecofehfheodhaa
