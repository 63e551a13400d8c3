/-
  The document's shelf (reference of layer 4): its blocks as data; act, Off, ready, mod and the small calls.
-/
import Derived.Test.YtecofehfheodhaaShN
set_option linter.unusedVariables false
set_option linter.unusedSimpArgs false
namespace Go.Proofs.Ytecofehfheodhaa
open Go.RowKit Sh
attribute [local go_sem] Lb.ba_get Lb.ba_cut Lb.ba_add Lb.ba_size Lb.take_rest

def refCells (p : Pw) (n g1 g2 g3 : Nat) : Array Value := #[slV g1 n, slV g2 n, slV g3 n, .bool p.down, .int .i64 p.acts, .int .i64 p.life, .int .i64 p.armed]
def RefTop (w : World) (b g1 g2 g3 : Nat) (p : Pw) (n : Nat) : Prop := w.heap[b]? = some (.cells (refCells p n g1 g2 g3) 67 (0, 0))
structure RefAt (w : World) (b g1 g2 g3 : Nat) (s : St) : Prop where
  top : RefTop w b g1 g2 g3 s.pw s.slots.length
  now : w.heap[g1]? = some (.cells (nowCells s.slots) 9 (0, 0))
  sure : w.heap[g2]? = some (.cells (sureCells s.slots) 9 (0, 0))
  opn : w.heap[g3]? = some (.cells (openCells s.slots) 4 (0, 0))
  ap : b ≠ g1 ∧ b ≠ g2 ∧ b ≠ g3 ∧ g1 ≠ g2 ∧ g1 ≠ g3 ∧ g2 ≠ g3
  len : s.slots.length ≤ 128

/-- the four blocks -/
theorem RefAt.pw {w w' : World} {b g1 g2 g3 : Nat} {s : St} {p : Pw} (h : RefAt w b g1 g2 g3 s) (ht : RefTop w' b g1 g2 g3 p s.slots.length) (ho : Only [b] w w') : RefAt w' b g1 g2 g3 { s with pw := p } :=
  ⟨ht, ho.keep h.now (by simpa using h.ap.1.symm), ho.keep h.sure (by simpa using h.ap.2.1.symm), ho.keep h.opn (by simpa using h.ap.2.2.1.symm), h.ap, h.len⟩

theorem mod_facts (n : Int) (k : Nat) (hk : 0 < k) : (n.tmod k + k).tmod k = n % k := by
  obtain ⟨f1, f2, f3, f4⟩ := tmod_facts n k hk
  by_cases h : 0 ≤ n.tmod k
  · rw [f3 h, ← f3 h]
    have e : (n.tmod k + k).tmod k = (n.tmod k + k) % k := Int.tmod_eq_emod_of_nonneg (by omega)
    rw [e, Int.add_emod_right, f3 h, Int.emod_emod]
  · rw [f4 (by omega)]
    have h0 := Int.emod_nonneg n (show (k : Int) ≠ 0 by omega)
    have h1 := Int.emod_lt_of_pos n (show (0 : Int) < k by omega)
    rw [Int.tmod_eq_emod_of_nonneg h0, Int.emod_emod]

set_option maxHeartbeats 1000000 in
theorem mod_any (n : Int) (k : Nat) (w : World) (hn : -9223372036854775808 ≤ n ∧ n ≤ 9223372036854775807) (hk : 0 < k) (hk' : (k : Int) ≤ 1000000) :
    Calls Try.prog 63 #[.int .i64 n, .int .i64 k] w fun e w' => e = .returned (.int .i64 (n % k)) ∧ w = w' := by
  obtain ⟨n1, n2⟩ := hn
  obtain ⟨f1, f2, _, _⟩ := tmod_facts n k hk
  have hm := mod_facts n k hk
  have hk0 : ((k : Int) == 0) = false := by simp; omega
  have hkm : ((k : Int) == -1) = false := by simp
  obtain ⟨r, hr⟩ : ∃ r, r = n.tmod k := ⟨_, rfl⟩
  have hr' : n.tmod k = r := hr.symm
  rw [← hr] at f1 f2 hm
  clear hr
  have Hm := Lib.hid hm
  have e : (r + (k : Int)).tmod k = n % k := hm
  clear hm
  go_enter Try.func63, Try.ntmps63
  go_wp2
  go_ret
  first
    | exact ⟨rfl, rfl⟩
    | (refine ⟨?_, rfl⟩; simp [Hm.out])

set_option maxHeartbeats 1000000 in
theorem refoff_any (b g1 g2 g3 : Nat) (s : St) (w : World) (h : RefAt w b g1 g2 g3 s) (hf : s.pw.fits 1) :
    Calls Try.prog 41 #[.pointer (some ⟨b, 0, none⟩)] w fun e w' => e = .returned (.tuple #[]) ∧ RefAt w' b g1 g2 g3 (St.off s) ∧ Only [b] w w' := by
  obtain ⟨⟨d, ac, ar, li⟩, ss⟩ := s
  obtain ⟨f1, f2, f3⟩ := hf
  simp only at f1 f2 f3
  have c3 : w.cell? ⟨b, 3, none⟩ = some (.bool d) := by rw [Lib.cell_of_heap h.top]; rfl
  have c5 : w.cell? ⟨b, 5, none⟩ = some (.int .i64 li) := by rw [Lib.cell_of_heap h.top]; rfl
  have c6 : w.cell? ⟨b, 6, none⟩ = some (.int .i64 ar) := by rw [Lib.cell_of_heap h.top]; rfl
  have z3 : w.frozen? ⟨b, 3, none⟩ = false := Lib.frozen_of_heap h.top 3
  have z5 : w.frozen? ⟨b, 5, none⟩ = false := Lib.frozen_of_heap h.top 5
  have z6 : w.frozen? ⟨b, 6, none⟩ = false := Lib.frozen_of_heap h.top 6
  have H := Lib.hid h
  clear h
  cases d
  · go_enter Try.func41, Try.ntmps41
    go_wp2
    go_end0
    have ho : Only [b] w (((w.setCell ⟨b, 3, none⟩ (.bool true)).setCell ⟨b, 5, none⟩ (.int .i64 (li + 1))).setCell ⟨b, 6, none⟩ (.int .i64 0)) := (((Only.refl _ _).setCell (by simp) _).setCell (by simp) _).setCell (by simp) _
    refine ⟨rfl, H.out.pw ?_ ho, ho⟩
    exact heap_setCell_same _ b 6 _ _ _ (heap_setCell_same _ b 5 _ _ _ (heap_setCell_same _ b 3 _ _ _ H.out.top))
  · go_enter Try.func41, Try.ntmps41
    go_wp2
    go_end0
    exact ⟨rfl, H.out, Only.refl _ _⟩

set_option maxHeartbeats 1000000 in
theorem refact_any (b g1 g2 g3 : Nat) (s : St) (w : World) (h : RefAt w b g1 g2 g3 s) (hf : s.pw.fits 2) :
    Calls Try.prog 62 #[.pointer (some ⟨b, 0, none⟩)] w fun e w' => e = .returned (.int .i64 s.pw.err) ∧ RefAt w' b g1 g2 g3 { s with pw := s.pw.act } ∧ Only [b] w w' := by
  obtain ⟨⟨d, ac, ar, li⟩, ss⟩ := s
  obtain ⟨f1, f2, f3⟩ := hf
  simp only at f1 f2 f3
  have c4 : w.cell? ⟨b, 4, none⟩ = some (.int .i64 ac) := by rw [Lib.cell_of_heap h.top]; rfl
  have c6 : w.cell? ⟨b, 6, none⟩ = some (.int .i64 ar) := by rw [Lib.cell_of_heap h.top]; rfl
  have z4 : w.frozen? ⟨b, 4, none⟩ = false := Lib.frozen_of_heap h.top 4
  have z6 : w.frozen? ⟨b, 6, none⟩ = false := Lib.frozen_of_heap h.top 6
  have H := Lib.hid h
  clear h
  have hc : ar = 0 ∨ ar = 1 ∨ 1 < ar := by omega
  rcases hc with rfl | rfl | hc
  · go_enter Try.func62, Try.ntmps62
    go_wp2
    go_ret
    refine ⟨rfl, H.out.pw ?_ ((Only.refl _ _).setCell (by simp) _), (Only.refl _ _).setCell (by simp) _⟩
    exact heap_setCell_same _ b 4 _ _ _ H.out.top
  · go_enter Try.func62, Try.ntmps62
    go_wp2_with fail
    have ho : Only [b] w ((w.setCell ⟨b, 4, none⟩ (.int .i64 (ac + 1))).setCell ⟨b, 6, none⟩ (.int .i64 0)) := ((Only.refl _ _).setCell (by simp) _).setCell (by simp) _
    have h2 : RefAt ((w.setCell ⟨b, 4, none⟩ (.int .i64 (ac + 1))).setCell ⟨b, 6, none⟩ (.int .i64 0)) b g1 g2 g3 { pw := ⟨d, ac + 1, 0, li⟩, slots := ss } := H.out.pw (heap_setCell_same _ b 6 _ _ _ (heap_setCell_same _ b 4 _ _ _ H.out.top)) ho
    refine (refoff_any b g1 g2 g3 _ _ h2 ⟨by simp; omega, by simp, by simp; omega⟩).mono ?_
    rintro e w2 ⟨rfl, hp, ho2⟩
    go_wp2
    go_ret
    exact ⟨rfl, hp, ho.trans ho2⟩
  · have t1 : (0 : Int) < (ar : Int) := by omega
    have t2 : ((ar : Int) - 1 == 0) = false := by simp; omega
    go_enter Try.func62, Try.ntmps62
    go_wp2
    go_ret
    have ho : Only [b] w ((w.setCell ⟨b, 4, none⟩ (.int .i64 (ac + 1))).setCell ⟨b, 6, none⟩ (.int .i64 (ar - 1))) := ((Only.refl _ _).setCell (by simp) _).setCell (by simp) _
    refine ⟨?_, H.out.pw ?_ ho, ho⟩
    · have : ({ down := d, acts := ac, armed := ar, life := li } : Pw).err = 0 := by unfold Pw.err; rw [if_neg (by simp; omega)]
      rw [this]; rfl
    · have e : ({ down := d, acts := ac, armed := ar, life := li } : Pw).act = { down := d, acts := ac + 1, armed := ar - 1, life := li } := by
        unfold Pw.act; rw [if_neg (by simp; omega), if_neg (by simp; omega)]
      rw [e]
      have e2 : refCells { down := d, acts := ac + 1, armed := ar - 1, life := li } ss.length g1 g2 g3 = ((refCells { down := d, acts := ac, armed := ar, life := li } ss.length g1 g2 g3).setIfInBounds 4 (.int .i64 (↑ac + 1))).setIfInBounds 6 (.int .i64 (↑ar - 1)) := by
        have : ((ar - 1 : Nat) : Int) = (ar : Int) - 1 := by omega
        simp [refCells, this]
      unfold RefTop
      rw [e2]
      exact heap_setCell_same _ b 6 _ _ _ (heap_setCell_same _ b 4 _ _ _ H.out.top)

set_option maxHeartbeats 1000000 in
theorem ready_any (b g1 g2 g3 : Nat) (s : St) (i : Int) (w : World) (h : RefAt w b g1 g2 g3 s) :
    Calls Try.prog 61 #[.pointer (some ⟨b, 0, none⟩), .int .i64 i] w fun e w' => e = .returned (.int .i64 (St.atErr s i)) ∧ w = w' := by
  have c3 : w.cell? ⟨b, 3, none⟩ = some (.bool s.pw.down) := by rw [Lib.cell_of_heap h.top]; rfl
  have c0 : w.cell? ⟨b, 0, none⟩ = some (.slice (some ⟨g1, 0, none⟩) s.slots.length s.slots.length) := by rw [Lib.cell_of_heap h.top]; rfl
  have hl := h.len
  unfold St.atErr
  obtain ⟨n, hn⟩ : ∃ n, n = s.slots.length := ⟨_, rfl⟩
  rw [← hn] at c0 hl ⊢
  cases hd : s.pw.down with
  | true =>
    rw [hd] at c3
    clear hd hn h
    go_enter Try.func61, Try.ntmps61
    go_wp2
    go_ret
    exact ⟨rfl, rfl⟩
  | false =>
    rw [hd] at c3
    clear hd hn h
    by_cases h1 : i < 0
    · have e1 : (if (false = true) then (10 : Int) else if i < 0 ∨ (n : Int) ≤ i then 1 else 0) = 1 := by rw [if_neg (by simp), if_pos (by omega)]
      rw [e1]
      go_enter Try.func61, Try.ntmps61
      go_wp2
      go_ret
      exact ⟨rfl, rfl⟩
    · by_cases h2 : (n : Int) ≤ i
      · have e1 : (if (false = true) then (10 : Int) else if i < 0 ∨ (n : Int) ≤ i then 1 else 0) = 1 := by rw [if_neg (by simp), if_pos (by omega)]
        rw [e1]
        go_enter Try.func61, Try.ntmps61
        go_wp2
        go_ret
        exact ⟨rfl, rfl⟩
      · have e1 : (if (false = true) then (10 : Int) else if i < 0 ∨ (n : Int) ≤ i then 1 else 0) = 0 := by rw [if_neg (by simp), if_neg (by omega)]
        rw [e1]
        go_enter Try.func61, Try.ntmps61
        go_wp2
        go_ret
        exact ⟨rfl, rfl⟩

theorem refdown_any (b g1 g2 g3 : Nat) (s : St) (w : World) (h : RefAt w b g1 g2 g3 s) :
    Calls Try.prog 46 #[.pointer (some ⟨b, 0, none⟩)] w fun e w' => e = .returned (.bool s.pw.down) ∧ w = w' := by
  have c3 : w.cell? ⟨b, 3, none⟩ = some (.bool s.pw.down) := by rw [Lib.cell_of_heap h.top]; rfl
  clear h
  go_enter Try.func46, Try.ntmps46
  go_wp2
  go_ret
  exact ⟨rfl, rfl⟩
theorem refacts_any (b g1 g2 g3 : Nat) (s : St) (w : World) (h : RefAt w b g1 g2 g3 s) :
    Calls Try.prog 48 #[.pointer (some ⟨b, 0, none⟩)] w fun e w' => e = .returned (.int .i64 s.pw.acts) ∧ w = w' := by
  have c3 : w.cell? ⟨b, 4, none⟩ = some (.int .i64 s.pw.acts) := by rw [Lib.cell_of_heap h.top]; rfl
  clear h
  go_enter Try.func48, Try.ntmps48
  go_wp2
  go_ret
  exact ⟨rfl, rfl⟩
theorem reflife_any (b g1 g2 g3 : Nat) (s : St) (w : World) (h : RefAt w b g1 g2 g3 s) :
    Calls Try.prog 49 #[.pointer (some ⟨b, 0, none⟩)] w fun e w' => e = .returned (.int .i64 s.pw.life) ∧ w = w' := by
  have c3 : w.cell? ⟨b, 5, none⟩ = some (.int .i64 s.pw.life) := by rw [Lib.cell_of_heap h.top]; rfl
  clear h
  go_enter Try.func49, Try.ntmps49
  go_wp2
  go_ret
  exact ⟨rfl, rfl⟩
set_option maxHeartbeats 1000000 in
theorem refarm_any (b g1 g2 g3 : Nat) (s : St) (n : Int) (w : World) (h : RefAt w b g1 g2 g3 s) (hn : -9223372036854775808 ≤ n ∧ n ≤ 9223372036854775807) :
    Calls Try.prog 44 #[.pointer (some ⟨b, 0, none⟩), .int .i64 n] w fun e w' => e = .returned (.tuple #[]) ∧ RefAt w' b g1 g2 g3 (St.arm s n) ∧ Only [b] w w' := by
  have H := Lib.hid h
  have c6 : w.cell? ⟨b, 6, none⟩ = some (.int .i64 s.pw.armed) := by rw [Lib.cell_of_heap h.top]; rfl
  have z6 : w.frozen? ⟨b, 6, none⟩ = false := Lib.frozen_of_heap h.top _
  clear h
  by_cases hc : 0 < n
  · go_enter Try.func44, Try.ntmps44
    go_wp2
    go_end0
    have e : (((n.toNat : Nat)) : Int) = n := by omega
    have ho : Only [b] w ((w.setCell ⟨b, 6, none⟩ (.int .i64 0)).setCell ⟨b, 6, none⟩ (.int .i64 n)) := ((Only.refl _ _).setCell (by simp) _).setCell (by simp) _
    refine ⟨rfl, H.out.pw ?_ ho, ho⟩
    refine (heap_setCell_same _ b 6 _ _ _ (heap_setCell_same _ b 6 _ _ _ H.out.top)).trans ?_
    simp [refCells, e]
  · go_enter Try.func44, Try.ntmps44
    go_wp2
    go_end0
    have e : (((n.toNat : Nat)) : Int) = 0 := by omega
    have ho : Only [b] w (w.setCell ⟨b, 6, none⟩ (.int .i64 0)) := (Only.refl _ _).setCell (by simp) _
    refine ⟨rfl, H.out.pw ?_ ho, ho⟩
    refine (heap_setCell_same _ b 6 _ _ _ H.out.top).trans ?_
    simp [refCells, e]
end Go.Proofs.Ytecofehfheodhaa
