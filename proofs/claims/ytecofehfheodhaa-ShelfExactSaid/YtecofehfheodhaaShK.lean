/-
  A shelf that a law has made: contracts of its calls that turn no block but the shelf's own.
-/
import Derived.Test.YtecofehfheodhaaShJ
import Derived.Test.YtecofehfheodhaaActs
set_option linter.unusedVariables false
set_option linter.unusedSimpArgs false
namespace Go.Proofs.Ytecofehfheodhaa
open Go.RowKit Sh

theorem livo_write {w0 w : World} {b g : Nat} {s : St} {k : Nat} (L : Live w0 w b g s (k + 2)) (i : Int) (t : List UInt8) (ht : t.length ≤ 9223372036854775807) :
    Calls Try.prog 31 #[.pointer (some ⟨b, 0, none⟩), .int .i64 i, .string ⟨t.toArray⟩] w fun e w' => e = .returned (.int .i64 (St.writeErr s i t)) ∧ Live w0 w' b g (St.write s i t) k ∧ Only [b, g] w w' := by
  refine (write_any b g s i t w L.here (Pw.fits_mono L.fit (by omega)) ht).mono ?_
  rintro e w1 ⟨rfl, h1, ho⟩
  refine ⟨rfl, L.next h1 ho ?_ (small_write L.small i t), ho⟩
  unfold St.write
  split
  · exact Pw.fits_mono L.fit (by omega)
  · exact Pw.act_fits (Pw.fits_mono L.fit (by omega))
theorem livo_sync {w0 w : World} {b g : Nat} {s : St} {k : Nat} (L : Live w0 w b g s (k + 2)) :
    Calls Try.prog 36 #[.pointer (some ⟨b, 0, none⟩)] w fun e w' => e = .returned (.int .i64 (St.syncErr s)) ∧ Live w0 w' b g (St.sync s) k ∧ Only [b, g] w w' := by
  refine (sync_any b g s w L.here (Pw.fits_mono L.fit (by omega))).mono ?_
  rintro e w1 ⟨rfl, h1, ho⟩
  refine ⟨rfl, L.next h1 ho ?_ (small_sync L.small), ho⟩
  unfold St.sync
  split
  · exact Pw.fits_mono L.fit (by omega)
  · split
    · exact Pw.act_fits (Pw.fits_mono L.fit (by omega))
    · exact Pw.act_fits (Pw.fits_mono L.fit (by omega))
theorem livo_off {w0 w : World} {b g : Nat} {s : St} {k : Nat} (L : Live w0 w b g s (k + 1)) :
    Calls Try.prog 32 #[.pointer (some ⟨b, 0, none⟩)] w fun e w' => e = .returned (.tuple #[]) ∧ Live w0 w' b g (St.off s) k ∧ Only [b, g] w w' := by
  refine (offd_any b g s w L.here (Pw.fits_mono L.fit (by omega))).mono ?_
  rintro e w1 ⟨rfl, h1, ho⟩
  exact ⟨rfl, L.next h1 ho (Pw.off_fits L.fit) L.small, ho⟩
theorem livo_on {w0 w : World} {b g : Nat} {s : St} {k : Nat} (L : Live w0 w b g s k) (A : Option Addr) (cap : Nat) (fs : List Int) (hI : Fts w [b, g] A fs) (hfs : ∀ f ∈ fs, -9223372036854775808 ≤ f ∧ f ≤ 9223372036854775807) (hfl : fs.length ≤ maxLen) :
    Calls Try.prog 33 #[.pointer (some ⟨b, 0, none⟩), .slice A fs.length cap] w fun e w' => e = .returned (.tuple #[]) ∧ Live w0 w' b g (St.on s fs) k ∧ Only [b, g] w w' := by
  refine (on_any b g s A cap fs w L.here hI hfs hfl L.small).mono ?_
  rintro e w1 ⟨rfl, h1, ho⟩
  refine ⟨rfl, L.next h1 ho ?_ (small_on L.small fs), ho⟩
  unfold St.on
  split
  · exact L.fit
  · exact L.fit

theorem onl_same (ss : List Slot) (fs : List Int) (j : Nat) {x : Slot} (hj : ss[j]? = some x) (hx : x.opn = false) : ∀ k, (onl ss fs k)[j]? = some x
  | 0 => hj
  | k + 1 => by
    unfold onl
    split
    · rename_i y hy
      split
      · rename_i ho
        have hne : k ≠ j := by
          rintro rfl
          rw [hj] at hy
          injection hy with hy
          rw [← hy, hx] at ho
          cases ho
        rw [List.getElem?_set_ne hne]
        exact onl_same ss fs j hj hx k
      · exact onl_same ss fs j hj hx k
    · exact onl_same ss fs j hj hx k

theorem u64_mod8 (x : Int) (h : -9223372036854775808 ≤ x ∧ x ≤ 9223372036854775807) : ∃ u k : Nat, IntKind.u64.wrap x = (u : Int) ∧ (u : Int) ≤ 18446744073709551615 ∧ (u : Int).tmod 8 = (k : Int) ∧ IntKind.i64.wrap (k : Int) = (k : Int) ∧ k < 8 := by
  by_cases hx : 0 ≤ x
  · obtain ⟨u, rfl⟩ : ∃ u : Nat, x = u := ⟨x.toNat, by omega⟩
    exact ⟨u, u % 8, by rw [IntWalk.u64_in _ (by omega)], by omega, rfl, IntWalk.i64_in _ (by omega), by omega⟩
  · refine ⟨(x + 18446744073709551616).toNat, (x + 18446744073709551616).toNat % 8, ?_, by omega, rfl, IntWalk.i64_in _ (by omega), by omega⟩
    simp only [IntKind.wrap_u64]; omega

/-- up, not armed, eight slots, slot k has t for sure -/
structure Held (s : St) (k : Nat) (t : List UInt8) : Prop where
  up : s.pw.down = false
  arm : s.pw.armed = 0
  len : s.slots.length = 8
  has : s.slots[k]? = some { now := t, sure := t, opn := false }
theorem act_calm {p : Pw} (h1 : p.down = false) (h2 : p.armed = 0) : p.act.down = false ∧ p.act.armed = 0 ∧ p.err = 0 := by
  simp [Pw.act, Pw.err, h1, h2]
theorem Held.write {s : St} {k : Nat} {t : List UInt8} (h : Held s k t) (n : Nat) (hn : n ≠ k) (x : List UInt8) : Held (St.write s n x) k t := by
  obtain ⟨h1, h2, h3, h4⟩ := h
  unfold St.write
  split
  · exact ⟨h1, h2, h3, h4⟩
  · obtain ⟨a1, a2, _⟩ := act_calm h1 h2
    refine ⟨a1, a2, by simp [setNow_length, h3], ?_⟩
    simp only [Int.toNat_natCast]
    unfold setNow
    split
    · rw [List.getElem?_set_ne hn]; exact h4
    · exact h4
theorem Held.sync {s : St} {k : Nat} {t : List UInt8} (h : Held s k t) : Held (St.sync s) k t := by
  obtain ⟨h1, h2, h3, h4⟩ := h
  obtain ⟨a1, a2, a3⟩ := act_calm h1 h2
  unfold St.sync
  rw [if_neg (by simp [h1]), if_pos a3]
  refine ⟨a1, a2, by simp [St.settle, h3], ?_⟩
  simp [St.settle, h4, sure1]
theorem Held.again {s : St} {k : Nat} {t : List UInt8} (h : Held s k t) (fs : List Int) : Held (St.on (St.off s) fs) k t := by
  obtain ⟨h1, h2, h3, h4⟩ := h
  have hd : (St.off s).pw.down = true := by simp [St.off, Pw.off, h1]
  unfold St.on
  rw [if_pos hd]
  refine ⟨rfl, by simp [St.off, Pw.off, h1], by simp [St.off, onl_length, h3], ?_⟩
  show (List.map sure1 (onl s.slots _ _))[k]? = _
  rw [List.getElem?_map, onl_same s.slots _ k h4 rfl]
  rfl
theorem Held.read {s : St} {k : Nat} {t : List UInt8} (h : Held s k t) : St.atErr s k = 0 ∧ St.read s k = t := by
  obtain ⟨h1, h2, h3, h4⟩ := h
  have hk : k < s.slots.length := (List.getElem?_eq_some_iff.1 h4).1
  have e : St.atErr s k = 0 := by unfold St.atErr; rw [h1, if_neg (by simp), if_neg (by omega)]
  refine ⟨e, ?_⟩
  unfold St.read
  rw [if_neg (by simpa using e)]
  simp [h4]
theorem held_first (k : Nat) (hk : k < 8) (t : List UInt8) (ht : t.length ≤ 640) : St.writeErr (St.new 8) k t = 0 ∧ St.syncErr (St.write (St.new 8) k t) = 0 ∧ Held (St.sync (St.write (St.new 8) k t)) k t := by
  have e0 : St.atErr (St.new 8) k = 0 := by unfold St.atErr; rw [if_neg (by simp [St.new]), if_neg (by simp [St.new]; omega)]
  have ew : St.write (St.new 8) k t = { pw := (St.new 8).pw.act, slots := setNow (List.replicate 8 slot0) k t } := by
    unfold St.write; rw [if_neg (by simp [e0]; omega)]; rfl
  obtain ⟨a1, a2, a3⟩ := act_calm (p := (St.new 8).pw) rfl rfl
  obtain ⟨b1, b2, b3⟩ := act_calm a1 a2
  refine ⟨?_, ?_, ?_⟩
  · unfold St.writeErr; rw [if_neg (by simpa using e0), if_neg (by omega)]; exact a3
  · rw [ew]; unfold St.syncErr; rw [if_neg (by simp [a1])]; exact b3
  · rw [ew]; unfold St.sync; rw [if_neg (by simp [a1]), if_pos b3]
    refine ⟨b1, b2, by simp [St.settle, setNow_length], ?_⟩
    have : (setNow (List.replicate 8 slot0) k t)[k]? = some { now := t, sure := [], opn := true } := by
      unfold setNow
      rw [List.getElem?_replicate, if_pos hk]
      simp [hk, slot0]
    show (List.map sure1 (setNow (List.replicate 8 slot0) k t))[k]? = _
    rw [List.getElem?_map, this]
    rfl
end Go.Proofs.Ytecofehfheodhaa
