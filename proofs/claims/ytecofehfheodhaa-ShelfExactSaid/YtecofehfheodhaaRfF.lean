/-
  shelf.New of any number; a shelf and the document's shelf side by side.
-/
import Derived.Test.YtecofehfheodhaaRfE
set_option linter.unusedVariables false
set_option linter.unusedSimpArgs false
namespace Go.Proofs.Ytecofehfheodhaa
open Go.RowKit Sh
attribute [local go_sem] Lb.ba_get Lb.ba_cut Lb.ba_add Lb.ba_size Lb.take_rest

theorem new_fin (w : World) (m : Nat) (hm : m ≤ 128) :
    ShAt ((w.alloc (.cells (madeCells #[.string ⟨#[]⟩, .string ⟨#[]⟩, .bool false] (m * 3)) 94)).alloc (.cells #[.bool false, .int .i64 0, .int .i64 0, .int .i64 0, .slice (some ⟨w.heap.size, 0, none⟩) m m] 89)) (w.heap.size + 1) w.heap.size (St.new m) := by
  refine ⟨?_, ?_, by omega, ?_⟩
  · have h := heap_alloc_new (w.alloc (.cells (madeCells #[.string ⟨#[]⟩, .string ⟨#[]⟩, .bool false] (m * 3)) 94)) (.cells #[.bool false, .int .i64 0, .int .i64 0, .int .i64 0, .slice (some ⟨w.heap.size, 0, none⟩) m m] 89)
    have e : (w.alloc (.cells (madeCells #[.string ⟨#[]⟩, .string ⟨#[]⟩, .bool false] (m * 3)) 94)).heap.size = w.heap.size + 1 := by simp
    rw [e] at h
    simpa [PwAt, pwCells, St.new, slV] using h
  · have h := heap_alloc2_old w (.cells (madeCells #[.string ⟨#[]⟩, .string ⟨#[]⟩, .bool false] (m * 3)) 94) (.cells #[.bool false, .int .i64 0, .int .i64 0, .int .i64 0, .slice (some ⟨w.heap.size, 0, none⟩) m m] 89)
    rw [made_slots] at h ⊢
    exact h
  · simpa [St.new] using hm

set_option maxHeartbeats 1000000 in
theorem newz_any (n : Int) (m : Nat) (hm : m = clampN n) (w : World) (hn : -9223372036854775808 ≤ n ∧ n ≤ 9223372036854775807) :
    Calls Try.prog 30 #[.int .i64 n] w fun e w' => e = .returned (.pointer (some ⟨w.heap.size + 1, 0, none⟩)) ∧ ShAt w' (w.heap.size + 1) w.heap.size (St.new m) ∧ Below w.heap.size w w' := by
  have hm128 : m ≤ 128 := by rw [hm]; exact clampN_le n
  have hin : n < 0 ∧ m = 0 ∨ 128 < n ∧ m = 128 ∨ 0 ≤ n ∧ n ≤ 128 ∧ n = m := by rw [hm]; unfold clampN; omega
  clear hm
  rcases hin with ⟨hn0, hm⟩ | ⟨hn0, hm⟩ | ⟨hn0, hn1, hm⟩
  · have hmk := fun u => mk_slots m hm128 0 (by omega) u
    clear hm
    go_enter Try.func30, Try.ntmps30
    go_wp2
    go_ret
    exact ⟨rfl, new_fin w m hm128, ((Below.refl _ w).alloc (Nat.le_refl _) _).alloc (by simp) _⟩
  · have hmk := fun u => mk_slots m hm128 128 (by omega) u
    clear hm
    go_enter Try.func30, Try.ntmps30
    go_wp2
    go_ret
    exact ⟨rfl, new_fin w m hm128, ((Below.refl _ w).alloc (Nat.le_refl _) _).alloc (by simp) _⟩
  · subst hm
    exact new_any m w hm128

theorem live_armo {w0 w : World} {b g : Nat} {s : St} {k : Nat} (L : Live w0 w b g s k) (n : Int) (hn : -9223372036854775808 ≤ n ∧ n ≤ 9223372036854775807) :
    Calls Try.prog 43 #[.pointer (some ⟨b, 0, none⟩), .int .i64 n] w fun e w' => e = .returned (.tuple #[]) ∧ Live w0 w' b g (St.arm s n) k ∧ Only [b, g] w w' := by
  refine (arm_any b g s n w L.here hn).mono ?_
  rintro e w1 ⟨rfl, h1, ho⟩
  exact ⟨rfl, L.next h1 ho ⟨L.fit.1, by show n.toNat ≤ _; omega, L.fit.2.2⟩ L.small, ho⟩
theorem RefAt.keep {w w' : World} {b g1 g2 g3 : Nat} {s : St} {cs : List Nat} (h : RefAt w b g1 g2 g3 s) (ho : Only cs w w') (hc : ∀ c ∈ cs, c ≠ b ∧ c ≠ g1 ∧ c ≠ g2 ∧ c ≠ g3) : RefAt w' b g1 g2 g3 s :=
  ⟨ho.keep h.top (fun hb => (hc _ hb).1 rfl), ho.keep h.now (fun hb => (hc _ hb).2.1 rfl), ho.keep h.sure (fun hb => (hc _ hb).2.2.1 rfl), ho.keep h.opn (fun hb => (hc _ hb).2.2.2 rfl), h.ap, h.len⟩

/-- a shelf and the document's, in the same state -/
structure Both (w0 w : World) (b g c g1 g2 g3 : Nat) (s : St) (k : Nat) : Prop where
  L : Live w0 w b g s k
  R : RefAt w c g1 g2 g3 s
  tidy : Tidy s
  ap : c ≠ b ∧ c ≠ g ∧ g1 ≠ b ∧ g1 ≠ g ∧ g2 ≠ b ∧ g2 ≠ g ∧ g3 ≠ b ∧ g3 ≠ g
  hi : w0.heap.size ≤ c ∧ w0.heap.size ≤ g1 ∧ w0.heap.size ≤ g2 ∧ w0.heap.size ≤ g3

theorem Both.left {w0 w w' : World} {b g c g1 g2 g3 : Nat} {s : St} {k : Nat} (h : Both w0 w b g c g1 g2 g3 s k) (ho : Only [b, g] w w') : RefAt w' c g1 g2 g3 s := by
  have ap := h.ap
  refine h.R.keep ho ?_
  intro x hx
  simp at hx
  omega
theorem Both.step {w0 w w1 w2 : World} {b g c g1 g2 g3 : Nat} {s s' : St} {k k' : Nat} (h : Both w0 w b g c g1 g2 g3 s k) (L : Live w0 w1 b g s' k') (R : RefAt w2 c g1 g2 g3 s') (ho : Only [c, g1, g2, g3] w1 w2) (ht : Tidy s') : Both w0 w2 b g c g1 g2 g3 s' k' := by
  have ap := h.ap
  have hi := h.hi
  exact ⟨L.apart ho (by simp; omega) (by simp; omega) (by simp; omega), R, ht, h.ap, h.hi⟩
theorem Both.less {w0 w : World} {b g c g1 g2 g3 : Nat} {s : St} {k k' : Nat} (h : Both w0 w b g c g1 g2 g3 s k) (hk : k' ≤ k) : Both w0 w b g c g1 g2 g3 s k' := { h with L := h.L.less hk }
theorem Both.below {w0 w w' : World} {b g c g1 g2 g3 : Nat} {s : St} {k : Nat} (h : Both w0 w b g c g1 g2 g3 s k) (hb : Below w.heap.size w w') : Both w0 w' b g c g1 g2 g3 s k :=
  ⟨h.L.below hb, h.R.keep (cs := []) (Only.of_below hb) (by simp), h.tidy, h.ap, h.hi⟩
theorem Both.drewN {w0 w : World} {b g c g1 g2 g3 : Nat} {s : St} {k : Nat} (h : Both w0 w b g c g1 g2 g3 s k) (n : Nat) : Both w0 (w.drewN n) b g c g1 g2 g3 s k :=
  ⟨h.L.apart (cs := []) ((Only.refl [] _).drewN _) (by simp) (by simp) (by simp), h.R.keep (cs := []) ((Only.refl [] _).drewN _) (by simp), h.tidy, h.ap, h.hi⟩
theorem Both.fts {w0 w : World} {b g c g1 g2 g3 : Nat} {s : St} {k : Nat} (h : Both w0 w b g c g1 g2 g3 s k) {A : Option Addr} {fs : List Int} (hI : Ints w0 w0.heap.size A fs) : Fts w [b, g, c, g1, g2, g3] A fs := by
  have h1 := h.L.hb
  have h2 := h.L.hg
  have h3 := h.hi
  exact Fts.of_ints (hI.below h.L.old (Nat.le_refl _)) h.L.old.size (by intro k hk; simp at hk; omega)
theorem Fts.sub {w : World} {bs cs : List Nat} {A : Option Addr} {fs : List Int} (h : Fts w bs A fs) (hs : ∀ k ∈ cs, k ∈ bs) : Fts w cs A fs := fun i hi => by
  obtain ⟨a, e, hl, hn, hc⟩ := h i hi
  exact ⟨a, e, hl, fun hk => hn (hs _ hk), hc⟩

theorem both_new (w0 w : World) (n : Int) (m : Nat) (hm : m = clampN n) (h0 : Below w0.heap.size w0 w) (hn : -9223372036854775808 ≤ n ∧ n ≤ 9223372036854775807) {w1 : World}
    (h1 : ShAt w1 (w.heap.size + 1) w.heap.size (St.new m)) (hB : Below w.heap.size w w1) (hs : w.heap.size + 1 < w1.heap.size) :
    Calls Try.prog 37 #[.int .i64 n] w1 fun e w' => e = .returned (.pointer (some ⟨w1.heap.size + 3, 0, none⟩)) ∧ ∃ g1 g2 g3, Both w0 w' (w.heap.size + 1) w.heap.size (w1.heap.size + 3) g1 g2 g3 (St.new m) 5000 := by
  refine (refmade_any n m hm w1 hn).mono ?_
  rintro e w2 ⟨rfl, ⟨g1, g2, g3, l1, l2, l3, hR⟩, hB2⟩
  have hsz := h0.size
  have L1 : Live w0 w1 (w.heap.size + 1) w.heap.size (St.new m) 5000 := ⟨h1, h0.trans (hB.mono hsz), by omega, hsz, new_fits m 5000 (by omega), new_small m⟩
  refine ⟨rfl, g1, g2, g3, L1.below hB2, hR, tidy_new m, by omega, by omega⟩
end Go.Proofs.Ytecofehfheodhaa
