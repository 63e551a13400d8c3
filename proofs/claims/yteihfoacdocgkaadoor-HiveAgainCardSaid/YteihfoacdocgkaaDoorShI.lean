/-
  A shelf that a law has made: contracts of its calls that keep all that lay below.
-/
import Derived.Test.YteihfoacdocgkaaDoorShH
set_option linter.unusedVariables false
set_option linter.unusedSimpArgs false
namespace Go.Proofs.YteihfoacdocgkaaDoor
open Go.RowKit Sh
attribute [local go_sem] Lb.ba_get Lb.ba_cut Lb.ba_add Lb.ba_size Lb.take_rest

structure Live (w0 w : World) (b g : Nat) (s : St) (k : Nat) : Prop where
  here : ShAt w b g s
  old : Below w0.heap.size w0 w
  hb : w0.heap.size ≤ b
  hg : w0.heap.size ≤ g
  fit : s.pw.fits k
  small : St.small s

/-- behind a call that turns the shelf alone -/
theorem Live.next {w0 w w' : World} {b g : Nat} {s s' : St} {k k' : Nat} (L : Live w0 w b g s k) (h : ShAt w' b g s') (ho : Only [b, g] w w') (hf : s'.pw.fits k') (hs : St.small s') : Live w0 w' b g s' k' := by
  have h1 := L.hb
  have h2 := L.hg
  exact ⟨h, L.old.trans (ho.below L.old.size (by intro k hk; simp at hk; omega)), h1, h2, hf, hs⟩
theorem Live.less {w0 w : World} {b g : Nat} {s : St} {k k' : Nat} (L : Live w0 w b g s k) (h : k' ≤ k) : Live w0 w b g s k' := { L with fit := Pw.fits_mono L.fit h }
/-- behind a call that leaves old memory alone -/
theorem Live.below {w0 w w' : World} {b g : Nat} {s : St} {k : Nat} (L : Live w0 w b g s k) (h : Below w.heap.size w w') : Live w0 w' b g s k :=
  ⟨⟨below_keep h L.here.pw, below_keep h L.here.slots, L.here.ne, L.here.len⟩, L.old.trans (h.mono L.old.size), L.hb, L.hg, L.fit, L.small⟩
theorem Live.drew {w0 w : World} {b g : Nat} {s : St} {k : Nat} (L : Live w0 w b g s k) : Live w0 w.drew b g s k := L.below (Below.refl _ w).drew

theorem small_set {ss : List Slot} (h : ∀ (k : Nat) (hk : k < ss.length), (ss[k]).now.length ≤ 640 ∧ (ss[k]).sure.length ≤ 640) {x : Slot} (hx : x.now.length ≤ 640 ∧ x.sure.length ≤ 640) (i : Nat) :
    ∀ (k : Nat) (hk : k < (ss.set i x).length), ((ss.set i x)[k]).now.length ≤ 640 ∧ ((ss.set i x)[k]).sure.length ≤ 640 := by
  intro k hk
  rw [List.getElem_set]
  split
  · exact hx
  · exact h k (by simpa using hk)
theorem small_write {s : St} (h : St.small s) (i : Int) (t : List UInt8) : St.small (St.write s i t) := by
  unfold St.write
  split
  · exact h
  · rename_i hc
    have ht : t.length ≤ 640 := by rcases Nat.lt_or_ge 640 t.length with h' | h'; exact absurd (.inr h') hc; exact h'
    unfold St.small setNow
    simp only
    split
    · rename_i x hx
      obtain ⟨hl, rfl⟩ := List.getElem?_eq_some_iff.1 hx
      exact small_set h (x := { now := t, sure := (s.slots[i.toNat]).sure, opn := true }) ⟨ht, (h _ hl).2⟩ _
    · exact h
theorem small_map {s : St} (h : St.small s) (p : Pw) : St.small { pw := p, slots := s.slots.map sure1 } := by
  intro k hk
  simp only [List.length_map] at hk
  simp only [List.getElem_map, sure1]
  exact ⟨(h k hk).1, (h k hk).1⟩
theorem small_sync {s : St} (h : St.small s) : St.small (St.sync s) := by
  unfold St.sync
  split
  · exact h
  · split
    · exact small_map (s := { s with pw := s.pw.act }) h _
    · exact h
theorem left_small (x : Slot) (f : Int) (h : x.now.length ≤ 640 ∧ x.sure.length ≤ 640) : (left x f).length ≤ 640 := by
  unfold left
  split
  · exact h.2
  · split
    · exact h.1
    · rw [List.length_append, List.length_take, List.length_drop]; omega
theorem small_onl {ss : List Slot} (h : ∀ (k : Nat) (hk : k < ss.length), (ss[k]).now.length ≤ 640 ∧ (ss[k]).sure.length ≤ 640) (fs : List Int) : ∀ n, ∀ (k : Nat) (hk : k < (onl ss fs n).length), ((onl ss fs n)[k]).now.length ≤ 640 ∧ ((onl ss fs n)[k]).sure.length ≤ 640
  | 0 => h
  | n + 1 => by
    have key : onl ss fs (n + 1) = onl ss fs n ∨ ∃ x : Slot, (x.now.length ≤ 640 ∧ x.sure.length ≤ 640) ∧ onl ss fs (n + 1) = (onl ss fs n).set n x := by
      by_cases hn : n < ss.length
      · rw [onl_succ ss fs n hn]
        split
        · exact .inr ⟨{ now := left ss[n] (fs.getD (opens ss n % fs.length) 0), sure := (ss[n]).sure, opn := (ss[n]).opn }, ⟨left_small _ _ (h n hn), (h n hn).2⟩, rfl⟩
        · exact .inl rfl
      · left
        conv => lhs; unfold onl
        rw [List.getElem?_eq_none (by omega)]
    rcases key with e | ⟨x, hx, e⟩
    · rw [e]; exact small_onl h fs n
    · rw [e]; exact small_set (small_onl h fs n) hx _
theorem small_on {s : St} (h : St.small s) (fs : List Int) : St.small (St.on s fs) := by
  unfold St.on
  split
  · exact small_map (s := { s with slots := onl s.slots (fateList fs) s.slots.length }) (small_onl h _ _) _
  · exact h

theorem live_new (w0 : World) (m : Nat) (w : World) (hm : m ≤ 128) (h0 : Below w0.heap.size w0 w) :
    Calls Tryd.prog 20 #[.int .i64 m] w fun e w' => e = .returned (.pointer (some ⟨w.heap.size + 1, 0, none⟩)) ∧ Live w0 w' (w.heap.size + 1) w.heap.size (St.new m) 5000 := by
  refine (new_any m w hm).mono ?_
  rintro e w1 ⟨rfl, h1, hB⟩
  have hsz := h0.size
  exact ⟨rfl, h1, h0.trans (hB.mono hsz), by omega, hsz, new_fits m 5000 (by omega), new_small m⟩
theorem live_write {w0 w : World} {b g : Nat} {s : St} {k : Nat} (L : Live w0 w b g s (k + 2)) (i : Int) (t : List UInt8) (ht : t.length ≤ 9223372036854775807) :
    Calls Tryd.prog 38 #[.pointer (some ⟨b, 0, none⟩), .int .i64 i, .string ⟨t.toArray⟩] w fun e w' => e = .returned (.int .i64 (St.writeErr s i t)) ∧ Live w0 w' b g (St.write s i t) k := by
  refine (write_any b g s i t w L.here (Pw.fits_mono L.fit (by omega)) ht).mono ?_
  rintro e w1 ⟨rfl, h1, ho⟩
  refine ⟨rfl, L.next h1 ho ?_ (small_write L.small i t)⟩
  unfold St.write
  split
  · exact Pw.fits_mono L.fit (by omega)
  · exact Pw.act_fits (Pw.fits_mono L.fit (by omega))
theorem live_read {w0 w : World} {b g : Nat} {s : St} {k : Nat} (L : Live w0 w b g s k) (i : Int) :
    Calls Tryd.prog 123 #[.pointer (some ⟨b, 0, none⟩), .int .i64 i] w fun e w' => e = .returned (.tuple #[.string ⟨(St.read s i).toArray⟩, .int .i64 (St.atErr s i)]) ∧ w = w' := read_any b g s i w L.here
theorem live_sync {w0 w : World} {b g : Nat} {s : St} {k : Nat} (L : Live w0 w b g s (k + 2)) :
    Calls Tryd.prog 76 #[.pointer (some ⟨b, 0, none⟩)] w fun e w' => e = .returned (.int .i64 (St.syncErr s)) ∧ Live w0 w' b g (St.sync s) k := by
  refine (sync_any b g s w L.here (Pw.fits_mono L.fit (by omega))).mono ?_
  rintro e w1 ⟨rfl, h1, ho⟩
  refine ⟨rfl, L.next h1 ho ?_ (small_sync L.small)⟩
  unfold St.sync
  split
  · exact Pw.fits_mono L.fit (by omega)
  · split
    · exact Pw.act_fits (Pw.fits_mono L.fit (by omega))
    · exact Pw.act_fits (Pw.fits_mono L.fit (by omega))
theorem live_off {w0 w : World} {b g : Nat} {s : St} {k : Nat} (L : Live w0 w b g s (k + 1)) :
    Calls Tryd.prog 33 #[.pointer (some ⟨b, 0, none⟩)] w fun e w' => e = .returned (.tuple #[]) ∧ Live w0 w' b g (St.off s) k := by
  refine (offd_any b g s w L.here (Pw.fits_mono L.fit (by omega))).mono ?_
  rintro e w1 ⟨rfl, h1, ho⟩
  exact ⟨rfl, L.next h1 ho (Pw.off_fits L.fit) L.small⟩
theorem live_on {w0 w : World} {b g : Nat} {s : St} {k : Nat} (L : Live w0 w b g s k) (A : Option Addr) (cap : Nat) (fs : List Int) (hI : Fts w [b, g] A fs) (hfs : ∀ f ∈ fs, -9223372036854775808 ≤ f ∧ f ≤ 9223372036854775807) (hfl : fs.length ≤ maxLen) :
    Calls Tryd.prog 34 #[.pointer (some ⟨b, 0, none⟩), .slice A fs.length cap] w fun e w' => e = .returned (.tuple #[]) ∧ Live w0 w' b g (St.on s fs) k := by
  refine (on_any b g s A cap fs w L.here hI hfs hfl L.small).mono ?_
  rintro e w1 ⟨rfl, h1, ho⟩
  refine ⟨rfl, L.next h1 ho ?_ (small_on L.small fs)⟩
  unfold St.on
  split
  · exact L.fit
  · exact L.fit
theorem Live.ints {w0 w : World} {b g : Nat} {s : St} {k : Nat} (L : Live w0 w b g s k) {A : Option Addr} {fs : List Int} (hI : Ints w0 w0.heap.size A fs) : Fts w [b, g] A fs := by
  have h1 := L.hb
  have h2 := L.hg
  exact Fts.of_ints (hI.below L.old (Nat.le_refl _)) L.old.size (by intro k hk; simp at hk; omega)
theorem Live.nofts {w0 w : World} {b g : Nat} {s : St} {k : Nat} (L : Live w0 w b g s k) (A : Option Addr) : Fts w [b, g] A [] := fun i hi => absurd hi (by simp)
theorem live_arm {w0 w : World} {b g : Nat} {s : St} {k : Nat} (L : Live w0 w b g s k) (n : Int) (hn : -9223372036854775808 ≤ n ∧ n ≤ 9223372036854775807) :
    Calls Tryd.prog 35 #[.pointer (some ⟨b, 0, none⟩), .int .i64 n] w fun e w' => e = .returned (.tuple #[]) ∧ Live w0 w' b g (St.arm s n) k := by
  refine (arm_any b g s n w L.here hn).mono ?_
  rintro e w1 ⟨rfl, h1, ho⟩
  exact ⟨rfl, L.next h1 ho ⟨L.fit.1, by show n.toNat ≤ _; omega, L.fit.2.2⟩ L.small⟩
end Go.Proofs.YteihfoacdocgkaaDoor
