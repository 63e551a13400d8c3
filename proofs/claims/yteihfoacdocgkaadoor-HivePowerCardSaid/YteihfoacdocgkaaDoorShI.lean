/-
  A shelf that a law has made: contracts of its calls that keep all that lay below.
-/
import Derived.Test.YteihfoacdocgkaaDoorShH
set_option linter.unusedVariables false
set_option linter.unusedSimpArgs false
namespace Go.Proofs.YteihfoacdocgkaaDoor
open Go.RowKit Sh
attribute [local go_sem] Lb.ba_get Lb.ba_cut Lb.ba_add Lb.ba_size Lb.take_rest

structure Live (w0 w : World) (b g : Nat) (s : St) (k : Nat) : Prop where
  here : ShAt w b g s
  old : Below w0.heap.size w0 w
  hb : w0.heap.size ≤ b
  hg : w0.heap.size ≤ g
  fit : s.pw.fits k
  small : St.small s

/-- behind a call that turns the shelf alone -/
theorem Live.next {w0 w w' : World} {b g : Nat} {s s' : St} {k k' : Nat} (L : Live w0 w b g s k) (h : ShAt w' b g s') (ho : Only [b, g] w w') (hf : s'.pw.fits k') (hs : St.small s') : Live w0 w' b g s' k' := by
  have h1 := L.hb
  have h2 := L.hg
  exact ⟨h, L.old.trans (ho.below L.old.size (by intro k hk; simp at hk; omega)), h1, h2, hf, hs⟩
theorem Live.less {w0 w : World} {b g : Nat} {s : St} {k k' : Nat} (L : Live w0 w b g s k) (h : k' ≤ k) : Live w0 w b g s k' := { L with fit := Pw.fits_mono L.fit h }
/-- behind a call that leaves old memory alone -/
theorem Live.below {w0 w w' : World} {b g : Nat} {s : St} {k : Nat} (L : Live w0 w b g s k) (h : Below w.heap.size w w') : Live w0 w' b g s k :=
  ⟨⟨below_keep h L.here.pw, below_keep h L.here.slots, L.here.ne, L.here.len⟩, L.old.trans (h.mono L.old.size), L.hb, L.hg, L.fit, L.small⟩
theorem Live.drew {w0 w : World} {b g : Nat} {s : St} {k : Nat} (L : Live w0 w b g s k) : Live w0 w.drew b g s k := L.below (Below.refl _ w).drew

theorem small_set {ss : List Slot} (h : ∀ (k : Nat) (hk : k < ss.length), (ss[k]).now.length ≤ 640 ∧ (ss[k]).sure.length ≤ 640) {x : Slot} (hx : x.now.length ≤ 640 ∧ x.sure.length ≤ 640) (i : Nat) :
    ∀ (k : Nat) (hk : k < (ss.set i x).length), ((ss.set i x)[k]).now.length ≤ 640 ∧ ((ss.set i x)[k]).sure.length ≤ 640 := by
  intro k hk
  rw [List.getElem_set]
  split
  · exact hx
  · exact h k (by simpa using hk)
theorem small_write {s : St} (h : St.small s) (i : Int) (t : List UInt8) : St.small (St.write s i t) := by
  unfold St.write
  split
  · exact h
  · rename_i hc
    have ht : t.length ≤ 640 := by rcases Nat.lt_or_ge 640 t.length with h' | h'; exact absurd (.inr h') hc; exact h'
    unfold St.small setNow
    simp only
    split
    · rename_i x hx
      obtain ⟨hl, rfl⟩ := List.getElem?_eq_some_iff.1 hx
      exact small_set h (x := { now := t, sure := (s.slots[i.toNat]).sure, opn := true }) ⟨ht, (h _ hl).2⟩ _
    · exact h
theorem small_map {s : St} (h : St.small s) (p : Pw) : St.small { pw := p, slots := s.slots.map sure1 } := by
  intro k hk
  simp only [List.length_map] at hk
  simp only [List.getElem_map, sure1]
  exact ⟨(h k hk).1, (h k hk).1⟩
theorem small_sync {s : St} (h : St.small s) : St.small (St.sync s) := by
  unfold St.sync
  split
  · exact h
  · split
    · exact small_map (s := { s with pw := s.pw.act }) h _
    · exact h
theorem left_small (x : Slot) (f : Int) (h : x.now.length ≤ 640 ∧ x.sure.length ≤ 640) : (left x f).length ≤ 640 := by
  unfold left
  split
  · exact h.2
  · split
    · exact h.1
    · rw [List.length_append, List.length_take, List.length_drop]; omega
theorem small_onl {ss : List Slot} (h : ∀ (k : Nat) (hk : k < ss.length), (ss[k]).now.length ≤ 640 ∧ (ss[k]).sure.length ≤ 640) (fs : List Int) : ∀ n, ∀ (k : Nat) (hk : k < (onl ss fs n).length), ((onl ss fs n)[k]).now.length ≤ 640 ∧ ((onl ss fs n)[k]).sure.length ≤ 640
  | 0 => h
  | n + 1 => by
    have key : onl ss fs (n + 1) = onl ss fs n ∨ ∃ x : Slot, (x.now.length ≤ 640 ∧ x.sure.length ≤ 640) ∧ onl ss fs (n + 1) = (onl ss fs n).set n x := by
      by_cases hn : n < ss.length
      · rw [onl_succ ss fs n hn]
        split
        · exact .inr ⟨{ now := left ss[n] (fs.getD (opens ss n % fs.length) 0), sure := (ss[n]).sure, opn := (ss[n]).opn }, ⟨left_small _ _ (h n hn), (h n hn).2⟩, rfl⟩
        · exact .inl rfl
      · left
        conv => lhs; unfold onl
        rw [List.getElem?_eq_none (by omega)]
    rcases key with e | ⟨x, hx, e⟩
    · rw [e]; exact small_onl h fs n
    · rw [e]; exact small_set (small_onl h fs n) hx _
theorem small_on {s : St} (h : St.small s) (fs : List Int) : St.small (St.on s fs) := by
  unfold St.on
  split
  · exact small_map (s := { s with slots := onl s.slots (fateList fs) s.slots.length }) (small_onl h _ _) _
  · exact h

end Go.Proofs.YteihfoacdocgkaaDoor
