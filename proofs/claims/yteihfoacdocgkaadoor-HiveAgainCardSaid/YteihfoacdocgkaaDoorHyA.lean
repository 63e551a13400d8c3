/-
  Layer 5, plain: what slots hold whose power may go: rows that are sure, and rows that are not.
-/
import Derived.Test.YteihfoacdocgkaaDoorHwYD
set_option linter.unusedVariables false
set_option linter.unusedSimpArgs false
namespace Go.Proofs.YteihfoacdocgkaaDoor
open Go.RowKit Pl Sh

theorem rowS_parts {K : List Int} {row : List UInt8} {x : Bool × List UInt8 × List UInt8} (h : rowS K row = some x) : ∃ ts, rdRow row 4 = some (ts, []) := by
  have hno : partsS row = [] → False := fun hp => by
    unfold rowS asBlobS asRecS at h
    rw [hp] at h
    simp [asB, asRec] at h
  cases hr : rdRow row 4 with
  | none => exact (hno (by unfold partsS; rw [hr])).elim
  | some p =>
    obtain ⟨ts, r⟩ := p
    cases r with
    | nil => exact ⟨ts, rfl⟩
    | cons a l => exact (hno (by unfold partsS; rw [hr])).elim
theorem rowS_pos {K : List Int} {row : List UInt8} {x : Bool × List UInt8 × List UInt8} (h : rowS K row = some x) : 0 < row.length := by
  obtain ⟨ts, h1⟩ := rowS_parts h
  cases row with
  | nil => simp [rdRow, rdNum] at h1
  | cons a l => simp
theorem torn_none {K : List Int} {row : List UInt8} {x : Bool × List UInt8 × List UInt8} (h : rowS K row = some x) (hl : row.length ≤ 10000) (j : Nat) (hj : j < row.length) : rowS K (row.take j) = none := by
  cases hr : rowS K (row.take j) with
  | none => rfl
  | some y =>
    exfalso
    obtain ⟨ts, h1⟩ := rowS_parts h
    obtain ⟨ts2, h2⟩ := rowS_parts hr
    have e2 := row_of_rd h2
    rw [List.append_nil] at e2
    have hsl : (srow ts2).length ≤ 10000 := by rw [e2, List.length_take]; omega
    have htl : (textsB ts2).length ≤ 10000 := by unfold srow at hsl; rw [List.length_append] at hsl; omega
    have h3 := rd_of_row ts2 (row.drop j) 4 (by have := textsB_ge ts2; omega) (fun t ht => by have := textsB_mem ts2 t ht; omega)
    rw [e2, List.take_append_drop, h1] at h3
    split at h3
    · simp only [Option.some.injEq, Prod.mk.injEq] at h3
      have := congrArg List.length h3.2
      rw [List.length_drop, List.length_nil] at this
      omega
    · cases h3
theorem textS_size (K : List Int) (row : List UInt8) : (textS K row).length = 32 + row.length := by unfold textS; rw [List.length_append, hashB_length]
theorem rdS_text {K : List Int} {row : List UInt8} {x : Bool × List UInt8 × List UInt8} (h : rowS K row = some x) : rdS K (textS K row) = some x := by
  rw [rdS_good (by rw [textS_size]; omega) (by rw [text_drop])]
  rw [text_drop]; exact h
theorem rdS_torn {K : List Int} {row : List UInt8} {x : Bool × List UInt8 × List UInt8} (h : rowS K row = some x) (hl : row.length ≤ 10000) (j : Nat) (hj : j < (textS K row).length) : rdS K ((textS K row).take j) = none := by
  have hp := rowS_pos h
  rw [textS_size] at hj
  cases h2 : rdS K ((textS K row).take j) with
  | none => rfl
  | some y =>
    obtain ⟨b, id, r⟩ := y
    obtain ⟨rfl, -, -, e4⟩ := rdS_some h2
    have e : ((textS K row).take j).drop 32 = row.take (j - 32) := by rw [List.drop_take, text_drop]
    rw [e, torn_none h hl (j - 32) (by omega)] at e4
    cases e4
theorem rdS_nil (K : List Int) : rdS K [] = none := rdS_short (by simp)

/-- the power is there; it may go (A), or is not armed -/
structure Alive (s : St) (n a : Nat) (A : Bool) : Prop where
  down : s.pw.down = false
  armed : s.pw.armed ≤ 1000
  calm : A = false → s.pw.armed = 0
  acts : s.pw.acts ≤ a
  life : s.pw.life < 100000
  len : s.slots.length = n
theorem Alive.more {s : St} {n a a' : Nat} {A : Bool} (h : Alive s n a A) (ha : a ≤ a') : Alive s n a' A := { h with acts := Nat.le_trans h.acts ha }
theorem Alive.fits {s : St} {n a : Nat} {A : Bool} (h : Alive s n a A) (ha : a < 1000000) : s.pw.fits 2 := by
  have := h.acts; have := h.armed; have := h.life
  exact ⟨by omega, by omega, by omega⟩
theorem Alive.works {s : St} {n a : Nat} (h : Alive s n a false) : Works s n a := ⟨h.down, h.calm rfl, h.acts, h.life, h.len⟩
theorem Works.alive {s : St} {n a : Nat} {A : Bool} (h : Works s n a) : Alive s n a A := ⟨h.down, by rw [h.armed]; omega, fun _ => h.armed, h.acts, h.life, h.len⟩
/-- what is left of the power behind an act in which it went -/
structure Gone (p : Pw) (l a : Nat) : Prop where
  down : p.down = true
  armed : p.armed = 0
  life : p.life = l + 1
  acts : p.acts ≤ a
theorem alive_act {s : St} {n a : Nat} {A : Bool} (h : Alive s n a A) :
    (s.pw.err = 0 ∧ s.pw.act.down = false ∧ s.pw.act.armed ≤ 1000 ∧ (A = false → s.pw.act.armed = 0) ∧ s.pw.act.acts ≤ a + 1 ∧ s.pw.act.life = s.pw.life) ∨ (A = true ∧ s.pw.err = 10 ∧ Gone s.pw.act s.pw.life (a + 1)) := by
  have hd := h.down; have har := h.armed; have hc := h.calm; have hac := h.acts
  by_cases h0 : s.pw.armed = 0
  · left
    unfold Pw.act Pw.err
    rw [if_pos h0, if_neg (by omega)]
    exact ⟨rfl, hd, by show s.pw.armed ≤ 1000; omega, fun _ => h0, by show s.pw.acts + 1 ≤ a + 1; omega, rfl⟩
  · by_cases h1 : s.pw.armed = 1
    · right
      refine ⟨?_, ?_, ?_⟩
      · cases A with
        | true => rfl
        | false => exact absurd (hc rfl) h0
      · unfold Pw.err; rw [if_pos h1]
      · unfold Pw.act
        rw [if_neg h0, if_pos h1]
        unfold Pw.off
        rw [if_neg (by simp [hd])]
        exact ⟨rfl, rfl, rfl, by show s.pw.acts + 1 ≤ a + 1; omega⟩
    · left
      unfold Pw.act Pw.err
      rw [if_neg h0, if_neg h1, if_neg h1]
      exact ⟨rfl, hd, by show s.pw.armed - 1 ≤ 1000; omega, fun e => absurd (hc e) h0, by show s.pw.acts + 1 ≤ a + 1; omega, rfl⟩
theorem alive_write {s : St} {n a m : Nat} {A : Bool} {t : List UInt8} (h : Alive s n a A) (hm : m < n) (ht : t.length ≤ 640) :
    (St.write s m t).slots = setNow s.slots m t ∧
    ((St.writeErr s m t = 0 ∧ Alive (St.write s m t) n (a + 1) A ∧ (St.write s m t).pw.life = s.pw.life) ∨ (A = true ∧ St.writeErr s m t = 10 ∧ Gone (St.write s m t).pw s.pw.life (a + 1))) := by
  have he : St.atErr s m = 0 := by
    unfold St.atErr
    rw [if_neg (by simp [h.down]), if_neg (by rw [h.len]; omega)]
  have hw : St.write s m t = { pw := s.pw.act, slots := setNow s.slots m t } := by
    unfold St.write
    rw [if_neg (by rw [he]; omega), Int.toNat_natCast]
  have hwe : St.writeErr s m t = s.pw.err := by
    unfold St.writeErr
    rw [if_neg (by rw [he]; omega), if_neg (by omega)]
  rw [hw, hwe]
  refine ⟨rfl, ?_⟩
  rcases alive_act h with ⟨h1, h2, h3, h4, h5, h6⟩ | ⟨h1, h2, h3⟩
  · exact .inl ⟨h1, ⟨h2, h3, h4, h5, by show s.pw.act.life < _; rw [h6]; exact h.life, by show (setNow s.slots m t).length = n; rw [setNow_length]; exact h.len⟩, h6⟩
  · exact .inr ⟨h1, h2, h3⟩
theorem alive_sync {s : St} {n a : Nat} {A : Bool} (h : Alive s n a A) :
    (St.syncErr s = 0 ∧ (St.sync s).slots = s.slots.map sure1 ∧ Alive (St.sync s) n (a + 1) A ∧ (St.sync s).pw.life = s.pw.life) ∨ (A = true ∧ St.syncErr s = 10 ∧ (St.sync s).slots = s.slots ∧ Gone (St.sync s).pw s.pw.life (a + 1)) := by
  have hse : St.syncErr s = s.pw.err := by unfold St.syncErr; rw [if_neg (by simp [h.down])]
  rw [hse]
  rcases alive_act h with ⟨h1, h2, h3, h4, h5, h6⟩ | ⟨h1, h2, h3⟩
  · have hs : St.sync s = St.settle { s with pw := s.pw.act } := by unfold St.sync; rw [if_neg (by simp [h.down]), if_pos h1]
    rw [hs]
    exact .inl ⟨h1, rfl, ⟨h2, h3, h4, h5, by show s.pw.act.life < _; rw [h6]; exact h.life, by show (s.slots.map sure1).length = n; rw [List.length_map]; exact h.len⟩, h6⟩
  · have hs : St.sync s = { s with pw := s.pw.act } := by unfold St.sync; rw [if_neg (by simp [h.down]), if_neg (by rw [h2]; decide)]
    rw [hs]
    exact .inr ⟨h1, h2, rfl, h3⟩

abbrev RowAt := Nat × List UInt8
/-- what slots hold: rows at their places, those of Kp surely; nothing else -/
def SlotsAre (K : List Int) (ss : List Slot) (T : List RowAt) (Kp : List (List UInt8)) : Prop :=
  (∀ p ∈ T, ∃ x, ss[p.1]? = some x ∧ x.now = textS K p.2 ∧ (x.sure = x.now ∨ x.sure = [] ∧ p.2 ∉ Kp)) ∧
  (∀ (i : Nat) (x : Slot), ss[i]? = some x → (∀ p ∈ T, p.1 ≠ i) → x.now = [] ∧ x.sure = [])
theorem setNow_get {ss : List Slot} {m : Nat} {x : Slot} (t : List UInt8) (h : ss[m]? = some x) (i : Nat) : (setNow ss m t)[i]? = if i = m then some { x with now := t, opn := true } else ss[i]? := by
  unfold setNow
  rw [h]
  have hl := (List.getElem?_eq_some_iff.1 h).1
  show (ss.set m _)[i]? = _
  rw [List.getElem?_set]
  by_cases hi : i = m
  · subst hi; rw [if_pos rfl, if_pos hl, if_pos rfl]
  · rw [if_neg (fun e => hi e.symm), if_neg hi]
theorem slots_write {K : List Int} {ss : List Slot} {T : List RowAt} {Kp : List (List UInt8)} {m : Nat} {row : List UInt8} (h : SlotsAre K ss T Kp) (hm : m < ss.length) (hf : ∀ p ∈ T, p.1 ≠ m) (hk : row ∉ Kp) :
    SlotsAre K (setNow ss m (textS K row)) (T ++ [(m, row)]) Kp := by
  have hx : ss[m]? = some ss[m] := List.getElem?_eq_getElem hm
  obtain ⟨z1, z2⟩ := h.2 m _ hx hf
  refine ⟨fun p hp => ?_, fun i x hi hn => ?_⟩
  · rcases List.mem_append.1 hp with hp | hp
    · obtain ⟨x, h1, h2, h3⟩ := h.1 p hp
      exact ⟨x, by rw [setNow_get _ hx, if_neg (hf p hp)]; exact h1, h2, h3⟩
    · simp only [List.mem_singleton] at hp
      subst hp
      exact ⟨{ ss[m] with now := textS K row, opn := true }, by rw [setNow_get _ hx, if_pos rfl], rfl, .inr ⟨z2, hk⟩⟩
  · have hne : i ≠ m := fun e => hn (m, row) (by simp) e.symm
    rw [setNow_get _ hx, if_neg hne] at hi
    exact h.2 i x hi (fun p hp => hn p (List.mem_append_left _ hp))
theorem slots_sync {K : List Int} {ss : List Slot} {T : List RowAt} {Kp : List (List UInt8)} (h : SlotsAre K ss T Kp) (Kp' : List (List UInt8)) : SlotsAre K (ss.map sure1) T Kp' := by
  refine ⟨fun p hp => ?_, fun i x hi hn => ?_⟩
  · obtain ⟨x, h1, h2, -⟩ := h.1 p hp
    exact ⟨sure1 x, by rw [List.getElem?_map, h1]; rfl, h2, .inl rfl⟩
  · rw [List.getElem?_map] at hi
    cases hx : ss[i]? with
    | none => rw [hx] at hi; cases hi
    | some y =>
      rw [hx] at hi
      obtain rfl := Option.some.inj hi
      have := (h.2 i y hx hn).1
      exact ⟨this, this⟩
theorem slots_less {K : List Int} {ss : List Slot} {T : List RowAt} {Kp Kp' : List (List UInt8)} (h : SlotsAre K ss T Kp) (hk : ∀ r ∈ Kp', r ∈ Kp) : SlotsAre K ss T Kp' :=
  ⟨fun p hp => by
    obtain ⟨x, h1, h2, h3⟩ := h.1 p hp
    exact ⟨x, h1, h2, h3.imp id (fun ⟨a, b⟩ => ⟨a, fun e => b (hk _ e)⟩)⟩, h.2⟩
/-- what a fate leaves of a slot -/
theorem left_of (x : Slot) (f : Int) (h : x.sure = x.now ∨ x.sure = []) : ∃ j, left x f = x.now.take j ∧ (x.sure = x.now → x.now.length ≤ j) := by
  unfold left
  split
  · rcases h with h | h
    · exact ⟨x.now.length, by rw [h, List.take_length], fun _ => Nat.le_refl _⟩
    · exact ⟨0, by rw [h]; simp, fun e => by rw [← e, h]; simp⟩
  · split
    · exact ⟨x.now.length, by rw [List.take_length], fun _ => Nat.le_refl _⟩
    · rcases h with h | h
      · exact ⟨x.now.length, by rw [h, List.take_append_drop, List.take_length], fun _ => Nat.le_refl _⟩
      · refine ⟨_, by rw [h, List.drop_nil, List.append_nil], fun e => ?_⟩
        rw [← e, h]; simp
theorem onl_slot (ss : List Slot) (fs : List Int) : ∀ (k i : Nat) (y : Slot), (onl ss fs k)[i]? = some y → ∃ x, ss[i]? = some x ∧ (y = x ∨ ∃ f, y = { x with now := left x f })
  | 0, i, y, h => ⟨y, h, .inl rfl⟩
  | k + 1, i, y, h => by
    unfold onl at h
    split at h
    · rename_i x hx
      split at h
      · rw [List.getElem?_set] at h
        by_cases e : k = i
        · subst e
          rw [if_pos rfl] at h
          split at h
          · obtain rfl := Option.some.inj h
            exact ⟨x, hx, .inr ⟨_, rfl⟩⟩
          · cases h
        · rw [if_neg e] at h
          exact onl_slot ss fs k i y h
      · exact onl_slot ss fs k i y h
    · exact onl_slot ss fs k i y h
/-- slots that are all sure: rows, whole or torn, and nothing else -/
def SlotsBack (K : List Int) (ss : List Slot) (T : List RowAt) (Kp : List (List UInt8)) : Prop :=
  ∀ (i : Nat) (x : Slot), ss[i]? = some x → x.sure = x.now ∧ ((∃ p ∈ T, p.1 = i ∧ ∃ j, x.now = (textS K p.2).take j ∧ (p.2 ∈ Kp → (textS K p.2).length ≤ j)) ∨ (∀ p ∈ T, p.1 ≠ i) ∧ x.now = [])
theorem slots_on {K : List Int} {ss : List Slot} {T : List RowAt} {Kp : List (List UInt8)} (h : SlotsAre K ss T Kp) (fs : List Int) (k : Nat) : SlotsBack K ((onl ss fs k).map sure1) T Kp := by
  intro i y hy
  rw [List.getElem?_map] at hy
  cases hz : (onl ss fs k)[i]? with
  | none => rw [hz] at hy; cases hy
  | some z =>
    rw [hz] at hy
    obtain rfl := Option.some.inj hy
    refine ⟨rfl, ?_⟩
    show (∃ p ∈ T, p.1 = i ∧ ∃ j, z.now = _ ∧ _) ∨ _ ∧ z.now = []
    obtain ⟨x, hx, hzx⟩ := onl_slot ss fs k i z hz
    by_cases hT : ∃ p ∈ T, p.1 = i
    · obtain ⟨p, hp, rfl⟩ := hT
      obtain ⟨x', h1, h2, h3⟩ := h.1 p hp
      obtain rfl : x' = x := Option.some.inj (h1.symm.trans hx)
      refine .inl ⟨p, hp, rfl, ?_⟩
      rcases hzx with rfl | ⟨f, rfl⟩
      · exact ⟨(textS K p.2).length, by rw [List.take_length]; exact h2, fun _ => Nat.le_refl _⟩
      · obtain ⟨j, e1, e2⟩ := left_of x' f (h3.imp id (fun a => a.1))
        refine ⟨j, by show left x' f = _; rw [e1, h2], fun hk => ?_⟩
        rcases h3 with h3 | ⟨-, h4⟩
        · have := e2 h3; rw [h2] at this; exact this
        · exact absurd hk h4
    · have hn : ∀ p ∈ T, p.1 ≠ i := fun p hp e => hT ⟨p, hp, e⟩
      obtain ⟨z1, z2⟩ := h.2 i x hx hn
      refine .inr ⟨hn, ?_⟩
      rcases hzx with rfl | ⟨f, rfl⟩
      · exact z1
      · obtain ⟨j, e1, -⟩ := left_of x f (.inr z2)
        show left x f = []
        rw [e1, z1]; simp
end Go.Proofs.YteihfoacdocgkaaDoor
