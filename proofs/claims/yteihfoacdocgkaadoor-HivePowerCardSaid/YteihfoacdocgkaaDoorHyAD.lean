/-
  Layer 5: a shelf whose power went and is back, opened again: each row that was sure is there, and nothing that was not put.
-/
import Derived.Test.YteihfoacdocgkaaDoorHwYD
set_option linter.unusedVariables false
set_option linter.unusedSimpArgs false
namespace Go.Proofs.YteihfoacdocgkaaDoor
open Go.RowKit Pl Sh

theorem rowS_parts {K : List Int} {row : List UInt8} {x : Bool × List UInt8 × List UInt8} (h : rowS K row = some x) : ∃ ts, rdRow row 4 = some (ts, []) := by
  have hno : partsS row = [] → False := fun hp => by
    unfold rowS asBlobS asRecS at h
    rw [hp] at h
    simp [asB, asRec] at h
  cases hr : rdRow row 4 with
  | none => exact (hno (by unfold partsS; rw [hr])).elim
  | some p =>
    obtain ⟨ts, r⟩ := p
    cases r with
    | nil => exact ⟨ts, rfl⟩
    | cons a l => exact (hno (by unfold partsS; rw [hr])).elim
theorem rowS_pos {K : List Int} {row : List UInt8} {x : Bool × List UInt8 × List UInt8} (h : rowS K row = some x) : 0 < row.length := by
  obtain ⟨ts, h1⟩ := rowS_parts h
  cases row with
  | nil => simp [rdRow, rdNum] at h1
  | cons a l => simp
theorem torn_none {K : List Int} {row : List UInt8} {x : Bool × List UInt8 × List UInt8} (h : rowS K row = some x) (hl : row.length ≤ 10000) (j : Nat) (hj : j < row.length) : rowS K (row.take j) = none := by
  cases hr : rowS K (row.take j) with
  | none => rfl
  | some y =>
    exfalso
    obtain ⟨ts, h1⟩ := rowS_parts h
    obtain ⟨ts2, h2⟩ := rowS_parts hr
    have e2 := row_of_rd h2
    rw [List.append_nil] at e2
    have hsl : (srow ts2).length ≤ 10000 := by rw [e2, List.length_take]; omega
    have htl : (textsB ts2).length ≤ 10000 := by unfold srow at hsl; rw [List.length_append] at hsl; omega
    have h3 := rd_of_row ts2 (row.drop j) 4 (by have := textsB_ge ts2; omega) (fun t ht => by have := textsB_mem ts2 t ht; omega)
    rw [e2, List.take_append_drop, h1] at h3
    split at h3
    · simp only [Option.some.injEq, Prod.mk.injEq] at h3
      have := congrArg List.length h3.2
      rw [List.length_drop, List.length_nil] at this
      omega
    · cases h3
theorem textS_size (K : List Int) (row : List UInt8) : (textS K row).length = 32 + row.length := by unfold textS; rw [List.length_append, hashB_length]
theorem rdS_text {K : List Int} {row : List UInt8} {x : Bool × List UInt8 × List UInt8} (h : rowS K row = some x) : rdS K (textS K row) = some x := by
  rw [rdS_good (by rw [textS_size]; omega) (by rw [text_drop])]
  rw [text_drop]; exact h
theorem rdS_torn {K : List Int} {row : List UInt8} {x : Bool × List UInt8 × List UInt8} (h : rowS K row = some x) (hl : row.length ≤ 10000) (j : Nat) (hj : j < (textS K row).length) : rdS K ((textS K row).take j) = none := by
  have hp := rowS_pos h
  rw [textS_size] at hj
  cases h2 : rdS K ((textS K row).take j) with
  | none => rfl
  | some y =>
    obtain ⟨b, id, r⟩ := y
    obtain ⟨rfl, -, -, e4⟩ := rdS_some h2
    have e : ((textS K row).take j).drop 32 = row.take (j - 32) := by rw [List.drop_take, text_drop]
    rw [e, torn_none h hl (j - 32) (by omega)] at e4
    cases e4
theorem rdS_nil (K : List Int) : rdS K [] = none := rdS_short (by simp)

/-- the power is there; it may go (A), or is not armed -/
structure Alive (s : St) (n a : Nat) (A : Bool) : Prop where
  down : s.pw.down = false
  armed : s.pw.armed ≤ 1000
  calm : A = false → s.pw.armed = 0
  acts : s.pw.acts ≤ a
  life : s.pw.life < 100000
  len : s.slots.length = n
theorem Alive.more {s : St} {n a a' : Nat} {A : Bool} (h : Alive s n a A) (ha : a ≤ a') : Alive s n a' A := { h with acts := Nat.le_trans h.acts ha }
theorem Alive.fits {s : St} {n a : Nat} {A : Bool} (h : Alive s n a A) (ha : a < 1000000) : s.pw.fits 2 := by
  have := h.acts; have := h.armed; have := h.life
  exact ⟨by omega, by omega, by omega⟩
theorem Alive.works {s : St} {n a : Nat} (h : Alive s n a false) : Works s n a := ⟨h.down, h.calm rfl, h.acts, h.life, h.len⟩
theorem Works.alive {s : St} {n a : Nat} {A : Bool} (h : Works s n a) : Alive s n a A := ⟨h.down, by rw [h.armed]; omega, fun _ => h.armed, h.acts, h.life, h.len⟩
/-- what is left of the power behind an act in which it went -/
structure Gone (p : Pw) (l a : Nat) : Prop where
  down : p.down = true
  armed : p.armed = 0
  life : p.life = l + 1
  acts : p.acts ≤ a
theorem alive_act {s : St} {n a : Nat} {A : Bool} (h : Alive s n a A) :
    (s.pw.err = 0 ∧ s.pw.act.down = false ∧ s.pw.act.armed ≤ 1000 ∧ (A = false → s.pw.act.armed = 0) ∧ s.pw.act.acts ≤ a + 1 ∧ s.pw.act.life = s.pw.life) ∨ (A = true ∧ s.pw.err = 10 ∧ Gone s.pw.act s.pw.life (a + 1)) := by
  have hd := h.down; have har := h.armed; have hc := h.calm; have hac := h.acts
  by_cases h0 : s.pw.armed = 0
  · left
    unfold Pw.act Pw.err
    rw [if_pos h0, if_neg (by omega)]
    exact ⟨rfl, hd, by show s.pw.armed ≤ 1000; omega, fun _ => h0, by show s.pw.acts + 1 ≤ a + 1; omega, rfl⟩
  · by_cases h1 : s.pw.armed = 1
    · right
      refine ⟨?_, ?_, ?_⟩
      · cases A with
        | true => rfl
        | false => exact absurd (hc rfl) h0
      · unfold Pw.err; rw [if_pos h1]
      · unfold Pw.act
        rw [if_neg h0, if_pos h1]
        unfold Pw.off
        rw [if_neg (by simp [hd])]
        exact ⟨rfl, rfl, rfl, by show s.pw.acts + 1 ≤ a + 1; omega⟩
    · left
      unfold Pw.act Pw.err
      rw [if_neg h0, if_neg h1, if_neg h1]
      exact ⟨rfl, hd, by show s.pw.armed - 1 ≤ 1000; omega, fun e => absurd (hc e) h0, by show s.pw.acts + 1 ≤ a + 1; omega, rfl⟩
theorem alive_write {s : St} {n a m : Nat} {A : Bool} {t : List UInt8} (h : Alive s n a A) (hm : m < n) (ht : t.length ≤ 640) :
    (St.write s m t).slots = setNow s.slots m t ∧
    ((St.writeErr s m t = 0 ∧ Alive (St.write s m t) n (a + 1) A ∧ (St.write s m t).pw.life = s.pw.life) ∨ (A = true ∧ St.writeErr s m t = 10 ∧ Gone (St.write s m t).pw s.pw.life (a + 1))) := by
  have he : St.atErr s m = 0 := by
    unfold St.atErr
    rw [if_neg (by simp [h.down]), if_neg (by rw [h.len]; omega)]
  have hw : St.write s m t = { pw := s.pw.act, slots := setNow s.slots m t } := by
    unfold St.write
    rw [if_neg (by rw [he]; omega), Int.toNat_natCast]
  have hwe : St.writeErr s m t = s.pw.err := by
    unfold St.writeErr
    rw [if_neg (by rw [he]; omega), if_neg (by omega)]
  rw [hw, hwe]
  refine ⟨rfl, ?_⟩
  rcases alive_act h with ⟨h1, h2, h3, h4, h5, h6⟩ | ⟨h1, h2, h3⟩
  · exact .inl ⟨h1, ⟨h2, h3, h4, h5, by show s.pw.act.life < _; rw [h6]; exact h.life, by show (setNow s.slots m t).length = n; rw [setNow_length]; exact h.len⟩, h6⟩
  · exact .inr ⟨h1, h2, h3⟩
theorem alive_sync {s : St} {n a : Nat} {A : Bool} (h : Alive s n a A) :
    (St.syncErr s = 0 ∧ (St.sync s).slots = s.slots.map sure1 ∧ Alive (St.sync s) n (a + 1) A ∧ (St.sync s).pw.life = s.pw.life) ∨ (A = true ∧ St.syncErr s = 10 ∧ (St.sync s).slots = s.slots ∧ Gone (St.sync s).pw s.pw.life (a + 1)) := by
  have hse : St.syncErr s = s.pw.err := by unfold St.syncErr; rw [if_neg (by simp [h.down])]
  rw [hse]
  rcases alive_act h with ⟨h1, h2, h3, h4, h5, h6⟩ | ⟨h1, h2, h3⟩
  · have hs : St.sync s = St.settle { s with pw := s.pw.act } := by unfold St.sync; rw [if_neg (by simp [h.down]), if_pos h1]
    rw [hs]
    exact .inl ⟨h1, rfl, ⟨h2, h3, h4, h5, by show s.pw.act.life < _; rw [h6]; exact h.life, by show (s.slots.map sure1).length = n; rw [List.length_map]; exact h.len⟩, h6⟩
  · have hs : St.sync s = { s with pw := s.pw.act } := by unfold St.sync; rw [if_neg (by simp [h.down]), if_neg (by rw [h2]; decide)]
    rw [hs]
    exact .inr ⟨h1, h2, rfl, h3⟩

abbrev RowAt := Nat × List UInt8
/-- what slots hold: rows at their places, those of Kp surely; nothing else -/
def SlotsAre (K : List Int) (ss : List Slot) (T : List RowAt) (Kp : List (List UInt8)) : Prop :=
  (∀ p ∈ T, ∃ x, ss[p.1]? = some x ∧ x.now = textS K p.2 ∧ (x.sure = x.now ∨ x.sure = [] ∧ p.2 ∉ Kp)) ∧
  (∀ (i : Nat) (x : Slot), ss[i]? = some x → (∀ p ∈ T, p.1 ≠ i) → x.now = [] ∧ x.sure = [])
theorem setNow_get {ss : List Slot} {m : Nat} {x : Slot} (t : List UInt8) (h : ss[m]? = some x) (i : Nat) : (setNow ss m t)[i]? = if i = m then some { x with now := t, opn := true } else ss[i]? := by
  unfold setNow
  rw [h]
  have hl := (List.getElem?_eq_some_iff.1 h).1
  show (ss.set m _)[i]? = _
  rw [List.getElem?_set]
  by_cases hi : i = m
  · subst hi; rw [if_pos rfl, if_pos hl, if_pos rfl]
  · rw [if_neg (fun e => hi e.symm), if_neg hi]
theorem slots_write {K : List Int} {ss : List Slot} {T : List RowAt} {Kp : List (List UInt8)} {m : Nat} {row : List UInt8} (h : SlotsAre K ss T Kp) (hm : m < ss.length) (hf : ∀ p ∈ T, p.1 ≠ m) (hk : row ∉ Kp) :
    SlotsAre K (setNow ss m (textS K row)) (T ++ [(m, row)]) Kp := by
  have hx : ss[m]? = some ss[m] := List.getElem?_eq_getElem hm
  obtain ⟨z1, z2⟩ := h.2 m _ hx hf
  refine ⟨fun p hp => ?_, fun i x hi hn => ?_⟩
  · rcases List.mem_append.1 hp with hp | hp
    · obtain ⟨x, h1, h2, h3⟩ := h.1 p hp
      exact ⟨x, by rw [setNow_get _ hx, if_neg (hf p hp)]; exact h1, h2, h3⟩
    · simp only [List.mem_singleton] at hp
      subst hp
      exact ⟨{ ss[m] with now := textS K row, opn := true }, by rw [setNow_get _ hx, if_pos rfl], rfl, .inr ⟨z2, hk⟩⟩
  · have hne : i ≠ m := fun e => hn (m, row) (by simp) e.symm
    rw [setNow_get _ hx, if_neg hne] at hi
    exact h.2 i x hi (fun p hp => hn p (List.mem_append_left _ hp))
theorem slots_sync {K : List Int} {ss : List Slot} {T : List RowAt} {Kp : List (List UInt8)} (h : SlotsAre K ss T Kp) (Kp' : List (List UInt8)) : SlotsAre K (ss.map sure1) T Kp' := by
  refine ⟨fun p hp => ?_, fun i x hi hn => ?_⟩
  · obtain ⟨x, h1, h2, -⟩ := h.1 p hp
    exact ⟨sure1 x, by rw [List.getElem?_map, h1]; rfl, h2, .inl rfl⟩
  · rw [List.getElem?_map] at hi
    cases hx : ss[i]? with
    | none => rw [hx] at hi; cases hi
    | some y =>
      rw [hx] at hi
      obtain rfl := Option.some.inj hi
      have := (h.2 i y hx hn).1
      exact ⟨this, this⟩
/-- what a fate leaves of a slot -/
theorem left_of (x : Slot) (f : Int) (h : x.sure = x.now ∨ x.sure = []) : ∃ j, left x f = x.now.take j ∧ (x.sure = x.now → x.now.length ≤ j) := by
  unfold left
  split
  · rcases h with h | h
    · exact ⟨x.now.length, by rw [h, List.take_length], fun _ => Nat.le_refl _⟩
    · exact ⟨0, by rw [h]; simp, fun e => by rw [← e, h]; simp⟩
  · split
    · exact ⟨x.now.length, by rw [List.take_length], fun _ => Nat.le_refl _⟩
    · rcases h with h | h
      · exact ⟨x.now.length, by rw [h, List.take_append_drop, List.take_length], fun _ => Nat.le_refl _⟩
      · refine ⟨_, by rw [h, List.drop_nil, List.append_nil], fun e => ?_⟩
        rw [← e, h]; simp
theorem onl_slot (ss : List Slot) (fs : List Int) : ∀ (k i : Nat) (y : Slot), (onl ss fs k)[i]? = some y → ∃ x, ss[i]? = some x ∧ (y = x ∨ ∃ f, y = { x with now := left x f })
  | 0, i, y, h => ⟨y, h, .inl rfl⟩
  | k + 1, i, y, h => by
    unfold onl at h
    split at h
    · rename_i x hx
      split at h
      · rw [List.getElem?_set] at h
        by_cases e : k = i
        · subst e
          rw [if_pos rfl] at h
          split at h
          · obtain rfl := Option.some.inj h
            exact ⟨x, hx, .inr ⟨_, rfl⟩⟩
          · cases h
        · rw [if_neg e] at h
          exact onl_slot ss fs k i y h
      · exact onl_slot ss fs k i y h
    · exact onl_slot ss fs k i y h
/-- slots that are all sure: rows, whole or torn, and nothing else -/
def SlotsBack (K : List Int) (ss : List Slot) (T : List RowAt) (Kp : List (List UInt8)) : Prop :=
  ∀ (i : Nat) (x : Slot), ss[i]? = some x → x.sure = x.now ∧ ((∃ p ∈ T, p.1 = i ∧ ∃ j, x.now = (textS K p.2).take j ∧ (p.2 ∈ Kp → (textS K p.2).length ≤ j)) ∨ (∀ p ∈ T, p.1 ≠ i) ∧ x.now = [])
theorem slots_on {K : List Int} {ss : List Slot} {T : List RowAt} {Kp : List (List UInt8)} (h : SlotsAre K ss T Kp) (fs : List Int) (k : Nat) : SlotsBack K ((onl ss fs k).map sure1) T Kp := by
  intro i y hy
  rw [List.getElem?_map] at hy
  cases hz : (onl ss fs k)[i]? with
  | none => rw [hz] at hy; cases hy
  | some z =>
    rw [hz] at hy
    obtain rfl := Option.some.inj hy
    refine ⟨rfl, ?_⟩
    show (∃ p ∈ T, p.1 = i ∧ ∃ j, z.now = _ ∧ _) ∨ _ ∧ z.now = []
    obtain ⟨x, hx, hzx⟩ := onl_slot ss fs k i z hz
    by_cases hT : ∃ p ∈ T, p.1 = i
    · obtain ⟨p, hp, rfl⟩ := hT
      obtain ⟨x', h1, h2, h3⟩ := h.1 p hp
      obtain rfl : x' = x := Option.some.inj (h1.symm.trans hx)
      refine .inl ⟨p, hp, rfl, ?_⟩
      rcases hzx with rfl | ⟨f, rfl⟩
      · exact ⟨(textS K p.2).length, by rw [List.take_length]; exact h2, fun _ => Nat.le_refl _⟩
      · obtain ⟨j, e1, e2⟩ := left_of x' f (h3.imp id (fun a => a.1))
        refine ⟨j, by show left x' f = _; rw [e1, h2], fun hk => ?_⟩
        rcases h3 with h3 | ⟨-, h4⟩
        · have := e2 h3; rw [h2] at this; exact this
        · exact absurd hk h4
    · have hn : ∀ p ∈ T, p.1 ≠ i := fun p hp e => hT ⟨p, hp, e⟩
      obtain ⟨z1, z2⟩ := h.2 i x hx hn
      refine .inr ⟨hn, ?_⟩
      rcases hzx with rfl | ⟨f, rfl⟩
      · exact z1
      · obtain ⟨j, e1, -⟩ := left_of x f (.inr z2)
        show left x f = []
        rw [e1, z1]; simp
end Go.Proofs.YteihfoacdocgkaaDoor

set_option linter.unusedVariables false
set_option linter.unusedSimpArgs false
namespace Go.Proofs.YteihfoacdocgkaaDoor
open Go.RowKit Pl Sh

def rowsAt (L : List HEnt) : List RowAt := L.map fun e => (e.at_, e.row)
/-- a store of n slots with power (that may go, A), which holds each entry in its slot, those of Kp surely -/
structure PSt (K : List Int) (d : HvD) (n k : Nat) (A : Bool) (Kp : List (List UInt8)) : Prop where
  alive : Alive d.s n (900000 - 3 * k) A
  room : 3 * k ≤ 900000
  dead : d.dead = false
  life : (d.s.pw.life : Int) = d.life
  clk : d.clk + k < 900000
  low : d.life + (k : Int) < 50000
  ents : ∀ e ∈ d.L, rowS K e.row = some (e.isB, e.id, e.row) ∧ e.at_ < n ∧ e.row.length ≤ 600
  names : d.L.Pairwise (fun x y => (x.isB, x.id) ≠ (y.isB, y.id))
  small : St.small d.s
  slots : SlotsAre K d.s.slots (rowsAt d.L) Kp
  kin : ∀ r ∈ Kp, ∃ e ∈ d.L, e.row = r
theorem PSt.ready {K : List Int} {d : HvD} {n k : Nat} {A : Bool} {Kp : List (List UInt8)} (h : PSt K d n k A Kp) : d.ready := ⟨h.dead, h.alive.down, h.life⟩
theorem PSt.less {K : List Int} {d : HvD} {n k k' : Nat} {A : Bool} {Kp : List (List UInt8)} (h : PSt K d n k A Kp) (hk : k' ≤ k) : PSt K d n k' A Kp :=
  ⟨h.alive.more (by have := h.room; omega), by have := h.room; omega, h.dead, h.life, by have := h.clk; omega, by have := h.low; omega, h.ents, h.names, h.small, h.slots, h.kin⟩
theorem PSt.read {K : List Int} {d : HvD} {n k : Nat} {A : Bool} {Kp : List (List UInt8)} (h : PSt K d n k A Kp) {e : HEnt} (he : e ∈ d.L) : St.read d.s e.at_ = textS K e.row := by
  obtain ⟨x, h1, h2, -⟩ := h.slots.1 (e.at_, e.row) (List.mem_map.2 ⟨e, he, rfl⟩)
  have hl := h.alive.len
  have := (h.ents e he).2.1
  unfold St.read
  rw [if_neg (by unfold St.atErr; rw [if_neg (by simp [h.alive.down]), if_neg (by omega)]; simp), Int.toNat_natCast, h1]
  exact h2
theorem p_use {K : List Int} {d : HvD} {n k j : Nat} {A : Bool} {Kp : List (List UInt8)} {e : HEnt} (h : PSt K d n (k + 1) A Kp) (hj : d.L[j]? = some e) :
    PSt K { d with L := d.L.set j { e with used := ((d.clk + 1 : Nat) : Int) }, clk := d.clk + 1 } n k A Kp := by
  have he : e ∈ d.L := List.mem_of_getElem? hj
  obtain ⟨e', he'⟩ : ∃ x : HEnt, x = { e with used := ((d.clk + 1 : Nat) : Int) } := ⟨_, rfl⟩
  have hps : (d.L.set j e').Perm (e' :: d.L.eraseIdx j) := perm_set e' hj
  have hpe := perm_erase hj
  have hra : rowsAt (d.L.set j e') = rowsAt d.L := map_set_same _ d.L j e e' hj (by rw [he'])
  rw [← he']
  refine ⟨h.alive.more (by have := h.room; omega), by have := h.room; omega, h.dead, h.life, by have := h.clk; show d.clk + 1 + k < _; omega, by have := h.low; show d.life + (k : Int) < _; omega, fun x hx => ?_, ?_, h.small, by show SlotsAre K d.s.slots (rowsAt (d.L.set j e')) Kp; rw [hra]; exact h.slots, fun r hr => ?_⟩
  · rcases List.mem_cons.1 (hps.mem_iff.1 hx) with rfl | hx
    · obtain ⟨g1, g2, g3⟩ := h.ents e he
      exact ⟨by rw [he']; exact g1, by rw [he']; exact g2, by rw [he']; exact g3⟩
    · exact h.ents x (List.mem_of_mem_eraseIdx hx)
  · have hp := (hpe.pairwise_iff (fun {x y} (hne : (x.isB, x.id) ≠ (y.isB, y.id)) => Ne.symm hne)).2 h.names
    obtain ⟨g1, g2⟩ := List.pairwise_cons.1 hp
    exact (hps.pairwise_iff (fun {x y} (hne : (x.isB, x.id) ≠ (y.isB, y.id)) => Ne.symm hne)).2 (List.pairwise_cons.2 ⟨fun y hy => by rw [he']; exact g1 y hy, g2⟩)
  · obtain ⟨y, hy, e1⟩ := h.kin r hr
    rcases List.mem_cons.1 (hpe.mem_iff.2 hy) with rfl | hy
    · exact ⟨e', hps.mem_iff.2 (by simp), by rw [he']; exact e1⟩
    · exact ⟨y, hps.mem_iff.2 (List.mem_cons_of_mem _ hy), e1⟩
def rowsOf (L : List HEnt) : List (List UInt8) := L.map (·.row)
theorem rows_use {L : List HEnt} {j : Nat} {e : HEnt} (hj : L[j]? = some e) (u : Int) : rowsOf (L.set j { e with used := u }) = rowsOf L := map_set_same _ L j e _ hj rfl
/-- the rows of a store: each an entry's, no two of one name -/
structure RowsOk (K : List Int) (C : List (List UInt8)) : Prop where
  row : ∀ r ∈ C, ∃ b id, rowS K r = some (b, id, r) ∧ r.length ≤ 600
  names : C.Pairwise (fun x y => ∀ b id, rowS K x = some (b, id, x) → rowS K y ≠ some (b, id, y))
theorem PSt.rows {K : List Int} {d : HvD} {n k : Nat} {A : Bool} {Kp : List (List UInt8)} (h : PSt K d n k A Kp) : RowsOk K (rowsOf d.L) := by
  refine ⟨fun r hr => ?_, ?_⟩
  · obtain ⟨e, he, rfl⟩ := List.mem_map.1 hr
    exact ⟨_, _, (h.ents e he).1, (h.ents e he).2.2⟩
  · unfold rowsOf
    rw [List.pairwise_map]
    have hm : ∀ x ∈ d.L, ∀ y ∈ d.L, (x.isB, x.id) ≠ (y.isB, y.id) → ∀ b id, rowS K x.row = some (b, id, x.row) → rowS K y.row ≠ some (b, id, y.row) := fun x hx y hy hne b id h1 h2 => by
      rw [(h.ents x hx).1] at h1
      rw [(h.ents y hy).1] at h2
      simp only [Option.some.injEq, Prod.mk.injEq, and_true] at h1 h2
      exact hne (by rw [h1.1, h1.2, h2.1, h2.2])
    exact h.names.imp_of_mem (fun {x y} hx hy hne => hm x hx y hy hne)
/-- slots without power, or with, which hold rows C, those of Kp surely -/
structure DSt (K : List Int) (s : St) (n k : Nat) (C Kp : List (List UInt8)) : Prop where
  len : s.slots.length = n
  acts : s.pw.acts ≤ 900000 - 3 * k
  room : 3 * k ≤ 900000
  life : s.pw.life + k + (if s.pw.down = true then 0 else 1) ≤ 50000
  off : s.pw.down = true → s.pw.armed = 0
  armed : s.pw.armed ≤ 1000
  small : St.small s
  rows : RowsOk K C
  slots : ∃ T : List RowAt, T.map (·.2) = C ∧ (T.map (·.1)).Nodup ∧ (∀ p ∈ T, p.1 < n) ∧ SlotsAre K s.slots T Kp
theorem PSt.dst {K : List Int} {d : HvD} {n k : Nat} {A : Bool} {Kp : List (List UInt8)} (h : PSt K d n k A Kp) (hn : (d.L.map (·.at_)).Nodup) : DSt K d.s n k (rowsOf d.L) Kp :=
  ⟨h.alive.len, h.alive.acts, h.room, by rw [if_neg (by simp [h.alive.down])]; have := h.low; have := h.life; omega, (fun e => by rw [h.alive.down] at e; cases e), h.alive.armed, h.small, h.rows,
    rowsAt d.L, by unfold rowsAt rowsOf; rw [List.map_map]; rfl, by unfold rowsAt; rw [List.map_map]; exact hn, fun p hp => by obtain ⟨e, he, rfl⟩ := List.mem_map.1 hp; exact (h.ents e he).2.1, h.slots⟩
/-- an entry more, or the power went -/
theorem p_add {K : List Int} {d : HvD} {n k m blk : Nat} {A : Bool} {Kp : List (List UInt8)} {isB : Bool} {id row : List UInt8} (h : PSt K d n (k + 1) A Kp) (hm : m < n) (hfree : ∀ e ∈ d.L, e.at_ ≠ m)
    (hrow : rowS K row = some (isB, id, row)) (hl : row.length ≤ 600) (hne : ∀ e ∈ d.L, (e.isB, e.id) ≠ (isB, id)) (hn : (d.L.map (·.at_)).Nodup) :
    (St.writeErr d.s m (textS K row) = 0 ∧ PSt K { d with s := St.write d.s m (textS K row), L := d.L ++ [⟨isB, id, m, ((d.clk + 1 : Nat) : Int), row, blk⟩], clk := d.clk + 1 } n k A Kp) ∨
    (A = true ∧ St.writeErr d.s m (textS K row) = 10 ∧ DSt K (St.write d.s m (textS K row)) n k (rowsOf d.L ++ [row]) Kp) := by
  have htl : (textS K row).length ≤ 640 := by rw [textS_size]; omega
  obtain ⟨hs, hw⟩ := alive_write h.alive hm htl
  have hkn : row ∉ Kp := fun hr => by
    obtain ⟨e, he, e1⟩ := h.kin row hr
    have h1 := (h.ents e he).1
    rw [e1, hrow] at h1
    simp only [Option.some.injEq, Prod.mk.injEq, and_true] at h1
    exact hne e he (by rw [h1.1, h1.2])
  have hsl : SlotsAre K (St.write d.s m (textS K row)).slots (rowsAt d.L ++ [(m, row)]) Kp := by
    rw [hs]
    refine slots_write h.slots (by rw [h.alive.len]; exact hm) (fun p hp => ?_) hkn
    obtain ⟨e, he, rfl⟩ := List.mem_map.1 hp
    exact hfree e he
  have hroom := h.room
  rcases hw with ⟨h1, h2, h3⟩ | ⟨h1, h2, h3⟩
  · left
    refine ⟨h1, h2.more (by omega), by omega, h.dead, by show (((St.write d.s m (textS K row)).pw.life : Nat) : Int) = d.life; rw [h3]; exact h.life, by have := h.clk; show d.clk + 1 + k < _; omega, by have := h.low; show d.life + (k : Int) < _; omega, fun x hx => ?_, ?_, small_write h.small _ _, ?_, fun r hr => ?_⟩
    · rcases List.mem_append.1 hx with hx | hx
      · exact h.ents x hx
      · simp only [List.mem_singleton] at hx
        subst hx
        exact ⟨hrow, hm, hl⟩
    · exact List.pairwise_append.2 ⟨h.names, List.pairwise_singleton _ _, fun x hx y hy => by simp only [List.mem_singleton] at hy; subst hy; exact hne x hx⟩
    · show SlotsAre K _ (rowsAt (d.L ++ _)) Kp
      unfold rowsAt at hsl ⊢
      rw [List.map_append]
      exact hsl
    · obtain ⟨y, hy, e1⟩ := h.kin r hr
      exact ⟨y, List.mem_append_left _ hy, e1⟩
  · right
    have hr := h.rows
    refine ⟨h1, h2, ⟨?_, by have := h3.acts; omega, by omega, by rw [h3.life, if_pos h3.down]; have := h.low; have := h.life; omega, fun _ => h3.armed, by rw [h3.armed]; omega, small_write h.small _ _, ⟨fun r hr2 => ?_, ?_⟩, _, ?_, ?_, ?_, hsl⟩⟩
    · rw [hs, setNow_length]; exact h.alive.len
    · rcases List.mem_append.1 hr2 with h5 | h5
      · exact hr.row r h5
      · simp only [List.mem_singleton] at h5
        subst h5
        exact ⟨_, _, hrow, hl⟩
    · refine List.pairwise_append.2 ⟨hr.names, List.pairwise_singleton _ _, fun x hx y hy b i h5 h6 => ?_⟩
      simp only [List.mem_singleton] at hy
      subst hy
      obtain ⟨e, he, rfl⟩ := List.mem_map.1 hx
      rw [(h.ents e he).1] at h5
      rw [hrow] at h6
      simp only [Option.some.injEq, Prod.mk.injEq, and_true] at h5 h6
      exact hne e he (by rw [h5.1, h5.2, h6.1, h6.2])
    · unfold rowsAt rowsOf; rw [List.map_append, List.map_map]; rfl
    · unfold rowsAt
      rw [List.map_append, List.map_map]
      refine List.nodup_append.2 ⟨hn, by simp, fun x hx y hy => ?_⟩
      simp only [List.map_cons, List.map_nil, List.mem_singleton] at hy
      obtain ⟨e, he, rfl⟩ := List.mem_map.1 hx
      rw [hy]
      exact hfree e he
    · intro p hp
      rcases List.mem_append.1 hp with hp | hp
      · obtain ⟨e, he, rfl⟩ := List.mem_map.1 hp
        exact (h.ents e he).2.1
      · simp only [List.mem_singleton] at hp
        subst hp
        exact hm

/-- a store in memory, all of whose blocks are among S, that holds rows C -/
def PBox (K : List Int) (w : World) (q : HvP) (n k : Nat) (A : Bool) (C Kp : List (List UInt8)) (S : List Nat) : Prop := ∃ d, HvAt w q d ∧ PSt K d n k A Kp ∧ rowsOf d.L = C ∧ (∀ x ∈ q.own d.L, x ∈ S) ∧ ∀ x ∈ S, x < w.heap.size
theorem PBox.below {K : List Int} {w w' : World} {q : HvP} {n k : Nat} {A : Bool} {C Kp : List (List UInt8)} {S : List Nat} (h : PBox K w q n k A C Kp S) (hb : Below w.heap.size w w') : PBox K w' q n k A C Kp S := by
  obtain ⟨d, h1, h2, h3, h4, h5⟩ := h
  exact ⟨d, h1.below hb, h2, h3, h4, fun x hx => Nat.lt_of_lt_of_le (h5 x hx) hb.size⟩
theorem PBox.less {K : List Int} {w : World} {q : HvP} {n k k' : Nat} {A : Bool} {C Kp : List (List UInt8)} {S : List Nat} (h : PBox K w q n k A C Kp S) (hk : k' ≤ k) : PBox K w q n k' A C Kp S := by
  obtain ⟨d, h1, h2, h3, h4, h5⟩ := h
  exact ⟨d, h1, h2.less hk, h3, h4, h5⟩
theorem PBox.apart {K : List Int} {w w' : World} {q : HvP} {n k : Nat} {A : Bool} {C Kp : List (List UInt8)} {S T : List Nat} (h : PBox K w q n k A C Kp S) (ho : Only T w w') (hT : ∀ x ∈ S, x ∉ T) : PBox K w' q n k A C Kp S := by
  obtain ⟨d, h1, h2, h3, h4, h5⟩ := h
  exact ⟨d, h1.keep (fun x hx => ho.block x (h5 x (h4 x hx)) (hT x (h4 x hx))), h2, h3, h4, fun x hx => Nat.lt_of_lt_of_le (h5 x hx) ho.size⟩
theorem PBox.lt {K : List Int} {w : World} {q : HvP} {n k : Nat} {A : Bool} {C Kp : List (List UInt8)} {S : List Nat} (h : PBox K w q n k A C Kp S) : ∀ x ∈ S, x < w.heap.size := by
  obtain ⟨d, -, -, -, -, h5⟩ := h
  exact h5
theorem PBox.rows {K : List Int} {w : World} {q : HvP} {n k : Nat} {A : Bool} {C Kp : List (List UInt8)} {S : List Nat} (h : PBox K w q n k A C Kp S) : RowsOk K C := by
  obtain ⟨d, -, h2, h3, -, -⟩ := h
  rw [← h3]; exact h2.rows
theorem PBox.own {K : List Int} {w : World} {q : HvP} {n k : Nat} {A : Bool} {C Kp : List (List UInt8)} {S : List Nat} (h : PBox K w q n k A C Kp S) : q.b ∈ S ∧ q.g ∈ S := by
  obtain ⟨d, h1, h2, h3, h4, h5⟩ := h
  have hm := @own_mem q d.L
  exact ⟨h4 _ hm.2.2.2.2.1, h4 _ hm.2.2.2.2.2.1⟩
/-- a shelf in memory that holds rows C, without power or with -/
def DShelf (K : List Int) (w : World) (b g n k : Nat) (C Kp : List (List UInt8)) : Prop := ∃ s, ShAt w b g s ∧ DSt K s n k C Kp
theorem DShelf.keep {K : List Int} {w w' : World} {b g n k : Nat} {C Kp : List (List UInt8)} (h : DShelf K w b g n k C Kp) (hb : w'.heap[b]? = w.heap[b]?) (hg : w'.heap[g]? = w.heap[g]?) : DShelf K w' b g n k C Kp := by
  obtain ⟨s, h1, h2⟩ := h
  exact ⟨s, ⟨hb.trans h1.pw, hg.trans h1.slots, h1.ne, h1.len⟩, h2⟩
theorem PBox.shelf {K : List Int} {w : World} {q : HvP} {n k : Nat} {A : Bool} {C Kp : List (List UInt8)} {S : List Nat} (h : PBox K w q n k A C Kp S) : DShelf K w q.b q.g n k C Kp := by
  obtain ⟨d, h1, h2, h3, h4, h5⟩ := h
  exact ⟨d.s, h1.sh, by rw [← h3]; exact h2.dst (ats_nodup h1)⟩
end Go.Proofs.YteihfoacdocgkaaDoor

set_option linter.unusedVariables false
set_option linter.unusedSimpArgs false
namespace Go.Proofs.YteihfoacdocgkaaDoor
open Go.RowKit Pl Sh

/-- what find answers, and the store then -/
theorem p_find (K : List Int) (q : HvP) (d : HvD) (n k : Nat) (A : Bool) (Kp : List (List UInt8)) (isB : Bool) (id : List UInt8) (w : World) (hat : HvAt w q d) (hg : PSt K d n (k + 1) A Kp) (hid : id.length = 32) :
    ∃ (row : List UInt8) (ok : Bool) (d2 : HvD), PSt K d2 n k A Kp ∧ rowsOf d2.L = rowsOf d.L ∧ (∀ x ∈ q.own d2.L, x ∈ q.own d.L) ∧ row.length ≤ 10000 ∧ (ok = true → row ∈ rowsOf d.L ∧ rowS K row = some (isB, id, row)) ∧ (ok = false → ∀ r ∈ rowsOf d.L, rowS K r ≠ some (isB, id, r)) ∧
      ∀ W, HvAt W q d → Laid K W → Calls Tryd.prog 70 #[.pointer (some ⟨q.p, 0, none⟩), .agg (Value.bool isB :: byV id).toArray] W fun r w' => r = .returned (.tuple #[.string ⟨row.toArray⟩, .bool ok]) ∧ HvAt w' q d2 ∧ Only (q.own d.L) W w' := by
  by_cases hex : ∃ e ∈ d.L, (e.isB, e.id) = (isB, id)
  · obtain ⟨e, he, hn⟩ := hex
    obtain ⟨rfl, rfl⟩ := Prod.mk.inj hn
    obtain ⟨j, hj⟩ := List.mem_iff_getElem?.1 he
    refine ⟨e.row, true, _, p_use hg hj, rows_use hj _, fun x hx => by rw [own_use hj] at hx; exact hx, (hat.fit e he).2.2, fun _ => ⟨List.mem_map.2 ⟨e, he, rfl⟩, (hg.ents e he).1⟩, (fun h => by cases h), fun W h1 h2 => ?_⟩
    exact find_ok K q d j e W h1 h2 hg.ready hj (by have := hg.clk; omega) (hg.read he)
  · refine ⟨[], false, d, hg.less (Nat.le_succ k), rfl, fun x hx => hx, Nat.zero_le _, (fun h => by cases h), fun _ r hr h5 => ?_, fun W h1 h2 => ?_⟩
    · obtain ⟨e, he, rfl⟩ := List.mem_map.1 hr
      rw [(hg.ents e he).1] at h5
      simp only [Option.some.injEq, Prod.mk.injEq, and_true] at h5
      exact hex ⟨e, he, by rw [h5.1, h5.2]⟩
    · refine (find_none K q d isB id W h1 h2 hg.ready hid (fun e he h => hex ⟨e, he, h⟩)).mono ?_
      rintro r w' ⟨rfl, hB⟩
      exact ⟨rfl, h1.below hB, Only.of_below hB⟩
/-- Blob -/
theorem p_blob (K : List Int) (q : HvP) (n k : Nat) (A : Bool) (C Kp : List (List UInt8)) (S : List Nat) (dg : List UInt8) (w : World) (h : PBox K w q n (k + 1) A C Kp S) (hL : Laid K w) (hdg : dg.length = 32) :
    Calls Tryd.prog 27 #[.pointer (some ⟨q.p, 0, none⟩), .agg (digV dg)] w fun r w' => ∃ (t : List UInt8) (ok : Bool), r = .returned (.tuple #[.string ⟨t.toArray⟩, .bool ok]) ∧ (ok = true → ∃ row ∈ C, rowS K row = some (true, dg, row) ∧ asBlobS row = (t, true)) ∧ (ok = false → t = [] ∧ ∀ r ∈ C, rowS K r ≠ some (true, dg, r)) ∧ PBox K w' q n k A C Kp S ∧ Only S w w' := by
  obtain ⟨d, h1, h2, h3, h4, h5⟩ := h
  obtain ⟨row, ok, d2, g1, g2, g3, g4, g5, g6, g7⟩ := p_find K q d n k A Kp true dg w h1 h2 hdg
  refine (hblob_gen q d d2 dg row ok w h1 hdg (by omega) (fun W hW hA => g7 W hA (hL.below hW))).mono ?_
  rintro r w' ⟨rfl, ha, hO⟩
  refine ⟨_, _, rfl, ?_, ?_, ⟨d2, ha, g1, by rw [g2]; exact h3, fun x hx => h4 x (g3 x hx), fun x hx => Nat.lt_of_lt_of_le (h5 x hx) hO.size⟩, hO.mono h4⟩
  · intro hk
    cases ok with
    | false => cases hk
    | true =>
      obtain ⟨m1, m2⟩ := g5 rfl
      obtain ⟨b, e1, e2⟩ := rowS_isB m2
      have : blobAns true row = (b, true) := e1
      rw [this]
      exact ⟨row, by rw [← h3]; exact m1, m2, e1⟩
  · intro hk
    cases ok with
    | false => exact ⟨rfl, by rw [← h3]; exact g6 rfl⟩
    | true =>
      obtain ⟨b, e1, e2⟩ := rowS_isB (g5 rfl).2
      have : blobAns true row = (b, true) := e1
      rw [this] at hk; cases hk
/-- Record -/
theorem p_rec (K : List Int) (q : HvP) (n k : Nat) (A : Bool) (C Kp : List (List UInt8)) (S : List Nat) (dg : List UInt8) (w : World) (h : PBox K w q n (k + 1) A C Kp S) (hL : Laid K w) (hdg : dg.length = 32) :
    Calls Tryd.prog 30 #[.pointer (some ⟨q.p, 0, none⟩), .agg (digV dg)] w fun r w' => ∃ (x : RecD) (ok : Bool), r = .returned (.tuple #[.agg x.row, .bool ok]) ∧ x.Fit ∧ (ok = true → ∃ row ∈ C, rowS K row = some (false, dg, row) ∧ asRecS row = some x ∧ x.key = dg) ∧ (ok = false → x = zeroRec ∧ ∀ r ∈ C, rowS K r ≠ some (false, dg, r)) ∧ PBox K w' q n k A C Kp S ∧ Only S w w' := by
  obtain ⟨d, h1, h2, h3, h4, h5⟩ := h
  obtain ⟨row, ok, d2, g1, g2, g3, g4, g5, g6, g7⟩ := p_find K q d n k A Kp false dg w h1 h2 hdg
  refine (hrec_gen q d d2 dg row ok w h1 hdg (by omega) g3 (fun W hW hA => g7 W hA (hL.below hW))).mono ?_
  rintro r w' ⟨rfl, ha, hO⟩
  refine ⟨_, _, rfl, recAns_fit ok row, ?_, ?_, ⟨d2, ha, g1, by rw [g2]; exact h3, fun x hx => h4 x (g3 x hx), fun x hx => Nat.lt_of_lt_of_le (h5 x hx) hO.size⟩, hO.mono h4⟩
  · intro hk
    cases ok with
    | false => cases hk
    | true =>
      obtain ⟨m1, m2⟩ := g5 rfl
      obtain ⟨x, e1, e2⟩ := rowS_isR m2
      have : recAns true row = some x := e1
      rw [this]
      exact ⟨row, by rw [← h3]; exact m1, m2, e1, e2⟩
  · intro hk
    cases ok with
    | false => exact ⟨rfl, by rw [← h3]; exact g6 rfl⟩
    | true =>
      obtain ⟨x, e1, e2⟩ := rowS_isR (g5 rfl).2
      have : recAns true row = some x := e1
      rw [this] at hk; cases hk
/-- Len -/
theorem p_len {K : List Int} {w : World} {q : HvP} {n k : Nat} {A : Bool} {C Kp : List (List UInt8)} {S : List Nat} (h : PBox K w q n k A C Kp S) :
    Calls Tryd.prog 26 #[.pointer (some ⟨q.p, 0, none⟩)] w fun r w' => r = .returned (.int .i64 C.length) ∧ w = w' := by
  obtain ⟨d, h1, h2, h3, h4, h5⟩ := h
  have hl : C.length = d.L.length := by rw [← h3]; unfold rowsOf; rw [List.length_map]
  rw [hl]
  exact hlen_any q d w h1
/-- Sync -/
theorem p_sync (K : List Int) (q : HvP) (n k : Nat) (A : Bool) (C Kp : List (List UInt8)) (S : List Nat) (w : World) (h : PBox K w q n (k + 1) A C Kp S) :
    Calls Tryd.prog 32 #[.pointer (some ⟨q.p, 0, none⟩)] w fun r w' => Only S w w' ∧ ((r = .returned (.int .i64 0) ∧ PBox K w' q n k A C C S) ∨ (A = true ∧ r = .returned (.int .i64 10) ∧ DShelf K w' q.b q.g n k C Kp)) := by
  obtain ⟨d, h1, h2, h3, h4, h5⟩ := h
  have hm := @own_mem q d.L
  have hroom := h2.room
  refine (hsync_any q d w h1 h2.ready (h2.alive.fits (by omega))).mono ?_
  rintro r w' ⟨rfl, ha, hO⟩
  have hO' : Only S w w' := hO.mono (fun x hx => by
    simp only [List.mem_cons, List.not_mem_nil, or_false] at hx
    rcases hx with rfl | rfl | rfl
    · exact h4 _ hm.1
    · exact h4 _ hm.2.2.2.2.1
    · exact h4 _ hm.2.2.2.2.2.1)
  refine ⟨hO', ?_⟩
  rcases alive_sync h2.alive with ⟨e1, e2, e3, e4⟩ | ⟨e1, e2, e3, e4⟩
  · left
    rw [e1] at ha ⊢
    refine ⟨rfl, _, ha, ⟨e3.more (by omega), by omega, by show (d.dead || _) = false; rw [h2.dead]; rfl, by show (((St.sync d.s).pw.life : Nat) : Int) = d.life; rw [e4]; exact h2.life, by have := h2.clk; show d.clk + k < _; omega, by have := h2.low; show d.life + (k : Int) < _; omega, h2.ents, h2.names, small_sync h2.small, by show SlotsAre K (St.sync d.s).slots _ _; rw [e2]; exact slots_sync h2.slots C, fun r hr => ?_⟩, h3, h4, fun x hx => Nat.lt_of_lt_of_le (h5 x hx) hO.size⟩
    rw [← h3] at hr
    obtain ⟨e, he, e5⟩ := List.mem_map.1 hr
    exact ⟨e, he, e5⟩
  · right
    rw [e2] at ha ⊢
    have hd := (h2.less (Nat.le_succ k)).dst (ats_nodup h1)
    exact ⟨e1, rfl, St.sync d.s, ha.sh, ⟨by rw [e3]; exact hd.len, by have := e4.acts; omega, by omega, by rw [e4.life, if_pos e4.down]; have := h2.low; have := h2.life; omega, fun _ => e4.armed, by rw [e4.armed]; omega, small_sync h2.small, by rw [← h3]; exact hd.rows, by rw [e3, ← h3]; exact hd.slots⟩⟩
/-- the keys of records among rows -/
def keysC (K : List Int) (C : List (List UInt8)) : List (List UInt8) := C.filterMap fun r => match rowS K r with
  | some (false, id, _) => some id
  | _ => none
/-- what put leaves of a store with room -/
def PPut (K : List Int) (d : HvD) (n k : Nat) (A : Bool) (Kp : List (List UInt8)) (row : List UInt8) (er : Int) (d' : HvD) : Prop :=
  (er = 0 ∧ PSt K d' n k A Kp ∧ rowsOf d'.L = rowsOf d.L ++ [row]) ∨ (er = 10 ∧ A = true ∧ DSt K d'.s n k (rowsOf d.L ++ [row]) Kp)
/-- put of an entry that is not there -/
theorem p_put (K : List Int) (q : HvP) (d : HvD) (n k : Nat) (A : Bool) (Kp : List (List UInt8)) (isB : Bool) (id row : List UInt8) (w : World) (h1 : HvAt w q d) (h2 : PSt K d n (k + 1) A Kp) (hL : Laid K w) (h0 : 0 ∉ q.own d.L) (hn : n ≤ 128) (hlt : d.L.length < n) (hid : id.length = 32) (hrl : row.length ≤ 600) (hrow : rowS K row = some (isB, id, row))
    (hne : ∀ e ∈ d.L, (e.isB, e.id) ≠ (isB, id)) :
    Calls Tryd.prog 68 #[.pointer (some ⟨q.p, 0, none⟩), .agg (Value.bool isB :: byV id).toArray, .string ⟨row.toArray⟩] w (PutR q d (PPut K d n k A Kp row) w) := by
  rcases first_free d.L n with hf | ⟨m, m1, m2, m3⟩
  · exfalso
    have := nodup_subset_length (l1 := List.range n) (l2 := d.L.map (·.at_)) List.nodup_range (fun x hx => by obtain ⟨e, he, h1⟩ := hf x (List.mem_range.1 hx); exact List.mem_map.2 ⟨e, he, h1⟩)
    simp at this
    omega
  · have hlen := h2.alive.len
    have hroom := h2.room
    have hg := hput_gen K q d d isB id row m w h1 hL h0 (fun W hW => by
      refine (room_free q d m W hW (by omega) (by omega) m2 m3).mono ?_
      rintro r w' ⟨rfl, rfl⟩
      exact ⟨rfl, hW, Only.refl _ _⟩) (by omega) m2 hid hrl hne (by have := h2.clk; omega) (h2.alive.fits (by omega))
    refine hg.mono ?_
    rintro r w' ⟨hO, h | ⟨he, rfl, blk, hbk, ha⟩⟩
    · obtain ⟨he, rfl, ha⟩ := h
      rcases p_add (blk := 0) h2 m1 m2 hrow hrl hne (ats_nodup h1) with ⟨e1, -⟩ | ⟨e1, e2, e3⟩
      · exact absurd e1 he
      · rw [e2] at ha ⊢
        exact ⟨10, _, rfl, .inr ⟨rfl, e1, e3⟩, ha, hO, fun x hx => .inl hx⟩
    · rcases p_add (blk := blk) h2 m1 m2 hrow hrl hne (ats_nodup h1) with ⟨-, e3⟩ | ⟨e1, e2, e3⟩
      · refine ⟨0, _, rfl, .inl ⟨rfl, e3, by unfold rowsOf; rw [List.map_append]; rfl⟩, ha, hO, fun x hx => ?_⟩
        simp only [HvP.own, List.map_append, List.mem_cons, List.mem_append, List.map_cons, List.map_nil, List.not_mem_nil, or_false, List.mem_map] at hx ⊢
        rcases hx with h | h | h | h | h | h | ⟨e, he, h⟩ | h
        · simp [h]
        · simp [h]
        · simp [h]
        · simp [h]
        · simp [h]
        · simp [h]
        · exact .inl (.inr (.inr (.inr (.inr (.inr (.inr ⟨e, he, h⟩))))))
        · right; rw [h]; exact hbk
      · rw [he] at e2; cases e2
/-- what a put leaves: the store with a row more, or a shelf without power -/
def PPutPost (K : List Int) (q : HvP) (n k : Nat) (A : Bool) (C Kp : List (List UInt8)) (row : List UInt8) (S : List Nat) (w : World) (er : Int) (w' : World) : Prop :=
  Only S w w' ∧ ((er = 0 ∧ ∃ S', PBox K w' q n k A (C ++ [row]) Kp S' ∧ (∀ x ∈ S', x ∈ S ∨ w.heap.size ≤ x)) ∨ (er = 10 ∧ A = true ∧ DShelf K w' q.b q.g n k (C ++ [row]) Kp))
theorem pput_of {K : List Int} {q : HvP} {n k : Nat} {A : Bool} {C Kp : List (List UInt8)} {row : List UInt8} {S : List Nat} {d d' : HvD} {er : Int} {w w' : World} (h3 : rowsOf d.L = C) (h4 : ∀ x ∈ q.own d.L, x ∈ S) (h5 : ∀ x ∈ S, x < w.heap.size) (hg : PPut K d n k A Kp row er d') (ha : HvAt w' q d') (hO : Only (q.own d.L) w w') (hx : ∀ x ∈ q.own d'.L, x ∈ q.own d.L ∨ w.heap.size ≤ x) : PPutPost K q n k A C Kp row S w er w' := by
  refine ⟨hO.mono h4, ?_⟩
  rcases hg with ⟨rfl, g1, g2⟩ | ⟨rfl, g1, g2⟩
  · refine .inl ⟨rfl, q.own d'.L ++ S, ⟨d', ha, g1, by rw [g2, h3], fun x h => List.mem_append_left _ h, fun x h => ?_⟩, fun x h => ?_⟩
    · rcases List.mem_append.1 h with h | h
      · exact ha.lt x h
      · exact Nat.lt_of_lt_of_le (h5 x h) hO.size
    · rcases List.mem_append.1 h with h | h
      · exact (hx x h).imp (h4 x) id
      · exact .inl h
  · exact .inr ⟨rfl, g1, d'.s, ha.sh, by rw [← h3]; exact g2⟩
/-- PutBlob, of whatever text -/
theorem p_putblob (K : List Int) (q : HvP) (n k : Nat) (A : Bool) (C Kp : List (List UInt8)) (S : List Nat) (b : List UInt8) (w : World) (h : PBox K w q n (k + 1) A C Kp S) (hL : Laid K w) (h0 : 0 ∉ S) (hn : n ≤ 128) (hlt : C.length < n) :
    Calls Tryd.prog 23 #[.pointer (some ⟨q.p, 0, none⟩), .string ⟨b.toArray⟩] w fun r w' =>
      (512 < b.length ∧ r = .returned (.tuple #[.agg (digV (List.replicate 32 0)), .int .i64 33]) ∧ PBox K w' q n k A C Kp S ∧ Only S w w') ∨
      (b.length ≤ 512 ∧ (∃ row ∈ C, rowS K row = some (true, hashB K b, row)) ∧ r = .returned (.tuple #[.agg (digV (hashB K b)), .int .i64 0]) ∧ PBox K w' q n k A C Kp S ∧ Only S w w') ∨
      (b.length ≤ 512 ∧ (∀ row ∈ C, rowS K row ≠ some (true, hashB K b, row)) ∧ ∃ er : Int, r = .returned (.tuple #[.agg (digV (if er = 0 then hashB K b else List.replicate 32 0)), .int .i64 er]) ∧ PPutPost K q n k A C Kp (blobRowS b) S w er w') := by
  obtain ⟨d, h1, h2, h3, h4, h5⟩ := h
  have h0o : 0 ∉ q.own d.L := fun h => h0 (h4 0 h)
  have hCl : C.length = d.L.length := by rw [← h3]; unfold rowsOf; rw [List.length_map]
  by_cases hb : b.length ≤ 512
  · by_cases hex : ∃ e ∈ d.L, (e.isB, e.id) = (true, hashB K b)
    · obtain ⟨e, he, hnm⟩ := hex
      obtain ⟨e1, e2⟩ := Prod.mk.inj hnm
      obtain ⟨j, hj⟩ := List.mem_iff_getElem?.1 he
      refine (gpb_again K q d j e b w h1 hL h2.ready hb hj e1 e2 (by have := h2.clk; omega)).mono ?_
      rintro r w' ⟨rfl, ha, hO⟩
      refine .inr (.inl ⟨hb, ⟨e.row, by rw [← h3]; exact List.mem_map.2 ⟨e, he, rfl⟩, by rw [(h2.ents e he).1, e1, e2]⟩, rfl, ⟨_, ha, p_use h2 hj, (rows_use hj _).trans h3, fun x hx => by rw [own_use hj] at hx; exact h4 x hx, fun x hx => Nat.lt_of_lt_of_le (h5 x hx) hO.size⟩, hO.mono h4⟩)
    · have hne : ∀ e ∈ d.L, (e.isB, e.id) ≠ (true, hashB K b) := fun e he h => hex ⟨e, he, h⟩
      refine (gpb_new K q d b (PPut K d n k A Kp (blobRowS b)) w h1 hL h0o h2.ready hb hne (fun W hW hLW => p_put K q d n k A Kp true (hashB K b) (blobRowS b) W hW h2 hLW h0o hn (by omega) (hashB_length K b) (blobRow_len b hb) (rowS_of_blob K b hb) hne)).mono ?_
      rintro r w' ⟨er, d', rfl, hg, ha, hO, hx⟩
      refine .inr (.inr ⟨hb, fun row hr h6 => ?_, er, rfl, pput_of h3 h4 h5 hg ha hO hx⟩)
      rw [← h3] at hr
      obtain ⟨e, he, rfl⟩ := List.mem_map.1 hr
      rw [(h2.ents e he).1] at h6
      simp only [Option.some.injEq, Prod.mk.injEq, and_true] at h6
      exact hne e he (by rw [h6.1, h6.2])
  · refine (gpb_wide q d b K w h1 hL h2.ready (by omega)).mono ?_
    rintro r w' ⟨rfl, hB⟩
    exact .inl ⟨by omega, rfl, ⟨d, h1.below hB, h2.less (Nat.le_succ k), h3, h4, fun x hx => Nat.lt_of_lt_of_le (h5 x hx) hB.size⟩, Only.of_below hB⟩
/-- PutRecord, of whatever record -/
theorem p_putrec (K : List Int) (q : HvP) (n k : Nat) (A : Bool) (C Kp : List (List UInt8)) (S : List Nat) (r : RecD) (w : World) (h : PBox K w q n (k + 1) A C Kp S) (hL : Laid K w) (h0 : 0 ∉ S) (hn : n ≤ 128) (hlt : C.length < n) (hf : r.Fit) :
    Calls Tryd.prog 31 #[.pointer (some ⟨q.p, 0, none⟩), .agg r.row] w fun x w' => ∃ er : Int, x = .returned (.int .i64 er) ∧
      ((er = 1 ∧ isRecS r = false ∧ PBox K w' q n k A C Kp S ∧ Only S w w') ∨
      (isRecS r = true ∧ (∃ row ∈ C, rowS K row = some (false, r.key, row) ∧ er = (if row = recRowS r then 0 else 21)) ∧ PBox K w' q n k A C Kp S ∧ Only S w w') ∨
      (isRecS r = true ∧ (∀ row ∈ C, rowS K row ≠ some (false, r.key, row)) ∧ PPutPost K q n k A C Kp (recRowS r) S w er w')) := by
  obtain ⟨d, h1, h2, h3, h4, h5⟩ := h
  have h0o : 0 ∉ q.own d.L := fun h => h0 (h4 0 h)
  have hCl : C.length = d.L.length := by rw [← h3]; unfold rowsOf; rw [List.length_map]
  cases hi : isRecS r with
  | true =>
    by_cases hex : ∃ e ∈ d.L, (e.isB, e.id) = (false, r.key)
    · obtain ⟨e, he, hnm⟩ := hex
      obtain ⟨e1, e2⟩ := Prod.mk.inj hnm
      obtain ⟨j, hj⟩ := List.mem_iff_getElem?.1 he
      have hmem : e.row ∈ C := by rw [← h3]; exact List.mem_map.2 ⟨e, he, rfl⟩
      have hrs : rowS K e.row = some (false, r.key, e.row) := by rw [(h2.ents e he).1, e1, e2]
      by_cases hrow : e.row = recRowS r
      · refine (grp_again K q d j e r w h1 hL h2.ready hf hi hj e1 e2 hrow (by have := h2.clk; omega)).mono ?_
        rintro x w' ⟨rfl, ha, hO⟩
        exact ⟨0, rfl, .inr (.inl ⟨rfl, ⟨e.row, hmem, hrs, by rw [if_pos hrow]⟩, ⟨_, ha, p_use h2 hj, (rows_use hj _).trans h3, fun x hx => by rw [own_use hj] at hx; exact h4 x hx, fun x hx => Nat.lt_of_lt_of_le (h5 x hx) hO.size⟩, hO.mono h4⟩)⟩
      · refine (grp_other K q d j e r w h1 hL h2.ready hf hi hj e1 e2 hrow).mono ?_
        rintro x w' ⟨rfl, hB⟩
        exact ⟨21, rfl, .inr (.inl ⟨rfl, ⟨e.row, hmem, hrs, by rw [if_neg hrow]⟩, ⟨d, h1.below hB, h2.less (Nat.le_succ k), h3, h4, fun x hx => Nat.lt_of_lt_of_le (h5 x hx) hB.size⟩, Only.of_below hB⟩)⟩
    · have hne : ∀ e ∈ d.L, (e.isB, e.id) ≠ (false, r.key) := fun e he h => hex ⟨e, he, h⟩
      refine (grp_new K q d r (PPut K d n k A Kp (recRowS r)) w h1 hL h0o h2.ready hf hi hne (fun W hW hLW => p_put K q d n k A Kp false r.key (recRowS r) W hW h2 hLW h0o hn (by omega) hf.k (by have := recRow_len hf; omega) (rowS_of_rec K r hf hi) hne)).mono ?_
      rintro x w' ⟨er, d', rfl, hg, ha, hO, hx⟩
      refine ⟨er, rfl, .inr (.inr ⟨rfl, fun row hr h6 => ?_, pput_of h3 h4 h5 hg ha hO hx⟩)⟩
      rw [← h3] at hr
      obtain ⟨e, he, rfl⟩ := List.mem_map.1 hr
      rw [(h2.ents e he).1] at h6
      simp only [Option.some.injEq, Prod.mk.injEq, and_true] at h6
      exact hne e he (by rw [h6.1, h6.2])
  | false =>
    refine (grp_bad K q d r w h1 hL h2.ready hf hi).mono ?_
    rintro x w' ⟨rfl, hB⟩
    exact ⟨1, rfl, .inl ⟨rfl, rfl, ⟨d, h1.below hB, h2.less (Nat.le_succ k), h3, h4, fun x hx => Nat.lt_of_lt_of_le (h5 x hx) hB.size⟩, Only.of_below hB⟩⟩
end Go.Proofs.YteihfoacdocgkaaDoor

set_option linter.unusedVariables false
set_option linter.unusedSimpArgs false
namespace Go.Proofs.YteihfoacdocgkaaDoor
open Go.RowKit Pl Sh

theorem dst_off {K : List Int} {s : St} {n k : Nat} {C Kp : List (List UInt8)} (h : DSt K s n k C Kp) : DSt K (St.off s) n k C Kp ∧ (St.off s).pw.down = true := by
  unfold St.off
  by_cases hd : s.pw.down = true
  · have : s.pw.off = s.pw := by unfold Pw.off; rw [if_pos hd]
    rw [this]
    exact ⟨h, hd⟩
  · have ho : s.pw.off = { s.pw with down := true, armed := 0, life := s.pw.life + 1 } := by unfold Pw.off; rw [if_neg hd]
    rw [ho]
    have hl := h.life
    rw [if_neg hd] at hl
    exact ⟨⟨h.len, h.acts, h.room, by show s.pw.life + 1 + k + (if true = true then 0 else 1) ≤ 50000; rw [if_pos rfl]; omega, fun _ => rfl, by show (0 : Nat) ≤ 1000; omega, h.small, h.rows, h.slots⟩, rfl⟩
/-- a shelf that is off -/
def DOff (K : List Int) (w : World) (b g n k : Nat) (C Kp : List (List UInt8)) : Prop := ∃ s, ShAt w b g s ∧ DSt K s n k C Kp ∧ s.pw.down = true
theorem d_off {K : List Int} {w : World} {b g n k : Nat} {C Kp : List (List UInt8)} (h : DShelf K w b g n k C Kp) :
    Calls Tryd.prog 33 #[.pointer (some ⟨b, 0, none⟩)] w fun r w' => r = .returned (.tuple #[]) ∧ DOff K w' b g n k C Kp ∧ Only [b, g] w w' := by
  obtain ⟨s, h1, h2⟩ := h
  refine (offd_any b g s w h1 ⟨by have := h2.acts; omega, by have := h2.armed; omega, by have := h2.life; omega⟩).mono ?_
  rintro r w' ⟨rfl, ha, hO⟩
  exact ⟨rfl, ⟨_, ha, dst_off h2⟩, hO⟩
/-- a shelf that is on again -/
structure BSt2 (K : List Int) (s : St) (n k : Nat) (C Kp : List (List UInt8)) : Prop where
  works : Works s n (900000 - 3 * k)
  room : 3 * k ≤ 900000
  life : s.pw.life + k ≤ 50000
  small : St.small s
  rows : RowsOk K C
  slots : ∃ T : List RowAt, T.map (·.2) = C ∧ (T.map (·.1)).Nodup ∧ (∀ p ∈ T, p.1 < n) ∧ SlotsBack K s.slots T Kp
def DOn (K : List Int) (w : World) (b g n k : Nat) (C Kp : List (List UInt8)) : Prop := ∃ s, ShAt w b g s ∧ BSt2 K s n k C Kp
theorem d_on {K : List Int} {w : World} {b g n k : Nat} {C Kp : List (List UInt8)} (h : DOff K w b g n k C Kp) (A : Option Addr) (cap : Nat) (fs : List Int) (hF : Fts w [b, g] A fs) (hfs : ∀ f ∈ fs, -9223372036854775808 ≤ f ∧ f ≤ 9223372036854775807) (hfl : fs.length ≤ maxLen) :
    Calls Tryd.prog 34 #[.pointer (some ⟨b, 0, none⟩), .slice A fs.length cap] w fun r w' => r = .returned (.tuple #[]) ∧ DOn K w' b g n k C Kp ∧ Only [b, g] w w' := by
  obtain ⟨s, h1, h2, h3⟩ := h
  refine (on_any b g s A cap fs w h1 hF hfs hfl h2.small).mono ?_
  rintro r w' ⟨rfl, ha, hO⟩
  have hsm := small_on h2.small fs
  have hl := h2.life
  rw [if_pos h3] at hl
  have he : St.on s fs = { pw := { s.pw with down := false }, slots := (onl s.slots (fateList fs) s.slots.length).map sure1 } := by unfold St.on; rw [if_pos h3]
  obtain ⟨T, t1, t2, t3, t4⟩ := h2.slots
  refine ⟨rfl, ⟨_, ha, ⟨?_, h2.room, by rw [he]; show s.pw.life + k ≤ 50000; omega, hsm, h2.rows, T, t1, t2, t3, by rw [he]; exact slots_on t4 _ _⟩⟩, hO⟩
  rw [he]
  exact ⟨rfl, h2.off h3, h2.acts, by show s.pw.life < 100000; omega, by show ((onl _ _ _).map sure1).length = n; rw [List.length_map, onl_length]; exact h2.len⟩

/-- what load reads of slots no two of which are of one name -/
structure LdOk (s0 : St) (RD : RdF) (n k : Nat) : Prop where
  sub : ∀ e ∈ (ldS s0 RD k).2.1, e.2.2.1 < k ∧ RD (St.read s0 e.2.2.1) = some (e.1, e.2.1, e.2.2.2.2)
  all : ∀ (i : Nat) b id r, i < k → RD (St.read s0 i) = some (b, id, r) → ∃ e ∈ (ldS s0 RD k).2.1, e.2.2.1 = i ∧ e.1 = b ∧ e.2.1 = id ∧ e.2.2.2.2 = r
  slots : ∀ (i : Nat) (x : Slot), s0.slots[i]? = some x → ∃ y, (ldS s0 RD k).1.slots[i]? = some y ∧ y.now = (if i < k ∧ RD (St.read s0 i) = none then [] else x.now) ∧ ((ldS s0 RD k).2.2 = false → y = x)
theorem read_slot {s : St} {n a : Nat} (h : Works s n a) {i : Nat} {x : Slot} (hx : s.slots[i]? = some x) : St.read s i = x.now := by
  have hi := (List.getElem?_eq_some_iff.1 hx).1
  unfold St.read
  rw [if_neg (by unfold St.atErr; rw [if_neg (by simp [h.down]), if_neg (by omega)]; simp), Int.toNat_natCast, hx]
  rfl
theorem write_slot {s : St} {n a : Nat} (h : Works s n a) {k : Nat} (hk : k < n) (i : Nat) (x : Slot) (hx : s.slots[i]? = some x) : (St.write s k []).slots[i]? = some (if i = k then { x with now := [], opn := true } else x) := by
  obtain ⟨hs, -⟩ := alive_write (A := false) (t := []) h.alive hk (by decide)
  rw [hs]
  have hk2 : k < s.slots.length := by rw [h.len]; exact hk
  rw [setNow_get [] (List.getElem?_eq_getElem hk2)]
  by_cases e : i = k
  · subst e
    rw [if_pos rfl, if_pos rfl]
    rw [List.getElem?_eq_getElem hk2] at hx
    rw [Option.some.inj hx]
  · rw [if_neg e, if_neg e]; exact hx
theorem ld_ok {s0 : St} {RD : RdF} {n a : Nat} (h : Works s0 n a) (hd : ∀ (i j : Nat) b id r r', i < n → j < n → i ≠ j → RD (St.read s0 i) = some (b, id, r) → RD (St.read s0 j) ≠ some (b, id, r')) : ∀ k, k ≤ n → LdOk s0 RD n k
  | 0, _ => ⟨fun e he => by simp [ldS] at he, fun i _ _ _ hi => by omega, fun i x hx => ⟨x, hx, by rw [if_neg (by omega)], fun _ => rfl⟩⟩
  | k + 1, hk => by
    have ih := ld_ok h hd k (by omega)
    have hw := (ldS_works (RD := RD) h k (by omega)).1
    have wipe : ∀ (i : Nat) (x : Slot), s0.slots[i]? = some x → RD (St.read s0 k) = none → ∃ y, (St.write (ldS s0 RD k).1 k []).slots[i]? = some y ∧ y.now = (if i < k + 1 ∧ RD (St.read s0 i) = none then [] else x.now) := by
      intro i x hx hn
      obtain ⟨y, y1, y2, -⟩ := ih.slots i x hx
      refine ⟨_, write_slot hw (by omega) i y y1, ?_⟩
      by_cases e : i = k
      · subst e
        rw [if_pos rfl, if_pos ⟨by omega, hn⟩]
      · rw [if_neg e, y2]
        by_cases h1 : i < k ∧ RD (St.read s0 i) = none
        · rw [if_pos h1, if_pos ⟨by omega, h1.2⟩]
        · rw [if_neg h1, if_neg (fun h2 => h1 ⟨by omega, h2.2⟩)]
    cases hr : RD (St.read s0 k) with
    | some p =>
      obtain ⟨b, id, r⟩ := p
      have hno : ¬ ((ldS s0 RD k).2.1.any (fun e => e.1 == b && e.2.1 == id)) = true := fun hany => by
        obtain ⟨e, he, h1⟩ := List.any_eq_true.1 hany
        simp only [Bool.and_eq_true, beq_iff_eq] at h1
        obtain ⟨g1, g2⟩ := ih.sub e he
        rw [h1.1, h1.2] at g2
        exact hd e.2.2.1 k b id _ r (by omega) (by omega) (by omega) g2 hr
      have e1 : ldS s0 RD (k + 1) = ((ldS s0 RD k).1, (ldS s0 RD k).2.1 ++ [(b, id, k, (((ldS s0 RD k).2.1.length + 1 : Nat) : Int), r)], (ldS s0 RD k).2.2) := by
        show (match RD (St.read s0 k) with | some (b, i, r) => _ | none => _) = _
        rw [hr]
        exact if_neg hno
      refine ⟨fun e he => ?_, fun i b' id' r' hi hr' => ?_, fun i x hx => ?_⟩
      · rw [e1] at he
        rcases List.mem_append.1 he with he | he
        · obtain ⟨g1, g2⟩ := ih.sub e he
          exact ⟨by omega, g2⟩
        · simp only [List.mem_singleton] at he
          subst he
          exact ⟨by show k < k + 1; omega, hr⟩
      · rw [e1]
        by_cases e : i = k
        · subst e
          rw [hr] at hr'
          simp only [Option.some.injEq, Prod.mk.injEq] at hr'
          obtain ⟨rfl, rfl, rfl⟩ := hr'
          exact ⟨(b, id, i, (((ldS s0 RD i).2.1.length + 1 : Nat) : Int), r), List.mem_append_right _ (List.mem_singleton.2 rfl), rfl, rfl, rfl, rfl⟩
        · obtain ⟨e', g1, g2⟩ := ih.all i b' id' r' (by omega) hr'
          exact ⟨e', List.mem_append_left _ g1, g2⟩
      · rw [e1]
        obtain ⟨y, y1, y2, y3⟩ := ih.slots i x hx
        refine ⟨y, y1, ?_, y3⟩
        rw [y2]
        by_cases h1 : i < k ∧ RD (St.read s0 i) = none
        · rw [if_pos h1, if_pos ⟨by omega, h1.2⟩]
        · rw [if_neg h1, if_neg]
          rintro ⟨h2, h3⟩
          by_cases e : i = k
          · subst e; rw [hr] at h3; cases h3
          · exact h1 ⟨by omega, h3⟩
    | none =>
      have hsub : ∀ e ∈ (ldS s0 RD k).2.1, e.2.2.1 < k + 1 ∧ RD (St.read s0 e.2.2.1) = some (e.1, e.2.1, e.2.2.2.2) := fun e he => ⟨by have := (ih.sub e he).1; omega, (ih.sub e he).2⟩
      have hall : ∀ (i : Nat) b id r, i < k + 1 → RD (St.read s0 i) = some (b, id, r) → ∃ e ∈ (ldS s0 RD k).2.1, e.2.2.1 = i ∧ e.1 = b ∧ e.2.1 = id ∧ e.2.2.2.2 = r := fun i b id r hi hr' => by
        by_cases e : i = k
        · subst e; rw [hr] at hr'; cases hr'
        · exact ih.all i b id r (by omega) hr'
      by_cases hz : St.read s0 k = []
      · have e1 : ldS s0 RD (k + 1) = ldS s0 RD k := by
          show (match RD (St.read s0 k) with | some (b, i, r) => _ | none => _) = _
          rw [hr]
          exact if_pos hz
        refine ⟨by rw [e1]; exact hsub, by rw [e1]; exact hall, fun i x hx => ?_⟩
        rw [e1]
        obtain ⟨y, y1, y2, y3⟩ := ih.slots i x hx
        refine ⟨y, y1, ?_, y3⟩
        rw [y2]
        by_cases h1 : i < k ∧ RD (St.read s0 i) = none
        · rw [if_pos h1, if_pos ⟨by omega, h1.2⟩]
        · rw [if_neg h1]
          by_cases h2 : i < k + 1 ∧ RD (St.read s0 i) = none
          · have e : i = k := by
              refine Classical.byContradiction fun e => h1 ⟨by omega, h2.2⟩
            subst e
            rw [if_pos h2, ← read_slot h hx, hz]
          · rw [if_neg h2]
      · have e1 : ldS s0 RD (k + 1) = (St.write (ldS s0 RD k).1 k [], (ldS s0 RD k).2.1, true) := by
          show (match RD (St.read s0 k) with | some (b, i, r) => _ | none => _) = _
          rw [hr]
          exact if_neg hz
        refine ⟨by rw [e1]; exact hsub, by rw [e1]; exact hall, fun i x hx => ?_⟩
        rw [e1]
        obtain ⟨y, y1, y2⟩ := wipe i x hx hr
        exact ⟨y, y1, y2, fun e => by cases e⟩
/-- what stands in slots, read -/
theorem back_read {K : List Int} {ss : List Slot} {T : List RowAt} {C Kp : List (List UInt8)} {i : Nat} {x : Slot} (hb : SlotsBack K ss T Kp) (hC : RowsOk K C) (ht : T.map (·.2) = C) (hn : (T.map (·.1)).Nodup) (hx : ss[i]? = some x) :
    (∃ p ∈ T, p.1 = i ∧ x.now = textS K p.2 ∧ ∃ b id, rdS K x.now = some (b, id, p.2)) ∨ rdS K x.now = none ∧ ∀ p ∈ T, p.1 = i → p.2 ∉ Kp := by
  obtain ⟨-, h⟩ := hb i x hx
  rcases h with ⟨p, hp, rfl, j, e1, e2⟩ | ⟨h1, h2⟩
  · obtain ⟨b, id, hr, hl⟩ := hC.row p.2 (by rw [← ht]; exact List.mem_map.2 ⟨p, hp, rfl⟩)
    by_cases hj : (textS K p.2).length ≤ j
    · rw [List.take_of_length_le hj] at e1
      exact .inl ⟨p, hp, rfl, e1, b, id, by rw [e1]; exact rdS_text hr⟩
    · by_cases hk : p.2 ∈ Kp
      · exact absurd (e2 hk) hj
      · refine .inr ⟨by rw [e1]; exact rdS_torn hr (by omega) j (by omega), fun p' hp' e => ?_⟩
        have hpw : T.Pairwise (fun x y : RowAt => x.1 ≠ y.1) := List.pairwise_map.1 hn
        rw [pw_eq (fun x : RowAt => x.1) hpw hp' hp e]; exact hk
  · exact .inr ⟨by rw [h2]; exact rdS_nil K, fun p hp e => absurd e (h1 p hp)⟩
theorem pw_sym {α : Type} {R : α → α → Prop} (hs : ∀ x y, R x y → R y x) : ∀ {L : List α}, L.Pairwise R → ∀ x ∈ L, ∀ y ∈ L, x ≠ y → R x y
  | [], _, x, hx, _, _, _ => by cases hx
  | a :: L, hp, x, hx, y, hy, hne => by
    obtain ⟨h1, h2⟩ := List.pairwise_cons.1 hp
    rcases List.mem_cons.1 hx with ex | hx
    · rcases List.mem_cons.1 hy with ey | hy
      · exact absurd (ex.trans ey.symm) hne
      · rw [ex]; exact h1 y hy
    · rcases List.mem_cons.1 hy with ey | hy
      · rw [ey]; exact hs _ _ (h1 x hx)
      · exact pw_sym hs h2 x hx y hy hne
/-- Open again -/
theorem d_open (K : List Int) (w : World) (b g n k : Nat) (A : Bool) (C Kp : List (List UInt8)) (h : DOn K w b g n (k + 200) C Kp) (hL : Laid K w) (h0 : 0 ≠ b ∧ 0 ≠ g) (hn : n ≤ 128) :
    Calls Tryd.prog 19 #[.pointer (some ⟨b, 0, none⟩)] w fun e w' => ∃ (q : HvP) (S : List Nat) (C' : List (List UInt8)), q.b = b ∧ q.g = g ∧ e = .returned (.tuple #[.pointer (some ⟨q.p, 0, none⟩), .int .i64 0]) ∧ PBox K w' q n k A C' C' S ∧ (∀ r ∈ C', r ∈ C) ∧ (∀ r ∈ C, r ∈ Kp → r ∈ C') ∧ (∀ x ∈ S, x = b ∨ x = g ∨ w.heap.size ≤ x) ∧ Only [b, g] w w' := by
  obtain ⟨s, hsh, hb⟩ := h
  obtain ⟨T, t1, t2, t3, t4⟩ := hb.slots
  have hw := hb.works
  have hroom := hb.room
  have hsm := hb.small
  have htl : ∀ i, i < n → (St.read s i).length ≤ 1000 := fun i _ => by have := read_small hsm i; omega
  have hlen := hw.len
  have hpw : T.Pairwise (fun x y : RowAt => x.1 ≠ y.1) := List.pairwise_map.1 t2
  have hget : ∀ i, i < n → ∃ x, s.slots[i]? = some x ∧ St.read s i = x.now := fun i hi => by
    have hi2 : i < s.slots.length := by omega
    exact ⟨_, List.getElem?_eq_getElem hi2, read_slot hw (List.getElem?_eq_getElem hi2)⟩
  -- what is read at a slot
  have hrd : ∀ i, i < n → ∀ b' id r, rdS K (St.read s i) = some (b', id, r) → ∃ p ∈ T, p.1 = i ∧ p.2 = r ∧ St.read s i = textS K r ∧ rowS K r = some (b', id, r) := fun i hi b' id r hr => by
    obtain ⟨x, x1, x2⟩ := hget i hi
    rw [x2] at hr ⊢
    rcases back_read t4 hb.rows t1 t2 x1 with ⟨p, hp, e1, e2, b2, id2, e3⟩ | ⟨e1, -⟩
    · rw [hr] at e3
      simp only [Option.some.injEq, Prod.mk.injEq] at e3
      obtain ⟨rfl, rfl, rfl⟩ := e3
      exact ⟨p, hp, e1, rfl, e2, (rdS_some hr).2.2.2⟩
    · rw [e1] at hr; cases hr
  have hd : ∀ (i j : Nat) b' id r r', i < n → j < n → i ≠ j → rdS K (St.read s i) = some (b', id, r) → rdS K (St.read s j) ≠ some (b', id, r') := fun i j b' id r r' hi hj hij h1 h2 => by
    obtain ⟨p, hp, e1, e2, -, e3⟩ := hrd i hi b' id r h1
    obtain ⟨p', hp', e1', e2', -, e3'⟩ := hrd j hj b' id r' h2
    have hne : p ≠ p' := fun e => hij (by rw [← e1, ← e1', e])
    have hpw2 : T.Pairwise (fun x y : RowAt => (∀ b id, rowS K x.2 = some (b, id, x.2) → rowS K y.2 ≠ some (b, id, y.2))) := by
      have := hb.rows.names
      rw [← t1, List.pairwise_map] at this
      exact this
    have := pw_sym (fun x y h b id h1 h2 => h b id h2 h1) hpw2 p hp p' hp' hne
    exact this b' id (by rw [e2]; exact e3) (by rw [e2']; exact e3')
  have hld := ld_ok (RD := rdS K) hw hd n (Nat.le_refl _)
  refine (open_gen K (rdS K) n b g s w hsh hL h0 (hw.more (by omega)) hn (fun i hi W hW => hread_any K _ W hW (htl i hi)) (fun i hi b' id r hh => ?_)).mono ?_
  · obtain ⟨e1, e2, e3, -⟩ := rdS_some hh
    refine ⟨e2, ?_, e3⟩
    have := htl i hi
    rw [e1, List.length_drop]; omega
  · rintro e w' ⟨q, L, hqb, hqg, rfl, hLe, hat, hx, hO⟩
    obtain ⟨i1, i2, i3⟩ := ldS_inv K s n
    have he := ldEnd_works (RD := rdS K) hw
    rw [← hLe] at i1 i2 i3
    rw [List.pairwise_map] at i2 i3
    have hwk := ldS_works (RD := rdS K) hw n (Nat.le_refl _)
    have hlenL : L.length ≤ n := by have := hwk.2.2.1; rw [← hLe, List.length_map] at this; exact this
    have hsub : ∀ x ∈ L, x.at_ < n ∧ rdS K (St.read s x.at_) = some (x.isB, x.id, x.row) := fun x hm => by
      have := hld.sub (e5 x) (by rw [← hLe]; exact List.mem_map.2 ⟨x, hm, rfl⟩)
      exact this
    have hall : ∀ (i : Nat) b' id r, i < n → rdS K (St.read s i) = some (b', id, r) → ∃ x ∈ L, x.at_ = i ∧ x.row = r := fun i b' id r hi hr => by
      obtain ⟨e, he, e1, e2, e3, e4⟩ := hld.all i b' id r hi hr
      rw [← hLe] at he
      obtain ⟨x, hx, rfl⟩ := List.mem_map.1 he
      exact ⟨x, hx, e1, e4⟩
    -- the slots at the end
    have hend : ∀ (i : Nat) (y : Slot), (ldEnd s (rdS K) n).slots[i]? = some y → y.sure = y.now ∧ ∃ x, s.slots[i]? = some x ∧ y.now = (if i < n ∧ rdS K (St.read s i) = none then [] else x.now) := fun i y hy => by
      have hlen2 : (ldEnd s (rdS K) n).slots.length = n := he.1.len
      have hi : i < n := by have := (List.getElem?_eq_some_iff.1 hy).1; omega
      obtain ⟨x, x1, x2⟩ := hget i hi
      obtain ⟨z, z1, z2, z3⟩ := hld.slots i x x1
      unfold ldEnd at hy
      split at hy
      · rcases alive_sync (A := false) hwk.1.alive with ⟨-, e2, -⟩ | ⟨e2, -⟩
        · rw [e2, List.getElem?_map, z1] at hy
          obtain rfl := Option.some.inj hy
          exact ⟨rfl, x, x1, z2⟩
        · cases e2
      · rename_i hwp
        rw [z1] at hy
        obtain rfl := Option.some.inj hy
        obtain rfl := z3 (by simpa using hwp)
        exact ⟨(t4 i z x1).1, z, x1, z2⟩
    have hslots : SlotsAre K (ldEnd s (rdS K) n).slots (rowsAt L) (rowsOf L) := by
      refine ⟨fun p hp => ?_, fun i y hy hno => ?_⟩
      · obtain ⟨x, hx, rfl⟩ := List.mem_map.1 hp
        obtain ⟨h1, h2⟩ := hsub x hx
        obtain ⟨p, hp, e1, e2, e3, -⟩ := hrd x.at_ h1 _ _ _ h2
        have hl2 : x.at_ < (ldEnd s (rdS K) n).slots.length := by rw [he.1.len]; exact h1
        obtain ⟨g1, z, g2, g3⟩ := hend x.at_ _ (List.getElem?_eq_getElem hl2)
        refine ⟨_, List.getElem?_eq_getElem hl2, ?_, .inl g1⟩
        rw [g3, if_neg (by rw [h2]; rintro ⟨-, h⟩; cases h), ← read_slot hw g2]
        exact e3
      · obtain ⟨g1, x, g2, g3⟩ := hend i y hy
        have hi : i < n := by have := (List.getElem?_eq_some_iff.1 hy).1; rw [he.1.len] at this; exact this
        have hnone : rdS K (St.read s i) = none := by
          cases hr : rdS K (St.read s i) with
          | none => rfl
          | some p =>
            obtain ⟨b', id, r⟩ := p
            obtain ⟨x, hx, e1, -⟩ := hall i b' id r hi hr
            exact absurd e1 (hno (x.at_, x.row) (List.mem_map.2 ⟨x, hx, rfl⟩))
        rw [if_pos ⟨hi, hnone⟩] at g3
        exact ⟨g3, by rw [g1]; exact g3⟩
    have hrow : ∀ x ∈ L, ∃ p ∈ T, p.1 = x.at_ ∧ p.2 = x.row ∧ rowS K x.row = some (x.isB, x.id, x.row) := fun x hx => by
      obtain ⟨h1, h2⟩ := hsub x hx
      obtain ⟨p, hp, e1, e2, -, e3⟩ := hrd x.at_ h1 _ _ _ h2
      exact ⟨p, hp, e1, e2, e3⟩
    have hinC : ∀ r ∈ rowsOf L, r ∈ C := fun r hr => by
      obtain ⟨x, hx, rfl⟩ := List.mem_map.1 hr
      obtain ⟨p, hp, -, e2, -⟩ := hrow x hx
      rw [← t1]; exact List.mem_map.2 ⟨p, hp, e2⟩
    refine ⟨q, q.own L, rowsOf L, hqb, hqg, rfl, ⟨_, hat, ⟨(he.1.more (a' := 900000 - 3 * k) (by omega)).alive, by omega, rfl, by show ((ldEnd s (rdS K) n).pw.life : Int) = (s.pw.life : Int); rw [he.2], by show L.length + k < 900000; omega, by have := hb.life; show (s.pw.life : Int) + (k : Int) < 50000; omega, fun x hm => ?_, i2, ldEnd_small hsm n, hslots, fun r hr => ?_⟩, rfl, fun x hx => hx, fun x hx => hat.lt x hx⟩, hinC, fun r hr hk => ?_, hx, hO⟩
    · obtain ⟨p, hp, -, -, e3⟩ := hrow x hm
      obtain ⟨_, _, _, h600⟩ := hb.rows.row x.row (hinC _ (List.mem_map.2 ⟨x, hm, rfl⟩))
      exact ⟨e3, (hsub x hm).1, h600⟩
    · obtain ⟨x, hx, e1⟩ := List.mem_map.1 hr
      exact ⟨x, hx, e1⟩
    · rw [← t1] at hr
      obtain ⟨p, hp, rfl⟩ := List.mem_map.1 hr
      obtain ⟨x, x1, x2⟩ := hget p.1 (t3 p hp)
      rcases back_read t4 hb.rows t1 t2 x1 with ⟨p', hp', e1, e2, b2, id2, e3⟩ | ⟨-, e1⟩
      · obtain rfl := pw_eq (fun x : RowAt => x.1) hpw hp' hp e1
        rw [← x2] at e3
        obtain ⟨y, hy, e4, e5⟩ := hall p'.1 b2 id2 p'.2 (t3 _ hp) e3
        exact List.mem_map.2 ⟨y, hy, e5⟩
      · exact absurd hk (e1 p hp rfl)
end Go.Proofs.YteihfoacdocgkaaDoor
