/-
  Layer 5: a shelf whose power went and is back, opened again: each row that was sure is there, and nothing that was not put.
-/
import Derived.Test.YteihfoacdocgkaaDoorHyC
set_option linter.unusedVariables false
set_option linter.unusedSimpArgs false
namespace Go.Proofs.YteihfoacdocgkaaDoor
open Go.RowKit Pl Sh

theorem dst_off {K : List Int} {s : St} {n k : Nat} {C Kp : List (List UInt8)} (h : DSt K s n k C Kp) : DSt K (St.off s) n k C Kp ∧ (St.off s).pw.down = true := by
  unfold St.off
  by_cases hd : s.pw.down = true
  · have : s.pw.off = s.pw := by unfold Pw.off; rw [if_pos hd]
    rw [this]
    exact ⟨h, hd⟩
  · have ho : s.pw.off = { s.pw with down := true, armed := 0, life := s.pw.life + 1 } := by unfold Pw.off; rw [if_neg hd]
    rw [ho]
    have hl := h.life
    rw [if_neg hd] at hl
    exact ⟨⟨h.len, h.acts, h.room, by show s.pw.life + 1 + k + (if true = true then 0 else 1) ≤ 50000; rw [if_pos rfl]; omega, fun _ => rfl, by show (0 : Nat) ≤ 1000; omega, h.small, h.rows, h.slots⟩, rfl⟩
/-- a shelf that is off -/
def DOff (K : List Int) (w : World) (b g n k : Nat) (C Kp : List (List UInt8)) : Prop := ∃ s, ShAt w b g s ∧ DSt K s n k C Kp ∧ s.pw.down = true
theorem d_off {K : List Int} {w : World} {b g n k : Nat} {C Kp : List (List UInt8)} (h : DShelf K w b g n k C Kp) :
    Calls Tryd.prog 33 #[.pointer (some ⟨b, 0, none⟩)] w fun r w' => r = .returned (.tuple #[]) ∧ DOff K w' b g n k C Kp ∧ Only [b, g] w w' := by
  obtain ⟨s, h1, h2⟩ := h
  refine (offd_any b g s w h1 ⟨by have := h2.acts; omega, by have := h2.armed; omega, by have := h2.life; omega⟩).mono ?_
  rintro r w' ⟨rfl, ha, hO⟩
  exact ⟨rfl, ⟨_, ha, dst_off h2⟩, hO⟩
/-- a shelf that is on again -/
structure BSt2 (K : List Int) (s : St) (n k : Nat) (C Kp : List (List UInt8)) : Prop where
  works : Works s n (900000 - 3 * k)
  room : 3 * k ≤ 900000
  life : s.pw.life + k ≤ 50000
  small : St.small s
  rows : RowsOk K C
  slots : ∃ T : List RowAt, T.map (·.2) = C ∧ (T.map (·.1)).Nodup ∧ (∀ p ∈ T, p.1 < n) ∧ SlotsBack K s.slots T Kp
def DOn (K : List Int) (w : World) (b g n k : Nat) (C Kp : List (List UInt8)) : Prop := ∃ s, ShAt w b g s ∧ BSt2 K s n k C Kp
theorem d_on {K : List Int} {w : World} {b g n k : Nat} {C Kp : List (List UInt8)} (h : DOff K w b g n k C Kp) (A : Option Addr) (cap : Nat) (fs : List Int) (hF : Fts w [b, g] A fs) (hfs : ∀ f ∈ fs, -9223372036854775808 ≤ f ∧ f ≤ 9223372036854775807) (hfl : fs.length ≤ maxLen) :
    Calls Tryd.prog 34 #[.pointer (some ⟨b, 0, none⟩), .slice A fs.length cap] w fun r w' => r = .returned (.tuple #[]) ∧ DOn K w' b g n k C Kp ∧ Only [b, g] w w' := by
  obtain ⟨s, h1, h2, h3⟩ := h
  refine (on_any b g s A cap fs w h1 hF hfs hfl h2.small).mono ?_
  rintro r w' ⟨rfl, ha, hO⟩
  have hsm := small_on h2.small fs
  have hl := h2.life
  rw [if_pos h3] at hl
  have he : St.on s fs = { pw := { s.pw with down := false }, slots := (onl s.slots (fateList fs) s.slots.length).map sure1 } := by unfold St.on; rw [if_pos h3]
  obtain ⟨T, t1, t2, t3, t4⟩ := h2.slots
  refine ⟨rfl, ⟨_, ha, ⟨?_, h2.room, by rw [he]; show s.pw.life + k ≤ 50000; omega, hsm, h2.rows, T, t1, t2, t3, by rw [he]; exact slots_on t4 _ _⟩⟩, hO⟩
  rw [he]
  exact ⟨rfl, h2.off h3, h2.acts, by show s.pw.life < 100000; omega, by show ((onl _ _ _).map sure1).length = n; rw [List.length_map, onl_length]; exact h2.len⟩

/-- what load reads of slots no two of which are of one name -/
structure LdOk (s0 : St) (RD : RdF) (n k : Nat) : Prop where
  sub : ∀ e ∈ (ldS s0 RD k).2.1, e.2.2.1 < k ∧ RD (St.read s0 e.2.2.1) = some (e.1, e.2.1, e.2.2.2.2)
  all : ∀ (i : Nat) b id r, i < k → RD (St.read s0 i) = some (b, id, r) → ∃ e ∈ (ldS s0 RD k).2.1, e.2.2.1 = i ∧ e.1 = b ∧ e.2.1 = id ∧ e.2.2.2.2 = r
  slots : ∀ (i : Nat) (x : Slot), s0.slots[i]? = some x → ∃ y, (ldS s0 RD k).1.slots[i]? = some y ∧ y.now = (if i < k ∧ RD (St.read s0 i) = none then [] else x.now) ∧ ((ldS s0 RD k).2.2 = false → y = x)
theorem read_slot {s : St} {n a : Nat} (h : Works s n a) {i : Nat} {x : Slot} (hx : s.slots[i]? = some x) : St.read s i = x.now := by
  have hi := (List.getElem?_eq_some_iff.1 hx).1
  unfold St.read
  rw [if_neg (by unfold St.atErr; rw [if_neg (by simp [h.down]), if_neg (by omega)]; simp), Int.toNat_natCast, hx]
  rfl
theorem write_slot {s : St} {n a : Nat} (h : Works s n a) {k : Nat} (hk : k < n) (i : Nat) (x : Slot) (hx : s.slots[i]? = some x) : (St.write s k []).slots[i]? = some (if i = k then { x with now := [], opn := true } else x) := by
  obtain ⟨hs, -⟩ := alive_write (A := false) (t := []) h.alive hk (by decide)
  rw [hs]
  have hk2 : k < s.slots.length := by rw [h.len]; exact hk
  rw [setNow_get [] (List.getElem?_eq_getElem hk2)]
  by_cases e : i = k
  · subst e
    rw [if_pos rfl, if_pos rfl]
    rw [List.getElem?_eq_getElem hk2] at hx
    rw [Option.some.inj hx]
  · rw [if_neg e, if_neg e]; exact hx
theorem ld_ok {s0 : St} {RD : RdF} {n a : Nat} (h : Works s0 n a) (hd : ∀ (i j : Nat) b id r r', i < n → j < n → i ≠ j → RD (St.read s0 i) = some (b, id, r) → RD (St.read s0 j) ≠ some (b, id, r')) : ∀ k, k ≤ n → LdOk s0 RD n k
  | 0, _ => ⟨fun e he => by simp [ldS] at he, fun i _ _ _ hi => by omega, fun i x hx => ⟨x, hx, by rw [if_neg (by omega)], fun _ => rfl⟩⟩
  | k + 1, hk => by
    have ih := ld_ok h hd k (by omega)
    have hw := (ldS_works (RD := RD) h k (by omega)).1
    have wipe : ∀ (i : Nat) (x : Slot), s0.slots[i]? = some x → RD (St.read s0 k) = none → ∃ y, (St.write (ldS s0 RD k).1 k []).slots[i]? = some y ∧ y.now = (if i < k + 1 ∧ RD (St.read s0 i) = none then [] else x.now) := by
      intro i x hx hn
      obtain ⟨y, y1, y2, -⟩ := ih.slots i x hx
      refine ⟨_, write_slot hw (by omega) i y y1, ?_⟩
      by_cases e : i = k
      · subst e
        rw [if_pos rfl, if_pos ⟨by omega, hn⟩]
      · rw [if_neg e, y2]
        by_cases h1 : i < k ∧ RD (St.read s0 i) = none
        · rw [if_pos h1, if_pos ⟨by omega, h1.2⟩]
        · rw [if_neg h1, if_neg (fun h2 => h1 ⟨by omega, h2.2⟩)]
    cases hr : RD (St.read s0 k) with
    | some p =>
      obtain ⟨b, id, r⟩ := p
      have hno : ¬ ((ldS s0 RD k).2.1.any (fun e => e.1 == b && e.2.1 == id)) = true := fun hany => by
        obtain ⟨e, he, h1⟩ := List.any_eq_true.1 hany
        simp only [Bool.and_eq_true, beq_iff_eq] at h1
        obtain ⟨g1, g2⟩ := ih.sub e he
        rw [h1.1, h1.2] at g2
        exact hd e.2.2.1 k b id _ r (by omega) (by omega) (by omega) g2 hr
      have e1 : ldS s0 RD (k + 1) = ((ldS s0 RD k).1, (ldS s0 RD k).2.1 ++ [(b, id, k, (((ldS s0 RD k).2.1.length + 1 : Nat) : Int), r)], (ldS s0 RD k).2.2) := by
        show (match RD (St.read s0 k) with | some (b, i, r) => _ | none => _) = _
        rw [hr]
        exact if_neg hno
      refine ⟨fun e he => ?_, fun i b' id' r' hi hr' => ?_, fun i x hx => ?_⟩
      · rw [e1] at he
        rcases List.mem_append.1 he with he | he
        · obtain ⟨g1, g2⟩ := ih.sub e he
          exact ⟨by omega, g2⟩
        · simp only [List.mem_singleton] at he
          subst he
          exact ⟨by show k < k + 1; omega, hr⟩
      · rw [e1]
        by_cases e : i = k
        · subst e
          rw [hr] at hr'
          simp only [Option.some.injEq, Prod.mk.injEq] at hr'
          obtain ⟨rfl, rfl, rfl⟩ := hr'
          exact ⟨(b, id, i, (((ldS s0 RD i).2.1.length + 1 : Nat) : Int), r), List.mem_append_right _ (List.mem_singleton.2 rfl), rfl, rfl, rfl, rfl⟩
        · obtain ⟨e', g1, g2⟩ := ih.all i b' id' r' (by omega) hr'
          exact ⟨e', List.mem_append_left _ g1, g2⟩
      · rw [e1]
        obtain ⟨y, y1, y2, y3⟩ := ih.slots i x hx
        refine ⟨y, y1, ?_, y3⟩
        rw [y2]
        by_cases h1 : i < k ∧ RD (St.read s0 i) = none
        · rw [if_pos h1, if_pos ⟨by omega, h1.2⟩]
        · rw [if_neg h1, if_neg]
          rintro ⟨h2, h3⟩
          by_cases e : i = k
          · subst e; rw [hr] at h3; cases h3
          · exact h1 ⟨by omega, h3⟩
    | none =>
      have hsub : ∀ e ∈ (ldS s0 RD k).2.1, e.2.2.1 < k + 1 ∧ RD (St.read s0 e.2.2.1) = some (e.1, e.2.1, e.2.2.2.2) := fun e he => ⟨by have := (ih.sub e he).1; omega, (ih.sub e he).2⟩
      have hall : ∀ (i : Nat) b id r, i < k + 1 → RD (St.read s0 i) = some (b, id, r) → ∃ e ∈ (ldS s0 RD k).2.1, e.2.2.1 = i ∧ e.1 = b ∧ e.2.1 = id ∧ e.2.2.2.2 = r := fun i b id r hi hr' => by
        by_cases e : i = k
        · subst e; rw [hr] at hr'; cases hr'
        · exact ih.all i b id r (by omega) hr'
      by_cases hz : St.read s0 k = []
      · have e1 : ldS s0 RD (k + 1) = ldS s0 RD k := by
          show (match RD (St.read s0 k) with | some (b, i, r) => _ | none => _) = _
          rw [hr]
          exact if_pos hz
        refine ⟨by rw [e1]; exact hsub, by rw [e1]; exact hall, fun i x hx => ?_⟩
        rw [e1]
        obtain ⟨y, y1, y2, y3⟩ := ih.slots i x hx
        refine ⟨y, y1, ?_, y3⟩
        rw [y2]
        by_cases h1 : i < k ∧ RD (St.read s0 i) = none
        · rw [if_pos h1, if_pos ⟨by omega, h1.2⟩]
        · rw [if_neg h1]
          by_cases h2 : i < k + 1 ∧ RD (St.read s0 i) = none
          · have e : i = k := by
              refine Classical.byContradiction fun e => h1 ⟨by omega, h2.2⟩
            subst e
            rw [if_pos h2, ← read_slot h hx, hz]
          · rw [if_neg h2]
      · have e1 : ldS s0 RD (k + 1) = (St.write (ldS s0 RD k).1 k [], (ldS s0 RD k).2.1, true) := by
          show (match RD (St.read s0 k) with | some (b, i, r) => _ | none => _) = _
          rw [hr]
          exact if_neg hz
        refine ⟨by rw [e1]; exact hsub, by rw [e1]; exact hall, fun i x hx => ?_⟩
        rw [e1]
        obtain ⟨y, y1, y2⟩ := wipe i x hx hr
        exact ⟨y, y1, y2, fun e => by cases e⟩
/-- what stands in slots, read -/
theorem back_read {K : List Int} {ss : List Slot} {T : List RowAt} {C Kp : List (List UInt8)} {i : Nat} {x : Slot} (hb : SlotsBack K ss T Kp) (hC : RowsOk K C) (ht : T.map (·.2) = C) (hn : (T.map (·.1)).Nodup) (hx : ss[i]? = some x) :
    (∃ p ∈ T, p.1 = i ∧ x.now = textS K p.2 ∧ ∃ b id, rdS K x.now = some (b, id, p.2)) ∨ rdS K x.now = none ∧ ∀ p ∈ T, p.1 = i → p.2 ∉ Kp := by
  obtain ⟨-, h⟩ := hb i x hx
  rcases h with ⟨p, hp, rfl, j, e1, e2⟩ | ⟨h1, h2⟩
  · obtain ⟨b, id, hr, hl⟩ := hC.row p.2 (by rw [← ht]; exact List.mem_map.2 ⟨p, hp, rfl⟩)
    by_cases hj : (textS K p.2).length ≤ j
    · rw [List.take_of_length_le hj] at e1
      exact .inl ⟨p, hp, rfl, e1, b, id, by rw [e1]; exact rdS_text hr⟩
    · by_cases hk : p.2 ∈ Kp
      · exact absurd (e2 hk) hj
      · refine .inr ⟨by rw [e1]; exact rdS_torn hr (by omega) j (by omega), fun p' hp' e => ?_⟩
        have hpw : T.Pairwise (fun x y : RowAt => x.1 ≠ y.1) := List.pairwise_map.1 hn
        rw [pw_eq (fun x : RowAt => x.1) hpw hp' hp e]; exact hk
  · exact .inr ⟨by rw [h2]; exact rdS_nil K, fun p hp e => absurd e (h1 p hp)⟩
theorem pw_sym {α : Type} {R : α → α → Prop} (hs : ∀ x y, R x y → R y x) : ∀ {L : List α}, L.Pairwise R → ∀ x ∈ L, ∀ y ∈ L, x ≠ y → R x y
  | [], _, x, hx, _, _, _ => by cases hx
  | a :: L, hp, x, hx, y, hy, hne => by
    obtain ⟨h1, h2⟩ := List.pairwise_cons.1 hp
    rcases List.mem_cons.1 hx with ex | hx
    · rcases List.mem_cons.1 hy with ey | hy
      · exact absurd (ex.trans ey.symm) hne
      · rw [ex]; exact h1 y hy
    · rcases List.mem_cons.1 hy with ey | hy
      · rw [ey]; exact hs _ _ (h1 x hx)
      · exact pw_sym hs h2 x hx y hy hne
/-- Open again -/
theorem d_open (K : List Int) (w : World) (b g n k : Nat) (A : Bool) (C Kp : List (List UInt8)) (h : DOn K w b g n (k + 200) C Kp) (hL : Laid K w) (h0 : 0 ≠ b ∧ 0 ≠ g) (hn : n ≤ 128) :
    Calls Tryd.prog 19 #[.pointer (some ⟨b, 0, none⟩)] w fun e w' => ∃ (q : HvP) (S : List Nat) (C' : List (List UInt8)), q.b = b ∧ q.g = g ∧ e = .returned (.tuple #[.pointer (some ⟨q.p, 0, none⟩), .int .i64 0]) ∧ PBox K w' q n k A C' C' S ∧ (∀ r ∈ C', r ∈ C) ∧ (∀ r ∈ C, r ∈ Kp → r ∈ C') ∧ (∀ x ∈ S, x = b ∨ x = g ∨ w.heap.size ≤ x) ∧ Only [b, g] w w' := by
  obtain ⟨s, hsh, hb⟩ := h
  obtain ⟨T, t1, t2, t3, t4⟩ := hb.slots
  have hw := hb.works
  have hroom := hb.room
  have hsm := hb.small
  have htl : ∀ i, i < n → (St.read s i).length ≤ 1000 := fun i _ => by have := read_small hsm i; omega
  have hlen := hw.len
  have hpw : T.Pairwise (fun x y : RowAt => x.1 ≠ y.1) := List.pairwise_map.1 t2
  have hget : ∀ i, i < n → ∃ x, s.slots[i]? = some x ∧ St.read s i = x.now := fun i hi => by
    have hi2 : i < s.slots.length := by omega
    exact ⟨_, List.getElem?_eq_getElem hi2, read_slot hw (List.getElem?_eq_getElem hi2)⟩
  -- what is read at a slot
  have hrd : ∀ i, i < n → ∀ b' id r, rdS K (St.read s i) = some (b', id, r) → ∃ p ∈ T, p.1 = i ∧ p.2 = r ∧ St.read s i = textS K r ∧ rowS K r = some (b', id, r) := fun i hi b' id r hr => by
    obtain ⟨x, x1, x2⟩ := hget i hi
    rw [x2] at hr ⊢
    rcases back_read t4 hb.rows t1 t2 x1 with ⟨p, hp, e1, e2, b2, id2, e3⟩ | ⟨e1, -⟩
    · rw [hr] at e3
      simp only [Option.some.injEq, Prod.mk.injEq] at e3
      obtain ⟨rfl, rfl, rfl⟩ := e3
      exact ⟨p, hp, e1, rfl, e2, (rdS_some hr).2.2.2⟩
    · rw [e1] at hr; cases hr
  have hd : ∀ (i j : Nat) b' id r r', i < n → j < n → i ≠ j → rdS K (St.read s i) = some (b', id, r) → rdS K (St.read s j) ≠ some (b', id, r') := fun i j b' id r r' hi hj hij h1 h2 => by
    obtain ⟨p, hp, e1, e2, -, e3⟩ := hrd i hi b' id r h1
    obtain ⟨p', hp', e1', e2', -, e3'⟩ := hrd j hj b' id r' h2
    have hne : p ≠ p' := fun e => hij (by rw [← e1, ← e1', e])
    have hpw2 : T.Pairwise (fun x y : RowAt => (∀ b id, rowS K x.2 = some (b, id, x.2) → rowS K y.2 ≠ some (b, id, y.2))) := by
      have := hb.rows.names
      rw [← t1, List.pairwise_map] at this
      exact this
    have := pw_sym (fun x y h b id h1 h2 => h b id h2 h1) hpw2 p hp p' hp' hne
    exact this b' id (by rw [e2]; exact e3) (by rw [e2']; exact e3')
  have hld := ld_ok (RD := rdS K) hw hd n (Nat.le_refl _)
  refine (open_gen K (rdS K) n b g s w hsh hL h0 (hw.more (by omega)) hn (fun i hi W hW => hread_any K _ W hW (htl i hi)) (fun i hi b' id r hh => ?_)).mono ?_
  · obtain ⟨e1, e2, e3, -⟩ := rdS_some hh
    refine ⟨e2, ?_, e3⟩
    have := htl i hi
    rw [e1, List.length_drop]; omega
  · rintro e w' ⟨q, L, hqb, hqg, rfl, hLe, hat, hx, hO⟩
    obtain ⟨i1, i2, i3⟩ := ldS_inv K s n
    have he := ldEnd_works (RD := rdS K) hw
    rw [← hLe] at i1 i2 i3
    rw [List.pairwise_map] at i2 i3
    have hwk := ldS_works (RD := rdS K) hw n (Nat.le_refl _)
    have hlenL : L.length ≤ n := by have := hwk.2.2.1; rw [← hLe, List.length_map] at this; exact this
    have hsub : ∀ x ∈ L, x.at_ < n ∧ rdS K (St.read s x.at_) = some (x.isB, x.id, x.row) := fun x hm => by
      have := hld.sub (e5 x) (by rw [← hLe]; exact List.mem_map.2 ⟨x, hm, rfl⟩)
      exact this
    have hall : ∀ (i : Nat) b' id r, i < n → rdS K (St.read s i) = some (b', id, r) → ∃ x ∈ L, x.at_ = i ∧ x.row = r := fun i b' id r hi hr => by
      obtain ⟨e, he, e1, e2, e3, e4⟩ := hld.all i b' id r hi hr
      rw [← hLe] at he
      obtain ⟨x, hx, rfl⟩ := List.mem_map.1 he
      exact ⟨x, hx, e1, e4⟩
    -- the slots at the end
    have hend : ∀ (i : Nat) (y : Slot), (ldEnd s (rdS K) n).slots[i]? = some y → y.sure = y.now ∧ ∃ x, s.slots[i]? = some x ∧ y.now = (if i < n ∧ rdS K (St.read s i) = none then [] else x.now) := fun i y hy => by
      have hlen2 : (ldEnd s (rdS K) n).slots.length = n := he.1.len
      have hi : i < n := by have := (List.getElem?_eq_some_iff.1 hy).1; omega
      obtain ⟨x, x1, x2⟩ := hget i hi
      obtain ⟨z, z1, z2, z3⟩ := hld.slots i x x1
      unfold ldEnd at hy
      split at hy
      · rcases alive_sync (A := false) hwk.1.alive with ⟨-, e2, -⟩ | ⟨e2, -⟩
        · rw [e2, List.getElem?_map, z1] at hy
          obtain rfl := Option.some.inj hy
          exact ⟨rfl, x, x1, z2⟩
        · cases e2
      · rename_i hwp
        rw [z1] at hy
        obtain rfl := Option.some.inj hy
        obtain rfl := z3 (by simpa using hwp)
        exact ⟨(t4 i z x1).1, z, x1, z2⟩
    have hslots : SlotsAre K (ldEnd s (rdS K) n).slots (rowsAt L) (rowsOf L) := by
      refine ⟨fun p hp => ?_, fun i y hy hno => ?_⟩
      · obtain ⟨x, hx, rfl⟩ := List.mem_map.1 hp
        obtain ⟨h1, h2⟩ := hsub x hx
        obtain ⟨p, hp, e1, e2, e3, -⟩ := hrd x.at_ h1 _ _ _ h2
        have hl2 : x.at_ < (ldEnd s (rdS K) n).slots.length := by rw [he.1.len]; exact h1
        obtain ⟨g1, z, g2, g3⟩ := hend x.at_ _ (List.getElem?_eq_getElem hl2)
        refine ⟨_, List.getElem?_eq_getElem hl2, ?_, .inl g1⟩
        rw [g3, if_neg (by rw [h2]; rintro ⟨-, h⟩; cases h), ← read_slot hw g2]
        exact e3
      · obtain ⟨g1, x, g2, g3⟩ := hend i y hy
        have hi : i < n := by have := (List.getElem?_eq_some_iff.1 hy).1; rw [he.1.len] at this; exact this
        have hnone : rdS K (St.read s i) = none := by
          cases hr : rdS K (St.read s i) with
          | none => rfl
          | some p =>
            obtain ⟨b', id, r⟩ := p
            obtain ⟨x, hx, e1, -⟩ := hall i b' id r hi hr
            exact absurd e1 (hno (x.at_, x.row) (List.mem_map.2 ⟨x, hx, rfl⟩))
        rw [if_pos ⟨hi, hnone⟩] at g3
        exact ⟨g3, by rw [g1]; exact g3⟩
    have hrow : ∀ x ∈ L, ∃ p ∈ T, p.1 = x.at_ ∧ p.2 = x.row ∧ rowS K x.row = some (x.isB, x.id, x.row) := fun x hx => by
      obtain ⟨h1, h2⟩ := hsub x hx
      obtain ⟨p, hp, e1, e2, -, e3⟩ := hrd x.at_ h1 _ _ _ h2
      exact ⟨p, hp, e1, e2, e3⟩
    have hinC : ∀ r ∈ rowsOf L, r ∈ C := fun r hr => by
      obtain ⟨x, hx, rfl⟩ := List.mem_map.1 hr
      obtain ⟨p, hp, -, e2, -⟩ := hrow x hx
      rw [← t1]; exact List.mem_map.2 ⟨p, hp, e2⟩
    refine ⟨q, q.own L, rowsOf L, hqb, hqg, rfl, ⟨_, hat, ⟨(he.1.more (a' := 900000 - 3 * k) (by omega)).alive, by omega, rfl, by show ((ldEnd s (rdS K) n).pw.life : Int) = (s.pw.life : Int); rw [he.2], by show L.length + k < 900000; omega, by have := hb.life; show (s.pw.life : Int) + (k : Int) < 50000; omega, fun x hm => ?_, i2, ldEnd_small hsm n, hslots, fun r hr => ?_⟩, rfl, fun x hx => hx, fun x hx => hat.lt x hx⟩, hinC, fun r hr hk => ?_, hx, hO⟩
    · obtain ⟨p, hp, -, -, e3⟩ := hrow x hm
      obtain ⟨_, _, _, h600⟩ := hb.rows.row x.row (hinC _ (List.mem_map.2 ⟨x, hm, rfl⟩))
      exact ⟨e3, (hsub x hm).1, h600⟩
    · obtain ⟨x, hx, e1⟩ := List.mem_map.1 hr
      exact ⟨x, hx, e1⟩
    · rw [← t1] at hr
      obtain ⟨p, hp, rfl⟩ := List.mem_map.1 hr
      obtain ⟨x, x1, x2⟩ := hget p.1 (t3 p hp)
      rcases back_read t4 hb.rows t1 t2 x1 with ⟨p', hp', e1, e2, b2, id2, e3⟩ | ⟨-, e1⟩
      · obtain rfl := pw_eq (fun x : RowAt => x.1) hpw hp' hp e1
        rw [← x2] at e3
        obtain ⟨y, hy, e4, e5⟩ := hall p'.1 b2 id2 p'.2 (t3 _ hp) e3
        exact List.mem_map.2 ⟨y, hy, e5⟩
      · exact absurd hk (e1 p hp rfl)
end Go.Proofs.YteihfoacdocgkaaDoor
