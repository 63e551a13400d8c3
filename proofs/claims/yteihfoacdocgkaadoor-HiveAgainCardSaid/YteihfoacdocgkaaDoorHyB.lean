/-
  Layer 5: a store of blobs and records with room for all, whose power may go; its calls.
-/
import Derived.Test.YteihfoacdocgkaaDoorHyA
set_option linter.unusedVariables false
set_option linter.unusedSimpArgs false
namespace Go.Proofs.YteihfoacdocgkaaDoor
open Go.RowKit Pl Sh

def rowsAt (L : List HEnt) : List RowAt := L.map fun e => (e.at_, e.row)
/-- a store of n slots with power (that may go, A), which holds each entry in its slot, those of Kp surely -/
structure PSt (K : List Int) (d : HvD) (n k : Nat) (A : Bool) (Kp : List (List UInt8)) : Prop where
  alive : Alive d.s n (900000 - 3 * k) A
  room : 3 * k ≤ 900000
  dead : d.dead = false
  life : (d.s.pw.life : Int) = d.life
  clk : d.clk + k < 900000
  low : d.life + (k : Int) < 50000
  ents : ∀ e ∈ d.L, rowS K e.row = some (e.isB, e.id, e.row) ∧ e.at_ < n ∧ e.row.length ≤ 600
  names : d.L.Pairwise (fun x y => (x.isB, x.id) ≠ (y.isB, y.id))
  small : St.small d.s
  slots : SlotsAre K d.s.slots (rowsAt d.L) Kp
  kin : ∀ r ∈ Kp, ∃ e ∈ d.L, e.row = r
theorem PSt.ready {K : List Int} {d : HvD} {n k : Nat} {A : Bool} {Kp : List (List UInt8)} (h : PSt K d n k A Kp) : d.ready := ⟨h.dead, h.alive.down, h.life⟩
theorem PSt.less {K : List Int} {d : HvD} {n k k' : Nat} {A : Bool} {Kp : List (List UInt8)} (h : PSt K d n k A Kp) (hk : k' ≤ k) : PSt K d n k' A Kp :=
  ⟨h.alive.more (by have := h.room; omega), by have := h.room; omega, h.dead, h.life, by have := h.clk; omega, by have := h.low; omega, h.ents, h.names, h.small, h.slots, h.kin⟩
theorem PSt.read {K : List Int} {d : HvD} {n k : Nat} {A : Bool} {Kp : List (List UInt8)} (h : PSt K d n k A Kp) {e : HEnt} (he : e ∈ d.L) : St.read d.s e.at_ = textS K e.row := by
  obtain ⟨x, h1, h2, -⟩ := h.slots.1 (e.at_, e.row) (List.mem_map.2 ⟨e, he, rfl⟩)
  have hl := h.alive.len
  have := (h.ents e he).2.1
  unfold St.read
  rw [if_neg (by unfold St.atErr; rw [if_neg (by simp [h.alive.down]), if_neg (by omega)]; simp), Int.toNat_natCast, h1]
  exact h2
theorem p_use {K : List Int} {d : HvD} {n k j : Nat} {A : Bool} {Kp : List (List UInt8)} {e : HEnt} (h : PSt K d n (k + 1) A Kp) (hj : d.L[j]? = some e) :
    PSt K { d with L := d.L.set j { e with used := ((d.clk + 1 : Nat) : Int) }, clk := d.clk + 1 } n k A Kp := by
  have he : e ∈ d.L := List.mem_of_getElem? hj
  obtain ⟨e', he'⟩ : ∃ x : HEnt, x = { e with used := ((d.clk + 1 : Nat) : Int) } := ⟨_, rfl⟩
  have hps : (d.L.set j e').Perm (e' :: d.L.eraseIdx j) := perm_set e' hj
  have hpe := perm_erase hj
  have hra : rowsAt (d.L.set j e') = rowsAt d.L := map_set_same _ d.L j e e' hj (by rw [he'])
  rw [← he']
  refine ⟨h.alive.more (by have := h.room; omega), by have := h.room; omega, h.dead, h.life, by have := h.clk; show d.clk + 1 + k < _; omega, by have := h.low; show d.life + (k : Int) < _; omega, fun x hx => ?_, ?_, h.small, by show SlotsAre K d.s.slots (rowsAt (d.L.set j e')) Kp; rw [hra]; exact h.slots, fun r hr => ?_⟩
  · rcases List.mem_cons.1 (hps.mem_iff.1 hx) with rfl | hx
    · obtain ⟨g1, g2, g3⟩ := h.ents e he
      exact ⟨by rw [he']; exact g1, by rw [he']; exact g2, by rw [he']; exact g3⟩
    · exact h.ents x (List.mem_of_mem_eraseIdx hx)
  · have hp := (hpe.pairwise_iff (fun {x y} (hne : (x.isB, x.id) ≠ (y.isB, y.id)) => Ne.symm hne)).2 h.names
    obtain ⟨g1, g2⟩ := List.pairwise_cons.1 hp
    exact (hps.pairwise_iff (fun {x y} (hne : (x.isB, x.id) ≠ (y.isB, y.id)) => Ne.symm hne)).2 (List.pairwise_cons.2 ⟨fun y hy => by rw [he']; exact g1 y hy, g2⟩)
  · obtain ⟨y, hy, e1⟩ := h.kin r hr
    rcases List.mem_cons.1 (hpe.mem_iff.2 hy) with rfl | hy
    · exact ⟨e', hps.mem_iff.2 (by simp), by rw [he']; exact e1⟩
    · exact ⟨y, hps.mem_iff.2 (List.mem_cons_of_mem _ hy), e1⟩
def rowsOf (L : List HEnt) : List (List UInt8) := L.map (·.row)
theorem rows_use {L : List HEnt} {j : Nat} {e : HEnt} (hj : L[j]? = some e) (u : Int) : rowsOf (L.set j { e with used := u }) = rowsOf L := map_set_same _ L j e _ hj rfl
/-- the rows of a store: each an entry's, no two of one name -/
structure RowsOk (K : List Int) (C : List (List UInt8)) : Prop where
  row : ∀ r ∈ C, ∃ b id, rowS K r = some (b, id, r) ∧ r.length ≤ 600
  names : C.Pairwise (fun x y => ∀ b id, rowS K x = some (b, id, x) → rowS K y ≠ some (b, id, y))
theorem PSt.rows {K : List Int} {d : HvD} {n k : Nat} {A : Bool} {Kp : List (List UInt8)} (h : PSt K d n k A Kp) : RowsOk K (rowsOf d.L) := by
  refine ⟨fun r hr => ?_, ?_⟩
  · obtain ⟨e, he, rfl⟩ := List.mem_map.1 hr
    exact ⟨_, _, (h.ents e he).1, (h.ents e he).2.2⟩
  · unfold rowsOf
    rw [List.pairwise_map]
    have hm : ∀ x ∈ d.L, ∀ y ∈ d.L, (x.isB, x.id) ≠ (y.isB, y.id) → ∀ b id, rowS K x.row = some (b, id, x.row) → rowS K y.row ≠ some (b, id, y.row) := fun x hx y hy hne b id h1 h2 => by
      rw [(h.ents x hx).1] at h1
      rw [(h.ents y hy).1] at h2
      simp only [Option.some.injEq, Prod.mk.injEq, and_true] at h1 h2
      exact hne (by rw [h1.1, h1.2, h2.1, h2.2])
    exact h.names.imp_of_mem (fun {x y} hx hy hne => hm x hx y hy hne)
/-- slots without power, or with, which hold rows C, those of Kp surely -/
structure DSt (K : List Int) (s : St) (n k : Nat) (C Kp : List (List UInt8)) : Prop where
  len : s.slots.length = n
  acts : s.pw.acts ≤ 900000 - 3 * k
  room : 3 * k ≤ 900000
  life : s.pw.life + k + (if s.pw.down = true then 0 else 1) ≤ 50000
  off : s.pw.down = true → s.pw.armed = 0
  armed : s.pw.armed ≤ 1000
  small : St.small s
  rows : RowsOk K C
  slots : ∃ T : List RowAt, T.map (·.2) = C ∧ (T.map (·.1)).Nodup ∧ (∀ p ∈ T, p.1 < n) ∧ SlotsAre K s.slots T Kp
theorem PSt.dst {K : List Int} {d : HvD} {n k : Nat} {A : Bool} {Kp : List (List UInt8)} (h : PSt K d n k A Kp) (hn : (d.L.map (·.at_)).Nodup) : DSt K d.s n k (rowsOf d.L) Kp :=
  ⟨h.alive.len, h.alive.acts, h.room, by rw [if_neg (by simp [h.alive.down])]; have := h.low; have := h.life; omega, (fun e => by rw [h.alive.down] at e; cases e), h.alive.armed, h.small, h.rows,
    rowsAt d.L, by unfold rowsAt rowsOf; rw [List.map_map]; rfl, by unfold rowsAt; rw [List.map_map]; exact hn, fun p hp => by obtain ⟨e, he, rfl⟩ := List.mem_map.1 hp; exact (h.ents e he).2.1, h.slots⟩
/-- an entry more, or the power went -/
theorem p_add {K : List Int} {d : HvD} {n k m blk : Nat} {A : Bool} {Kp : List (List UInt8)} {isB : Bool} {id row : List UInt8} (h : PSt K d n (k + 1) A Kp) (hm : m < n) (hfree : ∀ e ∈ d.L, e.at_ ≠ m)
    (hrow : rowS K row = some (isB, id, row)) (hl : row.length ≤ 600) (hne : ∀ e ∈ d.L, (e.isB, e.id) ≠ (isB, id)) (hn : (d.L.map (·.at_)).Nodup) :
    (St.writeErr d.s m (textS K row) = 0 ∧ PSt K { d with s := St.write d.s m (textS K row), L := d.L ++ [⟨isB, id, m, ((d.clk + 1 : Nat) : Int), row, blk⟩], clk := d.clk + 1 } n k A Kp) ∨
    (A = true ∧ St.writeErr d.s m (textS K row) = 10 ∧ DSt K (St.write d.s m (textS K row)) n k (rowsOf d.L ++ [row]) Kp) := by
  have htl : (textS K row).length ≤ 640 := by rw [textS_size]; omega
  obtain ⟨hs, hw⟩ := alive_write h.alive hm htl
  have hkn : row ∉ Kp := fun hr => by
    obtain ⟨e, he, e1⟩ := h.kin row hr
    have h1 := (h.ents e he).1
    rw [e1, hrow] at h1
    simp only [Option.some.injEq, Prod.mk.injEq, and_true] at h1
    exact hne e he (by rw [h1.1, h1.2])
  have hsl : SlotsAre K (St.write d.s m (textS K row)).slots (rowsAt d.L ++ [(m, row)]) Kp := by
    rw [hs]
    refine slots_write h.slots (by rw [h.alive.len]; exact hm) (fun p hp => ?_) hkn
    obtain ⟨e, he, rfl⟩ := List.mem_map.1 hp
    exact hfree e he
  have hroom := h.room
  rcases hw with ⟨h1, h2, h3⟩ | ⟨h1, h2, h3⟩
  · left
    refine ⟨h1, h2.more (by omega), by omega, h.dead, by show (((St.write d.s m (textS K row)).pw.life : Nat) : Int) = d.life; rw [h3]; exact h.life, by have := h.clk; show d.clk + 1 + k < _; omega, by have := h.low; show d.life + (k : Int) < _; omega, fun x hx => ?_, ?_, small_write h.small _ _, ?_, fun r hr => ?_⟩
    · rcases List.mem_append.1 hx with hx | hx
      · exact h.ents x hx
      · simp only [List.mem_singleton] at hx
        subst hx
        exact ⟨hrow, hm, hl⟩
    · exact List.pairwise_append.2 ⟨h.names, List.pairwise_singleton _ _, fun x hx y hy => by simp only [List.mem_singleton] at hy; subst hy; exact hne x hx⟩
    · show SlotsAre K _ (rowsAt (d.L ++ _)) Kp
      unfold rowsAt at hsl ⊢
      rw [List.map_append]
      exact hsl
    · obtain ⟨y, hy, e1⟩ := h.kin r hr
      exact ⟨y, List.mem_append_left _ hy, e1⟩
  · right
    have hr := h.rows
    refine ⟨h1, h2, ⟨?_, by have := h3.acts; omega, by omega, by rw [h3.life, if_pos h3.down]; have := h.low; have := h.life; omega, fun _ => h3.armed, by rw [h3.armed]; omega, small_write h.small _ _, ⟨fun r hr2 => ?_, ?_⟩, _, ?_, ?_, ?_, hsl⟩⟩
    · rw [hs, setNow_length]; exact h.alive.len
    · rcases List.mem_append.1 hr2 with h5 | h5
      · exact hr.row r h5
      · simp only [List.mem_singleton] at h5
        subst h5
        exact ⟨_, _, hrow, hl⟩
    · refine List.pairwise_append.2 ⟨hr.names, List.pairwise_singleton _ _, fun x hx y hy b i h5 h6 => ?_⟩
      simp only [List.mem_singleton] at hy
      subst hy
      obtain ⟨e, he, rfl⟩ := List.mem_map.1 hx
      rw [(h.ents e he).1] at h5
      rw [hrow] at h6
      simp only [Option.some.injEq, Prod.mk.injEq, and_true] at h5 h6
      exact hne e he (by rw [h5.1, h5.2, h6.1, h6.2])
    · unfold rowsAt rowsOf; rw [List.map_append, List.map_map]; rfl
    · unfold rowsAt
      rw [List.map_append, List.map_map]
      refine List.nodup_append.2 ⟨hn, by simp, fun x hx y hy => ?_⟩
      simp only [List.map_cons, List.map_nil, List.mem_singleton] at hy
      obtain ⟨e, he, rfl⟩ := List.mem_map.1 hx
      rw [hy]
      exact hfree e he
    · intro p hp
      rcases List.mem_append.1 hp with hp | hp
      · obtain ⟨e, he, rfl⟩ := List.mem_map.1 hp
        exact (h.ents e he).2.1
      · simp only [List.mem_singleton] at hp
        subst hp
        exact hm

/-- a store in memory, all of whose blocks are among S, that holds rows C -/
def PBox (K : List Int) (w : World) (q : HvP) (n k : Nat) (A : Bool) (C Kp : List (List UInt8)) (S : List Nat) : Prop := ∃ d, HvAt w q d ∧ PSt K d n k A Kp ∧ rowsOf d.L = C ∧ (∀ x ∈ q.own d.L, x ∈ S) ∧ ∀ x ∈ S, x < w.heap.size
theorem PBox.below {K : List Int} {w w' : World} {q : HvP} {n k : Nat} {A : Bool} {C Kp : List (List UInt8)} {S : List Nat} (h : PBox K w q n k A C Kp S) (hb : Below w.heap.size w w') : PBox K w' q n k A C Kp S := by
  obtain ⟨d, h1, h2, h3, h4, h5⟩ := h
  exact ⟨d, h1.below hb, h2, h3, h4, fun x hx => Nat.lt_of_lt_of_le (h5 x hx) hb.size⟩
theorem PBox.less {K : List Int} {w : World} {q : HvP} {n k k' : Nat} {A : Bool} {C Kp : List (List UInt8)} {S : List Nat} (h : PBox K w q n k A C Kp S) (hk : k' ≤ k) : PBox K w q n k' A C Kp S := by
  obtain ⟨d, h1, h2, h3, h4, h5⟩ := h
  exact ⟨d, h1, h2.less hk, h3, h4, h5⟩
theorem PBox.apart {K : List Int} {w w' : World} {q : HvP} {n k : Nat} {A : Bool} {C Kp : List (List UInt8)} {S T : List Nat} (h : PBox K w q n k A C Kp S) (ho : Only T w w') (hT : ∀ x ∈ S, x ∉ T) : PBox K w' q n k A C Kp S := by
  obtain ⟨d, h1, h2, h3, h4, h5⟩ := h
  exact ⟨d, h1.keep (fun x hx => ho.block x (h5 x (h4 x hx)) (hT x (h4 x hx))), h2, h3, h4, fun x hx => Nat.lt_of_lt_of_le (h5 x hx) ho.size⟩
theorem PBox.lt {K : List Int} {w : World} {q : HvP} {n k : Nat} {A : Bool} {C Kp : List (List UInt8)} {S : List Nat} (h : PBox K w q n k A C Kp S) : ∀ x ∈ S, x < w.heap.size := by
  obtain ⟨d, -, -, -, -, h5⟩ := h
  exact h5
theorem PBox.rows {K : List Int} {w : World} {q : HvP} {n k : Nat} {A : Bool} {C Kp : List (List UInt8)} {S : List Nat} (h : PBox K w q n k A C Kp S) : RowsOk K C := by
  obtain ⟨d, -, h2, h3, -, -⟩ := h
  rw [← h3]; exact h2.rows
theorem PBox.own {K : List Int} {w : World} {q : HvP} {n k : Nat} {A : Bool} {C Kp : List (List UInt8)} {S : List Nat} (h : PBox K w q n k A C Kp S) : q.b ∈ S ∧ q.g ∈ S := by
  obtain ⟨d, h1, h2, h3, h4, h5⟩ := h
  have hm := @own_mem q d.L
  exact ⟨h4 _ hm.2.2.2.2.1, h4 _ hm.2.2.2.2.2.1⟩
/-- a shelf in memory that holds rows C, without power or with -/
def DShelf (K : List Int) (w : World) (b g n k : Nat) (C Kp : List (List UInt8)) : Prop := ∃ s, ShAt w b g s ∧ DSt K s n k C Kp
theorem DShelf.keep {K : List Int} {w w' : World} {b g n k : Nat} {C Kp : List (List UInt8)} (h : DShelf K w b g n k C Kp) (hb : w'.heap[b]? = w.heap[b]?) (hg : w'.heap[g]? = w.heap[g]?) : DShelf K w' b g n k C Kp := by
  obtain ⟨s, h1, h2⟩ := h
  exact ⟨s, ⟨hb.trans h1.pw, hg.trans h1.slots, h1.ne, h1.len⟩, h2⟩
theorem PBox.shelf {K : List Int} {w : World} {q : HvP} {n k : Nat} {A : Bool} {C Kp : List (List UInt8)} {S : List Nat} (h : PBox K w q n k A C Kp S) : DShelf K w q.b q.g n k C Kp := by
  obtain ⟨d, h1, h2, h3, h4, h5⟩ := h
  exact ⟨d.s, h1.sh, by rw [← h3]; exact h2.dst (ats_nodup h1)⟩
end Go.Proofs.YteihfoacdocgkaaDoor
