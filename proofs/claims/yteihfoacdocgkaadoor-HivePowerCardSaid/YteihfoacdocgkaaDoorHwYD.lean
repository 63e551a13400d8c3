/-
  Layer 5 (hive): calls of a store that is none.
-/
import Derived.Test.YteihfoacdocgkaaDoorHwRX
import Derived.Test.YteihfoacdocgkaaDoorHwBF
import Derived.Test.YteihfoacdocgkaaDoorShI
set_option linter.unusedVariables false
set_option linter.unusedSimpArgs false
namespace Go.Proofs.YteihfoacdocgkaaDoor
open Go.RowKit Pl Sh

/-- a store of n slots that works, bears k calls yet; its slots may hold whatever texts -/
structure GSt (K : List Int) (d : HvD) (n k : Nat) : Prop where
  works : Works d.s n (900000 - 3 * k)
  room : 3 * k ≤ 900000
  dead : d.dead = false
  life : (d.s.pw.life : Int) = d.life
  clk : d.clk + k < 900000
  low : d.life + (k : Int) < 50000
  ents : ∀ e ∈ d.L, rowS K e.row = some (e.isB, e.id, e.row) ∧ e.at_ < n ∧ e.used ≤ (d.clk : Int)
  names : d.L.Pairwise (fun x y => (x.isB, x.id) ≠ (y.isB, y.id))
  useds : d.L.Pairwise (fun x y => x.used ≠ y.used)
  small : St.small d.s
theorem GSt.ready {K : List Int} {d : HvD} {n k : Nat} (h : GSt K d n k) : d.ready := ⟨h.dead, h.works.down, h.life⟩
theorem GSt.less {K : List Int} {d : HvD} {n k k' : Nat} (h : GSt K d n k) (hk : k' ≤ k) : GSt K d n k' :=
  ⟨h.works.more (by have := h.room; omega), by have := h.room; omega, h.dead, h.life, by have := h.clk; omega, by have := h.low; omega, h.ents, h.names, h.useds, h.small⟩
theorem rowS_isB {K : List Int} {row id r : List UInt8} (h : rowS K row = some (true, id, r)) : ∃ b, asBlobS row = (b, true) ∧ hashB K b = id := by
  unfold rowS at h
  by_cases hb : (asBlobS row).2 = true
  · rw [if_pos hb] at h
    simp only [Option.some.injEq, Prod.mk.injEq] at h
    exact ⟨(asBlobS row).1, by rw [← hb], h.2.1⟩
  · rw [if_neg hb] at h
    cases hr : asRecS row with
    | none => rw [hr] at h; cases h
    | some r => rw [hr] at h; simp at h
theorem rowS_isR {K : List Int} {row id r : List UInt8} (h : rowS K row = some (false, id, r)) : ∃ x, asRecS row = some x ∧ x.key = id := by
  unfold rowS at h
  by_cases hb : (asBlobS row).2 = true
  · rw [if_pos hb] at h; simp at h
  · rw [if_neg hb] at h
    cases hr : asRecS row with
    | none => rw [hr] at h; cases h
    | some r =>
      rw [hr] at h
      simp only [Option.some.injEq, Prod.mk.injEq] at h
      exact ⟨r, rfl, h.2.1⟩
/-- a store in memory, all of whose blocks are among S -/
def GBox (K : List Int) (w : World) (q : HvP) (n k : Nat) (pins : List (List UInt8)) (S : List Nat) : Prop := ∃ d, HvAt w q d ∧ GSt K d n k ∧ d.pins = pins ∧ (∀ x ∈ q.own d.L, x ∈ S) ∧ ∀ x ∈ S, x < w.heap.size
theorem GBox.below {K : List Int} {w w' : World} {q : HvP} {n k : Nat} {pins : List (List UInt8)} {S : List Nat} (h : GBox K w q n k pins S) (hb : Below w.heap.size w w') : GBox K w' q n k pins S := by
  obtain ⟨d, h1, h2, h3, h4, h5⟩ := h
  exact ⟨d, h1.below hb, h2, h3, h4, fun x hx => Nat.lt_of_lt_of_le (h5 x hx) hb.size⟩
theorem GBox.less {K : List Int} {w : World} {q : HvP} {n k k' : Nat} {pins : List (List UInt8)} {S : List Nat} (h : GBox K w q n k pins S) (hk : k' ≤ k) : GBox K w q n k' pins S := by
  obtain ⟨d, h1, h2, h3, h4, h5⟩ := h
  exact ⟨d, h1, h2.less hk, h3, h4, h5⟩
theorem GBox.apart {K : List Int} {w w' : World} {q : HvP} {n k : Nat} {pins : List (List UInt8)} {S T : List Nat} (h : GBox K w q n k pins S) (ho : Only T w w') (hT : ∀ x ∈ S, x ∉ T) : GBox K w' q n k pins S := by
  obtain ⟨d, h1, h2, h3, h4, h5⟩ := h
  exact ⟨d, h1.keep (fun x hx => ho.block x (h5 x (h4 x hx)) (hT x (h4 x hx))), h2, h3, h4, fun x hx => Nat.lt_of_lt_of_le (h5 x hx) ho.size⟩
end Go.Proofs.YteihfoacdocgkaaDoor

set_option linter.unusedVariables false
set_option linter.unusedSimpArgs false
namespace Go.Proofs.YteihfoacdocgkaaDoor
open Go.RowKit Pl Sh

def GPut (K : List Int) (d : HvD) (n k : Nat) (er : Int) (d' : HvD) : Prop := (er = 0 ∨ er = 11) ∧ GSt K d' n k ∧ d'.pins = d.pins
end Go.Proofs.YteihfoacdocgkaaDoor

set_option linter.unusedVariables false
set_option linter.unusedSimpArgs false
namespace Go.Proofs.YteihfoacdocgkaaDoor
open Go.RowKit Pl Sh

theorem parts_rec (r : RecD) (hf : r.Fit) : partsS (recRowS r) = [[114], r.key, num r.code, r.out] := by
  have hn := num_length_le r.code hf.lo hf.hi
  have hk := hf.k
  have ho := hf.o
  have h := rd_of_row [[114], r.key, num r.code, r.out] [] 4 (by simp) (by
    intro t ht
    simp only [List.mem_cons, List.not_mem_nil, or_false] at ht
    rcases ht with rfl | rfl | rfl | rfl
    · simp
    · omega
    · omega
    · omega)
  rw [List.append_nil, if_pos (by simp)] at h
  unfold partsS recRowS
  rw [h]
theorem asBlob_rec (r : RecD) (hf : r.Fit) : asBlobS (recRowS r) = ([], false) := by
  unfold asBlobS
  rw [parts_rec r hf]
  rfl
theorem asRec_rec (r : RecD) (hf : r.Fit) (hi : isRecS r = true) : asRecS (recRowS r) = some r := by
  unfold asRecS
  rw [parts_rec r hf]
  have h := rd_of_num r.code [] hf.lo hf.hi
  rw [List.append_nil] at h
  rw [asRec_yes hf.k hf.o h]
  exact if_pos hi
theorem rowS_of_blob (K : List Int) (b : List UInt8) (hb : b.length ≤ 512) : rowS K (blobRowS b) = some (true, hashB K b, blobRowS b) := rowS_blob (asBlob_blob b hb)
theorem rowS_of_rec (K : List Int) (r : RecD) (hf : r.Fit) (hi : isRecS r = true) : rowS K (recRowS r) = some (false, r.key, recRowS r) := by
  rw [rowS_rec (asBlob_rec r hf), asRec_rec r hf hi]
  rfl
def GPutPost (K : List Int) (q : HvP) (n k : Nat) (pins : List (List UInt8)) (S : List Nat) (w w' : World) : Prop := ∃ S', GBox K w' q n k pins S' ∧ Only S w w' ∧ ∀ x ∈ S', x ∈ S ∨ w.heap.size ≤ x
end Go.Proofs.YteihfoacdocgkaaDoor

set_option linter.unusedVariables false
set_option linter.unusedSimpArgs false
namespace Go.Proofs.YteihfoacdocgkaaDoor
open Go.RowKit Pl Sh

theorem rowS_row {K : List Int} {row : List UInt8} {b : Bool} {id r : List UInt8} (h : rowS K row = some (b, id, r)) : r = row ∧ id.length = 32 := by
  unfold rowS at h
  by_cases hb : (asBlobS row).2 = true
  · rw [if_pos hb] at h
    simp only [Option.some.injEq, Prod.mk.injEq] at h
    exact ⟨h.2.2.symm, by rw [← h.2.1]; exact hashB_length _ _⟩
  · rw [if_neg hb] at h
    cases hr : asRecS row with
    | none => rw [hr] at h; cases h
    | some x =>
      rw [hr] at h
      simp only [Option.some.injEq, Prod.mk.injEq] at h
      exact ⟨h.2.2.symm, by rw [← h.2.1]; exact (asRec_fit hr).1.k⟩
theorem rdS_some {K : List Int} {t : List UInt8} {b : Bool} {id r : List UInt8} (h : rdS K t = some (b, id, r)) : r = t.drop 32 ∧ id.length = 32 ∧ t ≠ [] ∧ rowS K r = some (b, id, r) := by
  unfold rdS at h
  by_cases hc : 32 ≤ t.length ∧ textS K (t.drop 32) = t
  · rw [if_pos hc] at h
    obtain ⟨rfl, h2⟩ := rowS_row h
    exact ⟨rfl, h2, fun e => by rw [e] at hc; simp at hc, h⟩
  · rw [if_neg hc] at h; cases h
theorem ldS_inv (K : List Int) (s0 : St) : ∀ k, (∀ e ∈ (ldS s0 (rdS K) k).2.1, rowS K e.2.2.2.2 = some (e.1, e.2.1, e.2.2.2.2) ∧ e.2.2.2.1 ≤ ((ldS s0 (rdS K) k).2.1.length : Int)) ∧
    (ldS s0 (rdS K) k).2.1.Pairwise (fun x y => (x.1, x.2.1) ≠ (y.1, y.2.1)) ∧ (ldS s0 (rdS K) k).2.1.Pairwise (fun x y => x.2.2.2.1 ≠ y.2.2.2.1)
  | 0 => ⟨fun e he => by simp [ldS] at he, by simp [ldS], by simp [ldS]⟩
  | k + 1 => by
    obtain ⟨h1, h2, h3⟩ := ldS_inv K s0 k
    unfold ldS
    split
    · rename_i b i r hr
      split
      · exact ⟨h1, h2, h3⟩
      · rename_i hany
        refine ⟨fun e he => ?_, List.pairwise_append.2 ⟨h2, List.pairwise_singleton _ _, fun x hx y hy => ?_⟩, List.pairwise_append.2 ⟨h3, List.pairwise_singleton _ _, fun x hx y hy => ?_⟩⟩
        · rcases List.mem_append.1 he with he | he
          · obtain ⟨g1, g2⟩ := h1 e he
            exact ⟨g1, by simp only [List.length_append, List.length_singleton]; omega⟩
          · simp only [List.mem_singleton] at he
            subst he
            exact ⟨(rdS_some hr).2.2.2, by simp only [List.length_append, List.length_singleton]; omega⟩
        · simp only [List.mem_singleton] at hy
          subst hy
          intro e
          obtain ⟨e1, e2⟩ := Prod.mk.inj e
          exact hany (List.any_eq_true.2 ⟨x, hx, by simp only [] at e1 e2; simp [e1, e2]⟩)
        · simp only [List.mem_singleton] at hy
          subst hy
          have := (h1 x hx).2
          show x.2.2.2.1 ≠ (((ldS s0 (rdS K) k).2.1.length + 1 : Nat) : Int)
          omega
    · split
      · exact ⟨h1, h2, h3⟩
      · exact ⟨h1, h2, h3⟩
theorem ldS_life {s0 : St} {RD : RdF} {n a : Nat} (h : Works s0 n a) : ∀ k, k ≤ n → (ldS s0 RD k).1.pw.life = s0.pw.life
  | 0, _ => rfl
  | k + 1, hk => by
    have ih := ldS_life (RD := RD) h k (by omega)
    have hw := (ldS_works (RD := RD) h k (by omega)).1
    have hl := write_life hw (k := k) (by omega) [] (by decide)
    unfold ldS
    split
    · split
      · exact hl.trans ih
      · exact ih
    · split
      · exact ih
      · exact hl.trans ih
theorem ldEnd_works {s0 : St} {RD : RdF} {n a : Nat} (h : Works s0 n a) : Works (ldEnd s0 RD n) n (a + n + 1) ∧ (ldEnd s0 RD n).pw.life = s0.pw.life := by
  have hw := (ldS_works (RD := RD) h n (Nat.le_refl _)).1
  have hl := ldS_life (RD := RD) h n (Nat.le_refl _)
  unfold ldEnd
  split
  · exact ⟨(sync_works hw).2, (sync_life hw).trans hl⟩
  · exact ⟨hw.more (by omega), hl⟩
theorem read_small {s : St} (h : St.small s) (i : Int) : (St.read s i).length ≤ 640 := by
  unfold St.read
  split
  · simp
  · cases hq : s.slots[i.toNat]? with
    | none => simp
    | some x =>
      obtain ⟨hl, rfl⟩ := List.getElem?_eq_some_iff.1 hq
      exact (h _ hl).1
theorem ldS_small {s0 : St} {RD : RdF} (h : St.small s0) : ∀ k, St.small (ldS s0 RD k).1
  | 0 => h
  | k + 1 => by
    have ih := ldS_small (RD := RD) h k
    unfold ldS
    split
    · split
      · exact small_write ih _ _
      · exact ih
    · split
      · exact ih
      · exact small_write ih _ _
theorem ldEnd_small {s0 : St} {RD : RdF} (h : St.small s0) (n : Nat) : St.small (ldEnd s0 RD n) := by
  unfold ldEnd
  split
  · exact small_sync (ldS_small h n)
  · exact ldS_small h n
end Go.Proofs.YteihfoacdocgkaaDoor

set_option linter.unusedVariables false
set_option linter.unusedSimpArgs false
namespace Go.Proofs.YteihfoacdocgkaaDoor
open Go.RowKit Pl Sh

/-- what of a store outlives the power: its shelf -/
def GShelf (K : List Int) (w : World) (b g n k : Nat) : Prop := ∃ s, ShAt w b g s ∧ Works s n (900000 - 3 * k) ∧ 3 * k ≤ 900000 ∧ s.pw.life + k < 50000 ∧ St.small s
theorem GBox.shelf {K : List Int} {w : World} {q : HvP} {n k : Nat} {pins : List (List UInt8)} {S : List Nat} (h : GBox K w q n k pins S) : GShelf K w q.b q.g n k := by
  obtain ⟨d, h1, h2, h3, h4, h5⟩ := h
  exact ⟨d.s, h1.sh, h2.works, h2.room, by have h6 := h2.low; have h7 := h2.life; omega, h2.small⟩
end Go.Proofs.YteihfoacdocgkaaDoor

set_option linter.unusedVariables false
set_option linter.unusedSimpArgs false
namespace Go.Proofs.YteihfoacdocgkaaDoor
open Go.RowKit Pl Sh
attribute [local go_sem] Lb.ba_get Lb.ba_cut Lb.ba_add Lb.ba_size Lb.take_rest

end Go.Proofs.YteihfoacdocgkaaDoor
