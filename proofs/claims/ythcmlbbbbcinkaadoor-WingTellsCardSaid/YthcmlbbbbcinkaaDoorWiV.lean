/-
  Layer 19 (wing): a frame in a block that is read into, beside the row that is read.
-/
import Derived.Test.YthcmlbbbbcinkaaDoorWiU
import Derived.Test.YthcmlbbbbcinkaaDoorWiM
set_option linter.unusedVariables false
set_option linter.unusedSimpArgs false
namespace Go.Proofs.YthcmlbbbbcinkaaDoor
open Go.RowKit Pl
attribute [local go_sem] Lb.ba_get Lb.ba_cut Lb.ba_add Lb.ba_size Lb.take_rest
namespace Wi

theorem range_only {w w' : World} {bs : List Nat} {b o : Nat} {cs : List Value} (h : w.rangeAt b o cs) (ho : Only bs w w') (hl : b < w.heap.size) (hn : b ∉ bs) : w'.rangeAt b o cs := fun k v hv => (ho.cell (p := ⟨b, o + k, none⟩) hl hn).trans (h k v hv)
theorem RowsAt.only {α : Type} {n : Nat} {c : α → List Value} {w w' : World} {bs : List Nat} {A : Option Addr} {L : List α} (h : RowsAt n c w w.heap.size A L) (ho : Only bs w w') (hn : ∀ a, A = some a → a.block ∉ bs) : RowsAt n c w' w'.heap.size A L := fun i hi => by
  obtain ⟨b, o, e, hb, hr⟩ := h i hi
  exact ⟨b, o, e, Nat.lt_of_lt_of_le hb ho.size, range_only hr ho hb (hn _ e)⟩
theorem digs_only {w w' : World} {bs : List Nat} {A : Option Addr} {L : List Bs} (h : Digs w w.heap.size A L) (ho : Only bs w w') (hn : ∀ a, A = some a → a.block ∉ bs) : Digs w' w'.heap.size A L := fun i hi => by
  obtain ⟨b, o, e, hb, hr⟩ := h i hi
  exact ⟨b, o, e, Nat.lt_of_lt_of_le hb ho.size, range_only hr ho hb (hn _ e)⟩
theorem flat_getG {α : Type} {n : Nat} {c : α → List Value} : ∀ (L : List α), (∀ x ∈ L, (c x).length = n) → ∀ (i : Nat) (hi : i < L.length) (k : Nat) (v : Value), (c L[i])[k]? = some v → ((L.map c).flatten)[i * n + k]? = some v
  | [], _, i, hi, _, _, _ => absurd hi (by simp)
  | x :: L, hn, 0, hi, k, v, h => by
    have hx := hn x (by simp)
    have hk : k < (c x).length := (List.getElem?_eq_some_iff.1 h).1
    simp only [List.map_cons, List.flatten_cons]
    rw [List.getElem?_append_left (by omega)]
    simpa using h
  | x :: L, hn, i + 1, hi, k, v, h => by
    have hx := hn x (by simp)
    have := flat_getG L (fun y hy => hn y (List.mem_cons_of_mem _ hy)) i (by simpa using hi) k v (by simpa using h)
    simp only [List.map_cons, List.flatten_cons]
    rw [List.getElem?_append_right (by rw [hx, Nat.succ_mul]; omega), hx, show (i + 1) * n + k - n = i * n + k by rw [Nat.succ_mul]; omega]
    exact this
theorem bag_rows {α : Type} {n : Nat} {c : α → List Value} {L : List α} {w : World} {B cap : Nat} {A : Option Addr} (h : Bag0 w B n (.slice A L.length cap) L.length ((L.map c).flatten)) (hn : ∀ x ∈ L, (c x).length = n) : RowsAt n c w w.heap.size A L ∧ ∀ a, A = some a → B ≤ a.block := by
  rcases h with ⟨h1, h2, -⟩ | ⟨g, cap', h1, hB, hb⟩
  · obtain ⟨rfl, e, -⟩ := Value.slice.inj h1
    exact ⟨fun i hi => absurd hi (by omega), fun a h => by cases h⟩
  · obtain ⟨rfl, -, -⟩ := Value.slice.inj h1
    refine ⟨fun i hi => ⟨g, 0, rfl, hb.lt, fun k v hv => ?_⟩, fun a h => by cases h; exact hB⟩
    rw [Nat.zero_add]
    exact hb.holds _ _ (flat_getG L hn i hi k v hv)
structure FmIn (w : World) (q qf : Nat) (f : Fm) (x : Adr) : Prop where
  fr : FrAt w qf f x
  ok : FmOk w w.heap.size f x
  pa : ∀ a, x.PA = some a → a.block ≠ q ∧ qf < a.block
  ra : ∀ a, x.RA = some a → a.block ≠ q ∧ qf < a.block
  ia : ∀ a, x.IA = some a → a.block ≠ q ∧ qf < a.block
  ma : ∀ a, x.MA = some a → a.block ≠ q ∧ qf < a.block
theorem FmIn.lists {w w' : World} {q qf : Nat} {f : Fm} {x : Adr} (h : FmIn w q qf f x) (ho : Only [q, qf] w w') : FmOk w' w'.heap.size f x :=
  ⟨h.ok.wf, digs_only h.ok.digs ho (fun a e => by have := h.pa a e; simp; omega), h.ok.rngs.only ho (fun a e => by have := h.ra a e; simp; omega), h.ok.items.only ho (fun a e => by have := h.ia a e; simp; omega), h.ok.mems.only ho (fun a e => by have := h.ma a e; simp; omega)⟩
theorem FmIn.word {w w' : World} {q qf : Nat} {f : Fm} {x : Adr} (h : FmIn w q qf f x) (ho : Only [q] w w') (hq : qf ≠ q) : FmIn w' q qf f x :=
  ⟨h.fr.keep ho (by simpa using hq), h.lists (ho.mono (by simp)), h.pa, h.ra, h.ia, h.ma⟩
theorem FmIn.put {w w' : World} {q qf : Nat} {f f' : Fm} {x : Adr} (h : FmIn w q qf f x) (hf : FrAt w' qf f' x) (ho : Only [qf] w w') (hw : f'.Wf) (e1 : f'.parts = f.parts := by rfl) (e2 : f'.rngs = f.rngs := by rfl) (e3 : f'.items = f.items := by rfl) (e4 : f'.mems = f.mems := by rfl) : FmIn w' q qf f' x := by
  have hl := h.lists (ho.mono (by simp))
  exact ⟨hf, ⟨hw, by rw [e1]; exact hl.digs, by rw [e2]; exact hl.rngs, by rw [e3]; exact hl.items, by rw [e4]; exact hl.mems⟩, h.pa, h.ra, h.ia, h.ma⟩
theorem FmIn.put_rngs {w w' : World} {q qf : Nat} {f : Fm} {x : Adr} {l : List Rg} {A : Option Addr} {c : Nat} (h : FmIn w q qf f x) (hf : FrAt w' qf ({ f with rngs := l } : Fm) ({ x with RA := A, rc := c } : Adr)) (ho : Only [qf] w w') (hw : ∀ r ∈ l, r.Wf) (hl : l.length ≤ maxLen) (hr : RowsAt 35 Rg.cells w w.heap.size A l) (ha : ∀ a, A = some a → a.block ≠ q ∧ qf < a.block) : FmIn w' q qf ({ f with rngs := l } : Fm) ({ x with RA := A, rc := c } : Adr) := by
  have hk := h.lists (ho.mono (by simp))
  exact ⟨hf, ⟨h.ok.wf.put_rngs hw hl, hk.digs, hr.only ho (fun a e => by have := (ha a e).2; simp; omega), hk.items, hk.mems⟩, h.pa, ha, h.ia, h.ma⟩
theorem FmIn.put_items {w w' : World} {q qf : Nat} {f : Fm} {x : Adr} {l : List Rc} {A : Option Addr} {c : Nat} (h : FmIn w q qf f x) (hf : FrAt w' qf ({ f with items := l } : Fm) ({ x with IA := A, ic := c } : Adr)) (ho : Only [qf] w w') (hw : ∀ r ∈ l, r.Wf) (hl : l.length ≤ maxLen) (hr : RowsAt 65 Rc.cells w w.heap.size A l) (ha : ∀ a, A = some a → a.block ≠ q ∧ qf < a.block) : FmIn w' q qf ({ f with items := l } : Fm) ({ x with IA := A, ic := c } : Adr) := by
  have hk := h.lists (ho.mono (by simp))
  exact ⟨hf, ⟨h.ok.wf.put_items hw hl, hk.digs, hk.rngs, hr.only ho (fun a e => by have := (ha a e).2; simp; omega), hk.mems⟩, h.pa, h.ra, ha, h.ma⟩
theorem FmIn.put_mems {w w' : World} {q qf : Nat} {f : Fm} {x : Adr} {l : List Mb} {A : Option Addr} {c : Nat} (h : FmIn w q qf f x) (hf : FrAt w' qf ({ f with mems := l } : Fm) ({ x with MA := A, mc := c } : Adr)) (ho : Only [qf] w w') (hw : ∀ r ∈ l, r.Wf) (hl : l.length ≤ maxLen) (hr : RowsAt 3 Mb.cells w w.heap.size A l) (ha : ∀ a, A = some a → a.block ≠ q ∧ qf < a.block) : FmIn w' q qf ({ f with mems := l } : Fm) ({ x with MA := A, mc := c } : Adr) := by
  have hk := h.lists (ho.mono (by simp))
  exact ⟨hf, ⟨h.ok.wf.put_mems hw hl, hk.digs, hk.rngs, hk.items, hr.only ho (fun a e => by have := (ha a e).2; simp; omega)⟩, h.pa, h.ra, h.ia, ha⟩
theorem FmIn.put_mani {w w' : World} {q qf : Nat} {f : Fm} {x : Adr} {m : ManiD} (h : FmIn w q qf f x) (hf : FrAt w' qf ({ f with whole := m.whole, size := m.size, parts := m.parts } : Fm) ({ x with PA := m.A, pc := m.cap } : Adr)) (ho : Only [q, qf] w w') (hm : m.Ok w w.heap.size) (ha : ∀ a, m.A = some a → a.block ≠ q ∧ qf < a.block) : FmIn w' q qf ({ f with whole := m.whole, size := m.size, parts := m.parts } : Fm) ({ x with PA := m.A, pc := m.cap } : Adr) := by
  have hk := h.lists ho
  exact ⟨hf, ⟨h.ok.wf.put_mani hm.whole ⟨hm.lo, hm.hi⟩ hm.each hm.len, digs_only hm.digs ho (fun a e => by have := ha a e; simp; omega), hk.rngs, hk.items, hk.mems⟩, ha, h.ra, h.ia, h.ma⟩
theorem RwAt.put {w w' : World} {B q qf : Nat} {p : St} (h : RwAt w B q p) (ho : Only [qf] w w') (hB : B ≤ qf) : RwAt w' B q p := h.below (ho.below h.bw (by simpa using hB))
theorem listS_wf {α : Type} {one : St → α × St} {W : α → Prop} (h : ∀ p, W (one p).1) : ∀ (n : Nat) (o : List α) (p : St), (∀ x ∈ o, W x) → ∀ x ∈ (loopS one n o p).1, W x
  | 0, o, p, ho, x, hx => ho x hx
  | n + 1, o, p, ho, x, hx => by
    unfold loopS at hx
    split at hx
    · exact ho x hx
    · exact listS_wf h n _ _ (fun y hy => by
        rcases List.mem_append.1 hy with hy | hy
        · exact ho y hy
        · rw [List.mem_singleton] at hy; subst hy; exact h p) x hx
theorem loopS_len {α : Type} {one : St → α × St} : ∀ (n : Nat) (o : List α) (p : St), (loopS one n o p).1.length ≤ o.length + n
  | 0, o, p => Nat.le_refl _
  | n + 1, o, p => by
    unfold loopS
    split
    · show o.length ≤ _; omega
    · have := loopS_len (one := one) n (o ++ [(one p).1]) (one p).2
      simp at this; omega
theorem maniS_yes {p : St} {m : ManiD} (h : DecYes (nextS p).s m) : maniS p = ((m.whole, m.size, m.parts), nextS p) := by
  obtain ⟨h1, h2, h3⟩ := h
  unfold maniS
  rw [maniOf_enc (m := (m.whole, m.size, m.parts)) ⟨h1, h2.whole, ⟨h2.lo, h2.hi⟩, h2.each, h3⟩]
theorem maniS_no {p : St} (h : ∀ x, ¬ DecYes (nextS p).s x) : maniS p = ((z32, 0, []), { nextS p with bad := true }) := by
  unfold maniS
  have e : maniOf (nextS p).s = none := by
    unfold maniOf
    rw [dif_neg]
    rintro ⟨m, h1, h2, h3, h4, h5⟩
    exact h ⟨m.1, m.2.1, none, 0, m.2.2⟩ ⟨h1, ⟨h2, h4, h3.1, h3.2⟩, h5⟩
  rw [e]
/-- what the decoding of a manifest leaves -/
theorem maniS_of {p : St} {m : ManiD} {e : Int} (h : DecOf (nextS p).s m e) : (maniS p).1 = (m.whole, m.size, m.parts) ∧ (maniS p).2 = { nextS p with bad := (nextS p).bad || decide (e ≠ 0) } := by
  rcases h with ⟨rfl, h⟩ | ⟨rfl, rfl, h⟩
  · rw [maniS_yes h]; simp
  · rw [maniS_no h]; simp [zeroMani, z32]
def BodyR (w : World) (B q qf : Nat) (f : Fm) (p : St) (e : Ending) (w' : World) : Prop :=
  ∃ x, e = .returned (.tuple #[]) ∧ FmIn w' q qf (bodyS f p).1 x ∧ RwAt w' B q (bodyS f p).2 ∧ Only [q, qf] w w'
end Wi
end Go.Proofs.YthcmlbbbbcinkaaDoor
