/-
  ShelfKeeps: what is kept beside the shelf; what a slot has behind a loss of power.
-/
import Derived.Test.YtecofehfheodhaaShM
import Derived.Deep.WholeRow
set_option linter.unusedVariables false
set_option linter.unusedSimpArgs false
namespace Go.Proofs.Ytecofehfheodhaa
open Go.RowKit Sh

theorem Live.apart {w0 w w' : World} {b g : Nat} {s : St} {k : Nat} {cs : List Nat} (L : Live w0 w b g s k) (ho : Only cs w w') (hb : b ∉ cs) (hg : g ∉ cs) (hc : ∀ c ∈ cs, w0.heap.size ≤ c) : Live w0 w' b g s k :=
  ⟨⟨ho.keep L.here.pw hb, ho.keep L.here.slots hg, L.here.ne, L.here.len⟩, L.old.trans (ho.below L.old.size hc), L.hb, L.hg, L.fit, L.small⟩

/-- a slot that isn't open has what is sure -/
def Tidy (s : St) : Prop := ∀ x ∈ s.slots, x.opn = false → x.sure = x.now
theorem tidy_sure (l : List Slot) : ∀ x ∈ l.map sure1, x.opn = false → x.sure = x.now := by
  intro x hx _
  obtain ⟨y, _, rfl⟩ := List.mem_map.1 hx
  rfl
theorem tidy_sync {s : St} (h : Tidy s) : Tidy (St.sync s) := by
  unfold St.sync
  split
  · exact h
  · split
    · exact tidy_sure _
    · exact h
theorem tidy_write {s : St} (h : Tidy s) (i : Int) (t : List UInt8) : Tidy (St.write s i t) := by
  unfold St.write
  split
  · exact h
  · intro x hx ho
    simp only [setNow] at hx
    split at hx
    · rcases List.mem_or_eq_of_mem_set hx with hx | rfl
      · exact h x hx ho
      · simp at ho
    · exact h x hx ho
theorem tidy_new (m : Nat) : Tidy (St.new m) := by
  intro x hx ho
  have := List.eq_of_mem_replicate hx
  subst this
  rfl
theorem tidy_on {s : St} (h : Tidy s) (fs : List Int) : Tidy (St.on s fs) := by
  unfold St.on
  split
  · exact tidy_sure _
  · exact h

theorem onl_at (ss : List Slot) (fs : List Int) (j : Nat) {x : Slot} (hj : ss[j]? = some x) : ∀ k, k ≤ ss.length → (j < k → ∃ f, (onl ss fs k)[j]? = some (if x.opn then { x with now := left x f } else x)) ∧ (k ≤ j → (onl ss fs k)[j]? = some x)
  | 0, _ => ⟨fun h => by omega, fun _ => hj⟩
  | k + 1, hk => by
    obtain ⟨ih1, ih2⟩ := onl_at ss fs j hj k (by omega)
    have hjl : j < ss.length := (List.getElem?_eq_some_iff.1 hj).1
    have hx : ss[j] = x := (List.getElem?_eq_some_iff.1 hj).2
    refine ⟨fun hlt => ?_, fun hle => ?_⟩
    · rw [onl_succ ss fs k (by omega)]
      by_cases hkj : k = j
      · subst hkj
        refine ⟨fs.getD (opens ss k % fs.length) 0, ?_⟩
        rw [hx]
        split
        · rw [List.getElem?_set_self (by rw [onl_length]; exact hjl)]
        · exact ih2 (Nat.le_refl _)
      · obtain ⟨f, hf⟩ := ih1 (by omega)
        refine ⟨f, ?_⟩
        split
        · rw [List.getElem?_set_ne hkj]; exact hf
        · exact hf
    · rw [onl_get ss fs (k + 1) j hle]; exact hj

/-- what is read of a slot behind a loss of power -/
theorem read_back {s : St} (ht : Tidy s) (fs : List Int) (k : Nat) {x : Slot} (hk : s.slots[k]? = some x) :
    St.atErr (St.on (St.off s) fs) k = 0 ∧
    ((x.opn = false ∧ St.read (St.on (St.off s) fs) k = x.sure) ∨ (x.opn = true ∧ (St.read (St.on (St.off s) fs) k = x.sure ∨ St.read (St.on (St.off s) fs) k = x.now ∨ ∃ j, j ≤ x.now.length ∧ St.read (St.on (St.off s) fs) k = x.now.take j ++ x.sure.drop j))) := by
  have hkl : k < s.slots.length := (List.getElem?_eq_some_iff.1 hk).1
  have hd : (St.off s).pw.down = true := by unfold St.off Pw.off; split <;> simp_all
  have hon : St.on (St.off s) fs = { pw := { (St.off s).pw with down := false }, slots := (onl s.slots (fateList fs) s.slots.length).map sure1 } := by
    unfold St.on; rw [if_pos hd]; rfl
  rw [hon]
  obtain ⟨h1, _⟩ := onl_at s.slots (fateList fs) k hk s.slots.length (Nat.le_refl _)
  obtain ⟨f, hf⟩ := h1 hkl
  have he : St.atErr { pw := { (St.off s).pw with down := false }, slots := (onl s.slots (fateList fs) s.slots.length).map sure1 } k = 0 := by
    unfold St.atErr
    rw [if_neg (by simp), if_neg (by simp [onl_length]; omega)]
  refine ⟨he, ?_⟩
  unfold St.read
  rw [if_neg (by simpa using he)]
  simp only [Int.toNat_natCast, List.getElem?_map, hf, Option.map_some, Option.getD_some, sure1]
  cases hx : x.opn with
  | false =>
    refine .inl ⟨rfl, ?_⟩
    rw [if_neg (by simp)]
    exact (ht x (List.mem_of_getElem? hk) hx).symm
  | true =>
    refine .inr ⟨rfl, ?_⟩
    rw [if_pos rfl]
    simp only
    unfold left
    split
    · exact .inl rfl
    · split
      · exact .inr (.inl rfl)
      · refine .inr (.inr ⟨_, ?_, rfl⟩)
        have := Int.emod_lt_of_pos (f.tdiv 3) (show (0 : Int) < ((x.now.length + 1 : Nat) : Int) by omega)
        have := Int.emod_nonneg (f.tdiv 3) (show ((x.now.length + 1 : Nat) : Int) ≠ 0 by omega)
        omega

def nowCells (ss : List Slot) : Array Value := (ss.map fun x => Value.string ⟨x.now.toArray⟩).toArray
def sureCells (ss : List Slot) : Array Value := (ss.map fun x => Value.string ⟨x.sure.toArray⟩).toArray
def openCells (ss : List Slot) : Array Value := (ss.map fun x => Value.bool x.opn).toArray
/-- what the law keeps beside the shelf -/
structure Beside (w : World) (q1 q2 q3 : Nat) (ss : List Slot) : Prop where
  sure : w.heap[q1]? = some (.cells (sureCells ss) 54 (0, 0))
  now : w.heap[q2]? = some (.cells (nowCells ss) 54 (0, 0))
  opn : w.heap[q3]? = some (.cells (openCells ss) 69 (0, 0))
theorem Beside.keep {w w' : World} {q1 q2 q3 : Nat} {ss : List Slot} {cs : List Nat} (h : Beside w q1 q2 q3 ss) (ho : Only cs w w') (h1 : q1 ∉ cs) (h2 : q2 ∉ cs) (h3 : q3 ∉ cs) : Beside w' q1 q2 q3 ss :=
  ⟨ho.keep h.sure h1, ho.keep h.now h2, ho.keep h.opn h3⟩
theorem Beside.cells {w : World} {q1 q2 q3 : Nat} {ss : List Slot} (h : Beside w q1 q2 q3 ss) (k : Nat) {x : Slot} (hk : ss[k]? = some x) :
    w.cell? ⟨q1, k, none⟩ = some (.string ⟨x.sure.toArray⟩) ∧ w.cell? ⟨q2, k, none⟩ = some (.string ⟨x.now.toArray⟩) ∧ w.cell? ⟨q3, k, none⟩ = some (.bool x.opn) := by
  refine ⟨?_, ?_, ?_⟩
  · rw [Lib.cell_of_heap h.sure]; simp [sureCells, hk]
  · rw [Lib.cell_of_heap h.now]; simp [nowCells, hk]
  · rw [Lib.cell_of_heap h.opn]; simp [openCells, hk]
theorem beside_new (w : World) : Beside (((w.alloc (.cells #[.string ⟨#[]⟩, .string ⟨#[]⟩, .string ⟨#[]⟩, .string ⟨#[]⟩, .string ⟨#[]⟩, .string ⟨#[]⟩, .string ⟨#[]⟩, .string ⟨#[]⟩] 54)).alloc (.cells #[.string ⟨#[]⟩, .string ⟨#[]⟩, .string ⟨#[]⟩, .string ⟨#[]⟩, .string ⟨#[]⟩, .string ⟨#[]⟩, .string ⟨#[]⟩, .string ⟨#[]⟩] 54)).alloc (.cells #[.bool false, .bool false, .bool false, .bool false, .bool false, .bool false, .bool false, .bool false] 69)) w.heap.size (w.heap.size + 1) (w.heap.size + 1 + 1) (List.replicate 8 slot0) ∧ Only [] w (((w.alloc (.cells #[.string ⟨#[]⟩, .string ⟨#[]⟩, .string ⟨#[]⟩, .string ⟨#[]⟩, .string ⟨#[]⟩, .string ⟨#[]⟩, .string ⟨#[]⟩, .string ⟨#[]⟩] 54)).alloc (.cells #[.string ⟨#[]⟩, .string ⟨#[]⟩, .string ⟨#[]⟩, .string ⟨#[]⟩, .string ⟨#[]⟩, .string ⟨#[]⟩, .string ⟨#[]⟩, .string ⟨#[]⟩] 54)).alloc (.cells #[.bool false, .bool false, .bool false, .bool false, .bool false, .bool false, .bool false, .bool false] 69)) := by
  obtain ⟨c1, hc1⟩ : ∃ c : Obj, c = (.cells #[.string ⟨#[]⟩, .string ⟨#[]⟩, .string ⟨#[]⟩, .string ⟨#[]⟩, .string ⟨#[]⟩, .string ⟨#[]⟩, .string ⟨#[]⟩, .string ⟨#[]⟩] 54) := ⟨_, rfl⟩
  obtain ⟨c3, hc3⟩ : ∃ c : Obj, c = (.cells #[.bool false, .bool false, .bool false, .bool false, .bool false, .bool false, .bool false, .bool false] 69) := ⟨_, rfl⟩
  rw [← hc1, ← hc3]
  have a1 := heap_alloc_new w c1
  have a2 := heap_alloc_new (w.alloc c1) c1
  have a3 := heap_alloc_new ((w.alloc c1).alloc c1) c3
  have z2 : (w.alloc c1).heap.size = w.heap.size + 1 := by simp
  have z3 : ((w.alloc c1).alloc c1).heap.size = w.heap.size + 1 + 1 := by simp
  rw [z2] at a2
  rw [z3] at a3
  have o2 : Only [] (w.alloc c1) (((w.alloc c1).alloc c1).alloc c3) := ((Only.refl [] _).alloc _).alloc _
  have o3 : Only [] ((w.alloc c1).alloc c1) (((w.alloc c1).alloc c1).alloc c3) := (Only.refl [] _).alloc _
  refine ⟨⟨?_, ?_, ?_⟩, (((Only.refl [] _).alloc _).alloc _).alloc _⟩
  · have := o2.keep a1 (by simp)
    rw [this, hc1]; rfl
  · have := o3.keep a2 (by simp)
    rw [this, hc1]; rfl
  · rw [a3, hc3]; rfl
theorem eight {α : Type} {l : List α} (h : l.length = 8) : ∃ a0 a1 a2 a3 a4 a5 a6 a7, l = [a0, a1, a2, a3, a4, a5, a6, a7] := by
  match l, h with
  | [a0, a1, a2, a3, a4, a5, a6, a7], _ => exact ⟨a0, a1, a2, a3, a4, a5, a6, a7, rfl⟩
theorem nowCells_set (ss : List Slot) (k : Nat) {x : Slot} (hk : ss[k]? = some x) (t : List UInt8) : (nowCells ss).setIfInBounds k (.string ⟨t.toArray⟩) = nowCells (setNow ss k t) := by
  unfold setNow
  rw [hk]
  simp [nowCells, List.map_set]
theorem openCells_set (ss : List Slot) (k : Nat) {x : Slot} (hk : ss[k]? = some x) (t : List UInt8) : (openCells ss).setIfInBounds k (.bool true) = openCells (setNow ss k t) := by
  unfold setNow
  rw [hk]
  simp [openCells, List.map_set]
theorem sureCells_set (ss : List Slot) (k : Nat) {x : Slot} (hk : ss[k]? = some x) (t : List UInt8) : sureCells ss = sureCells (setNow ss k t) := by
  unfold setNow
  rw [hk]
  have hl := (List.getElem?_eq_some_iff.1 hk).1
  have he := (List.getElem?_eq_some_iff.1 hk).2
  simp only [sureCells, List.map_set]
  congr 1
  refine (List.ext_getElem? fun i => ?_)
  by_cases hi : i = k
  · subst hi
    rw [List.getElem?_set_self (by simpa using hl)]
    simp [he, List.getElem?_eq_getElem hl]
  · rw [List.getElem?_set_ne (by omega)]
theorem act_up {p : Pw} (h1 : p.down = false) (h2 : p.err = 0) : p.act.down = false := by
  unfold Pw.err at h2
  unfold Pw.act
  split
  · exact h1
  · rename_i h0
    split
    · rename_i h1'
      rw [if_pos h1'] at h2
      cases h2
    · exact h1
theorem store_row {w : World} {g : Nat} {old cs : Array Value} {T : TypeId} (hg : w.heap[g]? = some (.cells old T (0, 0))) (hs : old.size = cs.size) (h1 : cs.all (·.oneCell') = true) :
    (storeCells ⟨g, 0, none⟩ cs.toList 0).run Try.prog w = .ok () (w.setRow g cs) := by
  have := run_storeCells_from (P := Try.prog) g T cs.toList 0 old w hg (by simp; omega) (fun v hv => (Array.all_eq_true_iff_forall_mem.1 h1) v (by simpa using hv))
  simpa using this
theorem Only.setRow {bs : List Nat} {a b : World} (h : Only bs a b) {g : Nat} (hp : g ∈ bs) (cs : Array Value) : Only bs a (b.setRow g cs) :=
  h.trans ⟨rfl, rfl, rfl, by simp [World.setRow], fun k _ hn => setRow_other _ _ _ _ (fun e => hn (by rw [e]; exact hp))⟩
theorem nowCells_size (ss : List Slot) : (nowCells ss).size = ss.length := by simp [nowCells]
theorem sureCells_size (ss : List Slot) : (sureCells ss).size = ss.length := by simp [sureCells]
theorem openCells_size (ss : List Slot) : (openCells ss).size = ss.length := by simp [openCells]
theorem nowCells_one (ss : List Slot) : (nowCells ss).all (·.oneCell') = true := by
  rw [Array.all_eq_true_iff_forall_mem]
  intro v hv
  simp only [nowCells, List.mem_toArray, List.mem_map] at hv
  obtain ⟨x, _, rfl⟩ := hv
  rfl
def shutCells : Array Value := #[.bool false, .bool false, .bool false, .bool false, .bool false, .bool false, .bool false, .bool false]
theorem Beside.sync {w : World} {q1 q2 q3 : Nat} {ss : List Slot} (h : Beside w q1 q2 q3 ss) (h8 : ss.length = 8) (h12 : q1 ≠ q2) (h13 : q1 ≠ q3) (h23 : q2 ≠ q3) :
    Beside ((w.setRow q1 (nowCells ss)).setRow q3 shutCells) q1 q2 q3 (ss.map sure1) := by
  have e1 : sureCells (ss.map sure1) = nowCells ss := by simp [sureCells, nowCells, sure1]
  have e2 : nowCells (ss.map sure1) = nowCells ss := by simp [nowCells, sure1]
  have e3 : openCells (ss.map sure1) = shutCells := by
    obtain ⟨a0, a1, a2, a3, a4, a5, a6, a7, rfl⟩ := eight h8
    rfl
  refine ⟨?_, ?_, ?_⟩
  · rw [e1, setRow_other _ _ _ _ h13]; exact setRow_heap _ _ _ _ _ _ h.sure
  · rw [e2, setRow_other _ _ _ _ h23, setRow_other _ _ _ _ h12.symm]; exact h.now
  · rw [e3]; exact setRow_heap _ _ _ _ _ _ (show ((w.setRow q1 (nowCells ss)).heap[q3]? = _) by rw [setRow_other _ _ _ _ h13.symm]; exact h.opn)
end Go.Proofs.Ytecofehfheodhaa
