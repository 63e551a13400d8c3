/-
  The walks of layer 2 (stamp): Sum, Of.
-/
import Derived.Test.YthcmlbbbbcinkaaDoorStE
import Derived.Deep.Upon
set_option linter.unusedVariables false
set_option linter.unusedSimpArgs false
namespace Go.Proofs.YthcmlbbbbcinkaaDoor
open Go.RowKit
attribute [local go_sem] Lb.ba_get Lb.ba_cut Lb.ba_add Lb.ba_size Lb.take_rest

def byV (l : List UInt8) : List Value := l.map fun b => Value.int .u8 ((b.toNat : Nat) : Int)

/-- a row of the call's own: n elements at the start of block g, room for cap -/
structure Bag (w : World) (size g cap n : Nat) (cs : List Value) : Prop where
  le : n ≤ cap
  max : cap ≤ maxLen
  lt : g < w.heap.size
  len : cs.length = n * size
  holds : ∀ j u, cs[j]? = some u → w.cell? ⟨g, j, none⟩ = some u
  there : ∀ j, j < cap * size → (w.cell? ⟨g, j, none⟩).isSome = true ∧ w.frozen? ⟨g, j, none⟩ = false

theorem Bag.keep {w w' : World} {size g cap n : Nat} {cs : List Value} (h : Bag w size g cap n cs) (hb : w'.heap[g]? = w.heap[g]?) : Bag w' size g cap n cs := by
  have hlt : g < w'.heap.size := by
    rcases Nat.lt_or_ge g w'.heap.size with h' | h'
    · exact h'
    · rw [Array.getElem?_eq_none h'] at hb
      have := Array.getElem?_eq_getElem h.lt
      rw [this] at hb; cases hb
  refine ⟨h.le, h.max, hlt, h.len, fun j u hu => ?_, fun j hj => ?_⟩
  · exact (World.cell?_of_block (a := ⟨g, j, none⟩) hb).trans (h.holds j u hu)
  · rw [World.cell?_of_block (a := ⟨g, j, none⟩) hb, World.frozen?_of_block (a := ⟨g, j, none⟩) hb]; exact h.there j hj
theorem Bag.only {bs : List Nat} {w w' : World} {size g cap n : Nat} {cs : List Value} (h : Bag w size g cap n cs) (ho : Only bs w w') (hn : g ∉ bs) : Bag w' size g cap n cs := h.keep (ho.block g h.lt hn)
theorem Bag.alloc {w : World} {size g cap n : Nat} {cs : List Value} (h : Bag w size g cap n cs) (o : Obj) : Bag (w.alloc o) size g cap n cs := h.only ((Only.refl [] w).alloc o) (by simp)

theorem Only.setCells {a b : World} {bs : List Nat} (h : Only bs a b) {g : Nat} (hg : g ∈ bs) : ∀ (vs : List Value) (o : Nat), Only bs a (b.setCells g o vs) := by
  intro vs
  induction vs generalizing b with
  | nil => intro o; exact h
  | cons v vs ih => intro o; exact ih (h.setCell hg v) (o + 1)

theorem Only.above {a b c : World} {bs cs : List Nat} (h : Only bs a b) (k : Only cs b c) (hc : ∀ x ∈ cs, a.heap.size ≤ x) : Only bs a c :=
  ⟨k.os.trans h.os, k.tape.trans h.tape, k.output.trans h.output, Nat.le_trans h.size k.size, fun i hi hn => (k.block i (Nat.lt_of_lt_of_le hi h.size) (fun hm => by have := hc i hm; omega)).trans (h.block i hi hn)⟩

theorem run_append_bag {P : Program} {size g cap m : Nat} {cs : List Value} (t tx ty e : TypeId) (i : TypeInfo) (z : Value) (bytes : Nat) (ht : P.underlying t = some (.slice e)) (hi : P.info? e = some i) (hz : i.zero = some z) (hsize : i.size = size) (hby : i.bytes = bytes) (hzs : z.cells.size = size)
    {w : World} (h : Bag w size g cap m cs) (x : Value) (n : Nat) (news : List Value) (hs : Src P size tx x n news w) (h63 : m + n ≤ maxLen) (hbytes : (m + n) * bytes ≤ 140737488355328) :
    ∃ g' cap' w', (Builtin.append_ #[t, tx] ty #[.slice (some ⟨g, 0, none⟩) m cap, x]).run P w = .ok (.slice (some ⟨g', 0, none⟩) (m + n) cap') w' ∧ Bag w' size g' cap' (m + n) (cs ++ news) ∧ Only [g] w w' ∧ (g' = g ∨ w.heap.size ≤ g') := by
  subst hsize
  subst hby
  have hnl := hs.newsLen
  have hol := h.len
  have hsmall : m + n ≤ 9223372036854775807 := by simp only [maxLen] at h63; omega
  by_cases hfit : m + n ≤ cap
  · have hrc : (m + n) * i.size ≤ cap * i.size := Nat.mul_le_mul_right _ hfit
    rw [Nat.add_mul] at hrc
    have hsome : ∀ j, j < news.length → (w.cell? ⟨g, 0 + m * i.size + j, none⟩).isSome = true := fun j hj => by rw [Nat.zero_add]; exact (h.there _ (by omega)).1
    have hrun := run_append_room_src (P := P) w t tx ty e i ht hi g 0 m cap x n news hs hfit hsome (fun j hj => by rw [Nat.zero_add]; exact (h.there _ (by omega)).2)
    have ho : Only [g] w (w.setCells g (0 + m * i.size) news) := (Only.refl [g] w).setCells (by simp) _ _
    refine ⟨g, cap, _, hrun, ⟨hfit, h.max, Nat.lt_of_lt_of_le h.lt ho.size, by rw [List.length_append, hol, hnl, Nat.add_mul], fun j u hu => ?_, fun j hj => ⟨?_, ?_⟩⟩, ho, .inl rfl⟩
    · by_cases hj : j < cs.length
      · rw [List.getElem?_append_left hj] at hu
        rw [World.cell?_setCells_out g _ _ _ _ (fun _ _ => Or.inl (by show j < 0 + m * i.size; omega))]
        exact h.holds j u hu
      · rw [List.getElem?_append_right (by omega)] at hu
        have hlt := (List.getElem?_eq_some_iff.1 hu).1
        have := World.cell?_setCells_in g news (0 + m * i.size) w hsome (j - cs.length) hlt
        rw [show 0 + m * i.size + (j - cs.length) = j by omega] at this
        rw [this, ← (List.getElem?_eq_some_iff.1 hu).2]
    · by_cases hin : m * i.size ≤ j ∧ j < m * i.size + news.length
      · have := World.cell?_setCells_in g news (0 + m * i.size) w hsome (j - m * i.size) (by omega)
        rw [show 0 + m * i.size + (j - m * i.size) = j by omega] at this
        rw [this]; rfl
      · rw [World.cell?_setCells_out g _ _ _ _ (fun _ _ => by show j < 0 + m * i.size ∨ 0 + m * i.size + news.length ≤ j; omega)]
        exact (h.there j hj).1
    · exact (World.frozen?_setCells g _ _ _ _).trans (h.there j hj).2
  · have hold := run_firstCells_some (P := P) w.drew i.size m ⟨g, 0, none⟩ m cap cs hol (fun j u hu => by rw [Addr.add_lit, Nat.zero_add]; exact h.holds j u hu)
    have hrun := run_append_grow_src (P := P) w t tx ty e i z ht hi hz (some ⟨g, 0, none⟩) m cap cs (by exact hold) x n news hs (by omega) (by omega) (growslice_fits (by omega) hbytes)
    have hge := grownCap_ge w (m + n) cap e
    have hcm := grownCap_le_maxLen w (m + n) cap e h63
    have hL : (cs ++ news).length = (m + n) * i.size := by rw [List.length_append, hol, hnl, Nat.add_mul]
    have hsz : ((cs ++ news).toArray ++ Builtin.zeroCells z.cells (grownCap w (m + n) cap e - (m + n))).size = grownCap w (m + n) cap e * i.size := by
      rw [Array.size_append, List.size_toArray, hL, size_zeroCells, hzs, ← Nat.add_mul]
      congr 1
      omega
    refine ⟨w.heap.size, _, _, hrun, ⟨hge, hcm, by simp, hL, fun j u hu => ?_, fun j hj => ⟨?_, ?_⟩⟩, ((Only.refl [g] w).drew).alloc _, .inr (Nat.le_refl _)⟩
    · have e1 : (w.drew.alloc (.cells ((cs ++ news).toArray ++ Builtin.zeroCells z.cells (grownCap w (m + n) cap e - (m + n))) e)).cell? ⟨w.heap.size, j, none⟩ = _ := World.cell?_alloc_new w.drew _ _ j
      rw [e1, Array.getElem?_append_left (by simp only [List.size_toArray]; exact (List.getElem?_eq_some_iff.1 hu).1), List.getElem?_toArray, hu]
    · have e1 : (w.drew.alloc (.cells ((cs ++ news).toArray ++ Builtin.zeroCells z.cells (grownCap w (m + n) cap e - (m + n))) e)).cell? ⟨w.heap.size, j, none⟩ = _ := World.cell?_alloc_new w.drew _ _ j
      rw [e1, Array.getElem?_eq_getElem (by rw [hsz]; exact hj)]
      rfl
    · exact World.frozen?_alloc_new w.drew _ _ j

theorem wpList_append_bag {P : Program} (w : World) {ops : Array Oper} {rest : List Oper} {o : Oper} {a : Act} {Q : Exit → Act → World → Prop} (hgd : o.guard = none) (s x : Operand) (t tx : TypeId)
    (ho : o.op = .call { callee := .builtin .append, args := #[s, x], argTypes := #[t, tx] })
    {e : TypeId} {size g cap m : Nat} {cs : List Value}
    (i : TypeInfo) (z : Value) (bytes : Nat) (ht : P.underlying t = some (.slice e)) (hi : P.info? e = some i) (hz : i.zero = some z) (hsize : i.size = size) (hby : i.bytes = bytes) (hzs : z.cells.size = size)
    (hv : a.eval s = .slice (some ⟨g, 0, none⟩) m cap) (h : Bag w size g cap m cs)
    (xv : Value) (n : Nat) (news : List Value) (hx : a.eval x = xv) (hs : Src P size tx xv n news w) (h63 : m + n ≤ maxLen) (hbytes : (m + n) * bytes ≤ 140737488355328)
    (hK : ∀ g' cap' w', Bag w' size g' cap' (m + n) (cs ++ news) → Only [g] w w' → (g' = g ∨ w.heap.size ≤ g') → wpList P ops Q rest (a.put o.dst (.slice (some ⟨g', 0, none⟩) (m + n) cap')) w') : wpList P ops Q (o :: rest) a w := by
  refine wpList_plain hgd fun K hK' => ?_
  obtain ⟨g', cap', w', hrun, h1, h2, h3⟩ := run_append_bag (P := P) t tx o.type e i z bytes ht hi hz hsize hby hzs h xv n news hs h63 hbytes
  unfold Oper.wp
  simp [execOp, ho, resolve, invoke, builtin, hv, hx, hrun, Result.andThen]
  exact hK' _ _ (hK g' cap' w' h1 h2 h3)

theorem bytes_bag (l : List UInt8) (w : World) (hl : l.length ≤ 281474976710656) :
    ∃ (W1 : World) (cap : Nat), (convert 9 45 (.string ⟨l.toArray⟩)).run Tryd.prog w = .ok (.slice (some ⟨w.heap.size, 0, none⟩) l.length cap) W1 ∧ Only [] w W1 ∧ Bag W1 1 w.heap.size cap l.length (byV l) := by
  have hge := grownCap_ge w l.length 0 5
  have hmx := grownCap_le_maxLen w l.length 0 5 (by unfold maxLen; omega)
  have hrun := run_bytes_of_string (P := Tryd.prog) w 9 45 5 ⟨l.toArray⟩ Tryd.underlying9 Tryd.underlying45 Tryd.underlying5
  have hs : (⟨l.toArray⟩ : ByteArray).size = l.length := rfl
  rw [hs] at hrun
  obtain ⟨cap, hcap⟩ : ∃ cap, cap = grownCap w l.length 0 5 := ⟨_, rfl⟩
  rw [← hcap] at hge hmx hrun
  have hsz : (bytesRow ⟨l.toArray⟩ cap).size = cap := by
    simp only [bytesRow, Array.size_append, Array.size_map, Array.size_replicate]
    show l.toArray.size + (cap - l.length) = cap
    simp; omega
  refine ⟨_, cap, hrun, ((Only.refl [] w).drew).alloc _, ?_⟩
  have hh : (w.drew.alloc (.cells (bytesRow ⟨l.toArray⟩ cap) 5 ((bytesRow ⟨l.toArray⟩ cap).size, (bytesRow ⟨l.toArray⟩ cap).size + 1))).heap[w.heap.size]? = some (.cells (bytesRow ⟨l.toArray⟩ cap) 5 ((bytesRow ⟨l.toArray⟩ cap).size, (bytesRow ⟨l.toArray⟩ cap).size + 1)) := heap_alloc_new w.drew _
  obtain ⟨W, hW⟩ : ∃ W, W = w.drew.alloc (.cells (bytesRow ⟨l.toArray⟩ cap) 5 ((bytesRow ⟨l.toArray⟩ cap).size, (bytesRow ⟨l.toArray⟩ cap).size + 1)) := ⟨_, rfl⟩
  rw [← hW] at hh ⊢
  have hlt : w.heap.size < W.heap.size := by rw [hW]; simp
  clear hrun hW
  rw [hsz] at hh
  have hcell : ∀ j, W.cell? ⟨w.heap.size, j, none⟩ = (bytesRow ⟨l.toArray⟩ cap)[j]? := fun j => by unfold World.cell?; simp only [hh]; rfl
  have hfr : ∀ j, j < cap → W.frozen? ⟨w.heap.size, j, none⟩ = false := fun j hj => by
    unfold World.frozen?
    simp only [hh]
    simp only [Bool.and_eq_false_iff, decide_eq_false_iff_not]
    exact .inl (by omega)
  refine ⟨hge, hmx, hlt, by simp [byV], fun j u hu => ?_, fun j hj => ?_⟩
  · have hjl : j < l.length := by have := (List.getElem?_eq_some_iff.1 hu).1; simpa [byV] using this
    rw [hcell, bytesRow_at _ _ _ (by simpa using hjl)]
    have e := (List.getElem?_eq_some_iff.1 hu).2
    simp only [byV, List.getElem_map] at e
    rw [← e]
    rfl
  · have hlt2 : j < cap := by omega
    refine ⟨?_, hfr _ hlt2⟩
    rw [hcell, Array.getElem?_eq_getElem (by rw [hsz]; exact hlt2)]
    rfl
end Go.Proofs.YthcmlbbbbcinkaaDoor
