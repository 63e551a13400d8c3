/-
  Layer 3 (comb): data of manifests; rows that may still be nil; the walks of Good, Split.
-/
import Derived.Test.YthcmlbbbbcinkaaDoorLaid
import Derived.Deep.MidRow
set_option linter.unusedVariables false
set_option linter.unusedSimpArgs false
namespace Go.Proofs.YthcmlbbbbcinkaaDoor
open Go.RowKit
attribute [local go_sem] Lb.ba_get Lb.ba_cut Lb.ba_add Lb.ba_size Lb.take_rest

/-! ### rows of the call's own that may still be nil -/
def Bag0 (w : World) (B size : Nat) (v : Value) (m : Nat) (cs : List Value) : Prop :=
  (v = .slice none 0 0 ∧ m = 0 ∧ cs = []) ∨ ∃ g cap, v = .slice (some ⟨g, 0, none⟩) m cap ∧ B ≤ g ∧ Bag w size g cap m cs

theorem Bag0.nil (w : World) (B size : Nat) : Bag0 w B size (.slice none 0 0) 0 [] := .inl ⟨rfl, rfl, rfl⟩
theorem Bag0.below {w w' : World} {B size m : Nat} {v : Value} {cs : List Value} (h : Bag0 w B size v m cs) (hb : Below w.heap.size w w') : Bag0 w' B size v m cs := by
  rcases h with h | ⟨g, cap, hv, hg, hB⟩
  · exact .inl h
  · exact .inr ⟨g, cap, hv, hg, hB.keep (hb.block g hB.lt)⟩
theorem Bag0.alloc {w : World} {B size m : Nat} {v : Value} {cs : List Value} (h : Bag0 w B size v m cs) (o : Obj) : Bag0 (w.alloc o) B size v m cs := h.below ((Below.refl _ w).alloc (Nat.le_refl _) o)
theorem Bag0.shape {w : World} {B size m : Nat} {v : Value} {cs : List Value} (h : Bag0 w B size v m cs) : ∃ A cap, v = .slice A m cap ∧ cap ≤ maxLen ∧ m ≤ cap := by
  rcases h with ⟨rfl, rfl, _⟩ | ⟨g, cap, hv, _, hB⟩
  · exact ⟨none, 0, rfl, by unfold maxLen; omega, Nat.le_refl _⟩
  · exact ⟨_, cap, hv, hB.max, hB.le⟩

theorem run_append_bag0 {P : Program} {B size m : Nat} {v : Value} {cs : List Value} (t tx ty e : TypeId) (i : TypeInfo) (z : Value) (bytes : Nat) (ht : P.underlying t = some (.slice e)) (hi : P.info? e = some i) (hz : i.zero = some z) (hsize : i.size = size) (hby : i.bytes = bytes) (hzs : z.cells.size = size)
    {w : World} (hBw : B ≤ w.heap.size) (h : Bag0 w B size v m cs) (x : Value) (n : Nat) (news : List Value) (hs : Src P size tx x n news w) (hn : 0 < n) (h63 : m + n ≤ maxLen) (hbytes : (m + n) * bytes ≤ 140737488355328) :
    ∃ v' w', (Builtin.append_ #[t, tx] ty #[v, x]).run P w = .ok v' w' ∧ Bag0 w' B size v' (m + n) (cs ++ news) ∧ Below B w w' := by
  rcases h with ⟨rfl, rfl, rfl⟩ | ⟨g, cap, rfl, hg, hB⟩
  · subst hsize
    subst hby
    have hnl := hs.newsLen
    have hsmall : 0 + n ≤ 9223372036854775807 := by simp only [maxLen] at h63; omega
    have hold := run_firstCells_none (P := P) w.drew i.size 0 0 0
    have hrun := run_append_grow_src (P := P) w t tx ty e i z ht hi hz none 0 0 [] (by exact hold) x n news hs (by omega) (by omega) (growslice_fits (by omega) hbytes)
    have hge := grownCap_ge w (0 + n) 0 e
    have hcm := grownCap_le_maxLen w (0 + n) 0 e h63
    have hL : (([] : List Value) ++ news).length = (0 + n) * i.size := by rw [List.nil_append, hnl, Nat.zero_add]
    have hsz : ((([] : List Value) ++ news).toArray ++ Builtin.zeroCells z.cells (grownCap w (0 + n) 0 e - (0 + n))).size = grownCap w (0 + n) 0 e * i.size := by
      rw [Array.size_append, List.size_toArray, hL, size_zeroCells, hzs, ← Nat.add_mul]
      congr 1
      omega
    refine ⟨_, _, hrun, .inr ⟨w.heap.size, _, rfl, hBw, ⟨hge, hcm, by simp, hL, fun j u hu => ?_, fun j hj => ⟨?_, ?_⟩⟩⟩, (((Below.refl _ w).drew).alloc hBw _)⟩
    · have e1 : (w.drew.alloc (.cells ((([] : List Value) ++ news).toArray ++ Builtin.zeroCells z.cells (grownCap w (0 + n) 0 e - (0 + n))) e)).cell? ⟨w.heap.size, j, none⟩ = _ := World.cell?_alloc_new w.drew _ _ j
      rw [e1, Array.getElem?_append_left (by simp only [List.size_toArray]; exact (List.getElem?_eq_some_iff.1 hu).1), List.getElem?_toArray, hu]
    · have e1 : (w.drew.alloc (.cells ((([] : List Value) ++ news).toArray ++ Builtin.zeroCells z.cells (grownCap w (0 + n) 0 e - (0 + n))) e)).cell? ⟨w.heap.size, j, none⟩ = _ := World.cell?_alloc_new w.drew _ _ j
      rw [e1, Array.getElem?_eq_getElem (by rw [hsz]; exact hj)]
      rfl
    · exact World.frozen?_alloc_new w.drew _ _ j
  · obtain ⟨g', cap', w', hrun, h1, h2, h3⟩ := run_append_bag t tx ty e i z bytes ht hi hz hsize hby hzs hB x n news hs h63 hbytes
    refine ⟨_, w', hrun, .inr ⟨g', cap', rfl, by omega, h1⟩, h2.below hBw (by simp; exact hg)⟩

theorem wpList_append_bag0 {P : Program} (w : World) {ops : Array Oper} {rest : List Oper} {o : Oper} {a : Act} {Q : Exit → Act → World → Prop} (hgd : o.guard = none) (s x : Operand) (t tx : TypeId)
    (ho : o.op = .call { callee := .builtin .append, args := #[s, x], argTypes := #[t, tx] })
    {e : TypeId} {B size m : Nat} {v : Value} {cs : List Value}
    (i : TypeInfo) (z : Value) (bytes : Nat) (ht : P.underlying t = some (.slice e)) (hi : P.info? e = some i) (hz : i.zero = some z) (hsize : i.size = size) (hby : i.bytes = bytes) (hzs : z.cells.size = size)
    (hBw : B ≤ w.heap.size) (hv : a.eval s = v) (h : Bag0 w B size v m cs)
    (xv : Value) (n : Nat) (news : List Value) (hx : a.eval x = xv) (hs : Src P size tx xv n news w) (hn : 0 < n) (h63 : m + n ≤ maxLen) (hbytes : (m + n) * bytes ≤ 140737488355328)
    (hK : ∀ v' w', Bag0 w' B size v' (m + n) (cs ++ news) → Below B w w' → wpList P ops Q rest (a.put o.dst v') w') : wpList P ops Q (o :: rest) a w := by
  refine wpList_plain hgd fun K hK' => ?_
  obtain ⟨v', w', hrun, h1, h2⟩ := run_append_bag0 (P := P) t tx o.type e i z bytes ht hi hz hsize hby hzs hBw h xv n news hs hn h63 hbytes
  unfold Oper.wp
  simp [execOp, ho, resolve, invoke, builtin, hv, hx, hrun, Result.andThen]
  exact hK' _ _ (hK v' w' h1 h2)

/-! ### chunks -/
def chunk (l : List UInt8) (j : Nat) : List UInt8 := (l.drop (64 * j)).take 64
def chunksN (l : List UInt8) (n : Nat) : List (List UInt8) := (List.range n).map (chunk l)
def chunks (l : List UInt8) : List (List UInt8) := chunksN l ((l.length + 63) / 64)
def rowT (ts : List (List UInt8)) : List Value := ts.map fun t => Value.string ⟨t.toArray⟩
theorem chunksN_succ (l : List UInt8) (n : Nat) : chunksN l (n + 1) = chunksN l n ++ [chunk l n] := by simp [chunksN, List.range_succ]
theorem chunksN_length (l : List UInt8) (n : Nat) : (chunksN l n).length = n := by simp [chunksN]
theorem chunks_length (l : List UInt8) : (chunks l).length = (l.length + 63) / 64 := chunksN_length _ _
theorem rowT_append (a b : List (List UInt8)) : rowT (a ++ b) = rowT a ++ rowT b := by simp [rowT]
theorem chunks_get (l : List UInt8) (j : Nat) (h : j < (chunks l).length) : (chunks l)[j] = chunk l j := by simp [chunks, chunksN]

theorem str_src {w : World} (a : Addr) (c : Nat) (s : ByteArray) (h : w.cell? a = some (.string s)) : Src Tryd.prog 1 54 (.slice (some a) 1 c) 1 [.string s] w := by
  refine Src.ofSlice w Tryd.underlying54 a 1 c _ (by simp) (fun j u hu => ?_) (fun u hu => ?_)
  · have hj : j = 0 := by have := (List.getElem?_eq_some_iff.1 hu).1; simpa using this
    subst hj
    simp at hu
    rw [show a.add 0 = a by simp [Addr.add], h, hu]
  · simp at hu; subst hu; rfl

/-- a row of texts -/
def Txts (w : World) (B : Nat) (v : Value) (ts : List (List UInt8)) : Prop := Bag0 w B 1 v ts.length (rowT ts)
theorem str_info : (Tryd.prog.info? 9).map (fun i => (i.zero, i.size, i.bytes)) = some (some (.string ByteArray.empty), 1, 16) := by kernel_rfl

end Go.Proofs.YthcmlbbbbcinkaaDoor
