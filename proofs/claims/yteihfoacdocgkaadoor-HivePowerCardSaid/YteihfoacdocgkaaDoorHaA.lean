/-
  Layer 17 (haul): frames and what is sent, as rows of cells; the memory of a fetch; the walk of ask.
-/
import Derived.Test.YteihfoacdocgkaaDoorHaP
import Derived.Test.YteihfoacdocgkaaDoorCoE
set_option linter.unusedVariables false
set_option linter.unusedSimpArgs false
namespace Go.Proofs.YteihfoacdocgkaaDoor
open Go.RowKit
attribute [local go_sem] Lb.ba_get Lb.ba_cut Lb.ba_add Lb.ba_size Lb.take_rest

/-! ### frames -/
structure FrD where
  kind : Int
  from_ : Int
  x1 : List Value
  out : List UInt8
  at_ : Int
  data : List UInt8
  x2 : List Value
  mani : ManiD
  x3 : List Value
def FrD.cells (f : FrD) : List Value := [Value.int .i64 f.kind, Value.int .i64 f.from_] ++ (f.x1 ++ (byV f.out ++ ([Value.int .i64 f.at_, Value.string ⟨f.data.toArray⟩] ++ (f.x2 ++ (f.mani.cells ++ f.x3)))))
def FrD.row (f : FrD) : Array Value := f.cells.toArray
structure FrD.Fit (f : FrD) : Prop where
  l1 : f.x1.length = 100
  lo : f.out.length = 32
  l2 : f.x2.length = 64
  lm : f.mani.whole.length = 32
  l3 : f.x3.length = 3
  o1 : f.x1.all (·.oneCell') = true
  o2 : f.x2.all (·.oneCell') = true
  o3 : f.x3.all (·.oneCell') = true
theorem mani_cells_len (m : ManiD) (h : m.whole.length = 32) : m.cells.length = 34 := by simp [ManiD.cells, byV, h]
theorem FrD.len {f : FrD} (h : f.Fit) : f.cells.length = 237 := by
  have := mani_cells_len f.mani h.lm
  simp [FrD.cells, h.l1, h.lo, h.l2, h.l3, byV_length, this]
theorem FrD.row_size {f : FrD} (h : f.Fit) : f.row.size = 237 := by simp [FrD.row, f.len h]
def zx1 : List Value := [Value.int .i64 0, Value.int .i64 0] ++ (byV (List.replicate 32 0) ++ ([Value.bool false] ++ (byV (List.replicate 32 0) ++ ([Value.int .i64 0] ++ byV (List.replicate 32 0)))))
def zx2 : List Value := byV (List.replicate 64 0)
def zx3 : List Value := [Value.slice none 0 0, Value.slice none 0 0, Value.slice none 0 0]
def zeroFr : FrD := ⟨0, 0, zx1, List.replicate 32 0, 0, [], zx2, zeroMani, zx3⟩
def frPlaces : List (Nat × Nat) := [(0, 1), (1, 1), (2, 1), (3, 1), (4, 32), (36, 1), (37, 65), (102, 32), (134, 1), (135, 1), (136, 64), (200, 34), (234, 1), (235, 1), (236, 1)]
def frPlace (i : Nat) : Option (Nat × Nat) := frPlaces.toArray[i]?

theorem fill_seg {place : Nat → Option (Nat × Nat)} {pre old post vs : List Value} {i : Nat} {v : Value} {rest : List (Nat × Value)} {off size : Nat} (hp : place i = some (off, size)) (hv : v.cells = vs.toArray) (hs : vs.length = size) (hpre : pre.length = off) (hold : old.length = size) :
    Instr.fill place (pre ++ (old ++ post)).toArray ((i, v) :: rest) = Instr.fill place (pre ++ (vs ++ post)).toArray rest := by
  refine fill_one hp (by rw [hv]; simpa using hs) (by simp; omega) ?_
  have h := fold_cells vs 0 off pre old post (by omega) (by omega)
  rw [List.append_assoc, List.append_assoc] at h
  rw [hv, ← Array.foldl_toList, Array.toList_zipIdx]
  exact h
theorem cells_int (k : IntKind) (n : Int) : (Value.int k n).cells = [Value.int k n].toArray := rfl
theorem cells_str (s : ByteArray) : (Value.string s).cells = [Value.string s].toArray := rfl
theorem cells_agg (l : List Value) : (Value.agg l.toArray).cells = l.toArray := rfl

variable {rest : List (Nat × Value)}
theorem fill_nil (place : Nat → Option (Nat × Nat)) (C : Array Value) : Instr.fill place C [] = some C := rfl

/-- a frame that asks -/
def askFr (out : List UInt8) (i : Int) : FrD := { zeroFr with kind := 6, out := out, at_ := i }
/-! ### what is sent -/
def sentCells (tt : Int) (f : FrD) : List Value := Value.int .i64 tt :: f.cells
def sentRow (tt : Int) (f : FrD) : Array Value := (sentCells tt f).toArray
theorem byV_one (l : List UInt8) : (byV l).all (·.oneCell') = true := by
  rw [List.all_eq_true]
  intro v hv
  simp only [byV, List.mem_map] at hv
  obtain ⟨x, _, rfl⟩ := hv
  rfl
theorem FrD.one {f : FrD} (h : f.Fit) : f.cells.all (·.oneCell') = true := by
  have hm := f.mani.row_one
  unfold ManiD.row at hm
  rw [List.all_toArray] at hm
  simp only [FrD.cells, List.all_append, h.o1, h.o2, h.o3, byV_one, hm, Bool.and_true, Bool.true_and, List.all_cons, List.all_nil]
  rfl
/-- a row of frames that ask -/
def asksCells (peer : Int) (out : List UInt8) (ats : List Int) : List Value := (ats.map fun i => sentCells peer (askFr out i)).flatten
def Asks (w : World) (B : Nat) (v : Value) (peer : Int) (out : List UInt8) (ats : List Int) : Prop := Bag0 w B 238 v ats.length (asksCells peer out ats)

/-! ### the memory of a fetch -/
def Ck.cells (c : Ck) : List Value := [Value.string ⟨c.data.toArray⟩, Value.bool c.come, Value.bool c.asked, Value.int .i64 c.at_]
def ckCells (cks : List Ck) : List Value := (cks.map Ck.cells).flatten
def hlCells (d : HlD) (mv cv : Value) : List Value := [Value.string ⟨d.blob.toArray⟩, Value.bool d.done, Value.bool d.failed] ++ (byV d.out ++ [Value.int .i64 d.peer, Value.int .i64 d.ticks, mv, cv])
theorem range_keep {w w' : World} {b o : Nat} {cs : List Value} (h : w.rangeAt b o cs) (hb : w'.heap[b]? = w.heap[b]?) : w'.rangeAt b o cs := fun k v hv => (World.cell?_of_block (a := ⟨b, o + k, none⟩) hb).trans (h k v hv)
/-- old memory as it was; block g (above) still holds n cells -/
def HeldG (B : Nat) (w0 : World) (g n : Nat) (t : TypeId) (w' : World) : Prop := Below B w0 w' ∧ ∃ C : Array Value, C.size = n ∧ w'.heap[g]? = some (.cells C t (0, 0))
theorem HeldG.start {B : Nat} {w0 : World} {g n : Nat} {t : TypeId} {C : Array Value} (hC : C.size = n) (h : w0.heap[g]? = some (.cells C t (0, 0))) : HeldG B w0 g n t w0.drew := ⟨(Below.refl _ _).drew, C, hC, h⟩
theorem yieldsIf_build {P : Program} {ops : Array Oper} {S : World → Prop} {op : Oper} {a : Act} (hw : Region.wanted op (yielded ops a.tmps) = true) (t : TypeId) (parts : Array (Nat × Operand)) (ho : op.op = .build t parts) (C : Array Value)
    (hB : P.built t (parts.map fun (i, x) => (i, a.eval x)).toList = some C) : YieldsIf P ops S op (.agg C) a :=
  .inl ⟨hw, fun w _ => by
    unfold execOp
    simp only [ho, Sem.run_bind, run_build w t _ C hB, Result.andThen_ok]
    rfl⟩
theorem HeldG.put {B : Nat} {w0 w' : World} {g n : Nat} {t : TypeId} (h : HeldG B w0 g n t w') (hB : B ≤ g) (R : Array Value) (hR : R.size = n) : HeldG B w0 g n t (w'.setRow g R) := by
  obtain ⟨hb, C, hC, hg⟩ := h
  exact ⟨hb.trans (Only.below ((Only.refl [g] w').setRow (by simp) R) (Nat.le_trans hB (Nat.le_of_lt (heap_lt hg))) (by simpa using hB)), R, hR, setRow_heap _ _ _ _ _ _ hg⟩

end Go.Proofs.YteihfoacdocgkaaDoor
