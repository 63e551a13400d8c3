/-
  Layer 17 (haul): frames and what is sent, as rows of cells; the memory of a fetch; the walk of ask.
-/
import Derived.Test.YteihfoacdocgkaaDoorHaP
import Derived.Test.YteihfoacdocgkaaDoorCoE
set_option linter.unusedVariables false
set_option linter.unusedSimpArgs false
namespace Go.Proofs.YteihfoacdocgkaaDoor
open Go.RowKit
attribute [local go_sem] Lb.ba_get Lb.ba_cut Lb.ba_add Lb.ba_size Lb.take_rest

/-! ### frames -/
structure FrD where
  kind : Int
  from_ : Int
  x1 : List Value
  out : List UInt8
  at_ : Int
  data : List UInt8
  x2 : List Value
  mani : ManiD
  x3 : List Value
def FrD.cells (f : FrD) : List Value := [Value.int .i64 f.kind, Value.int .i64 f.from_] ++ (f.x1 ++ (byV f.out ++ ([Value.int .i64 f.at_, Value.string ⟨f.data.toArray⟩] ++ (f.x2 ++ (f.mani.cells ++ f.x3)))))
def FrD.row (f : FrD) : Array Value := f.cells.toArray
structure FrD.Fit (f : FrD) : Prop where
  l1 : f.x1.length = 100
  lo : f.out.length = 32
  l2 : f.x2.length = 64
  lm : f.mani.whole.length = 32
  l3 : f.x3.length = 3
  o1 : f.x1.all (·.oneCell') = true
  o2 : f.x2.all (·.oneCell') = true
  o3 : f.x3.all (·.oneCell') = true
theorem mani_cells_len (m : ManiD) (h : m.whole.length = 32) : m.cells.length = 34 := by simp [ManiD.cells, byV, h]
theorem FrD.len {f : FrD} (h : f.Fit) : f.cells.length = 237 := by
  have := mani_cells_len f.mani h.lm
  simp [FrD.cells, h.l1, h.lo, h.l2, h.l3, byV_length, this]
theorem FrD.row_size {f : FrD} (h : f.Fit) : f.row.size = 237 := by simp [FrD.row, f.len h]
def zx1 : List Value := [Value.int .i64 0, Value.int .i64 0] ++ (byV (List.replicate 32 0) ++ ([Value.bool false] ++ (byV (List.replicate 32 0) ++ ([Value.int .i64 0] ++ byV (List.replicate 32 0)))))
def zx2 : List Value := byV (List.replicate 64 0)
def zx3 : List Value := [Value.slice none 0 0, Value.slice none 0 0, Value.slice none 0 0]
def zeroFr : FrD := ⟨0, 0, zx1, List.replicate 32 0, 0, [], zx2, zeroMani, zx3⟩
theorem zeroFr_fit : zeroFr.Fit := ⟨rfl, rfl, rfl, rfl, rfl, rfl, rfl, rfl⟩
def frPlaces : List (Nat × Nat) := [(0, 1), (1, 1), (2, 1), (3, 1), (4, 32), (36, 1), (37, 65), (102, 32), (134, 1), (135, 1), (136, 64), (200, 34), (234, 1), (235, 1), (236, 1)]
def frPlace (i : Nat) : Option (Nat × Nat) := frPlaces.toArray[i]?

theorem fill_seg {place : Nat → Option (Nat × Nat)} {pre old post vs : List Value} {i : Nat} {v : Value} {rest : List (Nat × Value)} {off size : Nat} (hp : place i = some (off, size)) (hv : v.cells = vs.toArray) (hs : vs.length = size) (hpre : pre.length = off) (hold : old.length = size) :
    Instr.fill place (pre ++ (old ++ post)).toArray ((i, v) :: rest) = Instr.fill place (pre ++ (vs ++ post)).toArray rest := by
  refine fill_one hp (by rw [hv]; simpa using hs) (by simp; omega) ?_
  have h := fold_cells vs 0 off pre old post (by omega) (by omega)
  rw [List.append_assoc, List.append_assoc] at h
  rw [hv, ← Array.foldl_toList, Array.toList_zipIdx]
  exact h
theorem cells_int (k : IntKind) (n : Int) : (Value.int k n).cells = [Value.int k n].toArray := rfl
theorem cells_str (s : ByteArray) : (Value.string s).cells = [Value.string s].toArray := rfl
theorem cells_agg (l : List Value) : (Value.agg l.toArray).cells = l.toArray := rfl

variable {rest : List (Nat × Value)}
theorem fr_fill0 (f : FrD) (k : Int) : Instr.fill frPlace f.row ((0, .int .i64 k) :: rest) = Instr.fill frPlace { f with kind := k }.row rest :=
  fill_seg (pre := []) (old := [_]) (vs := [_]) (off := 0) (size := 1) rfl (cells_int _ _) rfl rfl rfl
theorem fr_fill1 (f : FrD) (k : Int) : Instr.fill frPlace f.row ((1, .int .i64 k) :: rest) = Instr.fill frPlace { f with from_ := k }.row rest :=
  fill_seg (pre := [_]) (old := [_]) (vs := [_]) (off := 1) (size := 1) rfl (cells_int _ _) rfl rfl rfl
theorem fr_fill7 (f : FrD) (hf : f.Fit) (o : List UInt8) (ho : o.length = 32) : Instr.fill frPlace f.row ((7, .agg (digV o)) :: rest) = Instr.fill frPlace { f with out := o }.row rest := by
  have h := fill_seg (place := frPlace) (i := 7) (v := .agg (digV o)) (rest := rest) (pre := [Value.int .i64 f.kind, Value.int .i64 f.from_] ++ f.x1) (old := byV f.out) (vs := byV o) (off := 102) (size := 32)
    (post := [Value.int .i64 f.at_, Value.string ⟨f.data.toArray⟩] ++ (f.x2 ++ (f.mani.cells ++ f.x3))) rfl (cells_agg _) (by rw [byV_length, ho]) (by simp [hf.l1]) (by rw [byV_length, hf.lo])
  simpa only [FrD.row, FrD.cells, List.append_assoc] using h
theorem fr_fill8 (f : FrD) (hf : f.Fit) (k : Int) : Instr.fill frPlace f.row ((8, .int .i64 k) :: rest) = Instr.fill frPlace { f with at_ := k }.row rest := by
  have h := fill_seg (place := frPlace) (i := 8) (v := .int .i64 k) (rest := rest) (pre := [Value.int .i64 f.kind, Value.int .i64 f.from_] ++ (f.x1 ++ byV f.out)) (old := [Value.int .i64 f.at_]) (vs := [Value.int .i64 k]) (off := 134) (size := 1)
    (post := [Value.string ⟨f.data.toArray⟩] ++ (f.x2 ++ (f.mani.cells ++ f.x3))) rfl (cells_int _ _) rfl (by simp [hf.l1, byV_length, hf.lo]) rfl
  simpa only [FrD.row, FrD.cells, List.append_assoc, List.singleton_append, List.cons_append, List.nil_append] using h
theorem fr_fill9 (f : FrD) (hf : f.Fit) (d : List UInt8) : Instr.fill frPlace f.row ((9, .string ⟨d.toArray⟩) :: rest) = Instr.fill frPlace { f with data := d }.row rest := by
  have h := fill_seg (place := frPlace) (i := 9) (v := .string ⟨d.toArray⟩) (rest := rest) (pre := [Value.int .i64 f.kind, Value.int .i64 f.from_] ++ (f.x1 ++ (byV f.out ++ [Value.int .i64 f.at_]))) (old := [Value.string ⟨f.data.toArray⟩]) (vs := [Value.string ⟨d.toArray⟩]) (off := 135) (size := 1)
    (post := f.x2 ++ (f.mani.cells ++ f.x3)) rfl (cells_str _) rfl (by simp [hf.l1, byV_length, hf.lo]) rfl
  simpa only [FrD.row, FrD.cells, List.append_assoc, List.singleton_append, List.cons_append, List.nil_append] using h
theorem fr_fill11 (f : FrD) (hf : f.Fit) (m : ManiD) (hm : m.whole.length = 32) : Instr.fill frPlace f.row ((11, .agg m.row) :: rest) = Instr.fill frPlace { f with mani := m }.row rest := by
  have h := fill_seg (place := frPlace) (i := 11) (v := .agg m.row) (rest := rest) (pre := [Value.int .i64 f.kind, Value.int .i64 f.from_] ++ (f.x1 ++ (byV f.out ++ ([Value.int .i64 f.at_, Value.string ⟨f.data.toArray⟩] ++ f.x2)))) (old := f.mani.cells) (vs := m.cells) (off := 200) (size := 34)
    (post := f.x3) rfl (cells_agg _) (mani_cells_len m hm) (by simp [hf.l1, byV_length, hf.lo, hf.l2]) (mani_cells_len _ hf.lm)
  simpa only [FrD.row, FrD.cells, List.append_assoc, List.singleton_append, List.cons_append, List.nil_append] using h

set_option maxRecDepth 100000 in
theorem fr_zero : (Tryd.prog.info? 36).map (·.zero) = some (some (.agg zeroFr.row)) := by kernel_rfl
theorem fr_info : (Tryd.prog.info? 36).map (·.size) = some 237 := by kernel_rfl
set_option maxRecDepth 100000 in
theorem built_fr (parts : List (Nat × Value)) : Tryd.prog.built 36 parts = Instr.fill frPlace zeroFr.row parts := by
  obtain ⟨it, hit, hz⟩ := Option.map_eq_some_iff.1 fr_zero
  have hp : ∀ fs, Tryd.prog.underlying 36 = some (.struct fs) → fs.toList.mapM (fun f => (Tryd.prog.info? f.type).map fun i => (f.offset, i.size)) = some frPlaces := by
    intro fs h
    obtain rfl := (TypeDesc.struct.inj (Option.some.inj (Tryd.underlying36.symm.trans h)))
    kernel_rfl
  unfold Program.built
  rw [hit]
  simp only [Tryd.underlying36]
  rw [hz, hp _ Tryd.underlying36]
  rfl
theorem fill_nil (place : Nat → Option (Nat × Nat)) (C : Array Value) : Instr.fill place C [] = some C := rfl

/-- a frame that asks -/
def askFr (out : List UInt8) (i : Int) : FrD := { zeroFr with kind := 6, out := out, at_ := i }
theorem askFr_fit (out : List UInt8) (i : Int) (h : out.length = 32) : (askFr out i).Fit := ⟨rfl, h, rfl, rfl, rfl, rfl, rfl, rfl⟩
theorem built_ask (out : List UInt8) (i : Int) (h : out.length = 32) : Tryd.prog.built 36 [(0, .int .i64 6), (7, .agg (digV out)), (8, .int .i64 i)] = some (askFr out i).row := by
  rw [built_fr, fr_fill0, fr_fill7 _ ⟨rfl, rfl, rfl, rfl, rfl, rfl, rfl, rfl⟩ _ h, fr_fill8 _ ⟨rfl, h, rfl, rfl, rfl, rfl, rfl, rfl⟩, fill_nil]
  rfl

/-! ### what is sent -/
def sentCells (tt : Int) (f : FrD) : List Value := Value.int .i64 tt :: f.cells
def sentRow (tt : Int) (f : FrD) : Array Value := (sentCells tt f).toArray
theorem sent_len (tt : Int) {f : FrD} (h : f.Fit) : (sentCells tt f).length = 238 := by simp [sentCells, f.len h]
theorem sentRow_size (tt : Int) {f : FrD} (h : f.Fit) : (sentRow tt f).size = 238 := by simp [sentRow, sent_len tt h]
theorem byV_one (l : List UInt8) : (byV l).all (·.oneCell') = true := by
  rw [List.all_eq_true]
  intro v hv
  simp only [byV, List.mem_map] at hv
  obtain ⟨x, _, rfl⟩ := hv
  rfl
theorem FrD.one {f : FrD} (h : f.Fit) : f.cells.all (·.oneCell') = true := by
  have hm := f.mani.row_one
  unfold ManiD.row at hm
  rw [List.all_toArray] at hm
  simp only [FrD.cells, List.all_append, h.o1, h.o2, h.o3, byV_one, hm, Bool.and_true, Bool.true_and, List.all_cons, List.all_nil]
  rfl
theorem sent_one (tt : Int) {f : FrD} (h : f.Fit) : (sentRow tt f).all (·.oneCell') = true := by
  unfold sentRow sentCells
  rw [List.all_toArray, List.all_cons, f.one h]; rfl
theorem zero_frame : Tryd.zeroCells36 = zeroFr.row := by kernel_rfl

/-- a row of frames that ask -/
def asksCells (peer : Int) (out : List UInt8) (ats : List Int) : List Value := (ats.map fun i => sentCells peer (askFr out i)).flatten
def Asks (w : World) (B : Nat) (v : Value) (peer : Int) (out : List UInt8) (ats : List Int) : Prop := Bag0 w B 238 v ats.length (asksCells peer out ats)

/-! ### the memory of a fetch -/
def Ck.cells (c : Ck) : List Value := [Value.string ⟨c.data.toArray⟩, Value.bool c.come, Value.bool c.asked, Value.int .i64 c.at_]
def ckCells (cks : List Ck) : List Value := (cks.map Ck.cells).flatten
def hlCells (d : HlD) (mv cv : Value) : List Value := [Value.string ⟨d.blob.toArray⟩, Value.bool d.done, Value.bool d.failed] ++ (byV d.out ++ [Value.int .i64 d.peer, Value.int .i64 d.ticks, mv, cv])
theorem range_keep {w w' : World} {b o : Nat} {cs : List Value} (h : w.rangeAt b o cs) (hb : w'.heap[b]? = w.heap[b]?) : w'.rangeAt b o cs := fun k v hv => (World.cell?_of_block (a := ⟨b, o + k, none⟩) hb).trans (h k v hv)
/-- old memory as it was; block g (above) still holds n cells -/
def HeldG (B : Nat) (w0 : World) (g n : Nat) (t : TypeId) (w' : World) : Prop := Below B w0 w' ∧ ∃ C : Array Value, C.size = n ∧ w'.heap[g]? = some (.cells C t (0, 0))
theorem HeldG.start {B : Nat} {w0 : World} {g n : Nat} {t : TypeId} {C : Array Value} (hC : C.size = n) (h : w0.heap[g]? = some (.cells C t (0, 0))) : HeldG B w0 g n t w0.drew := ⟨(Below.refl _ _).drew, C, hC, h⟩
theorem yieldsIf_build {P : Program} {ops : Array Oper} {S : World → Prop} {op : Oper} {a : Act} (hw : Region.wanted op (yielded ops a.tmps) = true) (t : TypeId) (parts : Array (Nat × Operand)) (ho : op.op = .build t parts) (C : Array Value)
    (hB : P.built t (parts.map fun (i, x) => (i, a.eval x)).toList = some C) : YieldsIf P ops S op (.agg C) a :=
  .inl ⟨hw, fun w _ => by
    unfold execOp
    simp only [ho, Sem.run_bind, run_build w t _ C hB, Result.andThen_ok]
    rfl⟩
theorem HeldG.put {B : Nat} {w0 w' : World} {g n : Nat} {t : TypeId} (h : HeldG B w0 g n t w') (hB : B ≤ g) (R : Array Value) (hR : R.size = n) : HeldG B w0 g n t (w'.setRow g R) := by
  obtain ⟨hb, C, hC, hg⟩ := h
  exact ⟨hb.trans (Only.below ((Only.refl [g] w').setRow (by simp) R) (Nat.le_trans hB (Nat.le_of_lt (heap_lt hg))) (by simpa using hB)), R, hR, setRow_heap _ _ _ _ _ _ hg⟩

end Go.Proofs.YteihfoacdocgkaaDoor
