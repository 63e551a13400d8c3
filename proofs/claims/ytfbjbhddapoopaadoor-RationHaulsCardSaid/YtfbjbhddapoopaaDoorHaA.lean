/-
  Layer 17 (haul): frames and what is sent, as rows of cells; the memory of a fetch; the walk of ask.
-/
import Derived.Test.YtfbjbhddapoopaaDoorHaP
import Derived.Test.YtfbjbhddapoopaaDoorCoE
set_option linter.unusedVariables false
set_option linter.unusedSimpArgs false
namespace Go.Proofs.YtfbjbhddapoopaaDoor
open Go.RowKit
attribute [local go_sem] Lb.ba_get Lb.ba_cut Lb.ba_add Lb.ba_size Lb.take_rest

/-! ### frames -/
structure FrD where
  kind : Int
  from_ : Int
  x1 : List Value
  out : List UInt8
  at_ : Int
  data : List UInt8
  x2 : List Value
  mani : ManiD
  x3 : List Value
def FrD.cells (f : FrD) : List Value := [Value.int .i64 f.kind, Value.int .i64 f.from_] ++ (f.x1 ++ (byV f.out ++ ([Value.int .i64 f.at_, Value.string ⟨f.data.toArray⟩] ++ (f.x2 ++ (f.mani.cells ++ f.x3)))))
def FrD.row (f : FrD) : Array Value := f.cells.toArray
structure FrD.Fit (f : FrD) : Prop where
  l1 : f.x1.length = 100
  lo : f.out.length = 32
  l2 : f.x2.length = 64
  lm : f.mani.whole.length = 32
  l3 : f.x3.length = 3
  o1 : f.x1.all (·.oneCell') = true
  o2 : f.x2.all (·.oneCell') = true
  o3 : f.x3.all (·.oneCell') = true
theorem mani_cells_len (m : ManiD) (h : m.whole.length = 32) : m.cells.length = 34 := by simp [ManiD.cells, byV, h]
theorem FrD.len {f : FrD} (h : f.Fit) : f.cells.length = 237 := by
  have := mani_cells_len f.mani h.lm
  simp [FrD.cells, h.l1, h.lo, h.l2, h.l3, byV_length, this]
theorem FrD.row_size {f : FrD} (h : f.Fit) : f.row.size = 237 := by simp [FrD.row, f.len h]
def zx1 : List Value := [Value.int .i64 0, Value.int .i64 0] ++ (byV (List.replicate 32 0) ++ ([Value.bool false] ++ (byV (List.replicate 32 0) ++ ([Value.int .i64 0] ++ byV (List.replicate 32 0)))))
def zx2 : List Value := byV (List.replicate 64 0)
def zx3 : List Value := [Value.slice none 0 0, Value.slice none 0 0, Value.slice none 0 0]
def zeroFr : FrD := ⟨0, 0, zx1, List.replicate 32 0, 0, [], zx2, zeroMani, zx3⟩
theorem zeroFr_fit : zeroFr.Fit := ⟨rfl, rfl, rfl, rfl, rfl, rfl, rfl, rfl⟩
def frPlaces : List (Nat × Nat) := [(0, 1), (1, 1), (2, 1), (3, 1), (4, 32), (36, 1), (37, 65), (102, 32), (134, 1), (135, 1), (136, 64), (200, 34), (234, 1), (235, 1), (236, 1)]
def frPlace (i : Nat) : Option (Nat × Nat) := frPlaces.toArray[i]?

theorem fill_seg {place : Nat → Option (Nat × Nat)} {pre old post vs : List Value} {i : Nat} {v : Value} {rest : List (Nat × Value)} {off size : Nat} (hp : place i = some (off, size)) (hv : v.cells = vs.toArray) (hs : vs.length = size) (hpre : pre.length = off) (hold : old.length = size) :
    Instr.fill place (pre ++ (old ++ post)).toArray ((i, v) :: rest) = Instr.fill place (pre ++ (vs ++ post)).toArray rest := by
  refine fill_one hp (by rw [hv]; simpa using hs) (by simp; omega) ?_
  have h := fold_cells vs 0 off pre old post (by omega) (by omega)
  rw [List.append_assoc, List.append_assoc] at h
  rw [hv, ← Array.foldl_toList, Array.toList_zipIdx]
  exact h
theorem cells_int (k : IntKind) (n : Int) : (Value.int k n).cells = [Value.int k n].toArray := rfl
theorem cells_str (s : ByteArray) : (Value.string s).cells = [Value.string s].toArray := rfl
theorem cells_agg (l : List Value) : (Value.agg l.toArray).cells = l.toArray := rfl

variable {rest : List (Nat × Value)}
theorem fr_fill0 (f : FrD) (k : Int) : Instr.fill frPlace f.row ((0, .int .i64 k) :: rest) = Instr.fill frPlace { f with kind := k }.row rest :=
  fill_seg (pre := []) (old := [_]) (vs := [_]) (off := 0) (size := 1) rfl (cells_int _ _) rfl rfl rfl
theorem fr_fill1 (f : FrD) (k : Int) : Instr.fill frPlace f.row ((1, .int .i64 k) :: rest) = Instr.fill frPlace { f with from_ := k }.row rest :=
  fill_seg (pre := [_]) (old := [_]) (vs := [_]) (off := 1) (size := 1) rfl (cells_int _ _) rfl rfl rfl
theorem fr_fill7 (f : FrD) (hf : f.Fit) (o : List UInt8) (ho : o.length = 32) : Instr.fill frPlace f.row ((7, .agg (digV o)) :: rest) = Instr.fill frPlace { f with out := o }.row rest := by
  have h := fill_seg (place := frPlace) (i := 7) (v := .agg (digV o)) (rest := rest) (pre := [Value.int .i64 f.kind, Value.int .i64 f.from_] ++ f.x1) (old := byV f.out) (vs := byV o) (off := 102) (size := 32)
    (post := [Value.int .i64 f.at_, Value.string ⟨f.data.toArray⟩] ++ (f.x2 ++ (f.mani.cells ++ f.x3))) rfl (cells_agg _) (by rw [byV_length, ho]) (by simp [hf.l1]) (by rw [byV_length, hf.lo])
  simpa only [FrD.row, FrD.cells, List.append_assoc] using h
theorem fr_fill8 (f : FrD) (hf : f.Fit) (k : Int) : Instr.fill frPlace f.row ((8, .int .i64 k) :: rest) = Instr.fill frPlace { f with at_ := k }.row rest := by
  have h := fill_seg (place := frPlace) (i := 8) (v := .int .i64 k) (rest := rest) (pre := [Value.int .i64 f.kind, Value.int .i64 f.from_] ++ (f.x1 ++ byV f.out)) (old := [Value.int .i64 f.at_]) (vs := [Value.int .i64 k]) (off := 134) (size := 1)
    (post := [Value.string ⟨f.data.toArray⟩] ++ (f.x2 ++ (f.mani.cells ++ f.x3))) rfl (cells_int _ _) rfl (by simp [hf.l1, byV_length, hf.lo]) rfl
  simpa only [FrD.row, FrD.cells, List.append_assoc, List.singleton_append, List.cons_append, List.nil_append] using h
theorem fr_fill9 (f : FrD) (hf : f.Fit) (d : List UInt8) : Instr.fill frPlace f.row ((9, .string ⟨d.toArray⟩) :: rest) = Instr.fill frPlace { f with data := d }.row rest := by
  have h := fill_seg (place := frPlace) (i := 9) (v := .string ⟨d.toArray⟩) (rest := rest) (pre := [Value.int .i64 f.kind, Value.int .i64 f.from_] ++ (f.x1 ++ (byV f.out ++ [Value.int .i64 f.at_]))) (old := [Value.string ⟨f.data.toArray⟩]) (vs := [Value.string ⟨d.toArray⟩]) (off := 135) (size := 1)
    (post := f.x2 ++ (f.mani.cells ++ f.x3)) rfl (cells_str _) rfl (by simp [hf.l1, byV_length, hf.lo]) rfl
  simpa only [FrD.row, FrD.cells, List.append_assoc, List.singleton_append, List.cons_append, List.nil_append] using h
theorem fr_fill11 (f : FrD) (hf : f.Fit) (m : ManiD) (hm : m.whole.length = 32) : Instr.fill frPlace f.row ((11, .agg m.row) :: rest) = Instr.fill frPlace { f with mani := m }.row rest := by
  have h := fill_seg (place := frPlace) (i := 11) (v := .agg m.row) (rest := rest) (pre := [Value.int .i64 f.kind, Value.int .i64 f.from_] ++ (f.x1 ++ (byV f.out ++ ([Value.int .i64 f.at_, Value.string ⟨f.data.toArray⟩] ++ f.x2)))) (old := f.mani.cells) (vs := m.cells) (off := 200) (size := 34)
    (post := f.x3) rfl (cells_agg _) (mani_cells_len m hm) (by simp [hf.l1, byV_length, hf.lo, hf.l2]) (mani_cells_len _ hf.lm)
  simpa only [FrD.row, FrD.cells, List.append_assoc, List.singleton_append, List.cons_append, List.nil_append] using h

set_option maxRecDepth 100000 in
theorem fr_zero : (Tryd.prog.info? 44).map (·.zero) = some (some (.agg zeroFr.row)) := by kernel_rfl
theorem fr_info : (Tryd.prog.info? 44).map (·.size) = some 237 := by kernel_rfl
set_option maxRecDepth 100000 in
theorem built_fr (parts : List (Nat × Value)) : Tryd.prog.built 44 parts = Instr.fill frPlace zeroFr.row parts := by
  obtain ⟨it, hit, hz⟩ := Option.map_eq_some_iff.1 fr_zero
  have hp : ∀ fs, Tryd.prog.underlying 44 = some (.struct fs) → fs.toList.mapM (fun f => (Tryd.prog.info? f.type).map fun i => (f.offset, i.size)) = some frPlaces := by
    intro fs h
    obtain rfl := (TypeDesc.struct.inj (Option.some.inj (Tryd.underlying44.symm.trans h)))
    kernel_rfl
  unfold Program.built
  rw [hit]
  simp only [Tryd.underlying44]
  rw [hz, hp _ Tryd.underlying44]
  rfl
theorem fill_nil (place : Nat → Option (Nat × Nat)) (C : Array Value) : Instr.fill place C [] = some C := rfl

/-- a frame that asks -/
def askFr (out : List UInt8) (i : Int) : FrD := { zeroFr with kind := 6, out := out, at_ := i }
theorem askFr_fit (out : List UInt8) (i : Int) (h : out.length = 32) : (askFr out i).Fit := ⟨rfl, h, rfl, rfl, rfl, rfl, rfl, rfl⟩
theorem built_ask (out : List UInt8) (i : Int) (h : out.length = 32) : Tryd.prog.built 44 [(0, .int .i64 6), (7, .agg (digV out)), (8, .int .i64 i)] = some (askFr out i).row := by
  rw [built_fr, fr_fill0, fr_fill7 _ ⟨rfl, rfl, rfl, rfl, rfl, rfl, rfl, rfl⟩ _ h, fr_fill8 _ ⟨rfl, h, rfl, rfl, rfl, rfl, rfl, rfl⟩, fill_nil]
  rfl

/-! ### what is sent -/
def sentCells (tt : Int) (f : FrD) : List Value := Value.int .i64 tt :: f.cells
def sentRow (tt : Int) (f : FrD) : Array Value := (sentCells tt f).toArray
theorem sent_len (tt : Int) {f : FrD} (h : f.Fit) : (sentCells tt f).length = 238 := by simp [sentCells, f.len h]
theorem sentRow_size (tt : Int) {f : FrD} (h : f.Fit) : (sentRow tt f).size = 238 := by simp [sentRow, sent_len tt h]
set_option maxRecDepth 100000 in
theorem sent_zero : (Tryd.prog.info? 50).map (·.zero) = some (some (.agg (sentRow 0 zeroFr))) := by kernel_rfl
theorem sent_info : (Tryd.prog.info? 50).map (·.size) = some 238 := by kernel_rfl
set_option maxRecDepth 100000 in
theorem sent_info3 : (Tryd.prog.info? 50).map (fun i => (i.zero, i.size, i.bytes)) = some (some (.agg (sentRow 0 zeroFr)), 238, 408) := by kernel_rfl
set_option maxRecDepth 100000 in
theorem built_sent (tt : Int) (f : FrD) (hf : f.Fit) : Tryd.prog.built 50 [(0, .int .i64 tt), (1, .agg f.row)] = some (sentRow tt f) := by
  obtain ⟨it, hit, hz⟩ := Option.map_eq_some_iff.1 sent_zero
  have hp : ∀ fs, Tryd.prog.underlying 50 = some (.struct fs) → fs.toList.mapM (fun f => (Tryd.prog.info? f.type).map fun i => (f.offset, i.size)) = some [(0, 1), (1, 237)] := by
    intro fs h
    obtain rfl := (TypeDesc.struct.inj (Option.some.inj (Tryd.underlying50.symm.trans h)))
    kernel_rfl
  unfold Program.built
  rw [hit]
  simp only [Tryd.underlying50]
  rw [hz, hp _ Tryd.underlying50]
  have h1 := fill_seg (place := ([(0, 1), (1, 237)].toArray[·]?)) (i := 0) (v := .int .i64 tt) (rest := [(1, .agg f.row)]) (pre := []) (old := [Value.int .i64 0]) (vs := [Value.int .i64 tt]) (off := 0) (size := 1) (post := zeroFr.cells) rfl (cells_int _ _) rfl rfl rfl
  have h2 := fill_seg (place := ([(0, 1), (1, 237)].toArray[·]?)) (i := 1) (v := .agg f.row) (rest := []) (pre := [Value.int .i64 tt]) (old := zeroFr.cells) (vs := f.cells) (off := 1) (size := 237) (post := []) rfl (cells_agg _) (f.len hf) rfl (zeroFr.len zeroFr_fit)
  simp only [List.append_nil] at h2
  exact (h1.trans h2).trans (fill_nil _ _)

theorem byV_one (l : List UInt8) : (byV l).all (·.oneCell') = true := by
  rw [List.all_eq_true]
  intro v hv
  simp only [byV, List.mem_map] at hv
  obtain ⟨x, _, rfl⟩ := hv
  rfl
theorem FrD.one {f : FrD} (h : f.Fit) : f.cells.all (·.oneCell') = true := by
  have hm := f.mani.row_one
  unfold ManiD.row at hm
  rw [List.all_toArray] at hm
  simp only [FrD.cells, List.all_append, h.o1, h.o2, h.o3, byV_one, hm, Bool.and_true, Bool.true_and, List.all_cons, List.all_nil]
  rfl
theorem sent_one (tt : Int) {f : FrD} (h : f.Fit) : (sentRow tt f).all (·.oneCell') = true := by
  unfold sentRow sentCells
  rw [List.all_toArray, List.all_cons, f.one h]; rfl
theorem zero_sent : Tryd.zeroCells50 = sentRow 0 zeroFr := by kernel_rfl
theorem zero_frame : Tryd.zeroCells44 = zeroFr.row := by kernel_rfl

/-- a row of frames that ask -/
def asksCells (peer : Int) (out : List UInt8) (ats : List Int) : List Value := (ats.map fun i => sentCells peer (askFr out i)).flatten
def Asks (w : World) (B : Nat) (v : Value) (peer : Int) (out : List UInt8) (ats : List Int) : Prop := Bag0 w B 238 v ats.length (asksCells peer out ats)

/-! ### the memory of a fetch -/
def Ck.cells (c : Ck) : List Value := [Value.string ⟨c.data.toArray⟩, Value.bool c.come, Value.bool c.asked, Value.int .i64 c.at_]
def ckCells (cks : List Ck) : List Value := (cks.map Ck.cells).flatten
def hlCells (d : HlD) (mv cv : Value) : List Value := [Value.string ⟨d.blob.toArray⟩, Value.bool d.done, Value.bool d.failed] ++ (byV d.out ++ [Value.int .i64 d.peer, Value.int .i64 d.ticks, mv, cv])
def HlMem (w : World) (p : Nat) (d : HlD) (mv cv : Value) : Prop := w.heap[p]? = some (.cells (hlCells d mv cv).toArray 119 (0, 0))
/-- The digests ds lie in a block of S that is none of ns. -/
def DigsIn (w : World) (S ns : List Nat) (A : Option Addr) (ds : List (List UInt8)) : Prop :=
  ∀ (i : Nat) (h : i < ds.length), ∃ b o, A = some ⟨b, o, none⟩ ∧ b ∈ S ∧ b ∉ ns ∧ w.rangeAt b (o + i * 32) (byV ds[i])
def NoMani (d : HlD) (mv cv : Value) : Prop := d.mani = none ∧ mv = .pointer none ∧ cv = .slice none 0 0
structure HasMani (w : World) (S : List Nat) (p : Nat) (d : HlD) (q c : Nat) (m : ManiD) (mv cv : Value) : Prop where
  mani : d.mani = some (m.size, m.parts)
  whole : m.whole = d.out
  mv : mv = .pointer (some ⟨q, 0, none⟩)
  cv : cv = .slice (some ⟨c, 0, none⟩) d.cks.length d.cks.length
  hq : w.heap[q]? = some (.cells m.row 39 (0, 0))
  hc : w.heap[c]? = some (.cells (ckCells d.cks).toArray 125 (0, 0))
  qS : q ∈ S
  cS : c ∈ S
  pq : q ≠ p
  pc : c ≠ p
  qc : c ≠ q
  digs : DigsIn w S [p, c] m.A m.parts
/-- The fetch d lies at block p; all that is its own lies in the blocks S. -/
structure HlAt (w : World) (S : List Nat) (p : Nat) (d : HlD) : Prop where
  ok : Hl.Ok d
  lt : ∀ k ∈ S, k < w.heap.size
  pS : p ∈ S
  mem : ∃ mv cv, HlMem w p d mv cv ∧ (NoMani d mv cv ∨ ∃ q c m, HasMani w S p d q c m mv cv)

theorem range_keep {w w' : World} {b o : Nat} {cs : List Value} (h : w.rangeAt b o cs) (hb : w'.heap[b]? = w.heap[b]?) : w'.rangeAt b o cs := fun k v hv => (World.cell?_of_block (a := ⟨b, o + k, none⟩) hb).trans (h k v hv)
theorem DigsIn.keep {w w' : World} {S ns : List Nat} {A : Option Addr} {ds : List (List UInt8)} (h : DigsIn w S ns A ds) (hk : ∀ k ∈ S, k ∉ ns → w'.heap[k]? = w.heap[k]?) : DigsIn w' S ns A ds := fun i hi => by
  obtain ⟨b, o, e, hb, hn, hr⟩ := h i hi
  exact ⟨b, o, e, hb, hn, range_keep hr (hk b hb hn)⟩
theorem HasMani.keep {w w' : World} {S : List Nat} {p : Nat} {d : HlD} {q c : Nat} {m : ManiD} {mv cv : Value} (h : HasMani w S p d q c m mv cv) (hk : ∀ k ∈ S, w'.heap[k]? = w.heap[k]?) : HasMani w' S p d q c m mv cv :=
  { h with hq := (hk q h.qS).trans h.hq, hc := (hk c h.cS).trans h.hc, digs := h.digs.keep fun k hk' _ => hk k hk' }
theorem HlAt.keep {w w' : World} {S : List Nat} {p : Nat} {d : HlD} (h : HlAt w S p d) (hs : w.heap.size ≤ w'.heap.size) (hk : ∀ k ∈ S, w'.heap[k]? = w.heap[k]?) : HlAt w' S p d := by
  obtain ⟨ok, lt, pS, mv, cv, hm, hx⟩ := h
  refine ⟨ok, fun k hk' => Nat.lt_of_lt_of_le (lt k hk') hs, pS, mv, cv, (hk p pS).trans hm, ?_⟩
  rcases hx with hx | ⟨q, c, m, hx⟩
  · exact .inl hx
  · exact .inr ⟨q, c, m, hx.keep hk⟩
theorem HlAt.below {w w' : World} {S : List Nat} {p : Nat} {d : HlD} (h : HlAt w S p d) (hb : Below w.heap.size w w') : HlAt w' S p d := h.keep hb.size (fun k hk => hb.block k (h.lt k hk))
/-- behind a call that turns other blocks -/
theorem HlAt.only {w w' : World} {S bs : List Nat} {p : Nat} {d : HlD} (h : HlAt w S p d) (ho : Only bs w w') (hn : ∀ k ∈ S, k ∉ bs) : HlAt w' S p d := h.keep ho.size (fun k hk => ho.block k (h.lt k hk) (hn k hk))

theorem hl_at {d : HlD} (ho : d.out.length = 32) {mv cv : Value} : (hlCells d mv cv).length = 39 ∧ (hlCells d mv cv)[35]? = some (.int .i64 d.peer) ∧ (hlCells d mv cv)[36]? = some (.int .i64 d.ticks) ∧ (hlCells d mv cv)[37]? = some mv ∧ (hlCells d mv cv)[38]? = some cv ∧
    (∀ k v, (byV d.out)[k]? = some v → (hlCells d mv cv)[3 + k]? = some v) := by
  have h32 : (byV d.out).length = 32 := by rw [byV_length, ho]
  refine ⟨by simp [hlCells, h32], ?_, ?_, ?_, ?_, fun k v hv => ?_⟩
  · unfold hlCells
    rw [List.getElem?_append_right (by simp), List.getElem?_append_right (by simp [h32])]
    simp [h32]
  · unfold hlCells
    rw [List.getElem?_append_right (by simp), List.getElem?_append_right (by simp [h32])]
    simp [h32]
  · unfold hlCells
    rw [List.getElem?_append_right (by simp), List.getElem?_append_right (by simp [h32])]
    simp [h32]
  · unfold hlCells
    rw [List.getElem?_append_right (by simp), List.getElem?_append_right (by simp [h32])]
    simp [h32]
  · have hlt := (List.getElem?_eq_some_iff.1 hv).1
    unfold hlCells
    rw [List.getElem?_append_right (by simp)]
    have e : 3 + k - [Value.string ⟨d.blob.toArray⟩, Value.bool d.done, Value.bool d.failed].length = k := by simp
    rw [e, List.getElem?_append_left hlt]; exact hv

/-- old memory as it was; block g (above) still holds n cells -/
def HeldG (B : Nat) (w0 : World) (g n : Nat) (t : TypeId) (w' : World) : Prop := Below B w0 w' ∧ ∃ C : Array Value, C.size = n ∧ w'.heap[g]? = some (.cells C t (0, 0))
theorem HeldG.start {B : Nat} {w0 : World} {g n : Nat} {t : TypeId} {C : Array Value} (hC : C.size = n) (h : w0.heap[g]? = some (.cells C t (0, 0))) : HeldG B w0 g n t w0.drew := ⟨(Below.refl _ _).drew, C, hC, h⟩
theorem yieldsIf_build {P : Program} {ops : Array Oper} {S : World → Prop} {op : Oper} {a : Act} (hw : Region.wanted op (yielded ops a.tmps) = true) (t : TypeId) (parts : Array (Nat × Operand)) (ho : op.op = .build t parts) (C : Array Value)
    (hB : P.built t (parts.map fun (i, x) => (i, a.eval x)).toList = some C) : YieldsIf P ops S op (.agg C) a :=
  .inl ⟨hw, fun w _ => by
    unfold execOp
    simp only [ho, Sem.run_bind, run_build w t _ C hB, Result.andThen_ok]
    rfl⟩
theorem HeldG.put {B : Nat} {w0 w' : World} {g n : Nat} {t : TypeId} (h : HeldG B w0 g n t w') (hB : B ≤ g) (R : Array Value) (hR : R.size = n) : HeldG B w0 g n t (w'.setRow g R) := by
  obtain ⟨hb, C, hC, hg⟩ := h
  exact ⟨hb.trans (Only.below ((Only.refl [g] w').setRow (by simp) R) (Nat.le_trans hB (Nat.le_of_lt (heap_lt hg))) (by simpa using hB)), R, hR, setRow_heap _ _ _ _ _ _ hg⟩

set_option maxHeartbeats 4000000 in
set_option maxRecDepth 100000 in
theorem ask_any (p : Nat) (d : HlD) (mv cv : Value) (i : Int) (w : World) (ho : d.out.length = 32) (h : HlMem w p d mv cv) :
    Calls Tryd.prog 64 #[.pointer (some ⟨p, 0, none⟩), .int .i64 i] w fun e w' => e = .returned (.agg (sentRow d.peer (askFr d.out i))) ∧ Below w.heap.size w w' := by
  obtain ⟨-, a35, -, -, -, a3⟩ := hl_at ho (mv := mv) (cv := cv)
  have hp : p < w.heap.size := heap_lt h
  have c35 : w.cell? ⟨p, 35, none⟩ = some (.int .i64 d.peer) := by rw [Lib.cell_of_heap h]; simpa using a35
  have r3 : w.rangeAt p 3 (byV d.out) := fun k v hv => by rw [Lib.cell_of_heap h]; simpa using a3 k v hv
  have hb1 : Tryd.prog.built 44 [(0, .int .i64 6), (7, .agg (byV d.out).toArray), (8, .int .i64 i)] = some (askFr d.out i).row := built_ask d.out i ho
  have hb2 := built_sent d.peer _ (askFr_fit d.out i ho)
  have dix : (Tryd.prog.info? 23).map (·.size) = some (byV d.out).length := by rw [dig_info, byV_length, ho]
  have dund := Tryd.underlying23
  have hsr : (Tryd.prog.info? 50).map (·.size) = some (sentRow d.peer (askFr d.out i)).size := by rw [sent_info, sentRow_size _ (askFr_fit d.out i ho)]
  obtain ⟨F, hF⟩ : ∃ F, F = (askFr d.out i).row := ⟨_, rfl⟩
  obtain ⟨R, hR⟩ : ∃ R, R = sentRow d.peer (askFr d.out i) := ⟨_, rfl⟩
  obtain ⟨pe, hpe⟩ : ∃ pe, pe = d.peer := ⟨_, rfl⟩
  obtain ⟨o, ho'⟩ : ∃ o, o = d.out := ⟨_, rfl⟩
  rw [← hF] at hb1 hb2
  rw [← hR] at hb2 hsr ⊢
  rw [← hpe] at hb2 c35
  rw [← ho'] at hb1 r3 dix
  have hR2 : R.size = 238 := by rw [hR]; exact sentRow_size _ (askFr_fit d.out i ho)
  have hR1 : R.all (·.oneCell') = true := by rw [hR]; exact sent_one _ (askFr_fit d.out i ho)
  have hz : (w.alloc (.cells Tryd.zeroCells50 50)).heap[w.heap.size]? = some (.cells Tryd.zeroCells50 50 (0, 0)) := heap_alloc_new w _
  have hbz : Below w.heap.size w (w.alloc (.cells Tryd.zeroCells50 50)) := (Below.refl _ w).alloc (Nat.le_refl _) _
  have hzs : Tryd.zeroCells50.size = 238 := by rw [zero_sent, sentRow_size _ zeroFr_fit]
  clear hF hR hpe ho' h ho a35 a3
  have zs : Tryd.prog.underlying 50 = _ := Tryd.underlying50
  go_enter Tryd.func64, Tryd.ntmps64
  go_upto_region 1 with fail
  obtain ⟨w1, hw1⟩ : ∃ x, x = w.alloc (.cells Tryd.zeroCells50 50) := ⟨_, rfl⟩
  obtain ⟨g, hg⟩ : ∃ g, g = w.heap.size := ⟨_, rfl⟩
  rw [← hw1] at hz hbz ⊢
  rw [← hg] at hz hp ⊢
  have c35 : w1.cell? ⟨p, 35, none⟩ = some (.int .i64 pe) := (hbz.cell (p := ⟨p, 35, none⟩) (by rw [← hg]; exact hp)).trans c35
  have r3 : w1.rangeAt p 3 (byV o) := range_below r3 hbz (by rw [← hg]; exact hp)
  have Hbz := Lib.hid hbz
  have Hg := Lib.hid hg
  have lg : g < w1.heap.size := heap_lt hz
  have lp : p < g := hp
  have Hz := Lib.hid hz
  obtain ⟨Z, hZ⟩ : ∃ Z, Z = Tryd.zeroCells50 := ⟨_, rfl⟩
  rw [← hZ] at hzs Hz
  clear hw1 hbz hg hz hZ hp
  refine wp_region_held_drew (S := HeldG g w1 g 238 50) (by kernel_rfl) (HeldG.start hzs Hz.out) (fun hH0 => ?_)
  obtain ⟨W0, hW0⟩ : ∃ W, W = w1.drew := ⟨_, rfl⟩
  rw [← hW0] at hH0 ⊢
  clear hW0
  refine wpAnyH_take (i := 0) (v := ?_) rfl (by kernel_rfl) (by kernel_rfl) (by kernel_rfl) (fun _ _ _ h => h) (Or.inl ⟨by kernel_rfl, ?_⟩) hH0 ?_
  rotate_left 1
  · intro w hSw
    go_simp
    try with_reducible rfl
  try simp only [Act.put, List.getElem_toArray, List.getElem_cons_zero, List.getElem_cons_succ, List.setIfInBounds_toArray, List.set_cons_zero, List.set_cons_succ]
  refine wpAnyH_take (i := 1) (v := ?_) rfl (by kernel_rfl) (by kernel_rfl) (by kernel_rfl) (fun _ _ _ h => h) (Or.inl ⟨by kernel_rfl, ?_⟩) hH0 ?_
  rotate_left 1
  · intro w hSw
    go_simp
    try with_reducible rfl
  try simp only [Act.put, List.getElem_toArray, List.getElem_cons_zero, List.getElem_cons_succ, List.setIfInBounds_toArray, List.set_cons_zero, List.set_cons_succ]
  refine wpAnyH_take (i := 2) (v := ?_) rfl (by kernel_rfl) (by kernel_rfl) (by kernel_rfl) (fun _ _ _ h => h) (Or.inl ⟨by kernel_rfl, ?_⟩) hH0 ?_
  rotate_left 1
  · intro w hSw
    go_simp
    try with_reducible rfl
  try simp only [Act.put, List.getElem_toArray, List.getElem_cons_zero, List.getElem_cons_succ, List.setIfInBounds_toArray, List.set_cons_zero, List.set_cons_succ]
  refine wpAnyH_take (i := 3) (v := ?_) rfl (by kernel_rfl) (by kernel_rfl) (by kernel_rfl) (fun _ _ _ h => h) (Or.inl ⟨by kernel_rfl, ?_⟩) hH0 ?_
  rotate_left 1
  · intro w hSw
    have f0 := (hSw.1.cell (p := ⟨p, 35, none⟩) lp).trans c35
    go_simp
    try with_reducible rfl
  try simp only [Act.put, List.getElem_toArray, List.getElem_cons_zero, List.getElem_cons_succ, List.setIfInBounds_toArray, List.set_cons_zero, List.set_cons_succ]
  refine wpAnyH_take (i := 4) (v := ?_) rfl (by kernel_rfl) (by kernel_rfl) (by kernel_rfl) (fun _ _ _ h => h) (Or.inl ⟨by kernel_rfl, ?_⟩) hH0 ?_
  rotate_left 1
  · intro w hSw
    go_simp
    try with_reducible rfl
  try simp only [Act.put, List.getElem_toArray, List.getElem_cons_zero, List.getElem_cons_succ, List.setIfInBounds_toArray, List.set_cons_zero, List.set_cons_succ]
  refine wpAnyH_take (i := 5) (v := ?_) rfl (by kernel_rfl) (by kernel_rfl) (by kernel_rfl) (fun _ _ _ h => h) (Or.inl ⟨by kernel_rfl, ?_⟩) hH0 ?_
  rotate_left 1
  · intro w hSw
    go_simp
    try with_reducible rfl
  try simp only [Act.put, List.getElem_toArray, List.getElem_cons_zero, List.getElem_cons_succ, List.setIfInBounds_toArray, List.set_cons_zero, List.set_cons_succ]
  refine wpAnyH_take (i := 6) (v := ?_) rfl (by kernel_rfl) (by kernel_rfl) (by kernel_rfl) (fun _ _ _ h => h) (Or.inl ⟨by kernel_rfl, ?_⟩) hH0 ?_
  rotate_left 1
  · intro w hSw
    go_simp
    try with_reducible rfl
  try simp only [Act.put, List.getElem_toArray, List.getElem_cons_zero, List.getElem_cons_succ, List.setIfInBounds_toArray, List.set_cons_zero, List.set_cons_succ]
  refine wpAnyH_take (i := 7) (v := _) rfl (by kernel_rfl) (by kernel_rfl) (by kernel_rfl) (fun _ _ _ h => h) (yieldsIf_load_mid (by kernel_rfl) _ _ rfl _ _ rfl (byV o) _ (fun W hW => range_below r3 hW.1 lp) dund rfl dix) hH0 ?_
  try simp only [Act.put, List.getElem_toArray, List.getElem_cons_zero, List.getElem_cons_succ, List.setIfInBounds_toArray, List.set_cons_zero, List.set_cons_succ]
  refine wpAnyH_take (i := 8) (v := ?_) rfl (by kernel_rfl) (by kernel_rfl) (by kernel_rfl) (fun _ _ _ h => h) (Or.inl ⟨by kernel_rfl, ?_⟩) hH0 ?_
  rotate_left 1
  · intro w hSw
    go_simp
    try with_reducible rfl
  try simp only [Act.put, List.getElem_toArray, List.getElem_cons_zero, List.getElem_cons_succ, List.setIfInBounds_toArray, List.set_cons_zero, List.set_cons_succ]
  refine wpAnyH_take (i := 9) (v := _) rfl (by kernel_rfl) (by kernel_rfl) (by kernel_rfl) (fun _ _ _ h => h) (yieldsIf_build (by kernel_rfl) 44 _ rfl F (by simpa [Act.eval] using hb1)) hH0 ?_
  try simp only [Act.put, List.getElem_toArray, List.getElem_cons_zero, List.getElem_cons_succ, List.setIfInBounds_toArray, List.set_cons_zero, List.set_cons_succ]
  refine wpAnyH_take (i := 10) (v := _) rfl (by kernel_rfl) (by kernel_rfl) (by kernel_rfl) (fun _ _ _ h => h) (yieldsIf_build (by kernel_rfl) 50 _ rfl R (by simpa [Act.eval] using hb2)) hH0 ?_
  try simp only [Act.put, List.getElem_toArray, List.getElem_cons_zero, List.getElem_cons_succ, List.setIfInBounds_toArray, List.set_cons_zero, List.set_cons_succ]
  refine wpAnyH_ready (rs := [11]) (by kernel_rfl) (by simp) ?_
  refine AllReadyH.cons rfl (fun K_ hK => ?_) ?_
  · rw [if_pos (by rfl)]
    obtain ⟨C, hC, hg2⟩ := hH0.2
    refine wp_store_row 50 _ _ rfl g R rfl rfl 50 C hg2 hsr (by rw [hR2, hC]) hR1 ?_
    refine hK.out _ _ (hH0.put (Nat.le_refl _) R hR2) (fun hH1 => ?_)
    clear hK K_
    try simp only [Act.put, List.getElem_toArray, List.getElem_cons_zero, List.getElem_cons_succ, List.setIfInBounds_toArray, List.set_cons_zero, List.set_cons_succ]
    refine wpAnyH_done (by kernel_rfl) ?_ _
    have HH := Lib.hid hH1
    have HG := Lib.hid (setRow_heap _ g _ R _ _ hg2)
    clear hH1 hg2
    go_wp2_with fail
    (try simp only [Exit.inBlock, Exit.then])
    refine bodyPost_ret (results_cell_row rfl _ _ g 50 R (0, 0) _ rfl HG.out Tryd.underlying50 rfl hsr) rfl ?_
    exact ⟨rfl, Hbz.out.trans (HH.out.1.mono (by rw [← Hg.out]; exact Nat.le_refl _))⟩
  exact AllReadyH.nil
end Go.Proofs.YtfbjbhddapoopaaDoor
