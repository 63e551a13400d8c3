/-
  Layer 19 (wing): a frame in a block: what a store of a part does; a frame that is built.
-/
import Derived.Test.YthcmlbbbbcinkaaDoorWiK
set_option linter.unusedVariables false
set_option linter.unusedSimpArgs false
namespace Go.Proofs.YthcmlbbbbcinkaaDoor
open Go.RowKit Pl
namespace Wi

def FrAt (w : World) (q : Nat) (f : Fm) (x : Adr) : Prop := w.heap[q]? = some (.cells (f.cells x).toArray 36 (0, 0))
theorem FrAt.keep {bs : List Nat} {w w' : World} {q : Nat} {f : Fm} {x : Adr} (h : FrAt w q f x) (ho : Only bs w w') (hq : q ∉ bs) : FrAt w' q f x := ho.keep h hq
theorem FrAt.mem {w : World} {q : Nat} {f : Fm} {x : Adr} (h : FrAt w q f x) (hw : f.Wf) : FmMem w q f x := fm_mem hw h
theorem there_of {w : World} {q o n : Nat} {C : Array Value} {T : TypeId} (h : w.heap[q]? = some (.cells C T (0, 0))) (hn : o + n ≤ C.size) : w.there q o n := fun j hj =>
  ⟨by rw [Lib.cell_of_heap h, Array.getElem?_eq_getElem (by omega)]; rfl, Lib.frozen_of_heap h _⟩
theorem run_storeAt_seg {w : World} {q o : Nat} {C : Array Value} {T ty : TypeId} {v : Value} {vs : List Value} (hv : v.cells = vs.toArray) (h : w.heap[q]? = some (.cells C T (0, 0))) (hn : o + vs.length ≤ C.size) (hi : (Tryd.prog.info? ty).map (·.size) = some vs.length) (h1 : vs.all (·.oneCell') = true) :
    (Instr.storeAt ty (.pointer (some ⟨q, o, none⟩)) v).run Tryd.prog w = .ok () (w.setCells q o vs) := by
  have ht := there_of h hn
  have := run_storeCells_cells (P := Tryd.prog) q o vs 0 w (fun j hj => (ht j hj).1) (fun j hj => (ht j hj).2) (fun v hv => (List.all_eq_true.1 h1) v hv)
  cases hq : Tryd.prog.info? ty with
  | none => simp [hq] at hi
  | some i =>
    have hs : vs.length = i.size := by simp [hq] at hi; omega
    simp only [Nat.add_zero] at this
    simp [Instr.storeAt, Instr.sureAddr, storeVar, sizeOf, typeInfo, hq, hv, hs, this]
theorem wp_store_seg {op : Oper} {a : Act} {w : World} {K : Act → World → Prop} {Q : Exit → Act → World → Prop} (ty : TypeId) (x y : Operand) (ho : op.op = .store ty x y)
    (q o : Nat) (hx : a.eval x = .pointer (some ⟨q, o, none⟩)) (v : Value) (vs : List Value) (hy : a.eval y = v) (hv : v.cells = vs.toArray) (C : Array Value) (T : TypeId) (h : w.heap[q]? = some (.cells C T (0, 0))) (hn : o + vs.length ≤ C.size) (hi : (Tryd.prog.info? ty).map (·.size) = some vs.length) (h1 : vs.all (·.oneCell') = true)
    (hK : K (a.put op.dst undef) (w.setCells q o vs)) : op.wp Tryd.prog a w K Q := by
  unfold Oper.wp execOp
  simp only [ho, hx, hy, Sem.run_bind, Sem.run_pure, Result.andThen_ok, run_storeAt_seg hv h hn hi h1]
  exact hK
theorem cells_v_int (k : IntKind) (n : Int) : (Value.int k n).cells = [Value.int k n].toArray := rfl
theorem cells_v_bool (b : Bool) : (Value.bool b).cells = [Value.bool b].toArray := rfl
theorem cells_v_str (s : ByteArray) : (Value.string s).cells = [Value.string s].toArray := rfl
theorem cells_v_slice (A : Option Addr) (n c : Nat) : (Value.slice A n c).cells = [Value.slice A n c].toArray := rfl
theorem cells_v_agg (l : List Value) : (Value.agg l.toArray).cells = l.toArray := rfl
theorem rc_one (r : Rc) : r.cells.all (·.oneCell') = true := by
  unfold Rc.cells
  simp only [List.all_append, List.all_cons, List.all_nil, byV_all, Bool.and_true, Bool.true_and]
  rfl
theorem mani_one_cell (m : ManiD) : m.cells.all (·.oneCell') = true := by
  unfold ManiD.cells
  simp only [List.all_append, List.all_cons, List.all_nil, byV_all, Bool.and_true, Bool.true_and]
  rfl
theorem mani_length (m : ManiD) (h : m.whole.length = 32) : m.cells.length = 34 := by simp [ManiD.cells, byV_length, h]

theorem fm_put_mems {w : World} {q : Nat} {f : Fm} {x : Adr} {T : TypeId} (hw : f.Wf) (h : w.heap[q]? = some (.cells (f.cells x).toArray T (0, 0))) (l : List Mb) (A : Option Addr) (c : Nat) :
    (w.setCells q 236 [.slice A l.length c]).heap[q]? = some (.cells (({ f with mems := l } : Fm).cells ({ x with MA := A, mc := c } : Adr)).toArray T (0, 0)) := by
  have h1 := mani_len f x hw.whole
  have h2 := Rc.len hw.rcd
  have h3 : (byV f.key).length = 32 := by rw [byV_length]; exact hw.key
  have h4 : (byV f.out).length = 32 := by rw [byV_length]; exact hw.out
  have h5 : (byV f.haze).length = 64 := by rw [byV_length]; exact hw.haze
  have hp : ([.int .i64 f.kind] ++ [.int .i64 f.from_] ++ [.int .i64 f.seq] ++ [.int .i64 f.node] ++ (byV f.key) ++ [.bool f.found] ++ f.rcd.cells ++ (byV f.out) ++ [.int .i64 f.at_] ++ [.string ⟨f.data.toArray⟩] ++ (byV f.haze) ++ (f.mani x).cells ++ [.slice x.RA f.rngs.length x.rc] ++ [.slice x.IA f.items.length x.ic] : List Value).length = 236 := by simp only [List.length_append, List.length_cons, List.length_nil, h1, h2, h3, h4, h5]
  have hs := heap_setCells_seg q T [.slice A l.length c] ([.int .i64 f.kind] ++ [.int .i64 f.from_] ++ [.int .i64 f.seq] ++ [.int .i64 f.node] ++ (byV f.key) ++ [.bool f.found] ++ f.rcd.cells ++ (byV f.out) ++ [.int .i64 f.at_] ++ [.string ⟨f.data.toArray⟩] ++ (byV f.haze) ++ (f.mani x).cells ++ [.slice x.RA f.rngs.length x.rc] ++ [.slice x.IA f.items.length x.ic]) [.slice x.MA f.mems.length x.mc] [] w (by unfold Fm.cells at h; simpa only [List.append_assoc, List.nil_append, List.append_nil, List.singleton_append, List.cons_append] using h) rfl
  rw [hp] at hs
  unfold Fm.cells
  simp only [List.append_assoc, List.nil_append, List.append_nil, List.singleton_append, List.cons_append] at hs ⊢
  exact hs

theorem fr_info_seq : (Tryd.prog.info? 3).map (·.size) = some 1 := by kernel_rfl
theorem wp_fr_seq {op : Oper} {a : Act} {w : World} {K : Act → World → Prop} {Q : Exit → Act → World → Prop} {q : Nat} {f : Fm} {X : Adr} (hw : f.Wf) (h : FrAt w q f X) (x y : Operand) (ho : op.op = .store 3 x y) (hx : a.eval x = .pointer (some ⟨q, 2, none⟩)) (n : Int) (hy : a.eval y = .int .i64 n)
    (hK : ∀ w', FrAt w' q ({ f with seq := n } : Fm) (X : Adr) → Only [q] w w' → K (a.put op.dst undef) w') : op.wp Tryd.prog a w K Q :=
  have hl : ([.int .i64 n] : List Value).length = 1 := rfl
  wp_store_seg 3 x y ho q 2 hx _ [.int .i64 n] hy (cells_v_int _ _) _ _ h (by rw [List.size_toArray, Fm.len hw, hl]; omega) (by rw [fr_info_seq, hl]) (rfl) (hK _ (fm_put_seq hw h n) (only_setCells (by simp) _ _ _ (Only.refl _ _)))
theorem wpList_fr_seq {ops : Array Oper} {rest : List Oper} {op : Oper} {a : Act} {w : World} {Q : Exit → Act → World → Prop} (hgd : op.guard = none) {q : Nat} {f : Fm} {X : Adr} (hw : f.Wf) (h : FrAt w q f X) (x y : Operand) (ho : op.op = .store 3 x y) (hx : a.eval x = .pointer (some ⟨q, 2, none⟩)) (n : Int) (hy : a.eval y = .int .i64 n)
    (hK : ∀ w', FrAt w' q ({ f with seq := n } : Fm) (X : Adr) → Only [q] w w' → wpList Tryd.prog ops Q rest (a.put op.dst undef) w') : wpList Tryd.prog ops Q (op :: rest) a w :=
  wpList_plain hgd fun K hk => wp_fr_seq hw h x y ho hx n hy fun w' h1 h2 => hk _ _ (hK w' h1 h2)
theorem fr_info_node : (Tryd.prog.info? 3).map (·.size) = some 1 := by kernel_rfl
theorem wp_fr_node {op : Oper} {a : Act} {w : World} {K : Act → World → Prop} {Q : Exit → Act → World → Prop} {q : Nat} {f : Fm} {X : Adr} (hw : f.Wf) (h : FrAt w q f X) (x y : Operand) (ho : op.op = .store 3 x y) (hx : a.eval x = .pointer (some ⟨q, 3, none⟩)) (n : Int) (hy : a.eval y = .int .i64 n)
    (hK : ∀ w', FrAt w' q ({ f with node := n } : Fm) (X : Adr) → Only [q] w w' → K (a.put op.dst undef) w') : op.wp Tryd.prog a w K Q :=
  have hl : ([.int .i64 n] : List Value).length = 1 := rfl
  wp_store_seg 3 x y ho q 3 hx _ [.int .i64 n] hy (cells_v_int _ _) _ _ h (by rw [List.size_toArray, Fm.len hw, hl]; omega) (by rw [fr_info_node, hl]) (rfl) (hK _ (fm_put_node hw h n) (only_setCells (by simp) _ _ _ (Only.refl _ _)))
theorem wpList_fr_node {ops : Array Oper} {rest : List Oper} {op : Oper} {a : Act} {w : World} {Q : Exit → Act → World → Prop} (hgd : op.guard = none) {q : Nat} {f : Fm} {X : Adr} (hw : f.Wf) (h : FrAt w q f X) (x y : Operand) (ho : op.op = .store 3 x y) (hx : a.eval x = .pointer (some ⟨q, 3, none⟩)) (n : Int) (hy : a.eval y = .int .i64 n)
    (hK : ∀ w', FrAt w' q ({ f with node := n } : Fm) (X : Adr) → Only [q] w w' → wpList Tryd.prog ops Q rest (a.put op.dst undef) w') : wpList Tryd.prog ops Q (op :: rest) a w :=
  wpList_plain hgd fun K hk => wp_fr_node hw h x y ho hx n hy fun w' h1 h2 => hk _ _ (hK w' h1 h2)
theorem fr_info_key : (Tryd.prog.info? 23).map (·.size) = some 32 := by kernel_rfl
theorem wp_fr_key {op : Oper} {a : Act} {w : World} {K : Act → World → Prop} {Q : Exit → Act → World → Prop} {q : Nat} {f : Fm} {X : Adr} (hw : f.Wf) (h : FrAt w q f X) (x y : Operand) (ho : op.op = .store 23 x y) (hx : a.eval x = .pointer (some ⟨q, 4, none⟩)) (d : Bs) (hd : d.length = 32) (hy : a.eval y = .agg (byV d).toArray)
    (hK : ∀ w', FrAt w' q ({ f with key := d } : Fm) (X : Adr) → Only [q] w w' → K (a.put op.dst undef) w') : op.wp Tryd.prog a w K Q :=
  have hl : ((byV d) : List Value).length = 32 := by rw [byV_length, hd]
  wp_store_seg 23 x y ho q 4 hx _ (byV d) hy (cells_v_agg _) _ _ h (by rw [List.size_toArray, Fm.len hw, hl]; omega) (by rw [fr_info_key, hl]) (byV_all d) (hK _ (fm_put_key hw h d hd) (only_setCells (by simp) _ _ _ (Only.refl _ _)))
theorem wpList_fr_key {ops : Array Oper} {rest : List Oper} {op : Oper} {a : Act} {w : World} {Q : Exit → Act → World → Prop} (hgd : op.guard = none) {q : Nat} {f : Fm} {X : Adr} (hw : f.Wf) (h : FrAt w q f X) (x y : Operand) (ho : op.op = .store 23 x y) (hx : a.eval x = .pointer (some ⟨q, 4, none⟩)) (d : Bs) (hd : d.length = 32) (hy : a.eval y = .agg (byV d).toArray)
    (hK : ∀ w', FrAt w' q ({ f with key := d } : Fm) (X : Adr) → Only [q] w w' → wpList Tryd.prog ops Q rest (a.put op.dst undef) w') : wpList Tryd.prog ops Q (op :: rest) a w :=
  wpList_plain hgd fun K hk => wp_fr_key hw h x y ho hx d hd hy fun w' h1 h2 => hk _ _ (hK w' h1 h2)
theorem fr_info_found : (Tryd.prog.info? 4).map (·.size) = some 1 := by kernel_rfl
theorem wp_fr_found {op : Oper} {a : Act} {w : World} {K : Act → World → Prop} {Q : Exit → Act → World → Prop} {q : Nat} {f : Fm} {X : Adr} (hw : f.Wf) (h : FrAt w q f X) (x y : Operand) (ho : op.op = .store 4 x y) (hx : a.eval x = .pointer (some ⟨q, 36, none⟩)) (b : Bool) (hy : a.eval y = .bool b)
    (hK : ∀ w', FrAt w' q ({ f with found := b } : Fm) (X : Adr) → Only [q] w w' → K (a.put op.dst undef) w') : op.wp Tryd.prog a w K Q :=
  have hl : ([.bool b] : List Value).length = 1 := rfl
  wp_store_seg 4 x y ho q 36 hx _ [.bool b] hy (cells_v_bool _) _ _ h (by rw [List.size_toArray, Fm.len hw, hl]; omega) (by rw [fr_info_found, hl]) (rfl) (hK _ (fm_put_found hw h b) (only_setCells (by simp) _ _ _ (Only.refl _ _)))
theorem wpList_fr_found {ops : Array Oper} {rest : List Oper} {op : Oper} {a : Act} {w : World} {Q : Exit → Act → World → Prop} (hgd : op.guard = none) {q : Nat} {f : Fm} {X : Adr} (hw : f.Wf) (h : FrAt w q f X) (x y : Operand) (ho : op.op = .store 4 x y) (hx : a.eval x = .pointer (some ⟨q, 36, none⟩)) (b : Bool) (hy : a.eval y = .bool b)
    (hK : ∀ w', FrAt w' q ({ f with found := b } : Fm) (X : Adr) → Only [q] w w' → wpList Tryd.prog ops Q rest (a.put op.dst undef) w') : wpList Tryd.prog ops Q (op :: rest) a w :=
  wpList_plain hgd fun K hk => wp_fr_found hw h x y ho hx b hy fun w' h1 h2 => hk _ _ (hK w' h1 h2)
theorem fr_info_rcd : (Tryd.prog.info? 26).map (·.size) = some 65 := by kernel_rfl
theorem wp_fr_rcd {op : Oper} {a : Act} {w : World} {K : Act → World → Prop} {Q : Exit → Act → World → Prop} {q : Nat} {f : Fm} {X : Adr} (hw : f.Wf) (h : FrAt w q f X) (x y : Operand) (ho : op.op = .store 26 x y) (hx : a.eval x = .pointer (some ⟨q, 37, none⟩)) (r : Rc) (hr : r.Wf) (hy : a.eval y = .agg r.cells.toArray)
    (hK : ∀ w', FrAt w' q ({ f with rcd := r } : Fm) (X : Adr) → Only [q] w w' → K (a.put op.dst undef) w') : op.wp Tryd.prog a w K Q :=
  have hl : (r.cells : List Value).length = 65 := Rc.len hr
  wp_store_seg 26 x y ho q 37 hx _ r.cells hy (cells_v_agg _) _ _ h (by rw [List.size_toArray, Fm.len hw, hl]; omega) (by rw [fr_info_rcd, hl]) (rc_one r) (hK _ (fm_put_rcd hw h r hr) (only_setCells (by simp) _ _ _ (Only.refl _ _)))
theorem wpList_fr_rcd {ops : Array Oper} {rest : List Oper} {op : Oper} {a : Act} {w : World} {Q : Exit → Act → World → Prop} (hgd : op.guard = none) {q : Nat} {f : Fm} {X : Adr} (hw : f.Wf) (h : FrAt w q f X) (x y : Operand) (ho : op.op = .store 26 x y) (hx : a.eval x = .pointer (some ⟨q, 37, none⟩)) (r : Rc) (hr : r.Wf) (hy : a.eval y = .agg r.cells.toArray)
    (hK : ∀ w', FrAt w' q ({ f with rcd := r } : Fm) (X : Adr) → Only [q] w w' → wpList Tryd.prog ops Q rest (a.put op.dst undef) w') : wpList Tryd.prog ops Q (op :: rest) a w :=
  wpList_plain hgd fun K hk => wp_fr_rcd hw h x y ho hx r hr hy fun w' h1 h2 => hk _ _ (hK w' h1 h2)
theorem fr_info_out : (Tryd.prog.info? 23).map (·.size) = some 32 := by kernel_rfl
theorem wp_fr_out {op : Oper} {a : Act} {w : World} {K : Act → World → Prop} {Q : Exit → Act → World → Prop} {q : Nat} {f : Fm} {X : Adr} (hw : f.Wf) (h : FrAt w q f X) (x y : Operand) (ho : op.op = .store 23 x y) (hx : a.eval x = .pointer (some ⟨q, 102, none⟩)) (d : Bs) (hd : d.length = 32) (hy : a.eval y = .agg (byV d).toArray)
    (hK : ∀ w', FrAt w' q ({ f with out := d } : Fm) (X : Adr) → Only [q] w w' → K (a.put op.dst undef) w') : op.wp Tryd.prog a w K Q :=
  have hl : ((byV d) : List Value).length = 32 := by rw [byV_length, hd]
  wp_store_seg 23 x y ho q 102 hx _ (byV d) hy (cells_v_agg _) _ _ h (by rw [List.size_toArray, Fm.len hw, hl]; omega) (by rw [fr_info_out, hl]) (byV_all d) (hK _ (fm_put_out hw h d hd) (only_setCells (by simp) _ _ _ (Only.refl _ _)))
theorem wpList_fr_out {ops : Array Oper} {rest : List Oper} {op : Oper} {a : Act} {w : World} {Q : Exit → Act → World → Prop} (hgd : op.guard = none) {q : Nat} {f : Fm} {X : Adr} (hw : f.Wf) (h : FrAt w q f X) (x y : Operand) (ho : op.op = .store 23 x y) (hx : a.eval x = .pointer (some ⟨q, 102, none⟩)) (d : Bs) (hd : d.length = 32) (hy : a.eval y = .agg (byV d).toArray)
    (hK : ∀ w', FrAt w' q ({ f with out := d } : Fm) (X : Adr) → Only [q] w w' → wpList Tryd.prog ops Q rest (a.put op.dst undef) w') : wpList Tryd.prog ops Q (op :: rest) a w :=
  wpList_plain hgd fun K hk => wp_fr_out hw h x y ho hx d hd hy fun w' h1 h2 => hk _ _ (hK w' h1 h2)
theorem fr_info_at : (Tryd.prog.info? 3).map (·.size) = some 1 := by kernel_rfl
theorem wp_fr_at {op : Oper} {a : Act} {w : World} {K : Act → World → Prop} {Q : Exit → Act → World → Prop} {q : Nat} {f : Fm} {X : Adr} (hw : f.Wf) (h : FrAt w q f X) (x y : Operand) (ho : op.op = .store 3 x y) (hx : a.eval x = .pointer (some ⟨q, 134, none⟩)) (n : Int) (hy : a.eval y = .int .i64 n)
    (hK : ∀ w', FrAt w' q ({ f with at_ := n } : Fm) (X : Adr) → Only [q] w w' → K (a.put op.dst undef) w') : op.wp Tryd.prog a w K Q :=
  have hl : ([.int .i64 n] : List Value).length = 1 := rfl
  wp_store_seg 3 x y ho q 134 hx _ [.int .i64 n] hy (cells_v_int _ _) _ _ h (by rw [List.size_toArray, Fm.len hw, hl]; omega) (by rw [fr_info_at, hl]) (rfl) (hK _ (fm_put_at hw h n) (only_setCells (by simp) _ _ _ (Only.refl _ _)))
theorem wpList_fr_at {ops : Array Oper} {rest : List Oper} {op : Oper} {a : Act} {w : World} {Q : Exit → Act → World → Prop} (hgd : op.guard = none) {q : Nat} {f : Fm} {X : Adr} (hw : f.Wf) (h : FrAt w q f X) (x y : Operand) (ho : op.op = .store 3 x y) (hx : a.eval x = .pointer (some ⟨q, 134, none⟩)) (n : Int) (hy : a.eval y = .int .i64 n)
    (hK : ∀ w', FrAt w' q ({ f with at_ := n } : Fm) (X : Adr) → Only [q] w w' → wpList Tryd.prog ops Q rest (a.put op.dst undef) w') : wpList Tryd.prog ops Q (op :: rest) a w :=
  wpList_plain hgd fun K hk => wp_fr_at hw h x y ho hx n hy fun w' h1 h2 => hk _ _ (hK w' h1 h2)
theorem fr_info_data : (Tryd.prog.info? 9).map (·.size) = some 1 := by kernel_rfl
theorem wp_fr_data {op : Oper} {a : Act} {w : World} {K : Act → World → Prop} {Q : Exit → Act → World → Prop} {q : Nat} {f : Fm} {X : Adr} (hw : f.Wf) (h : FrAt w q f X) (x y : Operand) (ho : op.op = .store 9 x y) (hx : a.eval x = .pointer (some ⟨q, 135, none⟩)) (d : Bs) (hy : a.eval y = .string ⟨d.toArray⟩)
    (hK : ∀ w', FrAt w' q ({ f with data := d } : Fm) (X : Adr) → Only [q] w w' → K (a.put op.dst undef) w') : op.wp Tryd.prog a w K Q :=
  have hl : ([.string ⟨d.toArray⟩] : List Value).length = 1 := rfl
  wp_store_seg 9 x y ho q 135 hx _ [.string ⟨d.toArray⟩] hy (cells_v_str _) _ _ h (by rw [List.size_toArray, Fm.len hw, hl]; omega) (by rw [fr_info_data, hl]) (rfl) (hK _ (fm_put_data hw h d) (only_setCells (by simp) _ _ _ (Only.refl _ _)))
theorem wpList_fr_data {ops : Array Oper} {rest : List Oper} {op : Oper} {a : Act} {w : World} {Q : Exit → Act → World → Prop} (hgd : op.guard = none) {q : Nat} {f : Fm} {X : Adr} (hw : f.Wf) (h : FrAt w q f X) (x y : Operand) (ho : op.op = .store 9 x y) (hx : a.eval x = .pointer (some ⟨q, 135, none⟩)) (d : Bs) (hy : a.eval y = .string ⟨d.toArray⟩)
    (hK : ∀ w', FrAt w' q ({ f with data := d } : Fm) (X : Adr) → Only [q] w w' → wpList Tryd.prog ops Q rest (a.put op.dst undef) w') : wpList Tryd.prog ops Q (op :: rest) a w :=
  wpList_plain hgd fun K hk => wp_fr_data hw h x y ho hx d hy fun w' h1 h2 => hk _ _ (hK w' h1 h2)
theorem fr_info_haze : (Tryd.prog.info? 28).map (·.size) = some 64 := by kernel_rfl
theorem wp_fr_haze {op : Oper} {a : Act} {w : World} {K : Act → World → Prop} {Q : Exit → Act → World → Prop} {q : Nat} {f : Fm} {X : Adr} (hw : f.Wf) (h : FrAt w q f X) (x y : Operand) (ho : op.op = .store 28 x y) (hx : a.eval x = .pointer (some ⟨q, 136, none⟩)) (d : Bs) (hd : d.length = 64) (hy : a.eval y = .agg (byV d).toArray)
    (hK : ∀ w', FrAt w' q ({ f with haze := d } : Fm) (X : Adr) → Only [q] w w' → K (a.put op.dst undef) w') : op.wp Tryd.prog a w K Q :=
  have hl : ((byV d) : List Value).length = 64 := by rw [byV_length, hd]
  wp_store_seg 28 x y ho q 136 hx _ (byV d) hy (cells_v_agg _) _ _ h (by rw [List.size_toArray, Fm.len hw, hl]; omega) (by rw [fr_info_haze, hl]) (byV_all d) (hK _ (fm_put_haze hw h d hd) (only_setCells (by simp) _ _ _ (Only.refl _ _)))
theorem wpList_fr_haze {ops : Array Oper} {rest : List Oper} {op : Oper} {a : Act} {w : World} {Q : Exit → Act → World → Prop} (hgd : op.guard = none) {q : Nat} {f : Fm} {X : Adr} (hw : f.Wf) (h : FrAt w q f X) (x y : Operand) (ho : op.op = .store 28 x y) (hx : a.eval x = .pointer (some ⟨q, 136, none⟩)) (d : Bs) (hd : d.length = 64) (hy : a.eval y = .agg (byV d).toArray)
    (hK : ∀ w', FrAt w' q ({ f with haze := d } : Fm) (X : Adr) → Only [q] w w' → wpList Tryd.prog ops Q rest (a.put op.dst undef) w') : wpList Tryd.prog ops Q (op :: rest) a w :=
  wpList_plain hgd fun K hk => wp_fr_haze hw h x y ho hx d hd hy fun w' h1 h2 => hk _ _ (hK w' h1 h2)
theorem fr_info_mani : (Tryd.prog.info? 31).map (·.size) = some 34 := by kernel_rfl
theorem wp_fr_mani {op : Oper} {a : Act} {w : World} {K : Act → World → Prop} {Q : Exit → Act → World → Prop} {q : Nat} {f : Fm} {X : Adr} (hw : f.Wf) (h : FrAt w q f X) (x y : Operand) (ho : op.op = .store 31 x y) (hx : a.eval x = .pointer (some ⟨q, 200, none⟩)) (m : ManiD) (hm : m.whole.length = 32) (hy : a.eval y = .agg m.cells.toArray)
    (hK : ∀ w', FrAt w' q ({ f with whole := m.whole, size := m.size, parts := m.parts } : Fm) ({ X with PA := m.A, pc := m.cap } : Adr) → Only [q] w w' → K (a.put op.dst undef) w') : op.wp Tryd.prog a w K Q :=
  have hl : (m.cells : List Value).length = 34 := mani_length m hm
  wp_store_seg 31 x y ho q 200 hx _ m.cells hy (cells_v_agg _) _ _ h (by rw [List.size_toArray, Fm.len hw, hl]; omega) (by rw [fr_info_mani, hl]) (mani_one_cell m) (hK _ (fm_put_mani hw h m hm) (only_setCells (by simp) _ _ _ (Only.refl _ _)))
theorem wpList_fr_mani {ops : Array Oper} {rest : List Oper} {op : Oper} {a : Act} {w : World} {Q : Exit → Act → World → Prop} (hgd : op.guard = none) {q : Nat} {f : Fm} {X : Adr} (hw : f.Wf) (h : FrAt w q f X) (x y : Operand) (ho : op.op = .store 31 x y) (hx : a.eval x = .pointer (some ⟨q, 200, none⟩)) (m : ManiD) (hm : m.whole.length = 32) (hy : a.eval y = .agg m.cells.toArray)
    (hK : ∀ w', FrAt w' q ({ f with whole := m.whole, size := m.size, parts := m.parts } : Fm) ({ X with PA := m.A, pc := m.cap } : Adr) → Only [q] w w' → wpList Tryd.prog ops Q rest (a.put op.dst undef) w') : wpList Tryd.prog ops Q (op :: rest) a w :=
  wpList_plain hgd fun K hk => wp_fr_mani hw h x y ho hx m hm hy fun w' h1 h2 => hk _ _ (hK w' h1 h2)
theorem fr_info_rngs : (Tryd.prog.info? 32).map (·.size) = some 1 := by kernel_rfl
theorem wp_fr_rngs {op : Oper} {a : Act} {w : World} {K : Act → World → Prop} {Q : Exit → Act → World → Prop} {q : Nat} {f : Fm} {X : Adr} (hw : f.Wf) (h : FrAt w q f X) (x y : Operand) (ho : op.op = .store 32 x y) (hx : a.eval x = .pointer (some ⟨q, 234, none⟩)) (l : List Rg) (A : Option Addr) (c : Nat) (hy : a.eval y = .slice A l.length c)
    (hK : ∀ w', FrAt w' q ({ f with rngs := l } : Fm) ({ X with RA := A, rc := c } : Adr) → Only [q] w w' → K (a.put op.dst undef) w') : op.wp Tryd.prog a w K Q :=
  have hl : ([.slice A l.length c] : List Value).length = 1 := rfl
  wp_store_seg 32 x y ho q 234 hx _ [.slice A l.length c] hy (cells_v_slice _ _ _) _ _ h (by rw [List.size_toArray, Fm.len hw, hl]; omega) (by rw [fr_info_rngs, hl]) (rfl) (hK _ (fm_put_rngs hw h l A c) (only_setCells (by simp) _ _ _ (Only.refl _ _)))
theorem wpList_fr_rngs {ops : Array Oper} {rest : List Oper} {op : Oper} {a : Act} {w : World} {Q : Exit → Act → World → Prop} (hgd : op.guard = none) {q : Nat} {f : Fm} {X : Adr} (hw : f.Wf) (h : FrAt w q f X) (x y : Operand) (ho : op.op = .store 32 x y) (hx : a.eval x = .pointer (some ⟨q, 234, none⟩)) (l : List Rg) (A : Option Addr) (c : Nat) (hy : a.eval y = .slice A l.length c)
    (hK : ∀ w', FrAt w' q ({ f with rngs := l } : Fm) ({ X with RA := A, rc := c } : Adr) → Only [q] w w' → wpList Tryd.prog ops Q rest (a.put op.dst undef) w') : wpList Tryd.prog ops Q (op :: rest) a w :=
  wpList_plain hgd fun K hk => wp_fr_rngs hw h x y ho hx l A c hy fun w' h1 h2 => hk _ _ (hK w' h1 h2)
theorem fr_info_items : (Tryd.prog.info? 33).map (·.size) = some 1 := by kernel_rfl
theorem wp_fr_items {op : Oper} {a : Act} {w : World} {K : Act → World → Prop} {Q : Exit → Act → World → Prop} {q : Nat} {f : Fm} {X : Adr} (hw : f.Wf) (h : FrAt w q f X) (x y : Operand) (ho : op.op = .store 33 x y) (hx : a.eval x = .pointer (some ⟨q, 235, none⟩)) (l : List Rc) (A : Option Addr) (c : Nat) (hy : a.eval y = .slice A l.length c)
    (hK : ∀ w', FrAt w' q ({ f with items := l } : Fm) ({ X with IA := A, ic := c } : Adr) → Only [q] w w' → K (a.put op.dst undef) w') : op.wp Tryd.prog a w K Q :=
  have hl : ([.slice A l.length c] : List Value).length = 1 := rfl
  wp_store_seg 33 x y ho q 235 hx _ [.slice A l.length c] hy (cells_v_slice _ _ _) _ _ h (by rw [List.size_toArray, Fm.len hw, hl]; omega) (by rw [fr_info_items, hl]) (rfl) (hK _ (fm_put_items hw h l A c) (only_setCells (by simp) _ _ _ (Only.refl _ _)))
theorem wpList_fr_items {ops : Array Oper} {rest : List Oper} {op : Oper} {a : Act} {w : World} {Q : Exit → Act → World → Prop} (hgd : op.guard = none) {q : Nat} {f : Fm} {X : Adr} (hw : f.Wf) (h : FrAt w q f X) (x y : Operand) (ho : op.op = .store 33 x y) (hx : a.eval x = .pointer (some ⟨q, 235, none⟩)) (l : List Rc) (A : Option Addr) (c : Nat) (hy : a.eval y = .slice A l.length c)
    (hK : ∀ w', FrAt w' q ({ f with items := l } : Fm) ({ X with IA := A, ic := c } : Adr) → Only [q] w w' → wpList Tryd.prog ops Q rest (a.put op.dst undef) w') : wpList Tryd.prog ops Q (op :: rest) a w :=
  wpList_plain hgd fun K hk => wp_fr_items hw h x y ho hx l A c hy fun w' h1 h2 => hk _ _ (hK w' h1 h2)
theorem fr_info_mems : (Tryd.prog.info? 34).map (·.size) = some 1 := by kernel_rfl
theorem wp_fr_mems {op : Oper} {a : Act} {w : World} {K : Act → World → Prop} {Q : Exit → Act → World → Prop} {q : Nat} {f : Fm} {X : Adr} (hw : f.Wf) (h : FrAt w q f X) (x y : Operand) (ho : op.op = .store 34 x y) (hx : a.eval x = .pointer (some ⟨q, 236, none⟩)) (l : List Mb) (A : Option Addr) (c : Nat) (hy : a.eval y = .slice A l.length c)
    (hK : ∀ w', FrAt w' q ({ f with mems := l } : Fm) ({ X with MA := A, mc := c } : Adr) → Only [q] w w' → K (a.put op.dst undef) w') : op.wp Tryd.prog a w K Q :=
  have hl : ([.slice A l.length c] : List Value).length = 1 := rfl
  wp_store_seg 34 x y ho q 236 hx _ [.slice A l.length c] hy (cells_v_slice _ _ _) _ _ h (by rw [List.size_toArray, Fm.len hw, hl]; omega) (by rw [fr_info_mems, hl]) (rfl) (hK _ (fm_put_mems hw h l A c) (only_setCells (by simp) _ _ _ (Only.refl _ _)))
theorem wpList_fr_mems {ops : Array Oper} {rest : List Oper} {op : Oper} {a : Act} {w : World} {Q : Exit → Act → World → Prop} (hgd : op.guard = none) {q : Nat} {f : Fm} {X : Adr} (hw : f.Wf) (h : FrAt w q f X) (x y : Operand) (ho : op.op = .store 34 x y) (hx : a.eval x = .pointer (some ⟨q, 236, none⟩)) (l : List Mb) (A : Option Addr) (c : Nat) (hy : a.eval y = .slice A l.length c)
    (hK : ∀ w', FrAt w' q ({ f with mems := l } : Fm) ({ X with MA := A, mc := c } : Adr) → Only [q] w w' → wpList Tryd.prog ops Q rest (a.put op.dst undef) w') : wpList Tryd.prog ops Q (op :: rest) a w :=
  wpList_plain hgd fun K hk => wp_fr_mems hw h x y ho hx l A c hy fun w' h1 h2 => hk _ _ (hK w' h1 h2)

/-! ### a frame that is built -/
def frPl : List (Nat × Nat) := [(0, 1), (1, 1), (2, 1), (3, 1), (4, 32), (36, 1), (37, 65), (102, 32), (134, 1), (135, 1), (136, 64), (200, 34), (234, 1), (235, 1), (236, 1)]
def frP (i : Nat) : Option (Nat × Nat) := frPl.toArray[i]?
set_option maxRecDepth 100000 in
theorem fm_zero : (Tryd.prog.info? 36).map (·.zero) = some (some (.agg (zFm.cells Adr.zero).toArray)) := by kernel_rfl
set_option maxRecDepth 100000 in
theorem built_fm (parts : List (Nat × Value)) : Tryd.prog.built 36 parts = Instr.fill frP (zFm.cells Adr.zero).toArray parts := by
  obtain ⟨it, hit, hz⟩ := Option.map_eq_some_iff.1 fm_zero
  have hp : ∀ fs, Tryd.prog.underlying 36 = some (.struct fs) → fs.toList.mapM (fun f => (Tryd.prog.info? f.type).map fun i => (f.offset, i.size)) = some frPl := by
    intro fs h
    obtain rfl := (TypeDesc.struct.inj (Option.some.inj (Tryd.underlying36.symm.trans h)))
    kernel_rfl
  unfold Program.built
  rw [hit]
  simp only [Tryd.underlying36]
  rw [hz, hp _ Tryd.underlying36]
  rfl
theorem fill_none (place : Nat → Option (Nat × Nat)) (C : Array Value) : Instr.fill place C [] = some C := rfl
theorem fill_part {place : Nat → Option (Nat × Nat)} {pre old post vs : List Value} {i : Nat} {v : Value} {rest : List (Nat × Value)} {off size : Nat} (hp : place i = some (off, size)) (hv : v.cells = vs.toArray) (hs : vs.length = size) (hpre : pre.length = off) (hold : old.length = size) :
    Instr.fill place (pre ++ (old ++ post)).toArray ((i, v) :: rest) = Instr.fill place (pre ++ (vs ++ post)).toArray rest := by
  refine fill_one hp (by rw [hv]; simpa using hs) (by simp; omega) ?_
  have h := fold_cells vs 0 off pre old post (by omega) (by omega)
  rw [List.append_assoc, List.append_assoc] at h
  rw [hv, ← Array.foldl_toList, Array.toList_zipIdx]
  exact h
variable {rest : List (Nat × Value)}
theorem fm_fill0 (f : Fm) (x : Adr) (n : Int) : Instr.fill frP (f.cells x).toArray ((0, .int .i64 n) :: rest) = Instr.fill frP (({ f with kind := n } : Fm).cells x).toArray rest :=
  fill_part (pre := []) (old := [_]) (vs := [_]) (off := 0) (size := 1) rfl (cells_v_int _ _) rfl rfl rfl
theorem fm_fill1 (f : Fm) (x : Adr) (n : Int) : Instr.fill frP (f.cells x).toArray ((1, .int .i64 n) :: rest) = Instr.fill frP (({ f with from_ := n } : Fm).cells x).toArray rest :=
  fill_part (pre := [_]) (old := [_]) (vs := [_]) (off := 1) (size := 1) rfl (cells_v_int _ _) rfl rfl rfl
theorem fm_fill2 (f : Fm) (x : Adr) (n : Int) : Instr.fill frP (f.cells x).toArray ((2, .int .i64 n) :: rest) = Instr.fill frP (({ f with seq := n } : Fm).cells x).toArray rest :=
  fill_part (pre := [_, _]) (old := [_]) (vs := [_]) (off := 2) (size := 1) rfl (cells_v_int _ _) rfl rfl rfl
theorem fm_fill14 (f : Fm) (x : Adr) (h1 : (f.mani x).cells.length = 34) (h2 : f.rcd.cells.length = 65) (h3 : (byV f.key).length = 32) (h4 : (byV f.out).length = 32) (h5 : (byV f.haze).length = 64) (l : List Mb) (A : Option Addr) (c : Nat) : Instr.fill frP (f.cells x).toArray ((14, .slice A l.length c) :: rest) = Instr.fill frP (({ f with mems := l } : Fm).cells ({ x with MA := A, mc := c } : Adr)).toArray rest := by
  have h := fill_part (place := frP) (i := 14) (v := .slice A l.length c) (rest := rest) (pre := [.int .i64 f.kind] ++ [.int .i64 f.from_] ++ [.int .i64 f.seq] ++ [.int .i64 f.node] ++ (byV f.key) ++ [.bool f.found] ++ f.rcd.cells ++ (byV f.out) ++ [.int .i64 f.at_] ++ [.string ⟨f.data.toArray⟩] ++ (byV f.haze) ++ (f.mani x).cells ++ [.slice x.RA f.rngs.length x.rc] ++ [.slice x.IA f.items.length x.ic]) (old := [.slice x.MA f.mems.length x.mc]) (vs := [.slice A l.length c]) (post := []) (off := 236) (size := 1) rfl (cells_v_slice _ _ _) rfl (by simp only [List.length_append, List.length_cons, List.length_nil, h1, h2, h3, h4, h5]) rfl
  unfold Fm.cells
  simp only [List.append_assoc, List.nil_append, List.append_nil, List.singleton_append, List.cons_append] at h ⊢
  exact h
theorem zFm_wf : zFm.Wf := by
  have h0 : I64 0 := by unfold I64; omega
  have hz : z32.length = 32 := rfl
  exact ⟨h0, h0, h0, h0, hz, ⟨hz, hz, h0⟩, hz, h0, by simp [zFm], rfl, hz, h0, by simp [zFm], by simp [zFm], by simp [zFm], by simp [zFm], by simp [zFm], by simp [zFm], by simp [zFm], by simp [zFm]⟩
end Wi
end Go.Proofs.YthcmlbbbbcinkaaDoor
