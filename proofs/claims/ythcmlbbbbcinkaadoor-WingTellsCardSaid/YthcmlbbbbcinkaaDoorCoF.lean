/-
  Layer 3 (comb): the walk of Fits. Layer 3 (comb): the walk of Mani. Layer 3 (comb): the walk of Join. Layer 3 (comb): plain facts on a text's own manifest.
-/
import Derived.Test.YthcmlbbbbcinkaaDoorCoB
import Derived.BigQuiet
import Derived.Test.YthcmlbbbbcinkaaDoorShelf
set_option linter.unusedVariables false
set_option linter.unusedSimpArgs false
namespace Go.Proofs.YthcmlbbbbcinkaaDoor
open Go.RowKit
attribute [local go_sem] Lb.ba_get Lb.ba_cut Lb.ba_add Lb.ba_size Lb.take_rest

theorem below_drewN'' {B : Nat} {a w : World} (h : Below B a w) (n : Nat) : Below B a (w.drewN n) := ⟨h.os, h.tape, h.output, h.size, h.block⟩
theorem Laid.drew {K : List Int} {w : World} (h : Laid K w) : Laid K w.drew := ⟨h.len, h.row⟩
theorem Laid.alloc {K : List Int} {w : World} (h : Laid K w) (o : Obj) : Laid K (w.alloc o) := h.below ((Below.refl _ w).alloc (Nat.le_refl _) o)
theorem fts_new (w : World) (x : List UInt8) (T : TypeId) : Fts' (w.alloc (.cells #[.string ⟨x.toArray⟩] T)) 0 (some ⟨w.heap.size, 0, none⟩) x := ⟨_, rfl, by rw [Lib.cell_of_heap (heap_alloc_new w _)]; rfl⟩

end Go.Proofs.YthcmlbbbbcinkaaDoor

set_option linter.unusedVariables false
set_option linter.unusedSimpArgs false
namespace Go.Proofs.YthcmlbbbbcinkaaDoor
open Go.RowKit
attribute [local go_sem] Lb.ba_get Lb.ba_cut Lb.ba_add Lb.ba_size Lb.take_rest

theorem Only.belowB {bs : List Nat} {a b c : World} (h : Only bs a b) (k : Below a.heap.size b c) : Only bs a c :=
  ⟨k.os.trans h.os, k.tape.trans h.tape, k.output.trans h.output, Nat.le_trans h.size k.size, fun i hi hn => (k.block i hi).trans (h.block i hi hn)⟩

theorem Txts.cell {w : World} {B : Nat} {A : Option Addr} {n cap : Nat} {ts : List (List UInt8)} (h : Txts w B (.slice A n cap) ts) (j : Nat) (hj : j < ts.length) :
    ∃ g, A = some ⟨g, 0, none⟩ ∧ B ≤ g ∧ g < w.heap.size ∧ w.cell? ⟨g, j, none⟩ = some (.string ⟨(ts[j]).toArray⟩) := by
  rcases h with ⟨_, h0, _⟩ | ⟨g, c, hv, hg, hB⟩
  · omega
  · refine ⟨g, by injection hv, hg, hB.lt, hB.holds j _ ?_⟩
    simp [rowT, hj]

theorem results_cell_row2 {P : Program} {fn : Func} {p u : Tmp} {ty : TypeId} (h : fn.results = #[.cell p ty, .tmp u]) (tmps : Array Value) (w : World) (g : Nat) (t : TypeId) (cs : Array Value) (fr : Nat × Nat) (d : TypeDesc)
    (hp : tmps.getD p undef = .pointer (some ⟨g, 0, none⟩)) (hg : w.heap[g]? = some (.cells cs t fr))
    (hu : P.underlying ty = some d) (hd : (match d with | .struct _ | .array _ _ => true | _ => false) = true) (hi : (P.info? ty).map (·.size) = some cs.size) :
    (results fn tmps).run P w = .ok (.tuple #[.agg cs, tmps.getD u undef]) w := by
  have hp' : tmps[p]?.getD undef = .pointer (some ⟨g, 0, none⟩) := by simpa using hp
  simp [results, h, hp', asAddr, run_loadVar_row w g t ty cs fr d hg hu hd hi]

theorem fold_cells : ∀ (vs : List Value) (k off : Nat) (pre old post : List Value), pre.length = off + k → old.length = vs.length →
    ((vs.zipIdx k).foldl (fun (cs : Array Value) (x : Value × Nat) => cs.setIfInBounds (off + x.2) x.1) (pre ++ old ++ post).toArray) = (pre ++ vs ++ post).toArray
  | [], k, off, pre, old, post, _, ho => by
    have : old = [] := List.eq_nil_of_length_eq_zero (by simpa using ho)
    subst this
    rfl
  | v :: vs, k, off, pre, o :: old, post, hp, ho => by
    rw [List.zipIdx_cons, List.foldl_cons]
    have e : (pre ++ o :: old ++ post).toArray.setIfInBounds (off + k) v = ((pre ++ [v]) ++ old ++ post).toArray := by
      rw [List.setIfInBounds_toArray, ← hp]
      congr 1
      rw [List.append_assoc, List.set_append_right _ _ (by omega), Nat.sub_self]
      simp
    show List.foldl _ ((pre ++ o :: old ++ post).toArray.setIfInBounds (off + k) v) _ = _
    rw [e, fold_cells vs (k + 1) off (pre ++ [v]) old post (by simp; omega) (by simpa using ho)]
    simp
  | v :: vs, k, off, pre, [], post, _, ho => by simp at ho
theorem fold_cells_all (vs old post : List Value) (h : old.length = vs.length) :
    (vs.toArray.zipIdx.foldl (fun (cs : Array Value) (x : Value × Nat) => cs.setIfInBounds (0 + x.2) x.1) (old ++ post).toArray) = (vs ++ post).toArray := by
  have := fold_cells vs 0 0 [] old post rfl h
  simp only [List.nil_append] at this
  rw [← this, ← Array.foldl_toList]
  simp

theorem fold_dig (d : List UInt8) (hd : d.length = 32) : Array.foldl (fun (cs : Array Value) (x : Value × Nat) => cs.setIfInBounds x.snd x.fst) #[Value.int IntKind.u8 0, Value.int IntKind.u8 0, Value.int IntKind.u8 0, Value.int IntKind.u8 0, Value.int IntKind.u8 0, Value.int IntKind.u8 0, Value.int IntKind.u8 0, Value.int IntKind.u8 0, Value.int IntKind.u8 0, Value.int IntKind.u8 0, Value.int IntKind.u8 0, Value.int IntKind.u8 0, Value.int IntKind.u8 0, Value.int IntKind.u8 0, Value.int IntKind.u8 0, Value.int IntKind.u8 0, Value.int IntKind.u8 0, Value.int IntKind.u8 0, Value.int IntKind.u8 0, Value.int IntKind.u8 0, Value.int IntKind.u8 0, Value.int IntKind.u8 0, Value.int IntKind.u8 0, Value.int IntKind.u8 0, Value.int IntKind.u8 0, Value.int IntKind.u8 0, Value.int IntKind.u8 0, Value.int IntKind.u8 0, Value.int IntKind.u8 0, Value.int IntKind.u8 0, Value.int IntKind.u8 0, Value.int IntKind.u8 0] (digV d).zipIdx 0 32 = digV d := by
  have h := fold_cells_all (byV d) (byV (List.replicate 32 0)) [] (by simp [byV, hd])
  have hs : (digV d).zipIdx.size = 32 := by simp [digV_size, hd]
  rw [← hs]
  simp only [Nat.zero_add, List.append_nil] at h
  exact h

theorem digs_succ (K : List Int) {ts : List (List UInt8)} (j : Nat) (hj : j < ts.length) : (((ts.take (j + 1)).map (fun x => byV (hashB K x))).flatten) = (((ts.take j).map (fun x => byV (hashB K x))).flatten) ++ byV (hashB K ts[j]) := by
  rw [List.take_add_one, List.getElem?_eq_getElem hj, List.map_append, List.flatten_append]
  simp only [Option.toList_some, List.map_cons, List.map_nil, List.flatten_cons, List.flatten_nil, List.append_nil]
theorem Bag0.only {w w' : World} {B size m : Nat} {v : Value} {cs : List Value} {bs : List Nat} (h : Bag0 w B size v m cs) (ho : Only bs w w') (hb : ∀ x ∈ bs, x < B) : Bag0 w' B size v m cs := by
  rcases h with h | ⟨g, cap, hv, hg, hB⟩
  · exact .inl h
  · exact .inr ⟨g, cap, hv, hg, hB.only ho (fun hm => by have := hb _ hm; omega)⟩
theorem flat_get : ∀ (ds : List (List UInt8)), (∀ d ∈ ds, d.length = 32) → ∀ (i : Nat) (hi : i < ds.length) (k : Nat) (v : Value), (byV ds[i])[k]? = some v → ((ds.map byV).flatten)[i * 32 + k]? = some v
  | [], _, i, hi, _, _, _ => by simp at hi
  | d :: ds, hd, 0, _, k, v, hv => by
    have hk : k < (byV d).length := (List.getElem?_eq_some_iff.1 hv).1
    rw [List.map_cons, List.flatten_cons, List.getElem?_append_left (by omega)]
    simpa using hv
  | d :: ds, hd, i + 1, hi, k, v, hv => by
    have h32 : (byV d).length = 32 := by rw [byV_length]; exact hd d (by simp)
    rw [List.map_cons, List.flatten_cons, List.getElem?_append_right (by omega), h32, show (i + 1) * 32 + k - 32 = i * 32 + k by omega]
    exact flat_get ds (fun x hx => hd x (by simp [hx])) i (by simpa using hi) k v (by simpa using hv)
theorem digs_of_bag {w : World} {B n cap : Nat} {A : Option Addr} {ds : List (List UInt8)} (h : Bag0 w B 32 (.slice A n cap) n ((ds.map byV).flatten)) (hn : n = ds.length) (hd : ∀ d ∈ ds, d.length = 32) : Digs w w.heap.size A ds := by
  intro i hi
  rcases h with ⟨_, h0, _⟩ | ⟨g, c, hv, hg, hB⟩
  · omega
  · refine ⟨g, 0, by injection hv, hB.lt, fun k v hk => ?_⟩
    rw [Nat.zero_add]
    exact hB.holds _ _ (flat_get ds hd i hi k v hk)
theorem dig_info3 : (Tryd.prog.info? 23).map (fun i => (i.zero, i.size, i.bytes)) = some (some (.agg (digV (List.replicate 32 0))), 32, 32) := by kernel_rfl
theorem dig_src {w : World} (g c : Nat) (d : List UInt8) (T : TypeId) (f : Nat × Nat) (hd : d.length = 32) (h : w.heap[g]? = some (.cells (digV d) T f)) : Src Tryd.prog 32 29 (.slice (some ⟨g, 0, none⟩) 1 c) 1 (byV d) w := by
  refine Src.ofSlice w Tryd.underlying29 _ 1 c (byV d) (by simp [byV, hd]) (fun j u hu => ?_) (fun u hu => ?_)
  · rw [Addr.add_lit, Nat.zero_add, Lib.cell_of_heap h]; simpa [digV] using hu
  · simp only [byV, List.mem_map] at hu; obtain ⟨_, _, rfl⟩ := hu; rfl

theorem wp_append_bag0 {P : Program} (w : World) {o : Oper} {a : Act} {K : Act → World → Prop} {Q : Exit → Act → World → Prop} (s x : Operand) (t tx : TypeId)
    (ho : o.op = .call { callee := .builtin .append, args := #[s, x], argTypes := #[t, tx] })
    {e : TypeId} {B size m : Nat} {v : Value} {cs : List Value}
    (i : TypeInfo) (z : Value) (bytes : Nat) (ht : P.underlying t = some (.slice e)) (hi : P.info? e = some i) (hz : i.zero = some z) (hsize : i.size = size) (hby : i.bytes = bytes) (hzs : z.cells.size = size)
    (hBw : B ≤ w.heap.size) (hv : a.eval s = v) (h : Bag0 w B size v m cs)
    (xv : Value) (n : Nat) (news : List Value) (hx : a.eval x = xv) (hs : Src P size tx xv n news w) (hn : 0 < n) (h63 : m + n ≤ maxLen) (hbytes : (m + n) * bytes ≤ 140737488355328)
    (hK : ∀ v' w', Bag0 w' B size v' (m + n) (cs ++ news) → Below B w w' → K (a.put o.dst v') w') : o.wp P a w K Q := by
  obtain ⟨v', w', hrun, h1, h2⟩ := run_append_bag0 (P := P) t tx o.type e i z bytes ht hi hz hsize hby hzs hBw h xv n news hs hn h63 hbytes
  unfold Oper.wp
  simp [execOp, ho, resolve, invoke, builtin, hv, hx, hrun, Result.andThen]
  exact hK v' w' h1 h2

def maniRow (d : List UInt8) (n : Int) (v : Value) : Array Value := (byV d ++ [Value.int .i64 n, v]).toArray
theorem maniRow_set (d : List UInt8) (n : Int) (v u : Value) (hd : d.length = 32) : (maniRow d n v).setIfInBounds 33 u = maniRow d n u := by
  unfold maniRow
  rw [List.setIfInBounds_toArray, List.set_append_right _ _ (by simp [byV, hd])]
  simp [byV, hd]
theorem mani_zero : (Tryd.prog.info? 31).map (·.zero) = some (some (.agg ((byV (List.replicate 32 0)) ++ [Value.int .i64 0, Value.slice none 0 0]).toArray)) := by kernel_rfl
theorem fill_one {place : Nat → Option (Nat × Nat)} {cells C : Array Value} {i : Nat} {v : Value} {rest : List (Nat × Value)} {off size : Nat} (hp : place i = some (off, size)) (hs : v.cells.size = size) (hle : off + size ≤ cells.size)
    (hC : v.cells.zipIdx.foldl (fun (cs : Array Value) (x : Value × Nat) => cs.setIfInBounds (off + x.2) x.1) cells = C) : Instr.fill place cells ((i, v) :: rest) = Instr.fill place C rest := by
  subst hC
  rw [Instr.fill, hp]
  simp only [hs]
  rw [if_neg (by simp; omega)]
theorem built_mani (d : List UInt8) (n : Int) (hd : d.length = 32) : Tryd.prog.built 31 [(0, .agg (digV d)), (1, .int .i64 n)] = some (maniRow d n (.slice none 0 0)) := by
  obtain ⟨it, hit, hz⟩ := Option.map_eq_some_iff.1 mani_zero
  have hp : ∀ fs, Tryd.prog.underlying 31 = some (.struct fs) → fs.toList.mapM (fun f => (Tryd.prog.info? f.type).map fun i => (f.offset, i.size)) = some [(0, 32), (32, 1), (33, 1)] := by
    intro fs h
    obtain rfl := (TypeDesc.struct.inj (Option.some.inj (Tryd.underlying31.symm.trans h)))
    kernel_rfl
  unfold Program.built
  rw [hit]
  simp only [Tryd.underlying31]
  rw [hz, hp _ Tryd.underlying31]
  have hf := fold_cells_all (byV d) (byV (List.replicate 32 0)) [Value.int .i64 0, Value.slice none 0 0] (by simp [byV, hd])
  show Instr.fill _ ((byV (List.replicate 32 0)) ++ [Value.int .i64 0, Value.slice none 0 0]).toArray _ = _
  rw [fill_one (off := 0) (size := 32) rfl (by show (digV d).size = 32; rw [digV_size, hd]) (by simp [byV]) (by exact hf)]
  rw [fill_one (off := 32) (size := 1) rfl rfl (by simp [byV, hd]) (C := maniRow d n (.slice none 0 0)) ?_]
  · rfl
  · have h32 : (byV d).length = 32 := by rw [byV_length, hd]
    show ((byV d ++ [Value.int .i64 0, Value.slice none 0 0]).toArray.setIfInBounds (32 + 0) (.int .i64 n)) = _
    rw [List.setIfInBounds_toArray, List.set_append_right _ _ (by omega), h32]
    rfl

theorem wpList_build2 {P : Program} {ops : Array Oper} {rest : List Oper} {o : Oper} {a : Act} {w : World} {Q : Exit → Act → World → Prop} (hg : o.guard = none) (t : TypeId) (i j : Nat) (x y : Operand) (ho : o.op = .build t #[(i, x), (j, y)])
    (vx vy : Value) (hx : a.eval x = vx) (hy : a.eval y = vy) (C : Array Value) (hB : P.built t [(i, vx), (j, vy)] = some C)
    (h : wpList P ops Q rest (a.put o.dst (.agg C)) w) : wpList P ops Q (o :: rest) a w := by
  have e : ((#[(i, x), (j, y)] : Array (Nat × Operand)).map fun (i, x) => (i, a.eval x)).toList = [(i, vx), (j, vy)] := by simp [hx, hy]
  refine wpList_build hg t _ ho ?_ ?_
  · rw [e, hB]; rfl
  · rw [e, hB]; exact h

def zeroMani : ManiD := ⟨List.replicate 32 0, 0, none, 0, []⟩

end Go.Proofs.YthcmlbbbbcinkaaDoor

set_option linter.unusedVariables false
set_option linter.unusedSimpArgs false
namespace Go.Proofs.YthcmlbbbbcinkaaDoor
open Go.RowKit
attribute [local go_sem] Lb.ba_get Lb.ba_cut Lb.ba_add Lb.ba_size Lb.take_rest

def joinS (K : List Int) (m : ManiD) (ts : List (List UInt8)) : List UInt8 × Int :=
  if goodS m.size m.parts.length = true ∧ ts.length = m.parts.length then
    if (List.range ts.length).all (fun i => fitsS K m i (ts.getD i [])) = true then
      if hashB K ts.flatten = m.whole then (ts.flatten, 0) else ([], 5)
    else ([], 5)
  else ([], 1)

theorem flat_le : ∀ (ts : List (List UInt8)) (B : Nat), (∀ t ∈ ts, t.length ≤ B) → ts.flatten.length ≤ ts.length * B
  | [], B, _ => by simp
  | t :: ts, B, h => by
    have h1 := h t (by simp)
    have h2 := flat_le ts B (fun x hx => h x (by simp [hx]))
    rw [List.flatten_cons, List.length_append, List.length_cons, Nat.add_mul]
    omega

end Go.Proofs.YthcmlbbbbcinkaaDoor

set_option linter.unusedVariables false
set_option linter.unusedSimpArgs false
namespace Go.Proofs.YthcmlbbbbcinkaaDoor
open Go.RowKit

theorem chunksN_flat (l : List UInt8) : ∀ n, (chunksN l n).flatten = l.take (64 * n)
  | 0 => by simp [chunksN]
  | n + 1 => by
    rw [chunksN_succ, List.flatten_append, chunksN_flat l n, show 64 * (n + 1) = 64 * n + 64 by omega, List.take_add]
    simp [chunk]
theorem chunks_flat (l : List UInt8) : (chunks l).flatten = l := by
  unfold chunks
  rw [chunksN_flat, List.take_of_length_le (by omega)]
theorem chunk_length (l : List UInt8) (j : Nat) : (chunk l j).length = min 64 (l.length - 64 * j) := by simp [chunk]
theorem chunks_le (l : List UInt8) : ∀ t ∈ chunks l, t.length ≤ 64 := by
  intro t ht
  simp only [chunks, chunksN, List.mem_map] at ht
  obtain ⟨j, _, rfl⟩ := ht
  rw [chunk_length]; omega
theorem chunks_getD (l : List UInt8) (j : Nat) (h : j < (chunks l).length) : (chunks l).getD j [] = chunk l j := by
  rw [List.getD_eq_getElem?_getD, List.getElem?_eq_getElem h, chunks_get]; rfl

/-- the manifest m is that of the text l -/
structure OwnM (K : List Int) (m : ManiD) (l : List UInt8) : Prop where
  whole : m.whole = hashB K l
  size : m.size = l.length
  parts : m.parts = (chunks l).map (hashB K)
theorem OwnM.good {K : List Int} {m : ManiD} {l : List UInt8} (h : OwnM K m l) (hl : l.length ≤ 512) : goodS m.size m.parts.length = true := by
  unfold goodS
  rw [h.size, h.parts, List.length_map, chunks_length]
  simp
  omega
theorem OwnM.fits {K : List Int} {m : ManiD} {l : List UInt8} (h : OwnM K m l) (hl : l.length ≤ 512) (i : Nat) (hi : i < (chunks l).length) (x : List UInt8) :
    fitsS K m (i : Int) x = (decide (x.length = (chunk l i).length) && (hashB K x == hashB K (chunk l i))) := by
  have hc := chunks_length l
  unfold fitsS
  rw [h.good hl, h.size, h.parts, List.length_map, chunk_length]
  have e1 : decide ((0 : Int) ≤ (i : Int)) = true := by simp
  have e2 : decide ((i : Int) < ((chunks l).length : Int)) = true := by simp; exact hi
  have e3 : decide ((x.length : Int) = min ((l.length : Int) - (i : Int) * 64) 64) = decide (x.length = min 64 (l.length - 64 * i)) := by
    rw [Bool.eq_iff_iff]; simp only [decide_eq_true_eq]; omega
  have e4 : ((chunks l).map (hashB K)).getD (i : Int).toNat [] = hashB K (chunk l i) := by
    rw [List.getD_eq_getElem?_getD, List.getElem?_map, Int.toNat_natCast, List.getElem?_eq_getElem hi, chunks_get]; rfl
  rw [e1, e2, e3, e4]
  simp
theorem OwnM.fits_own {K : List Int} {m : ManiD} {l : List UInt8} (h : OwnM K m l) (hl : l.length ≤ 512) (i : Nat) (hi : i < (chunks l).length) : fitsS K m (i : Int) (chunk l i) = true := by
  rw [h.fits hl i hi]; simp
theorem OwnM.join {K : List Int} {m : ManiD} {l : List UInt8} (h : OwnM K m l) (hl : l.length ≤ 512) : joinS K m (chunks l) = (l, 0) := by
  unfold joinS
  rw [if_pos ⟨h.good hl, by rw [h.parts, List.length_map]⟩, if_pos, chunks_flat, if_pos h.whole.symm]
  rw [List.all_eq_true]
  intro i hi
  have hi' := List.mem_range.1 hi
  rw [chunks_getD l i hi']
  exact h.fits_own hl i hi'
end Go.Proofs.YthcmlbbbbcinkaaDoor
