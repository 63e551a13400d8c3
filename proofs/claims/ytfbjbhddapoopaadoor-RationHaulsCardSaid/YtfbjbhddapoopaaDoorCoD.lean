/-
  Layer 3 (comb): the walk of Mani.
-/
import Derived.Test.YtfbjbhddapoopaaDoorCoC
set_option linter.unusedVariables false
set_option linter.unusedSimpArgs false
namespace Go.Proofs.YtfbjbhddapoopaaDoor
open Go.RowKit
attribute [local go_sem] Lb.ba_get Lb.ba_cut Lb.ba_add Lb.ba_size Lb.take_rest

theorem Only.belowB {bs : List Nat} {a b c : World} (h : Only bs a b) (k : Below a.heap.size b c) : Only bs a c :=
  ⟨k.os.trans h.os, k.tape.trans h.tape, k.output.trans h.output, Nat.le_trans h.size k.size, fun i hi hn => (k.block i hi).trans (h.block i hi hn)⟩

theorem Txts.cell {w : World} {B : Nat} {A : Option Addr} {n cap : Nat} {ts : List (List UInt8)} (h : Txts w B (.slice A n cap) ts) (j : Nat) (hj : j < ts.length) :
    ∃ g, A = some ⟨g, 0, none⟩ ∧ B ≤ g ∧ g < w.heap.size ∧ w.cell? ⟨g, j, none⟩ = some (.string ⟨(ts[j]).toArray⟩) := by
  rcases h with ⟨_, h0, _⟩ | ⟨g, c, hv, hg, hB⟩
  · omega
  · refine ⟨g, by injection hv, hg, hB.lt, hB.holds j _ ?_⟩
    simp [rowT, hj]

theorem results_cell_row2 {P : Program} {fn : Func} {p u : Tmp} {ty : TypeId} (h : fn.results = #[.cell p ty, .tmp u]) (tmps : Array Value) (w : World) (g : Nat) (t : TypeId) (cs : Array Value) (fr : Nat × Nat) (d : TypeDesc)
    (hp : tmps.getD p undef = .pointer (some ⟨g, 0, none⟩)) (hg : w.heap[g]? = some (.cells cs t fr))
    (hu : P.underlying ty = some d) (hd : (match d with | .struct _ | .array _ _ => true | _ => false) = true) (hi : (P.info? ty).map (·.size) = some cs.size) :
    (results fn tmps).run P w = .ok (.tuple #[.agg cs, tmps.getD u undef]) w := by
  have hp' : tmps[p]?.getD undef = .pointer (some ⟨g, 0, none⟩) := by simpa using hp
  simp [results, h, hp', asAddr, run_loadVar_row w g t ty cs fr d hg hu hd hi]

theorem fold_cells : ∀ (vs : List Value) (k off : Nat) (pre old post : List Value), pre.length = off + k → old.length = vs.length →
    ((vs.zipIdx k).foldl (fun (cs : Array Value) (x : Value × Nat) => cs.setIfInBounds (off + x.2) x.1) (pre ++ old ++ post).toArray) = (pre ++ vs ++ post).toArray
  | [], k, off, pre, old, post, _, ho => by
    have : old = [] := List.eq_nil_of_length_eq_zero (by simpa using ho)
    subst this
    rfl
  | v :: vs, k, off, pre, o :: old, post, hp, ho => by
    rw [List.zipIdx_cons, List.foldl_cons]
    have e : (pre ++ o :: old ++ post).toArray.setIfInBounds (off + k) v = ((pre ++ [v]) ++ old ++ post).toArray := by
      rw [List.setIfInBounds_toArray, ← hp]
      congr 1
      rw [List.append_assoc, List.set_append_right _ _ (by omega), Nat.sub_self]
      simp
    show List.foldl _ ((pre ++ o :: old ++ post).toArray.setIfInBounds (off + k) v) _ = _
    rw [e, fold_cells vs (k + 1) off (pre ++ [v]) old post (by simp; omega) (by simpa using ho)]
    simp
  | v :: vs, k, off, pre, [], post, _, ho => by simp at ho
theorem fold_cells_all (vs old post : List Value) (h : old.length = vs.length) :
    (vs.toArray.zipIdx.foldl (fun (cs : Array Value) (x : Value × Nat) => cs.setIfInBounds (0 + x.2) x.1) (old ++ post).toArray) = (vs ++ post).toArray := by
  have := fold_cells vs 0 0 [] old post rfl h
  simp only [List.nil_append] at this
  rw [← this, ← Array.foldl_toList]
  simp

theorem fold_dig (d : List UInt8) (hd : d.length = 32) : Array.foldl (fun (cs : Array Value) (x : Value × Nat) => cs.setIfInBounds x.snd x.fst) #[Value.int IntKind.u8 0, Value.int IntKind.u8 0, Value.int IntKind.u8 0, Value.int IntKind.u8 0, Value.int IntKind.u8 0, Value.int IntKind.u8 0, Value.int IntKind.u8 0, Value.int IntKind.u8 0, Value.int IntKind.u8 0, Value.int IntKind.u8 0, Value.int IntKind.u8 0, Value.int IntKind.u8 0, Value.int IntKind.u8 0, Value.int IntKind.u8 0, Value.int IntKind.u8 0, Value.int IntKind.u8 0, Value.int IntKind.u8 0, Value.int IntKind.u8 0, Value.int IntKind.u8 0, Value.int IntKind.u8 0, Value.int IntKind.u8 0, Value.int IntKind.u8 0, Value.int IntKind.u8 0, Value.int IntKind.u8 0, Value.int IntKind.u8 0, Value.int IntKind.u8 0, Value.int IntKind.u8 0, Value.int IntKind.u8 0, Value.int IntKind.u8 0, Value.int IntKind.u8 0, Value.int IntKind.u8 0, Value.int IntKind.u8 0] (digV d).zipIdx 0 32 = digV d := by
  have h := fold_cells_all (byV d) (byV (List.replicate 32 0)) [] (by simp [byV, hd])
  have hs : (digV d).zipIdx.size = 32 := by simp [digV_size, hd]
  rw [← hs]
  simp only [Nat.zero_add, List.append_nil] at h
  exact h

theorem digs_succ (K : List Int) {ts : List (List UInt8)} (j : Nat) (hj : j < ts.length) : (((ts.take (j + 1)).map (fun x => byV (hashB K x))).flatten) = (((ts.take j).map (fun x => byV (hashB K x))).flatten) ++ byV (hashB K ts[j]) := by
  rw [List.take_add_one, List.getElem?_eq_getElem hj, List.map_append, List.flatten_append]
  simp only [Option.toList_some, List.map_cons, List.map_nil, List.flatten_cons, List.flatten_nil, List.append_nil]
theorem Bag0.only {w w' : World} {B size m : Nat} {v : Value} {cs : List Value} {bs : List Nat} (h : Bag0 w B size v m cs) (ho : Only bs w w') (hb : ∀ x ∈ bs, x < B) : Bag0 w' B size v m cs := by
  rcases h with h | ⟨g, cap, hv, hg, hB⟩
  · exact .inl h
  · exact .inr ⟨g, cap, hv, hg, hB.only ho (fun hm => by have := hb _ hm; omega)⟩
theorem flat_get : ∀ (ds : List (List UInt8)), (∀ d ∈ ds, d.length = 32) → ∀ (i : Nat) (hi : i < ds.length) (k : Nat) (v : Value), (byV ds[i])[k]? = some v → ((ds.map byV).flatten)[i * 32 + k]? = some v
  | [], _, i, hi, _, _, _ => by simp at hi
  | d :: ds, hd, 0, _, k, v, hv => by
    have hk : k < (byV d).length := (List.getElem?_eq_some_iff.1 hv).1
    rw [List.map_cons, List.flatten_cons, List.getElem?_append_left (by omega)]
    simpa using hv
  | d :: ds, hd, i + 1, hi, k, v, hv => by
    have h32 : (byV d).length = 32 := by rw [byV_length]; exact hd d (by simp)
    rw [List.map_cons, List.flatten_cons, List.getElem?_append_right (by omega), h32, show (i + 1) * 32 + k - 32 = i * 32 + k by omega]
    exact flat_get ds (fun x hx => hd x (by simp [hx])) i (by simpa using hi) k v (by simpa using hv)
theorem digs_of_bag {w : World} {B n cap : Nat} {A : Option Addr} {ds : List (List UInt8)} (h : Bag0 w B 32 (.slice A n cap) n ((ds.map byV).flatten)) (hn : n = ds.length) (hd : ∀ d ∈ ds, d.length = 32) : Digs w w.heap.size A ds := by
  intro i hi
  rcases h with ⟨_, h0, _⟩ | ⟨g, c, hv, hg, hB⟩
  · omega
  · refine ⟨g, 0, by injection hv, hB.lt, fun k v hk => ?_⟩
    rw [Nat.zero_add]
    exact hB.holds _ _ (flat_get ds hd i hi k v hk)
theorem dig_info3 : (Tryd.prog.info? 23).map (fun i => (i.zero, i.size, i.bytes)) = some (some (.agg (digV (List.replicate 32 0))), 32, 32) := by kernel_rfl
theorem dig_src {w : World} (g c : Nat) (d : List UInt8) (T : TypeId) (f : Nat × Nat) (hd : d.length = 32) (h : w.heap[g]? = some (.cells (digV d) T f)) : Src Tryd.prog 32 37 (.slice (some ⟨g, 0, none⟩) 1 c) 1 (byV d) w := by
  refine Src.ofSlice w Tryd.underlying37 _ 1 c (byV d) (by simp [byV, hd]) (fun j u hu => ?_) (fun u hu => ?_)
  · rw [Addr.add_lit, Nat.zero_add, Lib.cell_of_heap h]; simpa [digV] using hu
  · simp only [byV, List.mem_map] at hu; obtain ⟨_, _, rfl⟩ := hu; rfl

theorem wp_append_bag0 {P : Program} (w : World) {o : Oper} {a : Act} {K : Act → World → Prop} {Q : Exit → Act → World → Prop} (s x : Operand) (t tx : TypeId)
    (ho : o.op = .call { callee := .builtin .append, args := #[s, x], argTypes := #[t, tx] })
    {e : TypeId} {B size m : Nat} {v : Value} {cs : List Value}
    (i : TypeInfo) (z : Value) (bytes : Nat) (ht : P.underlying t = some (.slice e)) (hi : P.info? e = some i) (hz : i.zero = some z) (hsize : i.size = size) (hby : i.bytes = bytes) (hzs : z.cells.size = size)
    (hBw : B ≤ w.heap.size) (hv : a.eval s = v) (h : Bag0 w B size v m cs)
    (xv : Value) (n : Nat) (news : List Value) (hx : a.eval x = xv) (hs : Src P size tx xv n news w) (hn : 0 < n) (h63 : m + n ≤ maxLen) (hbytes : (m + n) * bytes ≤ 140737488355328)
    (hK : ∀ v' w', Bag0 w' B size v' (m + n) (cs ++ news) → Below B w w' → K (a.put o.dst v') w') : o.wp P a w K Q := by
  obtain ⟨v', w', hrun, h1, h2⟩ := run_append_bag0 (P := P) t tx o.type e i z bytes ht hi hz hsize hby hzs hBw h xv n news hs hn h63 hbytes
  unfold Oper.wp
  simp [execOp, ho, resolve, invoke, builtin, hv, hx, hrun, Result.andThen]
  exact hK v' w' h1 h2

def maniRow (d : List UInt8) (n : Int) (v : Value) : Array Value := (byV d ++ [Value.int .i64 n, v]).toArray
theorem maniRow_set (d : List UInt8) (n : Int) (v u : Value) (hd : d.length = 32) : (maniRow d n v).setIfInBounds 33 u = maniRow d n u := by
  unfold maniRow
  rw [List.setIfInBounds_toArray, List.set_append_right _ _ (by simp [byV, hd])]
  simp [byV, hd]
theorem mani_zero : (Tryd.prog.info? 39).map (·.zero) = some (some (.agg ((byV (List.replicate 32 0)) ++ [Value.int .i64 0, Value.slice none 0 0]).toArray)) := by kernel_rfl
theorem fill_one {place : Nat → Option (Nat × Nat)} {cells C : Array Value} {i : Nat} {v : Value} {rest : List (Nat × Value)} {off size : Nat} (hp : place i = some (off, size)) (hs : v.cells.size = size) (hle : off + size ≤ cells.size)
    (hC : v.cells.zipIdx.foldl (fun (cs : Array Value) (x : Value × Nat) => cs.setIfInBounds (off + x.2) x.1) cells = C) : Instr.fill place cells ((i, v) :: rest) = Instr.fill place C rest := by
  subst hC
  rw [Instr.fill, hp]
  simp only [hs]
  rw [if_neg (by simp; omega)]
theorem built_mani (d : List UInt8) (n : Int) (hd : d.length = 32) : Tryd.prog.built 39 [(0, .agg (digV d)), (1, .int .i64 n)] = some (maniRow d n (.slice none 0 0)) := by
  obtain ⟨it, hit, hz⟩ := Option.map_eq_some_iff.1 mani_zero
  have hp : ∀ fs, Tryd.prog.underlying 39 = some (.struct fs) → fs.toList.mapM (fun f => (Tryd.prog.info? f.type).map fun i => (f.offset, i.size)) = some [(0, 32), (32, 1), (33, 1)] := by
    intro fs h
    obtain rfl := (TypeDesc.struct.inj (Option.some.inj (Tryd.underlying39.symm.trans h)))
    kernel_rfl
  unfold Program.built
  rw [hit]
  simp only [Tryd.underlying39]
  rw [hz, hp _ Tryd.underlying39]
  have hf := fold_cells_all (byV d) (byV (List.replicate 32 0)) [Value.int .i64 0, Value.slice none 0 0] (by simp [byV, hd])
  show Instr.fill _ ((byV (List.replicate 32 0)) ++ [Value.int .i64 0, Value.slice none 0 0]).toArray _ = _
  rw [fill_one (off := 0) (size := 32) rfl (by show (digV d).size = 32; rw [digV_size, hd]) (by simp [byV]) (by exact hf)]
  rw [fill_one (off := 32) (size := 1) rfl rfl (by simp [byV, hd]) (C := maniRow d n (.slice none 0 0)) ?_]
  · rfl
  · have h32 : (byV d).length = 32 := by rw [byV_length, hd]
    show ((byV d ++ [Value.int .i64 0, Value.slice none 0 0]).toArray.setIfInBounds (32 + 0) (.int .i64 n)) = _
    rw [List.setIfInBounds_toArray, List.set_append_right _ _ (by omega), h32]
    rfl

theorem wpList_build2 {P : Program} {ops : Array Oper} {rest : List Oper} {o : Oper} {a : Act} {w : World} {Q : Exit → Act → World → Prop} (hg : o.guard = none) (t : TypeId) (i j : Nat) (x y : Operand) (ho : o.op = .build t #[(i, x), (j, y)])
    (vx vy : Value) (hx : a.eval x = vx) (hy : a.eval y = vy) (C : Array Value) (hB : P.built t [(i, vx), (j, vy)] = some C)
    (h : wpList P ops Q rest (a.put o.dst (.agg C)) w) : wpList P ops Q (o :: rest) a w := by
  have e : ((#[(i, x), (j, y)] : Array (Nat × Operand)).map fun (i, x) => (i, a.eval x)).toList = [(i, vx), (j, vy)] := by simp [hx, hy]
  refine wpList_build hg t _ ho ?_ ?_
  · rw [e, hB]; rfl
  · rw [e, hB]; exact h

def zeroMani : ManiD := ⟨List.replicate 32 0, 0, none, 0, []⟩

set_option maxHeartbeats 4000000 in
set_option maxRecDepth 100000 in
theorem mani_big (K : List Int) (l : List UInt8) (w : World) (h : 512 < l.length) (hl : l.length ≤ 140737488355328) :
    Calls Tryd.prog 34 #[.string ⟨l.toArray⟩] w fun e w' => e = .returned (.tuple #[.agg zeroMani.row, .int .i64 33]) ∧ Below w.heap.size w w' := by
  go_enter Tryd.func34, Tryd.ntmps34
  go_upto_region 1 with fail
  show Code.wp _ _ _ _ (w.alloc (.cells zeroMani.row 39))
  obtain ⟨q, hq⟩ : ∃ q, q = w.heap.size := ⟨_, rfl⟩
  have h0 : (w.alloc (.cells zeroMani.row 39)).heap[q]? = some (.cells zeroMani.row 39 (0, 0)) := by rw [hq]; exact heap_alloc_new w _
  have b0 : Below w.heap.size w (w.alloc (.cells zeroMani.row 39)) := (Below.refl _ w).alloc (Nat.le_refl _) _
  obtain ⟨w1, hw1⟩ : ∃ w1, w1 = w.alloc (.cells zeroMani.row 39) := ⟨_, rfl⟩
  rw [← hw1] at h0 b0 ⊢
  rw [← hq]
  have Hq := Lib.hid hq
  have H0 := Lib.hid h0
  have Hb0 := Lib.hid b0
  have hi : (512 : Int) < (l.length : Int) := by omega
  clear hw1 h0 b0 hq
  go_upto_region 2 with fail
  go_wp2_with (refine wpList_store_row rfl 39 _ _ rfl q zeroMani.row rfl rfl 39 zeroMani.row H0.out mani_info rfl (ManiD.row_one zeroMani) ?_)
  (try simp only [Exit.inBlock, Exit.then])
  refine bodyPost_ret (results_cell_row2 rfl _ _ q 39 zeroMani.row (0, 0) _ rfl (setRow_heap _ _ _ _ _ _ H0.out) Tryd.underlying39 rfl mani_info) rfl ?_
  refine ⟨rfl, ?_⟩
  exact Hb0.out.trans (((Only.refl [q] w1).setRow (by simp) _).below Hb0.out.size (by intro x hx; simp at hx; rw [hx, Hq.out]; exact Nat.le_refl _))

set_option maxHeartbeats 400000 in
set_option maxRecDepth 100000 in
theorem mani_any2 (K : List Int) (l : List UInt8) (w : World) (hL : Laid K w) (hl : l.length ≤ 512) :
    Calls Tryd.prog 34 #[.string ⟨l.toArray⟩] w fun e w' => ∃ m : ManiD, e = .returned (.tuple #[.agg m.row, .int .i64 0]) ∧ m.Ok w' w'.heap.size ∧ m.whole = hashB K l ∧ m.size = l.length ∧ m.parts = (chunks l).map (hashB K) ∧ Below w.heap.size w w' ∧ ∀ a, m.A = some a → w.heap.size ≤ a.block := by
  go_enter Tryd.func34, Tryd.ntmps34
  go_upto_region 1 with fail
  show Code.wp _ _ _ _ (w.alloc (.cells zeroMani.row 39))
  obtain ⟨q, hq⟩ : ∃ q, q = w.heap.size := ⟨_, rfl⟩
  have h0 : (w.alloc (.cells zeroMani.row 39)).heap[q]? = some (.cells zeroMani.row 39 (0, 0)) := by rw [hq]; exact heap_alloc_new w _
  have b0 : Below w.heap.size w (w.alloc (.cells zeroMani.row 39)) := (Below.refl _ w).alloc (Nat.le_refl _) _
  obtain ⟨w1, hw1⟩ : ∃ w1, w1 = w.alloc (.cells zeroMani.row 39) := ⟨_, rfl⟩
  rw [← hw1] at h0 b0 ⊢
  rw [← hq]
  have hi : ¬ (512 : Int) < (l.length : Int) := by omega
  have HL1 := Lib.hid (hL.below b0)
  have Hq := Lib.hid hq
  have H0 := Lib.hid h0
  have Hb0 := Lib.hid b0
  clear hw1 h0 b0 hq hL
  go_upto_region 3 with fail
  go_wp2_with fail
  refine (of_hash K _ 1 l _ (HL1.out.alloc _) (fts_new w1 l _) (by omega)).mono ?_
  rintro e w2 ⟨rfl, hB2⟩
  have HB2 := Lib.hid hB2
  obtain ⟨h, hh⟩ : ∃ h, h = hashB K l := ⟨_, rfl⟩
  have hd : h.length = 32 := by rw [hh]; exact hashB_length K l
  rw [← hh]
  have Hh := Lib.hid hh
  have hbd := built_mani h (l.length : Int) hd
  obtain ⟨R, hR⟩ : ∃ R, R = maniRow h (l.length : Int) (.slice none 0 0) := ⟨_, rfl⟩
  rw [← hR] at hbd
  have HR := Lib.hid hR
  have hsz : R.size = 34 := by rw [hR]; simp [maniRow, byV, hd]
  have h1c : R.all (·.oneCell') = true := by rw [hR]; exact ManiD.row_one ⟨h, l.length, none, 0, []⟩
  have hinf : (Tryd.prog.info? 39).map (·.size) = some R.size := by rw [hsz]; exact mani_info
  clear hB2 hh hR
  go_wp2_with (first
    | (refine wpList_build2 rfl 39 _ _ _ _ rfl _ _ rfl rfl _ hbd ?_)
    | (refine wpList_store_row rfl 39 _ _ rfl w2.heap.size R rfl rfl 39 _ (heap_alloc_new w2 _) hinf (by rw [hsz]; rfl) h1c ?_))
  obtain ⟨p, hp⟩ : ∃ p, p = w2.heap.size := ⟨_, rfl⟩
  have h3 := setRow_heap _ _ _ R _ _ (heap_alloc_new w2 (.cells zeroMani.row 39))
  have b3 := (((Below.refl w2.heap.size w2).alloc (Nat.le_refl _) (.cells zeroMani.row 39)))
  have o3 : Only [p] w2 ((w2.alloc (.cells zeroMani.row 39)).setRow w2.heap.size R) := ((Only.refl [p] w2).alloc _).setRow (by simp [hp]) R
  obtain ⟨w3, hw3⟩ : ∃ w3, w3 = (w2.alloc (.cells zeroMani.row 39)).setRow w2.heap.size R := ⟨_, rfl⟩
  rw [← hw3] at h3 o3
  show Calls _ _ _ ((w2.alloc (.cells zeroMani.row 39)).setRow w2.heap.size R) _
  rw [← hw3, ← hp]
  rw [← hp] at h3
  have hL3 : Laid K w3 := by
    have hL2 := (HL1.out.alloc _).below HB2.out
    exact hL2.only o3 (by simp; have := hL2.lt; omega)
  have b3' : Below w2.heap.size w2 w3 := o3.below (Nat.le_refl _) (by simp [hp])
  have HL3 := Lib.hid hL3
  have H3 := Lib.hid h3
  have Hp := Lib.hid hp
  have HB3 := Lib.hid ((((Below.refl w1.heap.size w1).alloc (Nat.le_refl _) _).trans (HB2.out.mono (by simp))).trans (b3'.mono (Nat.le_trans (by simp) HB2.out.size)))
  clear hw3 h3 o3 b3 hp hL3 b3' hinf h1c hsz hbd
  refine (split_any l w3 (by omega)).mono ?_
  rintro e w4 ⟨v, rfl, hT, hB4⟩
  obtain ⟨A, cap, rfl, hcap, hncap⟩ := Bag0.shape hT
  have hlen : (chunks l).length = (l.length + 63) / 64 := chunks_length l
  obtain ⟨n, hn⟩ : ∃ n, n = (chunks l).length := ⟨_, rfl⟩
  rw [← hn] at hncap hlen ⊢
  have hn8 : n ≤ 8 := by omega
  have HT := Lib.hid hT
  have H4 : Hid (w4.heap[p]? = some (.cells (maniRow h l.length (.slice none 0 0)) 39 (0, 0))) := Lib.hid (by rw [← HR.out]; exact below_keep hB4 H3.out)
  have HL4 := Lib.hid (HL3.out.below hB4)
  have HB4 := Lib.hid (HB3.out.trans (hB4.mono HB3.out.size))
  have Hn := Lib.hid hn
  have hp4 := heap_lt H4.out
  have H4lt : p < w3.heap.size := heap_lt H3.out
  clear hT hB4 hn hlen HL3 H3 HB3
  go_wp2_with fail
  go_loopw [20] (fun c wr => ∃ (j : Nat) (v : Value), j ≤ n ∧ c = .int .i64 j ∧ wr.heap[p]? = some (.cells (maniRow h l.length v) 39 (0, 0)) ∧ Bag0 wr w4.heap.size 32 v j ((((chunks l).take j).map (fun x => byV (hashB K x))).flatten) ∧ Only [p] w4 wr) (fun c _ => n - (intOf c).toNat)
  case atStart => exact ⟨0, _, by omega, rfl, H4.out, Bag0.nil _ _ _, Only.refl _ _⟩
  case round =>
    clear H4
    obtain ⟨j, v, hj, rfl, hP, hB, hO⟩ := hrel
    by_cases hjn : j < n
    · have hjt : j < (chunks l).length := by rw [← Hn.out]; exact hjn
      obtain ⟨g, rfl, hg, hg4, hc⟩ := HT.out.cell j hjt
      obtain ⟨t, ht⟩ : ∃ t, t = (chunks l)[j] := ⟨_, rfl⟩
      rw [← ht] at hc
      have hgp : g ≠ p := by have := Hp.out; have := H4lt; intro e; subst e; omega
      have hc2 : wr.cell? ⟨g, j, none⟩ = some (.string ⟨t.toArray⟩) := (hO.cell (p := ⟨g, j, none⟩) hg4 (by simp; exact hgp)).trans hc
      have c33 : wr.cell? ⟨p, 33, none⟩ = some v := by
        rw [Lib.cell_of_heap hP]
        unfold maniRow
        rw [List.getElem?_toArray, List.getElem?_append_right (by simp [byV, hd])]
        simp [byV, hd]
      have ht64 : t.length ≤ 64 := by rw [ht, chunks_get]; simp [chunk]; omega
      have j0 : (0 : Int) ≤ (j : Int) := by omega
      have jn : (j : Int) < (n : Int) := by omega
      have HP := Lib.hid hP
      have HBg := Lib.hid hB
      have HO := Lib.hid hO
      have Ht := Lib.hid ht
      clear hP hB hO ht hc hg hg4 hgp HT
      go_upto_region 7 with fail
      have hLr : Laid K wr := HL4.out.only HO.out (by have h0 := HL1.out.lt; have := Hp.out; have := HB2.out.size; simp at this ⊢; omega)
      have HLr := Lib.hid hLr
      have hpw : p < wr.heap.size := by have := HO.out.size; omega
      have zp : wr.frozen? ⟨p, 33, none⟩ = false := Lib.frozen_of_heap HP.out _
      clear hLr
      obtain ⟨i1, hi1, hy0, hy1, hy2⟩ := info_parts dig_info3
      obtain ⟨KK0, hKK0⟩ : ∃ KK0, KK0 = K := ⟨_, rfl⟩
      subst hKK0
      have hm33 : (maniRow h l.length v)[33]? = some v := by rw [Lib.cell_of_heap HP.out] at c33; exact c33
      refine wp_region_any (by kernel_rfl) ?_
      try change wpAny _ _ _ _ _ _ _ (World.drew _)
      refine wpAny_take (i := 0) (v := ?_) rfl (by kernel_rfl) (by kernel_rfl) (by kernel_rfl) (fun _ _ _ h => h) (Or.inl ⟨by rfl, ?_⟩) ?_
      rotate_left 1
      · intro w
        go_simp
        try with_reducible rfl
      refine wpAny_take (i := 2) (v := ?_) rfl (by kernel_rfl) (by kernel_rfl) (by kernel_rfl) (fun _ _ _ h => h) (Or.inl ⟨by rfl, ?_⟩) ?_
      rotate_left 1
      · intro w
        go_simp
        try with_reducible rfl
      refine wpAny_ready (rs := [1, 3]) (by kernel_rfl) (by simp) ?_
      refine AllReady.cons rfl (fun K hK => ?_) ?_
      · go_simp
        refine hK _ _ ?_
        clear hK K
        refine wpAny_ready (rs := [3]) (by kernel_rfl) (by simp) ?_
        refine AllReady.cons rfl (fun K hK => ?_) ?_
        · go_simp
          refine hK _ _ ?_
          clear hK K
          refine wpAny_ready (rs := [4]) (by kernel_rfl) (by simp) ?_
          refine AllReady.cons rfl (fun K hK => ?_) ?_
          · go_simp
            refine (of_hash KK0 _ 1 t _ ((HLr.out.drew).alloc _) (fts_new wr.drew t _) (by omega)).mono ?_
            rintro e w' ⟨rfl, hBw⟩
            obtain ⟨d, hd0⟩ : ∃ d, d = hashB KK0 t := ⟨_, rfl⟩
            rw [← hd0]
            have hdd : d.length = 32 := by rw [hd0]; exact hashB_length KK0 t
            have hds : (digV d).size = 32 := by rw [digV_size, hdd]
            have hF := fold_dig d hdd
            have Hd0 := Lib.hid hd0
            clear hd0
            have hz := (((Below.refl wr.heap.size wr).drew).alloc (Nat.le_refl _) (.cells #[.string ⟨t.toArray⟩] 9)).trans (hBw.mono (by simp))
            have c33' : w'.cell? ⟨p, 33, none⟩ = some v := (hz.cell (p := ⟨p, 33, none⟩) hpw).trans c33
            have c33a : (w'.alloc (.cells (digV d) 23)).cell? ⟨p, 33, none⟩ = some v := (((Below.refl w'.heap.size w').alloc (Nat.le_refl _) (.cells (digV d) 23)).cell (p := ⟨p, 33, none⟩) (Nat.lt_of_lt_of_le hpw hz.size)).trans c33'
            go_wp2_with fail
            refine wpAny_ready (rs := [5]) (by kernel_rfl) (by simp) ?_
            refine AllReady.cons rfl (fun K hK => ?_) ?_
            · go_simp
              refine hK _ _ ?_
              clear hK K
              refine wpAny_ready (rs := [6]) (by kernel_rfl) (by simp) ?_
              refine AllReady.cons rfl (fun K hK => ?_) ?_
              · rw [if_pos (by rfl)]
                refine wp_append_bag0 (B := w4.heap.size) (w'.alloc (.cells (digV d) 23)) _ _ 37 37 rfl i1 _ 32 Tryd.underlying37 hi1 hy0 hy1 hy2 (by show (digV (List.replicate 32 0)).size = 32; rfl) (by have := HO.out.size; have := hz.size; simp; omega) rfl ((HBg.out.below hz).alloc _) (.slice (some ⟨w'.heap.size, 0, none⟩) 1 1) 1 (byV d) rfl (dig_src w'.heap.size 1 d 23 (0, 0) hdd (heap_alloc_new w' _)) (by omega) (by unfold maxLen; omega) (by omega) ?_
                intro v2 w5 hB5 hb5
                obtain ⟨A5, c5, rfl, -, -⟩ := hB5.shape
                have h5 : w5.heap[p]? = some (.cells (maniRow h l.length v) 39 (0, 0)) := (hb5.block p hp4).trans (((Below.refl w'.heap.size w').alloc (Nat.le_refl _) (.cells (digV d) 23)).block p (Nat.lt_of_lt_of_le hpw hz.size) |>.trans ((hz.block p hpw).trans HP.out))
                have c35 : w5.cell? ⟨p, 33, none⟩ = some v := by rw [Lib.cell_of_heap h5]; exact hm33
                have z35 : w5.frozen? ⟨p, 33, none⟩ = false := Lib.frozen_of_heap h5 _
                have H5 := Lib.hid h5
                clear h5
                refine hK _ _ ?_
                clear hK K
                refine wpAny_take (i := 7) (v := ?_) rfl (by kernel_rfl) (by kernel_rfl) (by kernel_rfl) (fun _ _ _ h => h) (Or.inl ⟨by rfl, ?_⟩) ?_
                rotate_left 1
                · intro w
                  go_simp
                  try with_reducible rfl
                refine wpAny_ready (rs := [8]) (by kernel_rfl) (by simp) ?_
                refine AllReady.cons rfl (fun K hK => ?_) ?_
                · go_simp
                  refine hK _ _ ?_
                  clear hK K
                  refine wpAny_done (by kernel_rfl) ?_ _
                  have H6 : Hid ((w5.setCell ⟨p, 33, none⟩ (.slice A5 (j + 1) c5)).heap[p]? = some (.cells (maniRow h l.length (.slice A5 (j + 1) c5)) 39 (0, 0))) := Lib.hid ((heap_setCell_same _ p 33 _ _ _ H5.out).trans (by rw [maniRow_set _ _ _ _ hd]))
                  have HB6 : Hid (Bag0 (w5.setCell ⟨p, 33, none⟩ (.slice A5 (j + 1) c5)) w4.heap.size 32 (.slice A5 (j + 1) c5) (j + 1) ((((chunks l).take (j + 1)).map (fun x => byV (hashB KK0 x))).flatten)) := Lib.hid (by rw [digs_succ _ _ hjt, ← Ht.out, ← Hd0.out]; exact hB5.only ((Only.refl [p] w5).setCell (by simp) _) (by simp; omega))
                  have HO6 : Hid (Only [p] w4 (w5.setCell ⟨p, 33, none⟩ (.slice A5 (j + 1) c5))) := Lib.hid ((((HO.out.trans (Only.of_below hz)).alloc _).belowB hb5).setCell (by simp) _)
                  clear hB5 hb5 hz
                  go_wp2_with fail
                  go_roundw
                  case rel => exact ⟨j + 1, .slice A5 (j + 1) c5, by omega, by go_num, H6.out, HB6.out, HO6.out⟩
                  case measure => simp [intOf]; omega
                exact AllReady.nil
              exact AllReady.nil
            exact AllReady.nil
          exact AllReady.nil
        exact AllReady.nil
      refine AllReady.cons rfl (fun K hK => ?_) ?_
      · go_simp
        refine hK _ _ ?_
        clear hK K
        refine wpAny_ready (rs := [1, 4]) (by kernel_rfl) (by simp) ?_
        refine AllReady.cons rfl (fun K hK => ?_) ?_
        · go_simp
          refine hK _ _ ?_
          clear hK K
          refine wpAny_ready (rs := [4]) (by kernel_rfl) (by simp) ?_
          refine AllReady.cons rfl (fun K hK => ?_) ?_
          · go_simp
            refine (of_hash KK0 _ 1 t _ ((HLr.out.drew).alloc _) (fts_new wr.drew t _) (by omega)).mono ?_
            rintro e w' ⟨rfl, hBw⟩
            obtain ⟨d, hd0⟩ : ∃ d, d = hashB KK0 t := ⟨_, rfl⟩
            rw [← hd0]
            have hdd : d.length = 32 := by rw [hd0]; exact hashB_length KK0 t
            have hds : (digV d).size = 32 := by rw [digV_size, hdd]
            have hF := fold_dig d hdd
            have Hd0 := Lib.hid hd0
            clear hd0
            have hz := (((Below.refl wr.heap.size wr).drew).alloc (Nat.le_refl _) (.cells #[.string ⟨t.toArray⟩] 9)).trans (hBw.mono (by simp))
            have c33' : w'.cell? ⟨p, 33, none⟩ = some v := (hz.cell (p := ⟨p, 33, none⟩) hpw).trans c33
            have c33a : (w'.alloc (.cells (digV d) 23)).cell? ⟨p, 33, none⟩ = some v := (((Below.refl w'.heap.size w').alloc (Nat.le_refl _) (.cells (digV d) 23)).cell (p := ⟨p, 33, none⟩) (Nat.lt_of_lt_of_le hpw hz.size)).trans c33'
            go_wp2_with fail
            refine wpAny_ready (rs := [5]) (by kernel_rfl) (by simp) ?_
            refine AllReady.cons rfl (fun K hK => ?_) ?_
            · go_simp
              refine hK _ _ ?_
              clear hK K
              refine wpAny_ready (rs := [6]) (by kernel_rfl) (by simp) ?_
              refine AllReady.cons rfl (fun K hK => ?_) ?_
              · rw [if_pos (by rfl)]
                refine wp_append_bag0 (B := w4.heap.size) (w'.alloc (.cells (digV d) 23)) _ _ 37 37 rfl i1 _ 32 Tryd.underlying37 hi1 hy0 hy1 hy2 (by show (digV (List.replicate 32 0)).size = 32; rfl) (by have := HO.out.size; have := hz.size; simp; omega) rfl ((HBg.out.below hz).alloc _) (.slice (some ⟨w'.heap.size, 0, none⟩) 1 1) 1 (byV d) rfl (dig_src w'.heap.size 1 d 23 (0, 0) hdd (heap_alloc_new w' _)) (by omega) (by unfold maxLen; omega) (by omega) ?_
                intro v2 w5 hB5 hb5
                obtain ⟨A5, c5, rfl, -, -⟩ := hB5.shape
                have h5 : w5.heap[p]? = some (.cells (maniRow h l.length v) 39 (0, 0)) := (hb5.block p hp4).trans (((Below.refl w'.heap.size w').alloc (Nat.le_refl _) (.cells (digV d) 23)).block p (Nat.lt_of_lt_of_le hpw hz.size) |>.trans ((hz.block p hpw).trans HP.out))
                have c35 : w5.cell? ⟨p, 33, none⟩ = some v := by rw [Lib.cell_of_heap h5]; exact hm33
                have z35 : w5.frozen? ⟨p, 33, none⟩ = false := Lib.frozen_of_heap h5 _
                have H5 := Lib.hid h5
                clear h5
                refine hK _ _ ?_
                clear hK K
                refine wpAny_take (i := 7) (v := ?_) rfl (by kernel_rfl) (by kernel_rfl) (by kernel_rfl) (fun _ _ _ h => h) (Or.inl ⟨by rfl, ?_⟩) ?_
                rotate_left 1
                · intro w
                  go_simp
                  try with_reducible rfl
                refine wpAny_ready (rs := [8]) (by kernel_rfl) (by simp) ?_
                refine AllReady.cons rfl (fun K hK => ?_) ?_
                · go_simp
                  refine hK _ _ ?_
                  clear hK K
                  refine wpAny_done (by kernel_rfl) ?_ _
                  have H6 : Hid ((w5.setCell ⟨p, 33, none⟩ (.slice A5 (j + 1) c5)).heap[p]? = some (.cells (maniRow h l.length (.slice A5 (j + 1) c5)) 39 (0, 0))) := Lib.hid ((heap_setCell_same _ p 33 _ _ _ H5.out).trans (by rw [maniRow_set _ _ _ _ hd]))
                  have HB6 : Hid (Bag0 (w5.setCell ⟨p, 33, none⟩ (.slice A5 (j + 1) c5)) w4.heap.size 32 (.slice A5 (j + 1) c5) (j + 1) ((((chunks l).take (j + 1)).map (fun x => byV (hashB KK0 x))).flatten)) := Lib.hid (by rw [digs_succ _ _ hjt, ← Ht.out, ← Hd0.out]; exact hB5.only ((Only.refl [p] w5).setCell (by simp) _) (by simp; omega))
                  have HO6 : Hid (Only [p] w4 (w5.setCell ⟨p, 33, none⟩ (.slice A5 (j + 1) c5))) := Lib.hid ((((HO.out.trans (Only.of_below hz)).alloc _).belowB hb5).setCell (by simp) _)
                  clear hB5 hb5 hz
                  go_wp2_with fail
                  go_roundw
                  case rel => exact ⟨j + 1, .slice A5 (j + 1) c5, by omega, by go_num, H6.out, HB6.out, HO6.out⟩
                  case measure => simp [intOf]; omega
                exact AllReady.nil
              exact AllReady.nil
            exact AllReady.nil
          exact AllReady.nil
        refine AllReady.cons rfl (fun K hK => ?_) ?_
        · go_simp
          refine (of_hash KK0 _ 1 t _ ((HLr.out.drew).alloc _) (fts_new wr.drew t _) (by omega)).mono ?_
          rintro e w' ⟨rfl, hBw⟩
          obtain ⟨d, hd0⟩ : ∃ d, d = hashB KK0 t := ⟨_, rfl⟩
          rw [← hd0]
          have hdd : d.length = 32 := by rw [hd0]; exact hashB_length KK0 t
          have hds : (digV d).size = 32 := by rw [digV_size, hdd]
          have hF := fold_dig d hdd
          have Hd0 := Lib.hid hd0
          clear hd0
          have hz := (((Below.refl wr.heap.size wr).drew).alloc (Nat.le_refl _) (.cells #[.string ⟨t.toArray⟩] 9)).trans (hBw.mono (by simp))
          have c33' : w'.cell? ⟨p, 33, none⟩ = some v := (hz.cell (p := ⟨p, 33, none⟩) hpw).trans c33
          have c33a : (w'.alloc (.cells (digV d) 23)).cell? ⟨p, 33, none⟩ = some v := (((Below.refl w'.heap.size w').alloc (Nat.le_refl _) (.cells (digV d) 23)).cell (p := ⟨p, 33, none⟩) (Nat.lt_of_lt_of_le hpw hz.size)).trans c33'
          go_wp2_with fail
          refine wpAny_ready (rs := [1, 5]) (by kernel_rfl) (by simp) ?_
          refine AllReady.cons rfl (fun K hK => ?_) ?_
          · go_simp
            refine hK _ _ ?_
            clear hK K
            refine wpAny_ready (rs := [5]) (by kernel_rfl) (by simp) ?_
            refine AllReady.cons rfl (fun K hK => ?_) ?_
            · go_simp
              refine hK _ _ ?_
              clear hK K
              refine wpAny_ready (rs := [6]) (by kernel_rfl) (by simp) ?_
              refine AllReady.cons rfl (fun K hK => ?_) ?_
              · rw [if_pos (by rfl)]
                refine wp_append_bag0 (B := w4.heap.size) (w'.alloc (.cells (digV d) 23)) _ _ 37 37 rfl i1 _ 32 Tryd.underlying37 hi1 hy0 hy1 hy2 (by show (digV (List.replicate 32 0)).size = 32; rfl) (by have := HO.out.size; have := hz.size; simp; omega) rfl ((HBg.out.below hz).alloc _) (.slice (some ⟨w'.heap.size, 0, none⟩) 1 1) 1 (byV d) rfl (dig_src w'.heap.size 1 d 23 (0, 0) hdd (heap_alloc_new w' _)) (by omega) (by unfold maxLen; omega) (by omega) ?_
                intro v2 w5 hB5 hb5
                obtain ⟨A5, c5, rfl, -, -⟩ := hB5.shape
                have h5 : w5.heap[p]? = some (.cells (maniRow h l.length v) 39 (0, 0)) := (hb5.block p hp4).trans (((Below.refl w'.heap.size w').alloc (Nat.le_refl _) (.cells (digV d) 23)).block p (Nat.lt_of_lt_of_le hpw hz.size) |>.trans ((hz.block p hpw).trans HP.out))
                have c35 : w5.cell? ⟨p, 33, none⟩ = some v := by rw [Lib.cell_of_heap h5]; exact hm33
                have z35 : w5.frozen? ⟨p, 33, none⟩ = false := Lib.frozen_of_heap h5 _
                have H5 := Lib.hid h5
                clear h5
                refine hK _ _ ?_
                clear hK K
                refine wpAny_take (i := 7) (v := ?_) rfl (by kernel_rfl) (by kernel_rfl) (by kernel_rfl) (fun _ _ _ h => h) (Or.inl ⟨by rfl, ?_⟩) ?_
                rotate_left 1
                · intro w
                  go_simp
                  try with_reducible rfl
                refine wpAny_ready (rs := [8]) (by kernel_rfl) (by simp) ?_
                refine AllReady.cons rfl (fun K hK => ?_) ?_
                · go_simp
                  refine hK _ _ ?_
                  clear hK K
                  refine wpAny_done (by kernel_rfl) ?_ _
                  have H6 : Hid ((w5.setCell ⟨p, 33, none⟩ (.slice A5 (j + 1) c5)).heap[p]? = some (.cells (maniRow h l.length (.slice A5 (j + 1) c5)) 39 (0, 0))) := Lib.hid ((heap_setCell_same _ p 33 _ _ _ H5.out).trans (by rw [maniRow_set _ _ _ _ hd]))
                  have HB6 : Hid (Bag0 (w5.setCell ⟨p, 33, none⟩ (.slice A5 (j + 1) c5)) w4.heap.size 32 (.slice A5 (j + 1) c5) (j + 1) ((((chunks l).take (j + 1)).map (fun x => byV (hashB KK0 x))).flatten)) := Lib.hid (by rw [digs_succ _ _ hjt, ← Ht.out, ← Hd0.out]; exact hB5.only ((Only.refl [p] w5).setCell (by simp) _) (by simp; omega))
                  have HO6 : Hid (Only [p] w4 (w5.setCell ⟨p, 33, none⟩ (.slice A5 (j + 1) c5))) := Lib.hid ((((HO.out.trans (Only.of_below hz)).alloc _).belowB hb5).setCell (by simp) _)
                  clear hB5 hb5 hz
                  go_wp2_with fail
                  go_roundw
                  case rel => exact ⟨j + 1, .slice A5 (j + 1) c5, by omega, by go_num, H6.out, HB6.out, HO6.out⟩
                  case measure => simp [intOf]; omega
                exact AllReady.nil
              exact AllReady.nil
            exact AllReady.nil
          refine AllReady.cons rfl (fun K hK => ?_) ?_
          · go_simp
            refine hK _ _ ?_
            clear hK K
            refine wpAny_ready (rs := [1]) (by kernel_rfl) (by simp) ?_
            refine AllReady.cons rfl (fun K hK => ?_) ?_
            · go_simp
              refine hK _ _ ?_
              clear hK K
              refine wpAny_ready (rs := [6]) (by kernel_rfl) (by simp) ?_
              refine AllReady.cons rfl (fun K hK => ?_) ?_
              · rw [if_pos (by rfl)]
                refine wp_append_bag0 (B := w4.heap.size) (w'.alloc (.cells (digV d) 23)) _ _ 37 37 rfl i1 _ 32 Tryd.underlying37 hi1 hy0 hy1 hy2 (by show (digV (List.replicate 32 0)).size = 32; rfl) (by have := HO.out.size; have := hz.size; simp; omega) rfl ((HBg.out.below hz).alloc _) (.slice (some ⟨w'.heap.size, 0, none⟩) 1 1) 1 (byV d) rfl (dig_src w'.heap.size 1 d 23 (0, 0) hdd (heap_alloc_new w' _)) (by omega) (by unfold maxLen; omega) (by omega) ?_
                intro v2 w5 hB5 hb5
                obtain ⟨A5, c5, rfl, -, -⟩ := hB5.shape
                have h5 : w5.heap[p]? = some (.cells (maniRow h l.length v) 39 (0, 0)) := (hb5.block p hp4).trans (((Below.refl w'.heap.size w').alloc (Nat.le_refl _) (.cells (digV d) 23)).block p (Nat.lt_of_lt_of_le hpw hz.size) |>.trans ((hz.block p hpw).trans HP.out))
                have c35 : w5.cell? ⟨p, 33, none⟩ = some v := by rw [Lib.cell_of_heap h5]; exact hm33
                have z35 : w5.frozen? ⟨p, 33, none⟩ = false := Lib.frozen_of_heap h5 _
                have H5 := Lib.hid h5
                clear h5
                refine hK _ _ ?_
                clear hK K
                refine wpAny_take (i := 7) (v := ?_) rfl (by kernel_rfl) (by kernel_rfl) (by kernel_rfl) (fun _ _ _ h => h) (Or.inl ⟨by rfl, ?_⟩) ?_
                rotate_left 1
                · intro w
                  go_simp
                  try with_reducible rfl
                refine wpAny_ready (rs := [8]) (by kernel_rfl) (by simp) ?_
                refine AllReady.cons rfl (fun K hK => ?_) ?_
                · go_simp
                  refine hK _ _ ?_
                  clear hK K
                  refine wpAny_done (by kernel_rfl) ?_ _
                  have H6 : Hid ((w5.setCell ⟨p, 33, none⟩ (.slice A5 (j + 1) c5)).heap[p]? = some (.cells (maniRow h l.length (.slice A5 (j + 1) c5)) 39 (0, 0))) := Lib.hid ((heap_setCell_same _ p 33 _ _ _ H5.out).trans (by rw [maniRow_set _ _ _ _ hd]))
                  have HB6 : Hid (Bag0 (w5.setCell ⟨p, 33, none⟩ (.slice A5 (j + 1) c5)) w4.heap.size 32 (.slice A5 (j + 1) c5) (j + 1) ((((chunks l).take (j + 1)).map (fun x => byV (hashB KK0 x))).flatten)) := Lib.hid (by rw [digs_succ _ _ hjt, ← Ht.out, ← Hd0.out]; exact hB5.only ((Only.refl [p] w5).setCell (by simp) _) (by simp; omega))
                  have HO6 : Hid (Only [p] w4 (w5.setCell ⟨p, 33, none⟩ (.slice A5 (j + 1) c5))) := Lib.hid ((((HO.out.trans (Only.of_below hz)).alloc _).belowB hb5).setCell (by simp) _)
                  clear hB5 hb5 hz
                  go_wp2_with fail
                  go_roundw
                  case rel => exact ⟨j + 1, .slice A5 (j + 1) c5, by omega, by go_num, H6.out, HB6.out, HO6.out⟩
                  case measure => simp [intOf]; omega
                exact AllReady.nil
              exact AllReady.nil
            exact AllReady.nil
          exact AllReady.nil
        exact AllReady.nil
      exact AllReady.nil
    · --@after region
      have hjn' : j = n := by omega
      subst hjn'
      have hall : ((((chunks l).take j).map (fun x => byV (hashB K x))).flatten) = ((((chunks l).map (hashB K)).map byV).flatten) := by
        rw [List.take_of_length_le (by rw [← Hn.out]; exact Nat.le_refl _), List.map_map]; rfl
      rw [hall] at hB
      obtain ⟨A9, c9, rfl, hc9, hjc9⟩ := hB.shape
      obtain ⟨m, hm⟩ : ∃ m : ManiD, m = ⟨h, l.length, A9, c9, (chunks l).map (hashB K)⟩ := ⟨_, rfl⟩
      have hrow : maniRow h l.length (.slice A9 j c9) = m.row := by rw [hm]; unfold maniRow ManiD.row ManiD.cells; simp [Hn.out]
      rw [hrow] at hP
      have hmw : m.whole.length = 32 := by rw [hm]; exact hd
      have hone := m.row_one
      have hms := m.row_size hmw
      have hinf : (Tryd.prog.info? 39).map (·.size) = some m.row.size := by rw [hms]; exact mani_info
      have hq0 := H0.out
      have hql : q < w1.heap.size := heap_lt hq0
      have hqp : q ≠ p := by have := Hp.out; have := HB2.out.size; simp at this; omega
      have hq2 : wr.heap[q]? = some (.cells zeroMani.row 39 (0, 0)) := hO.keep ((HB4.out.block q hql).trans hq0) (by simp; exact hqp)
      have HBm := Lib.hid hB
      have HP := Lib.hid hP
      have Hm := Lib.hid hm
      have HO := Lib.hid hO
      have Hq2 := Lib.hid hq2
      clear hP hm hO hq2 hB hall hrow hq0
      go_wp2_with (first
        | (refine wpList_load_row rfl 39 _ rfl p rfl 39 _ (0, 0) _ HP.out Tryd.underlying39 rfl hinf ?_)
        | (refine wpList_store_row rfl 39 _ _ rfl q m.row rfl rfl 39 _ Hq2.out hinf (by rw [hms]; rfl) hone ?_))
      (try simp only [Exit.inBlock, Exit.then])
      refine bodyPost_ret (results_cell_row2 rfl _ _ q 39 m.row (0, 0) _ rfl (setRow_heap _ _ _ _ _ _ Hq2.out) Tryd.underlying39 rfl hinf) rfl ?_
      have o1 : Only [q] wr (wr.setRow q m.row) := ((Only.refl [q] wr).setRow (by simp) _)
      have hb14 : Only [p] w1 wr := ((Only.of_below HB4.out).trans HO.out)
      have hq1 := Hq.out
      have hp1 := Hp.out
      have hs2 := HB2.out.size
      simp at hs2
      have hs1 := Hb0.out.size
      refine ⟨m, rfl, ?_, by rw [Hm.out]; exact Hh.out, by rw [Hm.out], by rw [Hm.out], ?_, ?_⟩
      · refine ⟨hmw, ?_, ?_, ?_, ?_, ?_⟩
        · rw [Hm.out]; intro d hd'; obtain ⟨x, _, rfl⟩ := List.mem_map.1 hd'; exact hashB_length K x
        · rw [Hm.out]; show (-9223372036854775808 : Int) ≤ (l.length : Int); omega
        · rw [Hm.out]; show (l.length : Int) ≤ 9223372036854775807; omega
        · rw [Hm.out]; show ((chunks l).map (hashB K)).length ≤ maxLen; rw [List.length_map, ← Hn.out]; unfold maxLen; omega
        · have e1 : m.A = A9 := by rw [Hm.out]
          have e2 : m.parts = (chunks l).map (hashB K) := by rw [Hm.out]
          rw [e1, e2]
          exact digs_of_bag (HBm.out.only o1 (by intro x hx; simp at hx; have := HB4.out.size; omega)) (by simp [Hn.out]) (by intro d hd'; obtain ⟨x, _, rfl⟩ := List.mem_map.1 hd'; exact hashB_length K x)
      · exact Hb0.out.trans ((hb14.mono (by simp) |>.trans (o1.mono (by simp)) : Only [p, q] w1 _).below hs1 (by intro x hx; simp at hx; rcases hx with rfl | rfl <;> omega))
      · intro a ha
        have e1 : m.A = A9 := by rw [Hm.out]
        rw [e1] at ha
        rcases HBm.out with ⟨h1, -, -⟩ | ⟨g9, c9, h1, h2, -⟩
        · injection h1 with h1; rw [h1] at ha; cases ha
        · injection h1 with h1
          rw [h1] at ha
          obtain rfl := Option.some.inj ha
          show w.heap.size ≤ g9
          have := HB4.out.size
          omega
theorem mani_any (K : List Int) (l : List UInt8) (w : World) (hL : Laid K w) (hl : l.length ≤ 512) :
    Calls Tryd.prog 34 #[.string ⟨l.toArray⟩] w fun e w' => ∃ m : ManiD, e = .returned (.tuple #[.agg m.row, .int .i64 0]) ∧ m.Ok w' w'.heap.size ∧ m.whole = hashB K l ∧ m.size = l.length ∧ m.parts = (chunks l).map (hashB K) ∧ Below w.heap.size w w' :=
  (mani_any2 K l w hL hl).mono fun e w' ⟨m, h1, h2, h3, h4, h5, h6, _⟩ => ⟨m, h1, h2, h3, h4, h5, h6⟩
end Go.Proofs.YtfbjbhddapoopaaDoor
