/-
  Layer 5 (hive): ranging over a store's map; the walks of remove, oldest.
-/
import Derived.Test.YteihfoacdocgkaaDoorHvCJ
import Derived.Maps.Range
set_option linter.unusedVariables false
set_option linter.unusedSimpArgs false
namespace Go.Proofs.YteihfoacdocgkaaDoor
open Go.RowKit Pl Sh Go.MapKept Go.ChangeMaps
attribute [local go_sem] Lb.ba_get Lb.ba_cut Lb.ba_add Lb.ba_size Lb.take_rest

/-! ### ranging over a map that is a list -/
/-- block r is an iterator over the map in block b, which has the keys and values l; left: those that are still to come, in their order -/
structure IterAt {κ : Type} (kv : κ → Value) (ok : κ → Prop) (w : World) (b r : Nat) (l left : List (κ × Value)) : Prop where
  ex : ∃ es clk since seen c0, w.heap[b]? = some (.map es clk) ∧ es.toList.map (fun e => (e.key, e.val)) = l.map (fun p => (kv p.1, p.2)) ∧ Stamped es clk ∧
    w.heap[r]? = some (.mapIter (some b) since seen c0) ∧ (∀ x ∈ es.toList, x.born < since) ∧ since ≤ c0 ∧ since ≤ clk ∧ (leftOf es seen).toList.map (fun e => (e.key, e.val)) = left.map (fun p => (kv p.1, p.2))
  good : ∀ p ∈ l, ok p.1

section
variable {κ : Type} {kv : κ → Value} {ok : κ → Prop} {k t e : TypeId} {w : World} {b r : Nat} {l left : List (κ × Value)}
theorem IterAt.mapAt (h : IterAt kv ok w b r l left) : MapAt kv ok w b l := by
  obtain ⟨⟨es, clk, since, seen, c0, h1, h2, h3, -⟩, hg⟩ := h
  exact ⟨⟨es, clk, h1, h2, h3⟩, hg⟩
theorem IterAt.lt (h : IterAt kv ok w b r l left) : b < w.heap.size ∧ r < w.heap.size ∧ r ≠ b := by
  obtain ⟨⟨es, clk, since, seen, c0, h1, h2, h3, h4, -⟩, hg⟩ := h
  exact ⟨heap_lt h1, heap_lt h4, fun e => by rw [e, h1] at h4; cases h4⟩
theorem IterAt.keep {w' : World} (h : IterAt kv ok w b r l left) (hb : w'.heap[b]? = w.heap[b]?) (hr : w'.heap[r]? = w.heap[r]?) : IterAt kv ok w' b r l left := by
  obtain ⟨⟨es, clk, since, seen, c0, h1, h2, h3, h4, h5⟩, hg⟩ := h
  exact ⟨⟨es, clk, since, seen, c0, hb.trans h1, h2, h3, hr.trans h4, h5⟩, hg⟩
theorem filter_born (L : List MapEntry) (hn : (L.map (·.born)).Nodup) (i : Nat) (x : MapEntry) (hi : L[i]? = some x) : L.filter (fun y => !(y.born == x.born)) = L.eraseIdx i := by
  induction L generalizing i with
  | nil => simp at hi
  | cons y L ih =>
    rw [List.map_cons, List.nodup_cons] at hn
    cases i with
    | zero =>
      have e1 : y = x := by simpa using hi
      subst e1
      rw [List.filter_cons_of_neg (by simp), List.eraseIdx_cons_zero]
      exact List.filter_eq_self.2 (fun z hz => by
        have : z.born ≠ y.born := fun e => hn.1 (e ▸ List.mem_map.2 ⟨z, hz, rfl⟩)
        simpa using this)
    | succ i =>
      have hi' : L[i]? = some x := by simpa using hi
      have hne : y.born ≠ x.born := fun e => hn.1 (e ▸ List.mem_map.2 ⟨x, List.mem_of_getElem? hi', rfl⟩)
      rw [List.filter_cons_of_pos (by simpa using hne), List.eraseIdx_cons_succ, ih hn.2 i hi']
theorem MapAt.iter (h : MapAt kv ok w b l) : ∃ clk, IterAt kv ok (w.alloc (.mapIter (some b) clk #[] clk)) b w.heap.size l l ∧ ∀ t k e, Tryd.prog.underlying t = some (.map k e) → (Instr.range t (.map (some b))).run Tryd.prog w = .ok (.pointer (some ⟨w.heap.size, 0, none⟩)) (w.alloc (.mapIter (some b) clk #[] clk)) := by
  have hlt := h.lt
  obtain ⟨⟨es, clk, h1, h2, h3⟩, hg⟩ := h
  refine ⟨clk, ⟨⟨es, clk, clk, #[], clk, (heap_alloc_old w _ hlt).trans h1, h2, h3, heap_alloc_new w _, h3.1, Nat.le_refl _, Nat.le_refl _, ?_⟩, hg⟩, fun t k e ht => run_range_map w t k e b es clk ht h1⟩
  have : leftOf es #[] = es := by simp [leftOf]
  rw [this, h2]
theorem IterAt.next (h : IterAt kv ok w b r l left) (ty : TypeId) :
    (left = [] ∧ (Instr.next (.pointer (some ⟨r, 0, none⟩)) false ty).run Tryd.prog w = .ok (.tuple #[.bool false]) w) ∨
    ∃ i p w', left[i]? = some p ∧ (Instr.next (.pointer (some ⟨r, 0, none⟩)) false ty).run Tryd.prog w = .ok (.tuple #[.bool true, kv p.1, p.2]) w' ∧ IterAt kv ok w' b r l (left.eraseIdx i) ∧ Only [r] w w' ∧
      (Instr.entry (.pointer (some ⟨r, 0, none⟩))).run Tryd.prog w' = .ok (.tuple #[kv p.1, p.2]) w' := by
  obtain ⟨hbl, hrl, hrb⟩ := h.lt
  obtain ⟨⟨es, clk, since, seen, c0, h1, h2, h3, h4, h5, h6, h7, h8⟩, hg⟩ := h
  rcases run_next_at (P := Tryd.prog) w ty r b since c0 seen es clk h4 h1 h5 h6 with ⟨h0, hrun⟩ | ⟨x, hx, w1, hw1, hrun⟩
  · refine .inl ⟨?_, hrun⟩
    have : (leftOf es seen).toList = [] := by
      apply List.eq_nil_of_length_eq_zero
      simpa using h0
    rw [this] at h8
    simpa using h8.symm
  · obtain ⟨i, hi⟩ := List.mem_iff_getElem?.1 hx
    have hli : ((leftOf es seen).toList.map (fun e => (e.key, e.val)))[i]? = some (x.key, x.val) := by rw [List.getElem?_map, hi]; rfl
    rw [h8, List.getElem?_map] at hli
    obtain ⟨p, hp, hpe⟩ := Option.map_eq_some_iff.1 hli
    simp only [Prod.mk.injEq] at hpe
    have hxe : x ∈ es.toList := by
      have : x ∈ (es.filter fun e => !seen.contains e.born).toList := hx
      rw [Array.toList_filter] at this
      exact (List.mem_filter.1 this).1
    have hw1b : w1.heap[b]? = some (.map es clk) := by rcases hw1 with rfl | rfl <;> exact h1
    have hw1r : r < w1.heap.size := by rcases hw1 with rfl | rfl <;> exact hrl
    have hb' : (setBlock w1 r (.mapIter (some b) since (seen.push x.born) clk)).heap[b]? = some (.map es clk) := by
      have := (only_setBlock (w := w1) (b := r) (o := .mapIter (some b) since (seen.push x.born) clk)).block b (heap_lt hw1b) (by simpa using fun e => hrb e.symm)
      rw [this, hw1b]
    have hr' := heap_setBlock (w := w1) (b := r) (o := .mapIter (some b) since (seen.push x.born) clk) hw1r
    have hO1 : Only [r] w w1 := by
      rcases hw1 with rfl | rfl
      · exact Only.refl _ _
      · exact (Only.refl _ _).drew
    refine .inr ⟨i, p, _, hp, by rw [hpe.1, hpe.2]; exact hrun, ⟨⟨es, clk, since, seen.push x.born, clk, hb', h2, h3, hr', h5, h7, h7, ?_⟩, hg⟩, hO1.trans only_setBlock, ?_⟩
    · have hf : (leftOf es (seen.push x.born)).toList = (leftOf es seen).toList.filter (fun y => !(y.born == x.born)) := by
        unfold leftOf
        rw [Array.toList_filter, Array.toList_filter, List.filter_filter]
        refine List.filter_congr (fun y hy => ?_)
        rw [Array.contains_push]
        cases seen.contains y.born <;> cases hq : (y.born == x.born) <;> simp [hq]
      have hnd : ((leftOf es seen).toList.map (·.born)).Nodup := by
        unfold leftOf
        rw [Array.toList_filter]
        exact List.Nodup.sublist (List.Sublist.map _ List.filter_sublist) h3.2.1
      rw [hf, filter_born _ hnd i x hi, Go.ChangeMaps.map_eraseIdx, h8, Go.ChangeMaps.map_eraseIdx]
    · rw [hpe.1, hpe.2]
      exact run_entry_at _ r b since seen es clk x hr' hb' hxe h3.2.1
end
theorem iter_size {κ : Type} {kv : κ → Value} {ok : κ → Prop} {w : World} {b r : Nat} {l left : List (κ × Value)} (h : IterAt kv ok w b r l left) : w.rangeLeft b r = left.length := by
  obtain ⟨⟨es, clk, since, seen, c0, h1, h2, h3, h4, h5, h6, h7, h8⟩, hg⟩ := h
  simp only [World.rangeLeft, h1, h4]
  have := congrArg List.length h8
  simpa using this
theorem iter_less {w w' : World} {b r i : Nat} {l : List ((Bool × List UInt8) × Value)} {L : List HEnt} (h : IterAt nameV (fun n => n.2.length = 32) w b r l (keysOf L)) (h' : IterAt nameV (fun n => n.2.length = 32) w' b r l (keysOf (L.eraseIdx i))) (hi : i < L.length) : w'.rangeLeft b r < w.rangeLeft b r := by
  rw [iter_size h, iter_size h']
  unfold keysOf
  rw [List.length_map, List.length_map, List.length_eraseIdx_of_lt hi]
  omega
theorem iter_same {κ : Type} {kv : κ → Value} {ok : κ → Prop} {w w' : World} {b r : Nat} {l left : List (κ × Value)} (h : IterAt kv ok w b r l left) (h' : IterAt kv ok w' b r l left) : w'.rangeLeft b r = w.rangeLeft b r := by
  rw [iter_size h, iter_size h']
theorem wpList_rangeR {P : Program} {ops : Array Oper} {rest : List Oper} {o : Oper} {a : Act} {w w' : World} {Q : Exit → Act → World → Prop} (hg : o.guard = none) (t : TypeId) (m : Operand) (ho : o.op = .range t m) (v : Value)
    (hr : (Instr.range t (a.eval m)).run P w = .ok v w') (h : wpList P ops Q rest (a.put o.dst v) w') : wpList P ops Q (o :: rest) a w := by
  refine wpList_plain hg fun K' hK' => ?_
  unfold Oper.wp
  simp [execOp, ho, hr, Result.andThen]
  exact hK' _ _ h
theorem wpList_nextR {P : Program} {ops : Array Oper} {rest : List Oper} {o : Oper} {a : Act} {w w' : World} {Q : Exit → Act → World → Prop} (hg : o.guard = none) (m : Operand) (ho : o.op = .next m false) (v : Value)
    (hr : (Instr.next (a.eval m) false o.type).run P w = .ok v w') (h : wpList P ops Q rest (a.put o.dst v) w') : wpList P ops Q (o :: rest) a w := by
  refine wpList_plain hg fun K' hK' => ?_
  unfold Oper.wp
  simp [execOp, ho, hr, Result.andThen]
  exact hK' _ _ h
theorem wpList_entryR {P : Program} {ops : Array Oper} {rest : List Oper} {o : Oper} {a : Act} {w : World} {Q : Exit → Act → World → Prop} (hg : o.guard = none) (m : Operand) (ho : o.op = .entry m) (v : Value)
    (hr : (Instr.entry (a.eval m)).run P w = .ok v w) (h : wpList P ops Q rest (a.put o.dst v) w) : wpList P ops Q (o :: rest) a w := by
  refine wpList_plain hg fun K' hK' => ?_
  unfold Oper.wp
  simp [execOp, ho, hr, Result.andThen]
  exact hK' _ _ h
theorem wp_deleteR {P : Program} {op : Oper} {a : Act} {w w' : World} {K : Act → World → Prop} {Q : Exit → Act → World → Prop} (t t2 : TypeId) (m x : Operand) (ho : op.op = .call { callee := .builtin .delete, args := #[m, x], argTypes := #[t, t2] })
    (hr : (Builtin.delete_ #[t, t2] op.type #[a.eval m, a.eval x]).run P w = .ok (.tuple #[]) w') (h : K (a.put op.dst (.tuple #[])) w') : op.wp P a w K Q := by
  unfold Oper.wp
  simp [execOp, ho, resolve, invoke, builtin, hr, Result.andThen]
  exact h
theorem pw_idx {κ : Type} : ∀ {l : List (κ × Value)}, l.Pairwise (fun p q => p.1 ≠ q.1) → ∀ {i j : Nat} {x y : κ × Value}, l[i]? = some x → l[j]? = some y → x.1 = y.1 → i = j
  | [], _, i, j, x, y, hi, _, _ => by simp at hi
  | a :: l, hp, i, j, x, y, hi, hj, he => by
    obtain ⟨h1, h2⟩ := List.pairwise_cons.1 hp
    cases i with
    | zero =>
      cases j with
      | zero => rfl
      | succ j =>
        have e1 : a = x := by simpa using hi
        have hj' : l[j]? = some y := by simpa using hj
        exact absurd (e1 ▸ he) (h1 y (List.mem_of_getElem? hj'))
    | succ i =>
      have hi' : l[i]? = some x := by simpa using hi
      cases j with
      | zero =>
        have e1 : a = y := by simpa using hj
        exact absurd (e1 ▸ he.symm) (h1 x (List.mem_of_getElem? hi'))
      | succ j =>
        have hj' : l[j]? = some y := by simpa using hj
        rw [pw_idx h2 hi' hj' he]
theorem hv_remove {w w2 : World} {q : HvP} {d : HvD} {j : Nat} (h : HvAt w q d) (hO : Only [q.ma, q.mt] w w2) (h1 : MapAt nameV (fun n => n.2.length = 32) w2 q.ma (keysOf (d.L.eraseIdx j))) (h2 : MapAt intK (fun n => n < 1000000) w2 q.mt (slotsOf (d.L.eraseIdx j))) :
    HvAt w2 q { d with L := d.L.eraseIdx j } := by
  obtain ⟨a1, a2, a3, a4, a5, a6, a7, a8, a9, a10, a11, a12, a13, a14, a15⟩ := own_six h.nd
  obtain ⟨n1, n2⟩ := own_nd h.nd
  have hm : ∀ e ∈ d.L.eraseIdx j, e ∈ d.L := fun e he => List.mem_of_mem_eraseIdx he
  refine ⟨hO.keep h.hp (by simp; exact ⟨a1, a2⟩), h1, h2, h.pin.keep (hO.block q.mp h.pin.lt (by simp; exact ⟨a7.symm, a10.symm⟩)), fun e he => hO.keep (h.ents e (hm e he)) (by simp; exact ⟨(n2 e (hm e he)).2.1, (n2 e (hm e he)).2.2.1⟩), fun e he => h.fit e (hm e he),
    ⟨hO.keep h.sh.pw (by simp; exact ⟨a8.symm, a11.symm⟩), hO.keep h.sh.slots (by simp; exact ⟨a9.symm, a12.symm⟩), h.sh.ne, h.sh.len⟩, ?_⟩
  have hs : (q.own (d.L.eraseIdx j)).Sublist (q.own d.L) := by
    unfold HvP.own
    exact ((((((List.eraseIdx_sublist d.L j).map _).cons_cons _).cons_cons _).cons_cons _).cons_cons _).cons_cons _ |>.cons_cons _
  exact h.nd.sublist hs

set_option maxHeartbeats 4000000 in
set_option maxRecDepth 100000 in
theorem remove_any (q : HvP) (d : HvD) (j : Nat) (e : HEnt) (w : World) (h : HvAt w q d) (hj : d.L[j]? = some e) :
    Calls Tryd.prog 128 #[.pointer (some ⟨q.p, 0, none⟩), .pointer (some ⟨e.blk, 0, none⟩)] w fun r w' => r = .returned (.tuple #[]) ∧ HvAt w' q { d with L := d.L.eraseIdx j } ∧ Only [q.ma, q.mt] w w' := by
  have he := List.mem_of_getElem? hj
  have hf := h.fit e he
  obtain ⟨-, x1, x2, -⟩ := hv_cells h
  obtain ⟨y33, -, -, -⟩ := ent_cells hf (h.ents e he)
  have lp : q.p < w.heap.size := heap_lt h.hp
  have le : e.blk < w.heap.size := heap_lt (h.ents e he)
  obtain ⟨a1, a2, a3, a4, a5, a6, -⟩ := own_six h.nd
  obtain ⟨-, n2⟩ := own_nd h.nd
  have nma : q.p ∉ [q.ma] := by simpa using a1
  have nea : e.blk ∉ [q.ma] := by simpa using (n2 e he).2.1
  have np2 : q.p ∉ [q.ma, q.mt] := by simp; exact ⟨a1, a2⟩
  have ne2 : e.blk ∉ [q.ma, q.mt] := by simp; exact ⟨(n2 e he).2.1, (n2 e he).2.2.1⟩
  have rn : w.rangeAt e.blk 0 (Value.bool e.isB :: byV e.id) := fun k v hv => by
    rw [Nat.zero_add, Lib.cell_of_heap (h.ents e he), List.getElem?_toArray]
    unfold HEnt.cells
    rw [List.getElem?_append_left (List.getElem?_eq_some_iff.1 hv).1]; exact hv
  have ndix : (Tryd.prog.info? 127).map (·.size) = some (Value.bool e.isB :: byV e.id).length := by rw [name_info]; simp [byV_length, hf.1]
  have nund := Tryd.underlying127
  have hk1 : (keysOf d.L)[j]? = some ((e.isB, e.id), .pointer (some ⟨e.blk, 0, none⟩)) := by unfold keysOf; rw [List.getElem?_map, hj]; rfl
  have hk2 : (slotsOf d.L)[j]? = some (e.at_, .bool true) := by unfold slotsOf; rw [List.getElem?_map, hj]; rfl
  have hap := h.all.apart name_fam
  have hap2 := h.taken.apart int_fam
  have H := Lib.hid h
  have Hk1 := Lib.hid hk1
  have Hk2 := Lib.hid hk2
  have Hap := Lib.hid hap
  have Hap2 := Lib.hid hap2
  have Hnt : Hid (q.mt ≠ q.ma) := Lib.hid (fun e => a6 e.symm)
  have hnv : nameV (e.isB, e.id) = .agg (Value.bool e.isB :: byV e.id).toArray := rfl
  obtain ⟨nl, hnl⟩ : ∃ x, x = (Value.bool e.isB :: byV e.id) := ⟨_, rfl⟩
  rw [← hnl] at rn ndix hnv
  have Hnv := Lib.hid hnv
  obtain ⟨at9, hat⟩ : ∃ x, x = e.at_ := ⟨_, rfl⟩
  rw [← hat] at y33
  have Hat := Lib.hid hat
  clear h hj he hf hk1 hk2 hap hap2 hnl hnv hat a1 a2 a3 a4 a5 a6 n2
  go_enter Tryd.func128, Tryd.ntmps128
  go_upto_region 0 with fail
  refine wp_region_held_drew (S := fun w' => Only [q.ma] w w') (by kernel_rfl) ((Only.refl _ _).drew) (fun hH0 => ?_)
  obtain ⟨W0, hW0⟩ : ∃ W, W = w.drew := ⟨_, rfl⟩
  have hall0 : Hid (MapAt nameV (fun n => n.2.length = 32) W0 q.ma (keysOf d.L)) := Lib.hid (by rw [hW0]; exact H.out.all.keep rfl)
  rw [← hW0] at hH0 ⊢
  clear hW0
  refine wpAnyH_take (i := 0) (v := ?_) rfl (by kernel_rfl) (by kernel_rfl) (by kernel_rfl) (fun _ _ _ h => h) (Or.inl ⟨by kernel_rfl, ?_⟩) hH0 ?_
  rotate_left 1
  · intro w hSw
    go_simp
    try with_reducible rfl
  try simp only [Act.put, List.getElem_toArray, List.getElem_cons_zero, List.getElem_cons_succ, List.setIfInBounds_toArray, List.set_cons_zero, List.set_cons_succ]
  refine wpAnyH_take (i := 1) (v := ?_) rfl (by kernel_rfl) (by kernel_rfl) (by kernel_rfl) (fun _ _ _ h => h) (Or.inl ⟨by kernel_rfl, ?_⟩) hH0 ?_
  rotate_left 1
  · intro w hSw
    go_simp
    try with_reducible rfl
  try simp only [Act.put, List.getElem_toArray, List.getElem_cons_zero, List.getElem_cons_succ, List.setIfInBounds_toArray, List.set_cons_zero, List.set_cons_succ]
  refine wpAnyH_take (i := 2) (v := ?_) rfl (by kernel_rfl) (by kernel_rfl) (by kernel_rfl) (fun _ _ _ h => h) (Or.inl ⟨by kernel_rfl, ?_⟩) hH0 ?_
  rotate_left 1
  · intro w hSw
    go_simp
    try with_reducible rfl
  try simp only [Act.put, List.getElem_toArray, List.getElem_cons_zero, List.getElem_cons_succ, List.setIfInBounds_toArray, List.set_cons_zero, List.set_cons_succ]
  refine wpAnyH_take (i := 3) (v := ?_) rfl (by kernel_rfl) (by kernel_rfl) (by kernel_rfl) (fun _ _ _ h => h) (Or.inl ⟨by kernel_rfl, ?_⟩) hH0 ?_
  rotate_left 1
  · intro w hSw
    have f0 := (hSw.cell (p := ⟨q.p, 1, none⟩) lp nma).trans x1
    go_simp
    try with_reducible rfl
  try simp only [Act.put, List.getElem_toArray, List.getElem_cons_zero, List.getElem_cons_succ, List.setIfInBounds_toArray, List.set_cons_zero, List.set_cons_succ]
  refine wpAnyH_take (i := 4) (v := ?_) rfl (by kernel_rfl) (by kernel_rfl) (by kernel_rfl) (fun _ _ _ h => h) (Or.inl ⟨by kernel_rfl, ?_⟩) hH0 ?_
  rotate_left 1
  · intro w hSw
    go_simp
    try with_reducible rfl
  try simp only [Act.put, List.getElem_toArray, List.getElem_cons_zero, List.getElem_cons_succ, List.setIfInBounds_toArray, List.set_cons_zero, List.set_cons_succ]
  refine wpAnyH_take (i := 5) (v := ?_) rfl (by kernel_rfl) (by kernel_rfl) (by kernel_rfl) (fun _ _ _ h => h) (Or.inl ⟨by kernel_rfl, ?_⟩) hH0 ?_
  rotate_left 1
  · intro w hSw
    go_simp
    try with_reducible rfl
  try simp only [Act.put, List.getElem_toArray, List.getElem_cons_zero, List.getElem_cons_succ, List.setIfInBounds_toArray, List.set_cons_zero, List.set_cons_succ]
  refine wpAnyH_take (i := 6) (v := ?_) rfl (by kernel_rfl) (by kernel_rfl) (by kernel_rfl) (fun _ _ _ h => h) (Or.inl ⟨by kernel_rfl, ?_⟩) hH0 ?_
  rotate_left 1
  · intro w hSw
    go_simp
    try with_reducible rfl
  try simp only [Act.put, List.getElem_toArray, List.getElem_cons_zero, List.getElem_cons_succ, List.setIfInBounds_toArray, List.set_cons_zero, List.set_cons_succ]
  refine wpAnyH_take (i := 7) (v := _) rfl (by kernel_rfl) (by kernel_rfl) (by kernel_rfl) (fun _ _ _ h => h) (yieldsIf_load_mid (by kernel_rfl) _ _ rfl _ _ rfl nl _ (fun W hW => range_onlyH rn hW ⟨le, nea⟩) nund rfl ndix) hH0 ?_
  try simp only [Act.put, List.getElem_toArray, List.getElem_cons_zero, List.getElem_cons_succ, List.setIfInBounds_toArray, List.set_cons_zero, List.set_cons_succ]
  refine wpAnyH_ready (rs := [8]) (by kernel_rfl) (by simp) ?_
  refine AllReadyH.cons rfl (fun K_ hK => ?_) ?_
  · rw [if_pos (by rfl)]
    obtain ⟨W1, j1, hrun1, hl1, hput1, hOp1⟩ := hall0.out.del name_fam Tryd.underlying116 (List.mem_of_getElem? Hk1.out) 127 0
    rw [Hnv.out] at hrun1
    obtain rfl := (pw_idx Hap.out hl1 Hk1.out rfl).symm
    refine wp_deleteR 116 127 _ _ rfl hrun1 ?_
    have HPut := Lib.hid hput1
    have HOp := Lib.hid hOp1
    clear hrun1 hput1 hOp1 hl1 hall0
    refine hK.out _ _ ((hH0).trans HOp.out) (fun hH1 => ?_)
    clear hK K_
    try simp only [Act.put, List.getElem_toArray, List.getElem_cons_zero, List.getElem_cons_succ, List.setIfInBounds_toArray, List.set_cons_zero, List.set_cons_succ]
    refine wpAnyH_done (by kernel_rfl) ?_ _
    have HH := Lib.hid hH1
    obtain ⟨w2, hw2⟩ : ∃ y, y = W1 := ⟨_, rfl⟩
    rw [← hw2] at HH HPut ⊢
    clear hH1 hw2
    go_upto_region 1 with fail
    refine wp_region_held_drew (S := fun w' => Only [q.ma, q.mt] w w') (by kernel_rfl) ((HH.out.mono (by simp)).drew) (fun hH0 => ?_)
    obtain ⟨W0, hW0⟩ : ∃ W, W = w2.drew := ⟨_, rfl⟩
    have htk0 : Hid (MapAt intK (fun n => n < 1000000) W0 q.mt (slotsOf d.L)) := Lib.hid (by rw [hW0]; exact (H.out.taken.keep (HH.out.block q.mt H.out.taken.lt (by simpa using Hnt.out))).keep rfl)
    have hall1 : Hid (MapAt nameV (fun n => n.2.length = 32) W0 q.ma ((keysOf d.L).eraseIdx j)) := Lib.hid (by rw [hW0]; exact HPut.out.keep rfl)
    rw [← hW0] at hH0 ⊢
    clear hW0
    refine wpAnyH_take (i := 0) (v := ?_) rfl (by kernel_rfl) (by kernel_rfl) (by kernel_rfl) (fun _ _ _ h => h) (Or.inl ⟨by kernel_rfl, ?_⟩) hH0 ?_
    rotate_left 1
    · intro w hSw
      go_simp
      try with_reducible rfl
    try simp only [Act.put, List.getElem_toArray, List.getElem_cons_zero, List.getElem_cons_succ, List.setIfInBounds_toArray, List.set_cons_zero, List.set_cons_succ]
    refine wpAnyH_take (i := 1) (v := ?_) rfl (by kernel_rfl) (by kernel_rfl) (by kernel_rfl) (fun _ _ _ h => h) (Or.inl ⟨by kernel_rfl, ?_⟩) hH0 ?_
    rotate_left 1
    · intro w hSw
      go_simp
      try with_reducible rfl
    try simp only [Act.put, List.getElem_toArray, List.getElem_cons_zero, List.getElem_cons_succ, List.setIfInBounds_toArray, List.set_cons_zero, List.set_cons_succ]
    refine wpAnyH_take (i := 2) (v := ?_) rfl (by kernel_rfl) (by kernel_rfl) (by kernel_rfl) (fun _ _ _ h => h) (Or.inl ⟨by kernel_rfl, ?_⟩) hH0 ?_
    rotate_left 1
    · intro w hSw
      go_simp
      try with_reducible rfl
    try simp only [Act.put, List.getElem_toArray, List.getElem_cons_zero, List.getElem_cons_succ, List.setIfInBounds_toArray, List.set_cons_zero, List.set_cons_succ]
    refine wpAnyH_take (i := 3) (v := ?_) rfl (by kernel_rfl) (by kernel_rfl) (by kernel_rfl) (fun _ _ _ h => h) (Or.inl ⟨by kernel_rfl, ?_⟩) hH0 ?_
    rotate_left 1
    · intro w hSw
      have f0 := (hSw.cell (p := ⟨q.p, 2, none⟩) lp np2).trans x2
      have f1 := (hSw.cell (p := ⟨e.blk, 33, none⟩) le ne2).trans y33
      go_simp
      try with_reducible rfl
    try simp only [Act.put, List.getElem_toArray, List.getElem_cons_zero, List.getElem_cons_succ, List.setIfInBounds_toArray, List.set_cons_zero, List.set_cons_succ]
    refine wpAnyH_take (i := 4) (v := ?_) rfl (by kernel_rfl) (by kernel_rfl) (by kernel_rfl) (fun _ _ _ h => h) (Or.inl ⟨by kernel_rfl, ?_⟩) hH0 ?_
    rotate_left 1
    · intro w hSw
      go_simp
      try with_reducible rfl
    try simp only [Act.put, List.getElem_toArray, List.getElem_cons_zero, List.getElem_cons_succ, List.setIfInBounds_toArray, List.set_cons_zero, List.set_cons_succ]
    refine wpAnyH_take (i := 5) (v := ?_) rfl (by kernel_rfl) (by kernel_rfl) (by kernel_rfl) (fun _ _ _ h => h) (Or.inl ⟨by kernel_rfl, ?_⟩) hH0 ?_
    rotate_left 1
    · intro w hSw
      go_simp
      try with_reducible rfl
    try simp only [Act.put, List.getElem_toArray, List.getElem_cons_zero, List.getElem_cons_succ, List.setIfInBounds_toArray, List.set_cons_zero, List.set_cons_succ]
    refine wpAnyH_take (i := 6) (v := ?_) rfl (by kernel_rfl) (by kernel_rfl) (by kernel_rfl) (fun _ _ _ h => h) (Or.inl ⟨by kernel_rfl, ?_⟩) hH0 ?_
    rotate_left 1
    · intro w hSw
      go_simp
      try with_reducible rfl
    try simp only [Act.put, List.getElem_toArray, List.getElem_cons_zero, List.getElem_cons_succ, List.setIfInBounds_toArray, List.set_cons_zero, List.set_cons_succ]
    refine wpAnyH_take (i := 7) (v := ?_) rfl (by kernel_rfl) (by kernel_rfl) (by kernel_rfl) (fun _ _ _ h => h) (Or.inl ⟨by kernel_rfl, ?_⟩) hH0 ?_
    rotate_left 1
    · intro w hSw
      have f0 := (hSw.cell (p := ⟨q.p, 2, none⟩) lp np2).trans x2
      have f1 := (hSw.cell (p := ⟨e.blk, 33, none⟩) le ne2).trans y33
      go_simp
      try with_reducible rfl
    try simp only [Act.put, List.getElem_toArray, List.getElem_cons_zero, List.getElem_cons_succ, List.setIfInBounds_toArray, List.set_cons_zero, List.set_cons_succ]
    refine wpAnyH_ready (rs := [8]) (by kernel_rfl) (by simp) ?_
    refine AllReadyH.cons rfl (fun K_ hK => ?_) ?_
    · rw [if_pos (by rfl)]
      obtain ⟨W1, j1, hrun1, hl1, hput1, hOp1⟩ := htk0.out.del int_fam Tryd.underlying117 (List.mem_of_getElem? Hk2.out) 3 0
      rw [show intK e.at_ = .int .i64 (at9 : Int) by rw [Hat.out]; rfl] at hrun1
      obtain rfl := (pw_idx Hap2.out hl1 Hk2.out rfl).symm
      refine wp_deleteR 117 3 _ _ rfl hrun1 ?_
      have HPut2 := Lib.hid hput1
      have HOp2 := Lib.hid hOp1
      have HAll2 := Lib.hid (hall1.out.keep (hOp1.block q.ma hall1.out.lt (by simpa using fun e => Hnt.out e.symm)))
      clear hrun1 hput1 hOp1 hl1 htk0 hall1
      refine hK.out _ _ ((hH0).trans (HOp2.out.mono (by simp))) (fun hH1 => ?_)
      clear hK K_
      try simp only [Act.put, List.getElem_toArray, List.getElem_cons_zero, List.getElem_cons_succ, List.setIfInBounds_toArray, List.set_cons_zero, List.set_cons_succ]
      refine wpAnyH_done (by kernel_rfl) ?_ _
      have HF := Lib.hid hH1
      obtain ⟨w3, hw3⟩ : ∃ y, y = W1 := ⟨_, rfl⟩
      rw [← hw3] at HF HPut2 HAll2 ⊢
      clear hH1 hw3
      go_wp2_with fail
      (try simp only [Exit.inBlock, Exit.then])
      go_end0
      exact ⟨rfl, hv_remove H.out HF.out (by have := HAll2.out; unfold keysOf at this; rw [← Go.ChangeMaps.map_eraseIdx] at this; exact this) (by have := HPut2.out; unfold slotsOf at this; rw [← Go.ChangeMaps.map_eraseIdx] at this; exact this), HF.out⟩
    exact AllReadyH.nil
  exact AllReadyH.nil

/-! ### the oldest -/
def ptrE : Option HEnt → Value
  | none => .pointer none
  | some e => .pointer (some ⟨e.blk, 0, none⟩)
/-- of the entries of L that are not in left, none that is not pinned was used before the best one -/
structure BestOf (L left : List HEnt) (pins : List (List UInt8)) (best : Option HEnt) : Prop where
  sub : ∀ e ∈ left, e ∈ L
  mem : ∀ b, best = some b → b ∈ L ∧ b.id ∉ pins
  low : ∀ e ∈ L, e ∈ left ∨ e.id ∈ pins ∨ ∃ b, best = some b ∧ b.used ≤ e.used
theorem bestOf_start (L : List HEnt) (pins : List (List UInt8)) : BestOf L L pins none := ⟨fun e h => h, (fun b h => by cases h), fun e h => .inl h⟩
theorem mem_erase_or {L : List HEnt} {i : Nat} {x y : HEnt} (hi : L[i]? = some x) (hy : y ∈ L) : y ∈ L.eraseIdx i ∨ y = x := by
  induction L generalizing i with
  | nil => simp at hy
  | cons a L ih =>
    cases i with
    | zero =>
      have e1 : a = x := by simpa using hi
      rcases List.mem_cons.1 hy with h | h
      · right; rw [h, e1]
      · left; simpa using h
    | succ i =>
      have hi' : L[i]? = some x := by simpa using hi
      rw [List.eraseIdx_cons_succ]
      rcases List.mem_cons.1 hy with h | h
      · left; rw [h]; simp
      · rcases ih hi' h with h | h
        · left; simp [h]
        · right; exact h
theorem BestOf.skip {L left : List HEnt} {pins : List (List UInt8)} {best : Option HEnt} {i : Nat} {x : HEnt} (h : BestOf L left pins best) (hi : left[i]? = some x) (hs : x.id ∈ pins ∨ ∃ b, best = some b ∧ b.used ≤ x.used) : BestOf L (left.eraseIdx i) pins best :=
  ⟨fun e he => h.sub e (List.mem_of_mem_eraseIdx he), h.mem, fun e he => by
    rcases h.low e he with h1 | h1
    · rcases mem_erase_or hi h1 with h2 | rfl
      · exact .inl h2
      · exact .inr hs
    · exact .inr h1⟩
theorem BestOf.take {L left : List HEnt} {pins : List (List UInt8)} {best : Option HEnt} {i : Nat} {x : HEnt} (h : BestOf L left pins best) (hi : left[i]? = some x) (hp : x.id ∉ pins) (hs : ∀ b, best = some b → x.used ≤ b.used) : BestOf L (left.eraseIdx i) pins (some x) :=
  ⟨fun e he => h.sub e (List.mem_of_mem_eraseIdx he), fun b hb => by obtain rfl := Option.some.inj hb; exact ⟨h.sub _ (List.mem_of_getElem? hi), hp⟩, fun e he => by
    rcases h.low e he with h1 | h1 | ⟨b, h1, h2⟩
    · rcases mem_erase_or hi h1 with h2 | rfl
      · exact .inl h2
      · exact .inr (.inr ⟨_, rfl, Int.le_refl _⟩)
    · exact .inr (.inl h1)
    · exact .inr (.inr ⟨x, rfl, Int.le_trans (hs b h1) h2⟩)⟩
theorem pin_look {w : World} {q : HvP} {d : HvD} (h : HvAt w q d) {id : List UInt8} (hid : id.length = 32) : (Instr.lookup 118 (.map (some q.mp)) (digK id) false).run Tryd.prog w = .ok (.bool (decide (id ∈ d.pins))) w := by
  rcases h.pin.look dig_fam Tryd.underlying118 (zero_boolR w) (a := id) hid with ⟨v, hv, hr⟩ | ⟨hn, hr⟩
  · obtain ⟨x, hx, e1⟩ := List.mem_map.1 hv
    obtain ⟨e2, e3⟩ := Prod.mk.inj e1
    rw [← e3] at hr
    rw [hr, decide_eq_true (by rw [← e2]; exact hx)]
  · rw [hr, decide_eq_false (fun hm => hn (id, .bool true) (List.mem_map.2 ⟨id, hm, rfl⟩) rfl)]

def OldPost (w : World) (q : HvP) (d : HvD) (e : Ending) (w' : World) : Prop := ∃ best, e = .returned (ptrE best) ∧ BestOf d.L [] d.pins best ∧ Below w.heap.size w w'
set_option maxHeartbeats 4000000 in
set_option maxRecDepth 100000 in
theorem oldest_any (q : HvP) (d : HvD) (w : World) (h : HvAt w q d) :
    Calls Tryd.prog 147 #[.pointer (some ⟨q.p, 0, none⟩)] w (OldPost w q d) := by
  obtain ⟨-, x1, -, x3, -⟩ := hv_cells h
  obtain ⟨clk, hit, hrun⟩ := h.all.iter
  have hrun := hrun 116 _ _ Tryd.underlying116
  have hB := (Below.refl w.heap.size w).alloc (Nat.le_refl _) (.mapIter (some q.ma) clk #[] clk)
  obtain ⟨w1, hw1⟩ : ∃ y, y = w.alloc (.mapIter (some q.ma) clk #[] clk) := ⟨_, rfl⟩
  obtain ⟨r, hr⟩ : ∃ y, y = w.heap.size := ⟨_, rfl⟩
  rw [← hw1] at hit hrun hB
  rw [← hr] at hit hrun
  have H := Lib.hid h
  have Hit := Lib.hid hit
  have HB := Lib.hid hB
  have Hr := Lib.hid hr
  clear h hit hB hw1 hr
  go_enter Tryd.func147, Tryd.ntmps147
  go_wp2_with (refine wpList_rangeR rfl 116 _ rfl (.pointer (some ⟨r, 0, none⟩)) hrun ?_)
  simp only [Act.put, List.setIfInBounds_toArray, List.set_cons_succ, List.set_cons_zero]
  clear hrun x1 x3
  go_loopw [2, 4] (fun bv _ wr => ∃ (left : List HEnt) (best : Option HEnt), bv = ptrE best ∧ IterAt nameV (fun n => n.2.length = 32) wr q.ma r (keysOf d.L) (keysOf left) ∧ BestOf d.L left d.pins best ∧ Only [r] w1 wr) (fun _ _ wr => wr.rangeLeft q.ma r)
  case atStart => exact ⟨d.L, none, rfl, Hit.out, bestOf_start _ _, Only.refl _ _⟩
  case round =>
    obtain ⟨left, best, rfl, hit, hbo, ho⟩ := hrel
    have Hbo := Lib.hid hbo
    have Ho := Lib.hid ho
    rcases hit.next 0 with ⟨hl, hrun⟩ | ⟨i, p, w2, hp, hrun, hit2, hO2, hen⟩
    · obtain rfl : left = [] := by unfold keysOf at hl; simpa using hl
      clear hbo ho hit
      go_wp2_with (refine wpList_nextR rfl _ rfl (.tuple #[.bool false]) hrun ?_)
      go_ret
      exact ⟨best, rfl, Hbo.out, HB.out.trans (Ho.out.below HB.out.size (by simp [Hr.out]))⟩
    · have hpi : (keysOf left)[i]? = some p := hp
      unfold keysOf at hpi
      rw [List.getElem?_map] at hpi
      obtain ⟨x, hx, rfl⟩ := Option.map_eq_some_iff.1 hpi
      have he : keysOf left = keysOf left := rfl
      have hit3 : IterAt nameV (fun n => n.2.length = 32) w2 q.ma r (keysOf d.L) (keysOf (left.eraseIdx i)) := by
        have h3 := hit2
        unfold keysOf at h3 ⊢
        rw [← Go.ChangeMaps.map_eraseIdx] at h3
        exact h3
      have hm : w2.rangeLeft q.ma r < wr.rangeLeft q.ma r := iter_less hit hit3 (List.getElem?_eq_some_iff.1 hx).1
      have hxL := Hbo.out.sub x (List.mem_of_getElem? hx)
      have hO := ho.trans hO2
      have h2 : HvAt w2 q d := (H.out.below HB.out).keep (fun k hk => hO.block k (by have := H.out.lt k hk; have := HB.out.size; omega) (by have := H.out.lt k hk; have := Hr.out; simp; omega))
      have hf := H.out.fit x hxL
      obtain ⟨-, y34, -, -⟩ := ent_cells hf (h2.ents x hxL)
      obtain ⟨-, -, -, x3, -⟩ := hv_cells h2
      have lp : q.p < w2.heap.size := heap_lt h2.hp
      have le : x.blk < w2.heap.size := heap_lt (h2.ents x hxL)
      have rn : w2.rangeAt x.blk 1 (byV x.id) := fun k v hv => by
        rw [Lib.cell_of_heap (h2.ents x hxL), List.getElem?_toArray]
        unfold HEnt.cells
        rw [show 1 + k = k + 1 by omega, List.cons_append, List.getElem?_cons_succ, List.getElem?_append_left (List.getElem?_eq_some_iff.1 hv).1]; exact hv
      have dix : (Tryd.prog.info? 23).map (·.size) = some (byV x.id).length := by rw [dig_info, byV_length, hf.1]
      have dund := Tryd.underlying23
      have hpl : Hid (∀ W, Below w2.heap.size w2 W → (Instr.lookup 118 (.map (some q.mp)) (.agg (byV x.id).toArray) false).run Tryd.prog W = .ok (.bool (decide (x.id ∈ d.pins))) W) := Lib.hid (fun W hW => pin_look (h2.below hW) hf.1)
      have H2 := Lib.hid h2
      have Hx := Lib.hid hx
      have HO := Lib.hid hO
      have Hm := Lib.hid hm
      have Hit3 := Lib.hid hit3
      have HxL := Lib.hid hxL
      obtain ⟨ic, hic⟩ : ∃ c, c = byV x.id := ⟨_, rfl⟩
      rw [← hic] at rn dix hpl
      clear hbo ho hit hit2 hit3 hpi hp he hO2 hO h2 hf hm hx hxL hic
      have hnv : nameV (x.isB, x.id) = .agg (Value.bool x.isB :: byV x.id).toArray := rfl
      obtain ⟨nv, hnv2⟩ : ∃ v, v = nameV (x.isB, x.id) := ⟨_, rfl⟩
      simp only [] at hrun hen
      rw [← hnv2] at hrun hen
      clear hnv hnv2
      go_upto_region 4 with (first
        | (refine wpList_nextR rfl _ rfl (.tuple #[.bool true, nv, .pointer (some ⟨x.blk, 0, none⟩)]) hrun ?_)
        | (refine wpList_entryR rfl _ rfl (.tuple #[nv, .pointer (some ⟨x.blk, 0, none⟩)]) hen ?_))
      clear hrun hen
      by_cases hpin : x.id ∈ d.pins
      · rw [decide_eq_true hpin] at hpl
        have Hpin := Lib.hid hpin
        clear hpin
        refine wp_region_held_drew (S := fun w' => Below w2.heap.size w2 w') (by kernel_rfl) ((Below.refl _ _).drew) (fun hH0 => ?_)
        obtain ⟨W0, hW0⟩ : ∃ W, W = w2.drew := ⟨_, rfl⟩
        rw [← hW0] at hH0 ⊢
        clear hW0
        refine wpAnyH_take (i := 0) (v := ?_) rfl (by kernel_rfl) (by kernel_rfl) (by kernel_rfl) (fun _ _ _ h => h) (Or.inl ⟨by kernel_rfl, ?_⟩) hH0 ?_
        rotate_left 1
        · intro w hSw
          go_simp
          try with_reducible rfl
        try simp only [Act.put, List.getElem_toArray, List.getElem_cons_zero, List.getElem_cons_succ, List.setIfInBounds_toArray, List.set_cons_zero, List.set_cons_succ]
        refine wpAnyH_take (i := 1) (v := ?_) rfl (by kernel_rfl) (by kernel_rfl) (by kernel_rfl) (fun _ _ _ h => h) (Or.inl ⟨by kernel_rfl, ?_⟩) hH0 ?_
        rotate_left 1
        · intro w hSw
          go_simp
          try with_reducible rfl
        try simp only [Act.put, List.getElem_toArray, List.getElem_cons_zero, List.getElem_cons_succ, List.setIfInBounds_toArray, List.set_cons_zero, List.set_cons_succ]
        refine wpAnyH_take (i := 2) (v := ?_) rfl (by kernel_rfl) (by kernel_rfl) (by kernel_rfl) (fun _ _ _ h => h) (Or.inl ⟨by kernel_rfl, ?_⟩) hH0 ?_
        rotate_left 1
        · intro w hSw
          go_simp
          try with_reducible rfl
        try simp only [Act.put, List.getElem_toArray, List.getElem_cons_zero, List.getElem_cons_succ, List.setIfInBounds_toArray, List.set_cons_zero, List.set_cons_succ]
        refine wpAnyH_take (i := 3) (v := ?_) rfl (by kernel_rfl) (by kernel_rfl) (by kernel_rfl) (fun _ _ _ h => h) (Or.inl ⟨by kernel_rfl, ?_⟩) hH0 ?_
        rotate_left 1
        · intro w hSw
          have f0 := (hSw.cell (p := ⟨q.p, 3, none⟩) lp).trans x3
          have f1 := (hSw.cell (p := ⟨x.blk, 34, none⟩) le).trans y34
          go_simp
          try with_reducible rfl
        try simp only [Act.put, List.getElem_toArray, List.getElem_cons_zero, List.getElem_cons_succ, List.setIfInBounds_toArray, List.set_cons_zero, List.set_cons_succ]
        refine wpAnyH_take (i := 4) (v := ?_) rfl (by kernel_rfl) (by kernel_rfl) (by kernel_rfl) (fun _ _ _ h => h) (Or.inl ⟨by kernel_rfl, ?_⟩) hH0 ?_
        rotate_left 1
        · intro w hSw
          go_simp
          try with_reducible rfl
        try simp only [Act.put, List.getElem_toArray, List.getElem_cons_zero, List.getElem_cons_succ, List.setIfInBounds_toArray, List.set_cons_zero, List.set_cons_succ]
        refine wpAnyH_take (i := 5) (v := ?_) rfl (by kernel_rfl) (by kernel_rfl) (by kernel_rfl) (fun _ _ _ h => h) (Or.inl ⟨by kernel_rfl, ?_⟩) hH0 ?_
        rotate_left 1
        · intro w hSw
          go_simp
          try with_reducible rfl
        try simp only [Act.put, List.getElem_toArray, List.getElem_cons_zero, List.getElem_cons_succ, List.setIfInBounds_toArray, List.set_cons_zero, List.set_cons_succ]
        refine wpAnyH_take (i := 6) (v := ?_) rfl (by kernel_rfl) (by kernel_rfl) (by kernel_rfl) (fun _ _ _ h => h) (Or.inl ⟨by kernel_rfl, ?_⟩) hH0 ?_
        rotate_left 1
        · intro w hSw
          go_simp
          try with_reducible rfl
        try simp only [Act.put, List.getElem_toArray, List.getElem_cons_zero, List.getElem_cons_succ, List.setIfInBounds_toArray, List.set_cons_zero, List.set_cons_succ]
        refine wpAnyH_take (i := 7) (v := ?_) rfl (by kernel_rfl) (by kernel_rfl) (by kernel_rfl) (fun _ _ _ h => h) (Or.inl ⟨by kernel_rfl, ?_⟩) hH0 ?_
        rotate_left 1
        · intro w hSw
          go_simp
          try with_reducible rfl
        try simp only [Act.put, List.getElem_toArray, List.getElem_cons_zero, List.getElem_cons_succ, List.setIfInBounds_toArray, List.set_cons_zero, List.set_cons_succ]
        refine wpAnyH_take (i := 8) (v := _) rfl (by kernel_rfl) (by kernel_rfl) (by kernel_rfl) (fun _ _ _ h => h) (yieldsIf_load_mid (by kernel_rfl) _ _ rfl _ _ rfl ic _ (fun W hW => range_below rn hW le) dund rfl dix) hH0 ?_
        try simp only [Act.put, List.getElem_toArray, List.getElem_cons_zero, List.getElem_cons_succ, List.setIfInBounds_toArray, List.set_cons_zero, List.set_cons_succ]
        refine wpAnyH_take (i := 9) (v := _) rfl (by kernel_rfl) (by kernel_rfl) (by kernel_rfl) (fun _ _ _ h => h) (yieldsIf_lookup (by kernel_rfl) 118 (.tmp 17) (.tmp 22) rfl (.bool true) (fun W hW => hpl.out W hW)) hH0 ?_
        try simp only [Act.put, List.getElem_toArray, List.getElem_cons_zero, List.getElem_cons_succ, List.setIfInBounds_toArray, List.set_cons_zero, List.set_cons_succ]
        refine wpAnyH_take (i := 10) (v := ?_) rfl (by kernel_rfl) (by kernel_rfl) (by kernel_rfl) (fun _ _ _ h => h) (Or.inl ⟨by kernel_rfl, ?_⟩) hH0 ?_
        rotate_left 1
        · intro w hSw
          go_simp
          try with_reducible rfl
        try simp only [Act.put, List.getElem_toArray, List.getElem_cons_zero, List.getElem_cons_succ, List.setIfInBounds_toArray, List.set_cons_zero, List.set_cons_succ]
        refine wpAnyH_take (i := 11) (v := ?_) rfl (by kernel_rfl) (by kernel_rfl) (by kernel_rfl) (fun _ _ _ h => h) (Or.inl ⟨by kernel_rfl, ?_⟩) hH0 ?_
        rotate_left 1
        · intro w hSw
          go_simp
          try with_reducible rfl
        try simp only [Act.put, List.getElem_toArray, List.getElem_cons_zero, List.getElem_cons_succ, List.setIfInBounds_toArray, List.set_cons_zero, List.set_cons_succ]
        refine wpAnyH_take (i := 12) (v := undef) rfl (by kernel_rfl) (by kernel_rfl) (by kernel_rfl) (fun _ _ _ h => h) (Or.inr ⟨by kernel_rfl, rfl⟩) hH0 ?_
        try simp only [Act.put, List.getElem_toArray, List.getElem_cons_zero, List.getElem_cons_succ, List.setIfInBounds_toArray, List.set_cons_zero, List.set_cons_succ]
        refine wpAnyH_take (i := 13) (v := undef) rfl (by kernel_rfl) (by kernel_rfl) (by kernel_rfl) (fun _ _ _ h => h) (Or.inr ⟨by kernel_rfl, rfl⟩) hH0 ?_
        try simp only [Act.put, List.getElem_toArray, List.getElem_cons_zero, List.getElem_cons_succ, List.setIfInBounds_toArray, List.set_cons_zero, List.set_cons_succ]
        refine wpAnyH_take (i := 14) (v := undef) rfl (by kernel_rfl) (by kernel_rfl) (by kernel_rfl) (fun _ _ _ h => h) (Or.inr ⟨by kernel_rfl, rfl⟩) hH0 ?_
        try simp only [Act.put, List.getElem_toArray, List.getElem_cons_zero, List.getElem_cons_succ, List.setIfInBounds_toArray, List.set_cons_zero, List.set_cons_succ]
        refine wpAnyH_take (i := 15) (v := undef) rfl (by kernel_rfl) (by kernel_rfl) (by kernel_rfl) (fun _ _ _ h => h) (Or.inr ⟨by kernel_rfl, rfl⟩) hH0 ?_
        try simp only [Act.put, List.getElem_toArray, List.getElem_cons_zero, List.getElem_cons_succ, List.setIfInBounds_toArray, List.set_cons_zero, List.set_cons_succ]
        refine wpAnyH_take (i := 16) (v := undef) rfl (by kernel_rfl) (by kernel_rfl) (by kernel_rfl) (fun _ _ _ h => h) (Or.inr ⟨by kernel_rfl, rfl⟩) hH0 ?_
        try simp only [Act.put, List.getElem_toArray, List.getElem_cons_zero, List.getElem_cons_succ, List.setIfInBounds_toArray, List.set_cons_zero, List.set_cons_succ]
        refine wpAnyH_take (i := 17) (v := undef) rfl (by kernel_rfl) (by kernel_rfl) (by kernel_rfl) (fun _ _ _ h => h) (Or.inr ⟨by kernel_rfl, rfl⟩) hH0 ?_
        try simp only [Act.put, List.getElem_toArray, List.getElem_cons_zero, List.getElem_cons_succ, List.setIfInBounds_toArray, List.set_cons_zero, List.set_cons_succ]
        refine wpAnyH_take (i := 18) (v := undef) rfl (by kernel_rfl) (by kernel_rfl) (by kernel_rfl) (fun _ _ _ h => h) (Or.inr ⟨by kernel_rfl, rfl⟩) hH0 ?_
        try simp only [Act.put, List.getElem_toArray, List.getElem_cons_zero, List.getElem_cons_succ, List.setIfInBounds_toArray, List.set_cons_zero, List.set_cons_succ]
        refine wpAnyH_take (i := 19) (v := undef) rfl (by kernel_rfl) (by kernel_rfl) (by kernel_rfl) (fun _ _ _ h => h) (Or.inr ⟨by kernel_rfl, rfl⟩) hH0 ?_
        try simp only [Act.put, List.getElem_toArray, List.getElem_cons_zero, List.getElem_cons_succ, List.setIfInBounds_toArray, List.set_cons_zero, List.set_cons_succ]
        refine wpAnyH_take (i := 20) (v := undef) rfl (by kernel_rfl) (by kernel_rfl) (by kernel_rfl) (fun _ _ _ h => h) (Or.inr ⟨by kernel_rfl, rfl⟩) hH0 ?_
        try simp only [Act.put, List.getElem_toArray, List.getElem_cons_zero, List.getElem_cons_succ, List.setIfInBounds_toArray, List.set_cons_zero, List.set_cons_succ]
        refine wpAnyH_take (i := 21) (v := undef) rfl (by kernel_rfl) (by kernel_rfl) (by kernel_rfl) (fun _ _ _ h => h) (Or.inr ⟨by kernel_rfl, rfl⟩) hH0 ?_
        try simp only [Act.put, List.getElem_toArray, List.getElem_cons_zero, List.getElem_cons_succ, List.setIfInBounds_toArray, List.set_cons_zero, List.set_cons_succ]
        refine wpAnyH_take (i := 22) (v := undef) rfl (by kernel_rfl) (by kernel_rfl) (by kernel_rfl) (fun _ _ _ h => h) (Or.inr ⟨by kernel_rfl, rfl⟩) hH0 ?_
        try simp only [Act.put, List.getElem_toArray, List.getElem_cons_zero, List.getElem_cons_succ, List.setIfInBounds_toArray, List.set_cons_zero, List.set_cons_succ]
        refine wpAnyH_take (i := 23) (v := undef) rfl (by kernel_rfl) (by kernel_rfl) (by kernel_rfl) (fun _ _ _ h => h) (Or.inr ⟨by kernel_rfl, rfl⟩) hH0 ?_
        try simp only [Act.put, List.getElem_toArray, List.getElem_cons_zero, List.getElem_cons_succ, List.setIfInBounds_toArray, List.set_cons_zero, List.set_cons_succ]
        refine wpAnyH_take (i := 24) (v := undef) rfl (by kernel_rfl) (by kernel_rfl) (by kernel_rfl) (fun _ _ _ h => h) (Or.inr ⟨by kernel_rfl, rfl⟩) hH0 ?_
        try simp only [Act.put, List.getElem_toArray, List.getElem_cons_zero, List.getElem_cons_succ, List.setIfInBounds_toArray, List.set_cons_zero, List.set_cons_succ]
        refine wpAnyH_take (i := 25) (v := ?_) rfl (by kernel_rfl) (by kernel_rfl) (by kernel_rfl) (fun _ _ _ h => h) (Or.inl ⟨by kernel_rfl, ?_⟩) hH0 ?_
        rotate_left 1
        · intro w hSw
          go_simp
          try with_reducible rfl
        try simp only [Act.put, List.getElem_toArray, List.getElem_cons_zero, List.getElem_cons_succ, List.setIfInBounds_toArray, List.set_cons_zero, List.set_cons_succ]
        refine wpAnyH_done (by kernel_rfl) ?_ _
        have hb := hH0
        have hl3 : Only [r] w1 W0 := HO.out.trans (Only.of_below hH0)
        have HL3 := Lib.hid hl3
        have hit4 := Hit3.out.keep (hH0.block q.ma Hit3.out.lt.1) (hH0.block r Hit3.out.lt.2.1)
        have Hit4 := Lib.hid hit4
        have hrl : (W0).rangeLeft q.ma r = w2.rangeLeft q.ma r := iter_same Hit3.out hit4
        have Hrl := Lib.hid hrl
        clear hH0 hl3 hb hit4 hrl
        go_wp2_with fail
        go_roundw
        case rel => exact ⟨left.eraseIdx i, best, rfl, Hit4.out, Hbo.out.skip Hx.out (.inl Hpin.out), HL3.out⟩
        case measure => rw [Hrl.out]; exact Hm.out
      · rw [decide_eq_false hpin] at hpl
        have Hpin := Lib.hid hpin
        clear hpin
        cases best with
        | none =>
          simp only [ptrE]
          refine wp_region_held_drew (S := fun w' => Below w2.heap.size w2 w') (by kernel_rfl) ((Below.refl _ _).drew) (fun hH0 => ?_)
          obtain ⟨W0, hW0⟩ : ∃ W, W = w2.drew := ⟨_, rfl⟩
          rw [← hW0] at hH0 ⊢
          clear hW0
          refine wpAnyH_take (i := 0) (v := ?_) rfl (by kernel_rfl) (by kernel_rfl) (by kernel_rfl) (fun _ _ _ h => h) (Or.inl ⟨by kernel_rfl, ?_⟩) hH0 ?_
          rotate_left 1
          · intro w hSw
            go_simp
            try with_reducible rfl
          try simp only [Act.put, List.getElem_toArray, List.getElem_cons_zero, List.getElem_cons_succ, List.setIfInBounds_toArray, List.set_cons_zero, List.set_cons_succ]
          refine wpAnyH_take (i := 1) (v := ?_) rfl (by kernel_rfl) (by kernel_rfl) (by kernel_rfl) (fun _ _ _ h => h) (Or.inl ⟨by kernel_rfl, ?_⟩) hH0 ?_
          rotate_left 1
          · intro w hSw
            go_simp
            try with_reducible rfl
          try simp only [Act.put, List.getElem_toArray, List.getElem_cons_zero, List.getElem_cons_succ, List.setIfInBounds_toArray, List.set_cons_zero, List.set_cons_succ]
          refine wpAnyH_take (i := 2) (v := ?_) rfl (by kernel_rfl) (by kernel_rfl) (by kernel_rfl) (fun _ _ _ h => h) (Or.inl ⟨by kernel_rfl, ?_⟩) hH0 ?_
          rotate_left 1
          · intro w hSw
            go_simp
            try with_reducible rfl
          try simp only [Act.put, List.getElem_toArray, List.getElem_cons_zero, List.getElem_cons_succ, List.setIfInBounds_toArray, List.set_cons_zero, List.set_cons_succ]
          refine wpAnyH_take (i := 3) (v := ?_) rfl (by kernel_rfl) (by kernel_rfl) (by kernel_rfl) (fun _ _ _ h => h) (Or.inl ⟨by kernel_rfl, ?_⟩) hH0 ?_
          rotate_left 1
          · intro w hSw
            have f0 := (hSw.cell (p := ⟨q.p, 3, none⟩) lp).trans x3
            have f1 := (hSw.cell (p := ⟨x.blk, 34, none⟩) le).trans y34
            go_simp
            try with_reducible rfl
          try simp only [Act.put, List.getElem_toArray, List.getElem_cons_zero, List.getElem_cons_succ, List.setIfInBounds_toArray, List.set_cons_zero, List.set_cons_succ]
          refine wpAnyH_take (i := 4) (v := ?_) rfl (by kernel_rfl) (by kernel_rfl) (by kernel_rfl) (fun _ _ _ h => h) (Or.inl ⟨by kernel_rfl, ?_⟩) hH0 ?_
          rotate_left 1
          · intro w hSw
            go_simp
            try with_reducible rfl
          try simp only [Act.put, List.getElem_toArray, List.getElem_cons_zero, List.getElem_cons_succ, List.setIfInBounds_toArray, List.set_cons_zero, List.set_cons_succ]
          refine wpAnyH_take (i := 5) (v := ?_) rfl (by kernel_rfl) (by kernel_rfl) (by kernel_rfl) (fun _ _ _ h => h) (Or.inl ⟨by kernel_rfl, ?_⟩) hH0 ?_
          rotate_left 1
          · intro w hSw
            go_simp
            try with_reducible rfl
          try simp only [Act.put, List.getElem_toArray, List.getElem_cons_zero, List.getElem_cons_succ, List.setIfInBounds_toArray, List.set_cons_zero, List.set_cons_succ]
          refine wpAnyH_take (i := 6) (v := ?_) rfl (by kernel_rfl) (by kernel_rfl) (by kernel_rfl) (fun _ _ _ h => h) (Or.inl ⟨by kernel_rfl, ?_⟩) hH0 ?_
          rotate_left 1
          · intro w hSw
            go_simp
            try with_reducible rfl
          try simp only [Act.put, List.getElem_toArray, List.getElem_cons_zero, List.getElem_cons_succ, List.setIfInBounds_toArray, List.set_cons_zero, List.set_cons_succ]
          refine wpAnyH_take (i := 7) (v := ?_) rfl (by kernel_rfl) (by kernel_rfl) (by kernel_rfl) (fun _ _ _ h => h) (Or.inl ⟨by kernel_rfl, ?_⟩) hH0 ?_
          rotate_left 1
          · intro w hSw
            go_simp
            try with_reducible rfl
          try simp only [Act.put, List.getElem_toArray, List.getElem_cons_zero, List.getElem_cons_succ, List.setIfInBounds_toArray, List.set_cons_zero, List.set_cons_succ]
          refine wpAnyH_take (i := 8) (v := _) rfl (by kernel_rfl) (by kernel_rfl) (by kernel_rfl) (fun _ _ _ h => h) (yieldsIf_load_mid (by kernel_rfl) _ _ rfl _ _ rfl ic _ (fun W hW => range_below rn hW le) dund rfl dix) hH0 ?_
          try simp only [Act.put, List.getElem_toArray, List.getElem_cons_zero, List.getElem_cons_succ, List.setIfInBounds_toArray, List.set_cons_zero, List.set_cons_succ]
          refine wpAnyH_take (i := 9) (v := _) rfl (by kernel_rfl) (by kernel_rfl) (by kernel_rfl) (fun _ _ _ h => h) (yieldsIf_lookup (by kernel_rfl) 118 (.tmp 17) (.tmp 22) rfl (.bool false) (fun W hW => hpl.out W hW)) hH0 ?_
          try simp only [Act.put, List.getElem_toArray, List.getElem_cons_zero, List.getElem_cons_succ, List.setIfInBounds_toArray, List.set_cons_zero, List.set_cons_succ]
          refine wpAnyH_take (i := 10) (v := ?_) rfl (by kernel_rfl) (by kernel_rfl) (by kernel_rfl) (fun _ _ _ h => h) (Or.inl ⟨by kernel_rfl, ?_⟩) hH0 ?_
          rotate_left 1
          · intro w hSw
            go_simp
            try with_reducible rfl
          try simp only [Act.put, List.getElem_toArray, List.getElem_cons_zero, List.getElem_cons_succ, List.setIfInBounds_toArray, List.set_cons_zero, List.set_cons_succ]
          refine wpAnyH_take (i := 11) (v := ?_) rfl (by kernel_rfl) (by kernel_rfl) (by kernel_rfl) (fun _ _ _ h => h) (Or.inl ⟨by kernel_rfl, ?_⟩) hH0 ?_
          rotate_left 1
          · intro w hSw
            go_simp
            try with_reducible rfl
          try simp only [Act.put, List.getElem_toArray, List.getElem_cons_zero, List.getElem_cons_succ, List.setIfInBounds_toArray, List.set_cons_zero, List.set_cons_succ]
          refine wpAnyH_take (i := 12) (v := ?_) rfl (by kernel_rfl) (by kernel_rfl) (by kernel_rfl) (fun _ _ _ h => h) (Or.inl ⟨by kernel_rfl, ?_⟩) hH0 ?_
          rotate_left 1
          · intro w hSw
            go_simp
            try with_reducible rfl
          try simp only [Act.put, List.getElem_toArray, List.getElem_cons_zero, List.getElem_cons_succ, List.setIfInBounds_toArray, List.set_cons_zero, List.set_cons_succ]
          refine wpAnyH_take (i := 13) (v := ?_) rfl (by kernel_rfl) (by kernel_rfl) (by kernel_rfl) (fun _ _ _ h => h) (Or.inl ⟨by kernel_rfl, ?_⟩) hH0 ?_
          rotate_left 1
          · intro w hSw
            go_simp
            try with_reducible rfl
          try simp only [Act.put, List.getElem_toArray, List.getElem_cons_zero, List.getElem_cons_succ, List.setIfInBounds_toArray, List.set_cons_zero, List.set_cons_succ]
          refine wpAnyH_take (i := 14) (v := ?_) rfl (by kernel_rfl) (by kernel_rfl) (by kernel_rfl) (fun _ _ _ h => h) (Or.inl ⟨by kernel_rfl, ?_⟩) hH0 ?_
          rotate_left 1
          · intro w hSw
            go_simp
            try with_reducible rfl
          try simp only [Act.put, List.getElem_toArray, List.getElem_cons_zero, List.getElem_cons_succ, List.setIfInBounds_toArray, List.set_cons_zero, List.set_cons_succ]
          refine wpAnyH_take (i := 15) (v := undef) rfl (by kernel_rfl) (by kernel_rfl) (by kernel_rfl) (fun _ _ _ h => h) (Or.inr ⟨by kernel_rfl, rfl⟩) hH0 ?_
          try simp only [Act.put, List.getElem_toArray, List.getElem_cons_zero, List.getElem_cons_succ, List.setIfInBounds_toArray, List.set_cons_zero, List.set_cons_succ]
          refine wpAnyH_take (i := 16) (v := undef) rfl (by kernel_rfl) (by kernel_rfl) (by kernel_rfl) (fun _ _ _ h => h) (Or.inr ⟨by kernel_rfl, rfl⟩) hH0 ?_
          try simp only [Act.put, List.getElem_toArray, List.getElem_cons_zero, List.getElem_cons_succ, List.setIfInBounds_toArray, List.set_cons_zero, List.set_cons_succ]
          refine wpAnyH_take (i := 17) (v := undef) rfl (by kernel_rfl) (by kernel_rfl) (by kernel_rfl) (fun _ _ _ h => h) (Or.inr ⟨by kernel_rfl, rfl⟩) hH0 ?_
          try simp only [Act.put, List.getElem_toArray, List.getElem_cons_zero, List.getElem_cons_succ, List.setIfInBounds_toArray, List.set_cons_zero, List.set_cons_succ]
          refine wpAnyH_take (i := 18) (v := undef) rfl (by kernel_rfl) (by kernel_rfl) (by kernel_rfl) (fun _ _ _ h => h) (Or.inr ⟨by kernel_rfl, rfl⟩) hH0 ?_
          try simp only [Act.put, List.getElem_toArray, List.getElem_cons_zero, List.getElem_cons_succ, List.setIfInBounds_toArray, List.set_cons_zero, List.set_cons_succ]
          refine wpAnyH_take (i := 19) (v := undef) rfl (by kernel_rfl) (by kernel_rfl) (by kernel_rfl) (fun _ _ _ h => h) (Or.inr ⟨by kernel_rfl, rfl⟩) hH0 ?_
          try simp only [Act.put, List.getElem_toArray, List.getElem_cons_zero, List.getElem_cons_succ, List.setIfInBounds_toArray, List.set_cons_zero, List.set_cons_succ]
          refine wpAnyH_take (i := 20) (v := undef) rfl (by kernel_rfl) (by kernel_rfl) (by kernel_rfl) (fun _ _ _ h => h) (Or.inr ⟨by kernel_rfl, rfl⟩) hH0 ?_
          try simp only [Act.put, List.getElem_toArray, List.getElem_cons_zero, List.getElem_cons_succ, List.setIfInBounds_toArray, List.set_cons_zero, List.set_cons_succ]
          refine wpAnyH_take (i := 21) (v := undef) rfl (by kernel_rfl) (by kernel_rfl) (by kernel_rfl) (fun _ _ _ h => h) (Or.inr ⟨by kernel_rfl, rfl⟩) hH0 ?_
          try simp only [Act.put, List.getElem_toArray, List.getElem_cons_zero, List.getElem_cons_succ, List.setIfInBounds_toArray, List.set_cons_zero, List.set_cons_succ]
          refine wpAnyH_take (i := 22) (v := undef) rfl (by kernel_rfl) (by kernel_rfl) (by kernel_rfl) (fun _ _ _ h => h) (Or.inr ⟨by kernel_rfl, rfl⟩) hH0 ?_
          try simp only [Act.put, List.getElem_toArray, List.getElem_cons_zero, List.getElem_cons_succ, List.setIfInBounds_toArray, List.set_cons_zero, List.set_cons_succ]
          refine wpAnyH_take (i := 23) (v := undef) rfl (by kernel_rfl) (by kernel_rfl) (by kernel_rfl) (fun _ _ _ h => h) (Or.inr ⟨by kernel_rfl, rfl⟩) hH0 ?_
          try simp only [Act.put, List.getElem_toArray, List.getElem_cons_zero, List.getElem_cons_succ, List.setIfInBounds_toArray, List.set_cons_zero, List.set_cons_succ]
          refine wpAnyH_take (i := 24) (v := ?_) rfl (by kernel_rfl) (by kernel_rfl) (by kernel_rfl) (fun _ _ _ h => h) (Or.inl ⟨by kernel_rfl, ?_⟩) hH0 ?_
          rotate_left 1
          · intro w hSw
            go_simp
            try with_reducible rfl
          try simp only [Act.put, List.getElem_toArray, List.getElem_cons_zero, List.getElem_cons_succ, List.setIfInBounds_toArray, List.set_cons_zero, List.set_cons_succ]
          refine wpAnyH_take (i := 25) (v := ?_) rfl (by kernel_rfl) (by kernel_rfl) (by kernel_rfl) (fun _ _ _ h => h) (Or.inl ⟨by kernel_rfl, ?_⟩) hH0 ?_
          rotate_left 1
          · intro w hSw
            go_simp
            try with_reducible rfl
          try simp only [Act.put, List.getElem_toArray, List.getElem_cons_zero, List.getElem_cons_succ, List.setIfInBounds_toArray, List.set_cons_zero, List.set_cons_succ]
          refine wpAnyH_done (by kernel_rfl) ?_ _
          have hb := hH0
          have hl3 : Only [r] w1 W0 := HO.out.trans (Only.of_below hH0)
          have HL3 := Lib.hid hl3
          have hit4 := Hit3.out.keep (hH0.block q.ma Hit3.out.lt.1) (hH0.block r Hit3.out.lt.2.1)
          have Hit4 := Lib.hid hit4
          have hrl : (W0).rangeLeft q.ma r = w2.rangeLeft q.ma r := iter_same Hit3.out hit4
          have Hrl := Lib.hid hrl
          clear hH0 hl3 hb hit4 hrl
          go_wp2_with fail
          go_roundw
          case rel => exact ⟨left.eraseIdx i, (some x), rfl, Hit4.out, Hbo.out.take Hx.out Hpin.out (fun b hb => by cases hb), HL3.out⟩
          case measure => rw [Hrl.out]; exact Hm.out
        | some bb =>
          have hbL := (Hbo.out.mem bb rfl).1
          have z34 := (ent_cells (H.out.fit bb hbL) (H2.out.ents bb hbL)).2.1
          have lb : bb.blk < w2.heap.size := heap_lt (H2.out.ents bb hbL)
          obtain ⟨bu, hbu⟩ : ∃ u, u = bb.used := ⟨_, rfl⟩
          obtain ⟨xu, hxu⟩ : ∃ u, u = x.used := ⟨_, rfl⟩
          rw [← hbu] at z34
          rw [← hxu] at y34
          have Hbu := Lib.hid hbu
          have Hxu := Lib.hid hxu
          clear hbu hxu hbL
          simp only [ptrE]
          by_cases hlt : xu < bu
          · have Hlt := Lib.hid hlt
            refine wp_region_held_drew (S := fun w' => Below w2.heap.size w2 w') (by kernel_rfl) ((Below.refl _ _).drew) (fun hH0 => ?_)
            obtain ⟨W0, hW0⟩ : ∃ W, W = w2.drew := ⟨_, rfl⟩
            rw [← hW0] at hH0 ⊢
            clear hW0
            refine wpAnyH_take (i := 0) (v := ?_) rfl (by kernel_rfl) (by kernel_rfl) (by kernel_rfl) (fun _ _ _ h => h) (Or.inl ⟨by kernel_rfl, ?_⟩) hH0 ?_
            rotate_left 1
            · intro w hSw
              go_simp
              try with_reducible rfl
            try simp only [Act.put, List.getElem_toArray, List.getElem_cons_zero, List.getElem_cons_succ, List.setIfInBounds_toArray, List.set_cons_zero, List.set_cons_succ]
            refine wpAnyH_take (i := 1) (v := ?_) rfl (by kernel_rfl) (by kernel_rfl) (by kernel_rfl) (fun _ _ _ h => h) (Or.inl ⟨by kernel_rfl, ?_⟩) hH0 ?_
            rotate_left 1
            · intro w hSw
              go_simp
              try with_reducible rfl
            try simp only [Act.put, List.getElem_toArray, List.getElem_cons_zero, List.getElem_cons_succ, List.setIfInBounds_toArray, List.set_cons_zero, List.set_cons_succ]
            refine wpAnyH_take (i := 2) (v := ?_) rfl (by kernel_rfl) (by kernel_rfl) (by kernel_rfl) (fun _ _ _ h => h) (Or.inl ⟨by kernel_rfl, ?_⟩) hH0 ?_
            rotate_left 1
            · intro w hSw
              go_simp
              try with_reducible rfl
            try simp only [Act.put, List.getElem_toArray, List.getElem_cons_zero, List.getElem_cons_succ, List.setIfInBounds_toArray, List.set_cons_zero, List.set_cons_succ]
            refine wpAnyH_take (i := 3) (v := ?_) rfl (by kernel_rfl) (by kernel_rfl) (by kernel_rfl) (fun _ _ _ h => h) (Or.inl ⟨by kernel_rfl, ?_⟩) hH0 ?_
            rotate_left 1
            · intro w hSw
              have f0 := (hSw.cell (p := ⟨q.p, 3, none⟩) lp).trans x3
              have f1 := (hSw.cell (p := ⟨x.blk, 34, none⟩) le).trans y34
              have f2 := (hSw.cell (p := ⟨bb.blk, 34, none⟩) lb).trans z34
              go_simp
              try with_reducible rfl
            try simp only [Act.put, List.getElem_toArray, List.getElem_cons_zero, List.getElem_cons_succ, List.setIfInBounds_toArray, List.set_cons_zero, List.set_cons_succ]
            refine wpAnyH_take (i := 4) (v := ?_) rfl (by kernel_rfl) (by kernel_rfl) (by kernel_rfl) (fun _ _ _ h => h) (Or.inl ⟨by kernel_rfl, ?_⟩) hH0 ?_
            rotate_left 1
            · intro w hSw
              go_simp
              try with_reducible rfl
            try simp only [Act.put, List.getElem_toArray, List.getElem_cons_zero, List.getElem_cons_succ, List.setIfInBounds_toArray, List.set_cons_zero, List.set_cons_succ]
            refine wpAnyH_take (i := 5) (v := ?_) rfl (by kernel_rfl) (by kernel_rfl) (by kernel_rfl) (fun _ _ _ h => h) (Or.inl ⟨by kernel_rfl, ?_⟩) hH0 ?_
            rotate_left 1
            · intro w hSw
              go_simp
              try with_reducible rfl
            try simp only [Act.put, List.getElem_toArray, List.getElem_cons_zero, List.getElem_cons_succ, List.setIfInBounds_toArray, List.set_cons_zero, List.set_cons_succ]
            refine wpAnyH_take (i := 6) (v := ?_) rfl (by kernel_rfl) (by kernel_rfl) (by kernel_rfl) (fun _ _ _ h => h) (Or.inl ⟨by kernel_rfl, ?_⟩) hH0 ?_
            rotate_left 1
            · intro w hSw
              go_simp
              try with_reducible rfl
            try simp only [Act.put, List.getElem_toArray, List.getElem_cons_zero, List.getElem_cons_succ, List.setIfInBounds_toArray, List.set_cons_zero, List.set_cons_succ]
            refine wpAnyH_take (i := 7) (v := ?_) rfl (by kernel_rfl) (by kernel_rfl) (by kernel_rfl) (fun _ _ _ h => h) (Or.inl ⟨by kernel_rfl, ?_⟩) hH0 ?_
            rotate_left 1
            · intro w hSw
              go_simp
              try with_reducible rfl
            try simp only [Act.put, List.getElem_toArray, List.getElem_cons_zero, List.getElem_cons_succ, List.setIfInBounds_toArray, List.set_cons_zero, List.set_cons_succ]
            refine wpAnyH_take (i := 8) (v := _) rfl (by kernel_rfl) (by kernel_rfl) (by kernel_rfl) (fun _ _ _ h => h) (yieldsIf_load_mid (by kernel_rfl) _ _ rfl _ _ rfl ic _ (fun W hW => range_below rn hW le) dund rfl dix) hH0 ?_
            try simp only [Act.put, List.getElem_toArray, List.getElem_cons_zero, List.getElem_cons_succ, List.setIfInBounds_toArray, List.set_cons_zero, List.set_cons_succ]
            refine wpAnyH_take (i := 9) (v := _) rfl (by kernel_rfl) (by kernel_rfl) (by kernel_rfl) (fun _ _ _ h => h) (yieldsIf_lookup (by kernel_rfl) 118 (.tmp 17) (.tmp 22) rfl (.bool false) (fun W hW => hpl.out W hW)) hH0 ?_
            try simp only [Act.put, List.getElem_toArray, List.getElem_cons_zero, List.getElem_cons_succ, List.setIfInBounds_toArray, List.set_cons_zero, List.set_cons_succ]
            refine wpAnyH_take (i := 10) (v := ?_) rfl (by kernel_rfl) (by kernel_rfl) (by kernel_rfl) (fun _ _ _ h => h) (Or.inl ⟨by kernel_rfl, ?_⟩) hH0 ?_
            rotate_left 1
            · intro w hSw
              go_simp
              try with_reducible rfl
            try simp only [Act.put, List.getElem_toArray, List.getElem_cons_zero, List.getElem_cons_succ, List.setIfInBounds_toArray, List.set_cons_zero, List.set_cons_succ]
            refine wpAnyH_take (i := 11) (v := ?_) rfl (by kernel_rfl) (by kernel_rfl) (by kernel_rfl) (fun _ _ _ h => h) (Or.inl ⟨by kernel_rfl, ?_⟩) hH0 ?_
            rotate_left 1
            · intro w hSw
              go_simp
              try with_reducible rfl
            try simp only [Act.put, List.getElem_toArray, List.getElem_cons_zero, List.getElem_cons_succ, List.setIfInBounds_toArray, List.set_cons_zero, List.set_cons_succ]
            refine wpAnyH_take (i := 12) (v := ?_) rfl (by kernel_rfl) (by kernel_rfl) (by kernel_rfl) (fun _ _ _ h => h) (Or.inl ⟨by kernel_rfl, ?_⟩) hH0 ?_
            rotate_left 1
            · intro w hSw
              go_simp
              try with_reducible rfl
            try simp only [Act.put, List.getElem_toArray, List.getElem_cons_zero, List.getElem_cons_succ, List.setIfInBounds_toArray, List.set_cons_zero, List.set_cons_succ]
            refine wpAnyH_take (i := 13) (v := ?_) rfl (by kernel_rfl) (by kernel_rfl) (by kernel_rfl) (fun _ _ _ h => h) (Or.inl ⟨by kernel_rfl, ?_⟩) hH0 ?_
            rotate_left 1
            · intro w hSw
              go_simp
              try with_reducible rfl
            try simp only [Act.put, List.getElem_toArray, List.getElem_cons_zero, List.getElem_cons_succ, List.setIfInBounds_toArray, List.set_cons_zero, List.set_cons_succ]
            refine wpAnyH_take (i := 14) (v := ?_) rfl (by kernel_rfl) (by kernel_rfl) (by kernel_rfl) (fun _ _ _ h => h) (Or.inl ⟨by kernel_rfl, ?_⟩) hH0 ?_
            rotate_left 1
            · intro w hSw
              go_simp
              try with_reducible rfl
            try simp only [Act.put, List.getElem_toArray, List.getElem_cons_zero, List.getElem_cons_succ, List.setIfInBounds_toArray, List.set_cons_zero, List.set_cons_succ]
            refine wpAnyH_take (i := 15) (v := ?_) rfl (by kernel_rfl) (by kernel_rfl) (by kernel_rfl) (fun _ _ _ h => h) (Or.inl ⟨by kernel_rfl, ?_⟩) hH0 ?_
            rotate_left 1
            · intro w hSw
              go_simp
              try with_reducible rfl
            try simp only [Act.put, List.getElem_toArray, List.getElem_cons_zero, List.getElem_cons_succ, List.setIfInBounds_toArray, List.set_cons_zero, List.set_cons_succ]
            refine wpAnyH_take (i := 16) (v := ?_) rfl (by kernel_rfl) (by kernel_rfl) (by kernel_rfl) (fun _ _ _ h => h) (Or.inl ⟨by kernel_rfl, ?_⟩) hH0 ?_
            rotate_left 1
            · intro w hSw
              go_simp
              try with_reducible rfl
            try simp only [Act.put, List.getElem_toArray, List.getElem_cons_zero, List.getElem_cons_succ, List.setIfInBounds_toArray, List.set_cons_zero, List.set_cons_succ]
            refine wpAnyH_take (i := 17) (v := ?_) rfl (by kernel_rfl) (by kernel_rfl) (by kernel_rfl) (fun _ _ _ h => h) (Or.inl ⟨by kernel_rfl, ?_⟩) hH0 ?_
            rotate_left 1
            · intro w hSw
              go_simp
              try with_reducible rfl
            try simp only [Act.put, List.getElem_toArray, List.getElem_cons_zero, List.getElem_cons_succ, List.setIfInBounds_toArray, List.set_cons_zero, List.set_cons_succ]
            refine wpAnyH_take (i := 18) (v := ?_) rfl (by kernel_rfl) (by kernel_rfl) (by kernel_rfl) (fun _ _ _ h => h) (Or.inl ⟨by kernel_rfl, ?_⟩) hH0 ?_
            rotate_left 1
            · intro w hSw
              have f0 := (hSw.cell (p := ⟨q.p, 3, none⟩) lp).trans x3
              have f1 := (hSw.cell (p := ⟨x.blk, 34, none⟩) le).trans y34
              have f2 := (hSw.cell (p := ⟨bb.blk, 34, none⟩) lb).trans z34
              go_simp
              try with_reducible rfl
            try simp only [Act.put, List.getElem_toArray, List.getElem_cons_zero, List.getElem_cons_succ, List.setIfInBounds_toArray, List.set_cons_zero, List.set_cons_succ]
            refine wpAnyH_take (i := 19) (v := ?_) rfl (by kernel_rfl) (by kernel_rfl) (by kernel_rfl) (fun _ _ _ h => h) (Or.inl ⟨by kernel_rfl, ?_⟩) hH0 ?_
            rotate_left 1
            · intro w hSw
              go_simp
              try with_reducible rfl
            try simp only [Act.put, List.getElem_toArray, List.getElem_cons_zero, List.getElem_cons_succ, List.setIfInBounds_toArray, List.set_cons_zero, List.set_cons_succ]
            refine wpAnyH_take (i := 20) (v := ?_) rfl (by kernel_rfl) (by kernel_rfl) (by kernel_rfl) (fun _ _ _ h => h) (Or.inl ⟨by kernel_rfl, ?_⟩) hH0 ?_
            rotate_left 1
            · intro w hSw
              go_simp
              try with_reducible rfl
            try simp only [Act.put, List.getElem_toArray, List.getElem_cons_zero, List.getElem_cons_succ, List.setIfInBounds_toArray, List.set_cons_zero, List.set_cons_succ]
            refine wpAnyH_take (i := 21) (v := ?_) rfl (by kernel_rfl) (by kernel_rfl) (by kernel_rfl) (fun _ _ _ h => h) (Or.inl ⟨by kernel_rfl, ?_⟩) hH0 ?_
            rotate_left 1
            · intro w hSw
              go_simp
              try with_reducible rfl
            try simp only [Act.put, List.getElem_toArray, List.getElem_cons_zero, List.getElem_cons_succ, List.setIfInBounds_toArray, List.set_cons_zero, List.set_cons_succ]
            refine wpAnyH_take (i := 22) (v := ?_) rfl (by kernel_rfl) (by kernel_rfl) (by kernel_rfl) (fun _ _ _ h => h) (Or.inl ⟨by kernel_rfl, ?_⟩) hH0 ?_
            rotate_left 1
            · intro w hSw
              have f0 := (hSw.cell (p := ⟨q.p, 3, none⟩) lp).trans x3
              have f1 := (hSw.cell (p := ⟨x.blk, 34, none⟩) le).trans y34
              have f2 := (hSw.cell (p := ⟨bb.blk, 34, none⟩) lb).trans z34
              go_simp
              try with_reducible rfl
            try simp only [Act.put, List.getElem_toArray, List.getElem_cons_zero, List.getElem_cons_succ, List.setIfInBounds_toArray, List.set_cons_zero, List.set_cons_succ]
            refine wpAnyH_take (i := 23) (v := ?_) rfl (by kernel_rfl) (by kernel_rfl) (by kernel_rfl) (fun _ _ _ h => h) (Or.inl ⟨by kernel_rfl, ?_⟩) hH0 ?_
            rotate_left 1
            · intro w hSw
              go_simp
              try with_reducible rfl
            try simp only [Act.put, List.getElem_toArray, List.getElem_cons_zero, List.getElem_cons_succ, List.setIfInBounds_toArray, List.set_cons_zero, List.set_cons_succ]
            refine wpAnyH_take (i := 24) (v := ?_) rfl (by kernel_rfl) (by kernel_rfl) (by kernel_rfl) (fun _ _ _ h => h) (Or.inl ⟨by kernel_rfl, ?_⟩) hH0 ?_
            rotate_left 1
            · intro w hSw
              go_simp
              try with_reducible rfl
            try simp only [Act.put, List.getElem_toArray, List.getElem_cons_zero, List.getElem_cons_succ, List.setIfInBounds_toArray, List.set_cons_zero, List.set_cons_succ]
            refine wpAnyH_take (i := 25) (v := ?_) rfl (by kernel_rfl) (by kernel_rfl) (by kernel_rfl) (fun _ _ _ h => h) (Or.inl ⟨by kernel_rfl, ?_⟩) hH0 ?_
            rotate_left 1
            · intro w hSw
              go_simp
              try with_reducible rfl
            try simp only [Act.put, List.getElem_toArray, List.getElem_cons_zero, List.getElem_cons_succ, List.setIfInBounds_toArray, List.set_cons_zero, List.set_cons_succ]
            refine wpAnyH_done (by kernel_rfl) ?_ _
            have hb := hH0
            have hl3 : Only [r] w1 W0 := HO.out.trans (Only.of_below hH0)
            have HL3 := Lib.hid hl3
            have hit4 := Hit3.out.keep (hH0.block q.ma Hit3.out.lt.1) (hH0.block r Hit3.out.lt.2.1)
            have Hit4 := Lib.hid hit4
            have hrl : (W0).rangeLeft q.ma r = w2.rangeLeft q.ma r := iter_same Hit3.out hit4
            have Hrl := Lib.hid hrl
            clear hH0 hl3 hb hit4 hrl
            go_wp2_with fail
            go_roundw
            case rel => exact ⟨left.eraseIdx i, (some x), rfl, Hit4.out, Hbo.out.take Hx.out Hpin.out (fun b hb => by obtain rfl := Option.some.inj hb; rw [← Hxu.out, ← Hbu.out]; have := Hlt.out; omega), HL3.out⟩
            case measure => rw [Hrl.out]; exact Hm.out
          · have Hlt := Lib.hid hlt
            refine wp_region_held_drew (S := fun w' => Below w2.heap.size w2 w') (by kernel_rfl) ((Below.refl _ _).drew) (fun hH0 => ?_)
            obtain ⟨W0, hW0⟩ : ∃ W, W = w2.drew := ⟨_, rfl⟩
            rw [← hW0] at hH0 ⊢
            clear hW0
            refine wpAnyH_take (i := 0) (v := ?_) rfl (by kernel_rfl) (by kernel_rfl) (by kernel_rfl) (fun _ _ _ h => h) (Or.inl ⟨by kernel_rfl, ?_⟩) hH0 ?_
            rotate_left 1
            · intro w hSw
              go_simp
              try with_reducible rfl
            try simp only [Act.put, List.getElem_toArray, List.getElem_cons_zero, List.getElem_cons_succ, List.setIfInBounds_toArray, List.set_cons_zero, List.set_cons_succ]
            refine wpAnyH_take (i := 1) (v := ?_) rfl (by kernel_rfl) (by kernel_rfl) (by kernel_rfl) (fun _ _ _ h => h) (Or.inl ⟨by kernel_rfl, ?_⟩) hH0 ?_
            rotate_left 1
            · intro w hSw
              go_simp
              try with_reducible rfl
            try simp only [Act.put, List.getElem_toArray, List.getElem_cons_zero, List.getElem_cons_succ, List.setIfInBounds_toArray, List.set_cons_zero, List.set_cons_succ]
            refine wpAnyH_take (i := 2) (v := ?_) rfl (by kernel_rfl) (by kernel_rfl) (by kernel_rfl) (fun _ _ _ h => h) (Or.inl ⟨by kernel_rfl, ?_⟩) hH0 ?_
            rotate_left 1
            · intro w hSw
              go_simp
              try with_reducible rfl
            try simp only [Act.put, List.getElem_toArray, List.getElem_cons_zero, List.getElem_cons_succ, List.setIfInBounds_toArray, List.set_cons_zero, List.set_cons_succ]
            refine wpAnyH_take (i := 3) (v := ?_) rfl (by kernel_rfl) (by kernel_rfl) (by kernel_rfl) (fun _ _ _ h => h) (Or.inl ⟨by kernel_rfl, ?_⟩) hH0 ?_
            rotate_left 1
            · intro w hSw
              have f0 := (hSw.cell (p := ⟨q.p, 3, none⟩) lp).trans x3
              have f1 := (hSw.cell (p := ⟨x.blk, 34, none⟩) le).trans y34
              have f2 := (hSw.cell (p := ⟨bb.blk, 34, none⟩) lb).trans z34
              go_simp
              try with_reducible rfl
            try simp only [Act.put, List.getElem_toArray, List.getElem_cons_zero, List.getElem_cons_succ, List.setIfInBounds_toArray, List.set_cons_zero, List.set_cons_succ]
            refine wpAnyH_take (i := 4) (v := ?_) rfl (by kernel_rfl) (by kernel_rfl) (by kernel_rfl) (fun _ _ _ h => h) (Or.inl ⟨by kernel_rfl, ?_⟩) hH0 ?_
            rotate_left 1
            · intro w hSw
              go_simp
              try with_reducible rfl
            try simp only [Act.put, List.getElem_toArray, List.getElem_cons_zero, List.getElem_cons_succ, List.setIfInBounds_toArray, List.set_cons_zero, List.set_cons_succ]
            refine wpAnyH_take (i := 5) (v := ?_) rfl (by kernel_rfl) (by kernel_rfl) (by kernel_rfl) (fun _ _ _ h => h) (Or.inl ⟨by kernel_rfl, ?_⟩) hH0 ?_
            rotate_left 1
            · intro w hSw
              go_simp
              try with_reducible rfl
            try simp only [Act.put, List.getElem_toArray, List.getElem_cons_zero, List.getElem_cons_succ, List.setIfInBounds_toArray, List.set_cons_zero, List.set_cons_succ]
            refine wpAnyH_take (i := 6) (v := ?_) rfl (by kernel_rfl) (by kernel_rfl) (by kernel_rfl) (fun _ _ _ h => h) (Or.inl ⟨by kernel_rfl, ?_⟩) hH0 ?_
            rotate_left 1
            · intro w hSw
              go_simp
              try with_reducible rfl
            try simp only [Act.put, List.getElem_toArray, List.getElem_cons_zero, List.getElem_cons_succ, List.setIfInBounds_toArray, List.set_cons_zero, List.set_cons_succ]
            refine wpAnyH_take (i := 7) (v := ?_) rfl (by kernel_rfl) (by kernel_rfl) (by kernel_rfl) (fun _ _ _ h => h) (Or.inl ⟨by kernel_rfl, ?_⟩) hH0 ?_
            rotate_left 1
            · intro w hSw
              go_simp
              try with_reducible rfl
            try simp only [Act.put, List.getElem_toArray, List.getElem_cons_zero, List.getElem_cons_succ, List.setIfInBounds_toArray, List.set_cons_zero, List.set_cons_succ]
            refine wpAnyH_take (i := 8) (v := _) rfl (by kernel_rfl) (by kernel_rfl) (by kernel_rfl) (fun _ _ _ h => h) (yieldsIf_load_mid (by kernel_rfl) _ _ rfl _ _ rfl ic _ (fun W hW => range_below rn hW le) dund rfl dix) hH0 ?_
            try simp only [Act.put, List.getElem_toArray, List.getElem_cons_zero, List.getElem_cons_succ, List.setIfInBounds_toArray, List.set_cons_zero, List.set_cons_succ]
            refine wpAnyH_take (i := 9) (v := _) rfl (by kernel_rfl) (by kernel_rfl) (by kernel_rfl) (fun _ _ _ h => h) (yieldsIf_lookup (by kernel_rfl) 118 (.tmp 17) (.tmp 22) rfl (.bool false) (fun W hW => hpl.out W hW)) hH0 ?_
            try simp only [Act.put, List.getElem_toArray, List.getElem_cons_zero, List.getElem_cons_succ, List.setIfInBounds_toArray, List.set_cons_zero, List.set_cons_succ]
            refine wpAnyH_take (i := 10) (v := ?_) rfl (by kernel_rfl) (by kernel_rfl) (by kernel_rfl) (fun _ _ _ h => h) (Or.inl ⟨by kernel_rfl, ?_⟩) hH0 ?_
            rotate_left 1
            · intro w hSw
              go_simp
              try with_reducible rfl
            try simp only [Act.put, List.getElem_toArray, List.getElem_cons_zero, List.getElem_cons_succ, List.setIfInBounds_toArray, List.set_cons_zero, List.set_cons_succ]
            refine wpAnyH_take (i := 11) (v := ?_) rfl (by kernel_rfl) (by kernel_rfl) (by kernel_rfl) (fun _ _ _ h => h) (Or.inl ⟨by kernel_rfl, ?_⟩) hH0 ?_
            rotate_left 1
            · intro w hSw
              go_simp
              try with_reducible rfl
            try simp only [Act.put, List.getElem_toArray, List.getElem_cons_zero, List.getElem_cons_succ, List.setIfInBounds_toArray, List.set_cons_zero, List.set_cons_succ]
            refine wpAnyH_take (i := 12) (v := ?_) rfl (by kernel_rfl) (by kernel_rfl) (by kernel_rfl) (fun _ _ _ h => h) (Or.inl ⟨by kernel_rfl, ?_⟩) hH0 ?_
            rotate_left 1
            · intro w hSw
              go_simp
              try with_reducible rfl
            try simp only [Act.put, List.getElem_toArray, List.getElem_cons_zero, List.getElem_cons_succ, List.setIfInBounds_toArray, List.set_cons_zero, List.set_cons_succ]
            refine wpAnyH_take (i := 13) (v := ?_) rfl (by kernel_rfl) (by kernel_rfl) (by kernel_rfl) (fun _ _ _ h => h) (Or.inl ⟨by kernel_rfl, ?_⟩) hH0 ?_
            rotate_left 1
            · intro w hSw
              go_simp
              try with_reducible rfl
            try simp only [Act.put, List.getElem_toArray, List.getElem_cons_zero, List.getElem_cons_succ, List.setIfInBounds_toArray, List.set_cons_zero, List.set_cons_succ]
            refine wpAnyH_take (i := 14) (v := ?_) rfl (by kernel_rfl) (by kernel_rfl) (by kernel_rfl) (fun _ _ _ h => h) (Or.inl ⟨by kernel_rfl, ?_⟩) hH0 ?_
            rotate_left 1
            · intro w hSw
              go_simp
              try with_reducible rfl
            try simp only [Act.put, List.getElem_toArray, List.getElem_cons_zero, List.getElem_cons_succ, List.setIfInBounds_toArray, List.set_cons_zero, List.set_cons_succ]
            refine wpAnyH_take (i := 15) (v := ?_) rfl (by kernel_rfl) (by kernel_rfl) (by kernel_rfl) (fun _ _ _ h => h) (Or.inl ⟨by kernel_rfl, ?_⟩) hH0 ?_
            rotate_left 1
            · intro w hSw
              go_simp
              try with_reducible rfl
            try simp only [Act.put, List.getElem_toArray, List.getElem_cons_zero, List.getElem_cons_succ, List.setIfInBounds_toArray, List.set_cons_zero, List.set_cons_succ]
            refine wpAnyH_take (i := 16) (v := ?_) rfl (by kernel_rfl) (by kernel_rfl) (by kernel_rfl) (fun _ _ _ h => h) (Or.inl ⟨by kernel_rfl, ?_⟩) hH0 ?_
            rotate_left 1
            · intro w hSw
              go_simp
              try with_reducible rfl
            try simp only [Act.put, List.getElem_toArray, List.getElem_cons_zero, List.getElem_cons_succ, List.setIfInBounds_toArray, List.set_cons_zero, List.set_cons_succ]
            refine wpAnyH_take (i := 17) (v := ?_) rfl (by kernel_rfl) (by kernel_rfl) (by kernel_rfl) (fun _ _ _ h => h) (Or.inl ⟨by kernel_rfl, ?_⟩) hH0 ?_
            rotate_left 1
            · intro w hSw
              go_simp
              try with_reducible rfl
            try simp only [Act.put, List.getElem_toArray, List.getElem_cons_zero, List.getElem_cons_succ, List.setIfInBounds_toArray, List.set_cons_zero, List.set_cons_succ]
            refine wpAnyH_take (i := 18) (v := ?_) rfl (by kernel_rfl) (by kernel_rfl) (by kernel_rfl) (fun _ _ _ h => h) (Or.inl ⟨by kernel_rfl, ?_⟩) hH0 ?_
            rotate_left 1
            · intro w hSw
              have f0 := (hSw.cell (p := ⟨q.p, 3, none⟩) lp).trans x3
              have f1 := (hSw.cell (p := ⟨x.blk, 34, none⟩) le).trans y34
              have f2 := (hSw.cell (p := ⟨bb.blk, 34, none⟩) lb).trans z34
              go_simp
              try with_reducible rfl
            try simp only [Act.put, List.getElem_toArray, List.getElem_cons_zero, List.getElem_cons_succ, List.setIfInBounds_toArray, List.set_cons_zero, List.set_cons_succ]
            refine wpAnyH_take (i := 19) (v := ?_) rfl (by kernel_rfl) (by kernel_rfl) (by kernel_rfl) (fun _ _ _ h => h) (Or.inl ⟨by kernel_rfl, ?_⟩) hH0 ?_
            rotate_left 1
            · intro w hSw
              go_simp
              try with_reducible rfl
            try simp only [Act.put, List.getElem_toArray, List.getElem_cons_zero, List.getElem_cons_succ, List.setIfInBounds_toArray, List.set_cons_zero, List.set_cons_succ]
            refine wpAnyH_take (i := 20) (v := ?_) rfl (by kernel_rfl) (by kernel_rfl) (by kernel_rfl) (fun _ _ _ h => h) (Or.inl ⟨by kernel_rfl, ?_⟩) hH0 ?_
            rotate_left 1
            · intro w hSw
              go_simp
              try with_reducible rfl
            try simp only [Act.put, List.getElem_toArray, List.getElem_cons_zero, List.getElem_cons_succ, List.setIfInBounds_toArray, List.set_cons_zero, List.set_cons_succ]
            refine wpAnyH_take (i := 21) (v := ?_) rfl (by kernel_rfl) (by kernel_rfl) (by kernel_rfl) (fun _ _ _ h => h) (Or.inl ⟨by kernel_rfl, ?_⟩) hH0 ?_
            rotate_left 1
            · intro w hSw
              go_simp
              try with_reducible rfl
            try simp only [Act.put, List.getElem_toArray, List.getElem_cons_zero, List.getElem_cons_succ, List.setIfInBounds_toArray, List.set_cons_zero, List.set_cons_succ]
            refine wpAnyH_take (i := 22) (v := ?_) rfl (by kernel_rfl) (by kernel_rfl) (by kernel_rfl) (fun _ _ _ h => h) (Or.inl ⟨by kernel_rfl, ?_⟩) hH0 ?_
            rotate_left 1
            · intro w hSw
              have f0 := (hSw.cell (p := ⟨q.p, 3, none⟩) lp).trans x3
              have f1 := (hSw.cell (p := ⟨x.blk, 34, none⟩) le).trans y34
              have f2 := (hSw.cell (p := ⟨bb.blk, 34, none⟩) lb).trans z34
              go_simp
              try with_reducible rfl
            try simp only [Act.put, List.getElem_toArray, List.getElem_cons_zero, List.getElem_cons_succ, List.setIfInBounds_toArray, List.set_cons_zero, List.set_cons_succ]
            refine wpAnyH_take (i := 23) (v := ?_) rfl (by kernel_rfl) (by kernel_rfl) (by kernel_rfl) (fun _ _ _ h => h) (Or.inl ⟨by kernel_rfl, ?_⟩) hH0 ?_
            rotate_left 1
            · intro w hSw
              go_simp
              try with_reducible rfl
            try simp only [Act.put, List.getElem_toArray, List.getElem_cons_zero, List.getElem_cons_succ, List.setIfInBounds_toArray, List.set_cons_zero, List.set_cons_succ]
            refine wpAnyH_take (i := 24) (v := ?_) rfl (by kernel_rfl) (by kernel_rfl) (by kernel_rfl) (fun _ _ _ h => h) (Or.inl ⟨by kernel_rfl, ?_⟩) hH0 ?_
            rotate_left 1
            · intro w hSw
              go_simp
              try with_reducible rfl
            try simp only [Act.put, List.getElem_toArray, List.getElem_cons_zero, List.getElem_cons_succ, List.setIfInBounds_toArray, List.set_cons_zero, List.set_cons_succ]
            refine wpAnyH_take (i := 25) (v := ?_) rfl (by kernel_rfl) (by kernel_rfl) (by kernel_rfl) (fun _ _ _ h => h) (Or.inl ⟨by kernel_rfl, ?_⟩) hH0 ?_
            rotate_left 1
            · intro w hSw
              go_simp
              try with_reducible rfl
            try simp only [Act.put, List.getElem_toArray, List.getElem_cons_zero, List.getElem_cons_succ, List.setIfInBounds_toArray, List.set_cons_zero, List.set_cons_succ]
            refine wpAnyH_done (by kernel_rfl) ?_ _
            have hb := hH0
            have hl3 : Only [r] w1 W0 := HO.out.trans (Only.of_below hH0)
            have HL3 := Lib.hid hl3
            have hit4 := Hit3.out.keep (hH0.block q.ma Hit3.out.lt.1) (hH0.block r Hit3.out.lt.2.1)
            have Hit4 := Lib.hid hit4
            have hrl : (W0).rangeLeft q.ma r = w2.rangeLeft q.ma r := iter_same Hit3.out hit4
            have Hrl := Lib.hid hrl
            clear hH0 hl3 hb hit4 hrl
            go_wp2_with fail
            go_roundw
            case rel => exact ⟨left.eraseIdx i, (some bb), rfl, Hit4.out, Hbo.out.skip Hx.out (.inr ⟨bb, rfl, by rw [← Hxu.out, ← Hbu.out]; have := Hlt.out; omega⟩), HL3.out⟩
            case measure => rw [Hrl.out]; exact Hm.out
end Go.Proofs.YteihfoacdocgkaaDoor
