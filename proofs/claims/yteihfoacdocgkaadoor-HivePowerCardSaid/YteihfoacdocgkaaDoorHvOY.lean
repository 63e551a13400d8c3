/-
  Layer 5 (hive): Open over a shelf whose slots hold whatever texts; reading the text of a blob.
-/
import Derived.Test.YteihfoacdocgkaaDoorHvCJ
import Derived.Maps.Range
set_option linter.unusedVariables false
set_option linter.unusedSimpArgs false
namespace Go.Proofs.YteihfoacdocgkaaDoor
open Go.RowKit Pl Sh Go.MapKept Go.ChangeMaps
attribute [local go_sem] Lb.ba_get Lb.ba_cut Lb.ba_add Lb.ba_size Lb.take_rest

/-! ### ranging over a map that is a list -/
/-- block r is an iterator over the map in block b, which has the keys and values l; left: those that are still to come, in their order -/
structure IterAt {κ : Type} (kv : κ → Value) (ok : κ → Prop) (w : World) (b r : Nat) (l left : List (κ × Value)) : Prop where
  ex : ∃ es clk since seen c0, w.heap[b]? = some (.map es clk) ∧ es.toList.map (fun e => (e.key, e.val)) = l.map (fun p => (kv p.1, p.2)) ∧ Stamped es clk ∧
    w.heap[r]? = some (.mapIter (some b) since seen c0) ∧ (∀ x ∈ es.toList, x.born < since) ∧ since ≤ c0 ∧ since ≤ clk ∧ (leftOf es seen).toList.map (fun e => (e.key, e.val)) = left.map (fun p => (kv p.1, p.2))
  good : ∀ p ∈ l, ok p.1

section
variable {κ : Type} {kv : κ → Value} {ok : κ → Prop} {k t e : TypeId} {w : World} {b r : Nat} {l left : List (κ × Value)}
theorem IterAt.lt (h : IterAt kv ok w b r l left) : b < w.heap.size ∧ r < w.heap.size ∧ r ≠ b := by
  obtain ⟨⟨es, clk, since, seen, c0, h1, h2, h3, h4, -⟩, hg⟩ := h
  exact ⟨heap_lt h1, heap_lt h4, fun e => by rw [e, h1] at h4; cases h4⟩
theorem IterAt.keep {w' : World} (h : IterAt kv ok w b r l left) (hb : w'.heap[b]? = w.heap[b]?) (hr : w'.heap[r]? = w.heap[r]?) : IterAt kv ok w' b r l left := by
  obtain ⟨⟨es, clk, since, seen, c0, h1, h2, h3, h4, h5⟩, hg⟩ := h
  exact ⟨⟨es, clk, since, seen, c0, hb.trans h1, h2, h3, hr.trans h4, h5⟩, hg⟩
theorem filter_born (L : List MapEntry) (hn : (L.map (·.born)).Nodup) (i : Nat) (x : MapEntry) (hi : L[i]? = some x) : L.filter (fun y => !(y.born == x.born)) = L.eraseIdx i := by
  induction L generalizing i with
  | nil => simp at hi
  | cons y L ih =>
    rw [List.map_cons, List.nodup_cons] at hn
    cases i with
    | zero =>
      have e1 : y = x := by simpa using hi
      subst e1
      rw [List.filter_cons_of_neg (by simp), List.eraseIdx_cons_zero]
      exact List.filter_eq_self.2 (fun z hz => by
        have : z.born ≠ y.born := fun e => hn.1 (e ▸ List.mem_map.2 ⟨z, hz, rfl⟩)
        simpa using this)
    | succ i =>
      have hi' : L[i]? = some x := by simpa using hi
      have hne : y.born ≠ x.born := fun e => hn.1 (e ▸ List.mem_map.2 ⟨x, List.mem_of_getElem? hi', rfl⟩)
      rw [List.filter_cons_of_pos (by simpa using hne), List.eraseIdx_cons_succ, ih hn.2 i hi']
theorem MapAt.iter (h : MapAt kv ok w b l) : ∃ clk, IterAt kv ok (w.alloc (.mapIter (some b) clk #[] clk)) b w.heap.size l l ∧ ∀ t k e, Tryd.prog.underlying t = some (.map k e) → (Instr.range t (.map (some b))).run Tryd.prog w = .ok (.pointer (some ⟨w.heap.size, 0, none⟩)) (w.alloc (.mapIter (some b) clk #[] clk)) := by
  have hlt := h.lt
  obtain ⟨⟨es, clk, h1, h2, h3⟩, hg⟩ := h
  refine ⟨clk, ⟨⟨es, clk, clk, #[], clk, (heap_alloc_old w _ hlt).trans h1, h2, h3, heap_alloc_new w _, h3.1, Nat.le_refl _, Nat.le_refl _, ?_⟩, hg⟩, fun t k e ht => run_range_map w t k e b es clk ht h1⟩
  have : leftOf es #[] = es := by simp [leftOf]
  rw [this, h2]
theorem IterAt.next (h : IterAt kv ok w b r l left) (ty : TypeId) :
    (left = [] ∧ (Instr.next (.pointer (some ⟨r, 0, none⟩)) false ty).run Tryd.prog w = .ok (.tuple #[.bool false]) w) ∨
    ∃ i p w', left[i]? = some p ∧ (Instr.next (.pointer (some ⟨r, 0, none⟩)) false ty).run Tryd.prog w = .ok (.tuple #[.bool true, kv p.1, p.2]) w' ∧ IterAt kv ok w' b r l (left.eraseIdx i) ∧ Only [r] w w' ∧
      (Instr.entry (.pointer (some ⟨r, 0, none⟩))).run Tryd.prog w' = .ok (.tuple #[kv p.1, p.2]) w' := by
  obtain ⟨hbl, hrl, hrb⟩ := h.lt
  obtain ⟨⟨es, clk, since, seen, c0, h1, h2, h3, h4, h5, h6, h7, h8⟩, hg⟩ := h
  rcases run_next_at (P := Tryd.prog) w ty r b since c0 seen es clk h4 h1 h5 h6 with ⟨h0, hrun⟩ | ⟨x, hx, w1, hw1, hrun⟩
  · refine .inl ⟨?_, hrun⟩
    have : (leftOf es seen).toList = [] := by
      apply List.eq_nil_of_length_eq_zero
      simpa using h0
    rw [this] at h8
    simpa using h8.symm
  · obtain ⟨i, hi⟩ := List.mem_iff_getElem?.1 hx
    have hli : ((leftOf es seen).toList.map (fun e => (e.key, e.val)))[i]? = some (x.key, x.val) := by rw [List.getElem?_map, hi]; rfl
    rw [h8, List.getElem?_map] at hli
    obtain ⟨p, hp, hpe⟩ := Option.map_eq_some_iff.1 hli
    simp only [Prod.mk.injEq] at hpe
    have hxe : x ∈ es.toList := by
      have : x ∈ (es.filter fun e => !seen.contains e.born).toList := hx
      rw [Array.toList_filter] at this
      exact (List.mem_filter.1 this).1
    have hw1b : w1.heap[b]? = some (.map es clk) := by rcases hw1 with rfl | rfl <;> exact h1
    have hw1r : r < w1.heap.size := by rcases hw1 with rfl | rfl <;> exact hrl
    have hb' : (setBlock w1 r (.mapIter (some b) since (seen.push x.born) clk)).heap[b]? = some (.map es clk) := by
      have := (only_setBlock (w := w1) (b := r) (o := .mapIter (some b) since (seen.push x.born) clk)).block b (heap_lt hw1b) (by simpa using fun e => hrb e.symm)
      rw [this, hw1b]
    have hr' := heap_setBlock (w := w1) (b := r) (o := .mapIter (some b) since (seen.push x.born) clk) hw1r
    have hO1 : Only [r] w w1 := by
      rcases hw1 with rfl | rfl
      · exact Only.refl _ _
      · exact (Only.refl _ _).drew
    refine .inr ⟨i, p, _, hp, by rw [hpe.1, hpe.2]; exact hrun, ⟨⟨es, clk, since, seen.push x.born, clk, hb', h2, h3, hr', h5, h7, h7, ?_⟩, hg⟩, hO1.trans only_setBlock, ?_⟩
    · have hf : (leftOf es (seen.push x.born)).toList = (leftOf es seen).toList.filter (fun y => !(y.born == x.born)) := by
        unfold leftOf
        rw [Array.toList_filter, Array.toList_filter, List.filter_filter]
        refine List.filter_congr (fun y hy => ?_)
        rw [Array.contains_push]
        cases seen.contains y.born <;> cases hq : (y.born == x.born) <;> simp [hq]
      have hnd : ((leftOf es seen).toList.map (·.born)).Nodup := by
        unfold leftOf
        rw [Array.toList_filter]
        exact List.Nodup.sublist (List.Sublist.map _ List.filter_sublist) h3.2.1
      rw [hf, filter_born _ hnd i x hi, Go.ChangeMaps.map_eraseIdx, h8, Go.ChangeMaps.map_eraseIdx]
    · rw [hpe.1, hpe.2]
      exact run_entry_at _ r b since seen es clk x hr' hb' hxe h3.2.1
end
theorem iter_size {κ : Type} {kv : κ → Value} {ok : κ → Prop} {w : World} {b r : Nat} {l left : List (κ × Value)} (h : IterAt kv ok w b r l left) : w.rangeLeft b r = left.length := by
  obtain ⟨⟨es, clk, since, seen, c0, h1, h2, h3, h4, h5, h6, h7, h8⟩, hg⟩ := h
  simp only [World.rangeLeft, h1, h4]
  have := congrArg List.length h8
  simpa using this
theorem iter_less {w w' : World} {b r i : Nat} {l : List ((Bool × List UInt8) × Value)} {L : List HEnt} (h : IterAt nameV (fun n => n.2.length = 32) w b r l (keysOf L)) (h' : IterAt nameV (fun n => n.2.length = 32) w' b r l (keysOf (L.eraseIdx i))) (hi : i < L.length) : w'.rangeLeft b r < w.rangeLeft b r := by
  rw [iter_size h, iter_size h']
  unfold keysOf
  rw [List.length_map, List.length_map, List.length_eraseIdx_of_lt hi]
  omega
theorem iter_same {κ : Type} {kv : κ → Value} {ok : κ → Prop} {w w' : World} {b r : Nat} {l left : List (κ × Value)} (h : IterAt kv ok w b r l left) (h' : IterAt kv ok w' b r l left) : w'.rangeLeft b r = w.rangeLeft b r := by
  rw [iter_size h, iter_size h']
theorem wpList_rangeR {P : Program} {ops : Array Oper} {rest : List Oper} {o : Oper} {a : Act} {w w' : World} {Q : Exit → Act → World → Prop} (hg : o.guard = none) (t : TypeId) (m : Operand) (ho : o.op = .range t m) (v : Value)
    (hr : (Instr.range t (a.eval m)).run P w = .ok v w') (h : wpList P ops Q rest (a.put o.dst v) w') : wpList P ops Q (o :: rest) a w := by
  refine wpList_plain hg fun K' hK' => ?_
  unfold Oper.wp
  simp [execOp, ho, hr, Result.andThen]
  exact hK' _ _ h
theorem wpList_nextR {P : Program} {ops : Array Oper} {rest : List Oper} {o : Oper} {a : Act} {w w' : World} {Q : Exit → Act → World → Prop} (hg : o.guard = none) (m : Operand) (ho : o.op = .next m false) (v : Value)
    (hr : (Instr.next (a.eval m) false o.type).run P w = .ok v w') (h : wpList P ops Q rest (a.put o.dst v) w') : wpList P ops Q (o :: rest) a w := by
  refine wpList_plain hg fun K' hK' => ?_
  unfold Oper.wp
  simp [execOp, ho, hr, Result.andThen]
  exact hK' _ _ h
theorem wpList_entryR {P : Program} {ops : Array Oper} {rest : List Oper} {o : Oper} {a : Act} {w : World} {Q : Exit → Act → World → Prop} (hg : o.guard = none) (m : Operand) (ho : o.op = .entry m) (v : Value)
    (hr : (Instr.entry (a.eval m)).run P w = .ok v w) (h : wpList P ops Q rest (a.put o.dst v) w) : wpList P ops Q (o :: rest) a w := by
  refine wpList_plain hg fun K' hK' => ?_
  unfold Oper.wp
  simp [execOp, ho, hr, Result.andThen]
  exact hK' _ _ h
theorem wp_deleteR {P : Program} {op : Oper} {a : Act} {w w' : World} {K : Act → World → Prop} {Q : Exit → Act → World → Prop} (t t2 : TypeId) (m x : Operand) (ho : op.op = .call { callee := .builtin .delete, args := #[m, x], argTypes := #[t, t2] })
    (hr : (Builtin.delete_ #[t, t2] op.type #[a.eval m, a.eval x]).run P w = .ok (.tuple #[]) w') (h : K (a.put op.dst (.tuple #[])) w') : op.wp P a w K Q := by
  unfold Oper.wp
  simp [execOp, ho, resolve, invoke, builtin, hr, Result.andThen]
  exact h
theorem pw_idx {κ : Type} : ∀ {l : List (κ × Value)}, l.Pairwise (fun p q => p.1 ≠ q.1) → ∀ {i j : Nat} {x y : κ × Value}, l[i]? = some x → l[j]? = some y → x.1 = y.1 → i = j
  | [], _, i, j, x, y, hi, _, _ => by simp at hi
  | a :: l, hp, i, j, x, y, hi, hj, he => by
    obtain ⟨h1, h2⟩ := List.pairwise_cons.1 hp
    cases i with
    | zero =>
      cases j with
      | zero => rfl
      | succ j =>
        have e1 : a = x := by simpa using hi
        have hj' : l[j]? = some y := by simpa using hj
        exact absurd (e1 ▸ he) (h1 y (List.mem_of_getElem? hj'))
    | succ i =>
      have hi' : l[i]? = some x := by simpa using hi
      cases j with
      | zero =>
        have e1 : a = y := by simpa using hj
        exact absurd (e1 ▸ he.symm) (h1 x (List.mem_of_getElem? hi'))
      | succ j =>
        have hj' : l[j]? = some y := by simpa using hj
        rw [pw_idx h2 hi' hj' he]
theorem hv_remove {w w2 : World} {q : HvP} {d : HvD} {j : Nat} (h : HvAt w q d) (hO : Only [q.ma, q.mt] w w2) (h1 : MapAt nameV (fun n => n.2.length = 32) w2 q.ma (keysOf (d.L.eraseIdx j))) (h2 : MapAt intK (fun n => n < 1000000) w2 q.mt (slotsOf (d.L.eraseIdx j))) :
    HvAt w2 q { d with L := d.L.eraseIdx j } := by
  obtain ⟨a1, a2, a3, a4, a5, a6, a7, a8, a9, a10, a11, a12, a13, a14, a15⟩ := own_six h.nd
  obtain ⟨n1, n2⟩ := own_nd h.nd
  have hm : ∀ e ∈ d.L.eraseIdx j, e ∈ d.L := fun e he => List.mem_of_mem_eraseIdx he
  refine ⟨hO.keep h.hp (by simp; exact ⟨a1, a2⟩), h1, h2, h.pin.keep (hO.block q.mp h.pin.lt (by simp; exact ⟨a7.symm, a10.symm⟩)), fun e he => hO.keep (h.ents e (hm e he)) (by simp; exact ⟨(n2 e (hm e he)).2.1, (n2 e (hm e he)).2.2.1⟩), fun e he => h.fit e (hm e he),
    ⟨hO.keep h.sh.pw (by simp; exact ⟨a8.symm, a11.symm⟩), hO.keep h.sh.slots (by simp; exact ⟨a9.symm, a12.symm⟩), h.sh.ne, h.sh.len⟩, ?_⟩
  have hs : (q.own (d.L.eraseIdx j)).Sublist (q.own d.L) := by
    unfold HvP.own
    exact ((((((List.eraseIdx_sublist d.L j).map _).cons_cons _).cons_cons _).cons_cons _).cons_cons _).cons_cons _ |>.cons_cons _
  exact h.nd.sublist hs

set_option maxHeartbeats 4000000 in
set_option maxRecDepth 100000 in
theorem remove_any (q : HvP) (d : HvD) (j : Nat) (e : HEnt) (w : World) (h : HvAt w q d) (hj : d.L[j]? = some e) :
    Calls Tryd.prog 128 #[.pointer (some ⟨q.p, 0, none⟩), .pointer (some ⟨e.blk, 0, none⟩)] w fun r w' => r = .returned (.tuple #[]) ∧ HvAt w' q { d with L := d.L.eraseIdx j } ∧ Only [q.ma, q.mt] w w' := by
  have he := List.mem_of_getElem? hj
  have hf := h.fit e he
  obtain ⟨-, x1, x2, -⟩ := hv_cells h
  obtain ⟨y33, -, -, -⟩ := ent_cells hf (h.ents e he)
  have lp : q.p < w.heap.size := heap_lt h.hp
  have le : e.blk < w.heap.size := heap_lt (h.ents e he)
  obtain ⟨a1, a2, a3, a4, a5, a6, -⟩ := own_six h.nd
  obtain ⟨-, n2⟩ := own_nd h.nd
  have nma : q.p ∉ [q.ma] := by simpa using a1
  have nea : e.blk ∉ [q.ma] := by simpa using (n2 e he).2.1
  have np2 : q.p ∉ [q.ma, q.mt] := by simp; exact ⟨a1, a2⟩
  have ne2 : e.blk ∉ [q.ma, q.mt] := by simp; exact ⟨(n2 e he).2.1, (n2 e he).2.2.1⟩
  have rn : w.rangeAt e.blk 0 (Value.bool e.isB :: byV e.id) := fun k v hv => by
    rw [Nat.zero_add, Lib.cell_of_heap (h.ents e he), List.getElem?_toArray]
    unfold HEnt.cells
    rw [List.getElem?_append_left (List.getElem?_eq_some_iff.1 hv).1]; exact hv
  have ndix : (Tryd.prog.info? 127).map (·.size) = some (Value.bool e.isB :: byV e.id).length := by rw [name_info]; simp [byV_length, hf.1]
  have nund := Tryd.underlying127
  have hk1 : (keysOf d.L)[j]? = some ((e.isB, e.id), .pointer (some ⟨e.blk, 0, none⟩)) := by unfold keysOf; rw [List.getElem?_map, hj]; rfl
  have hk2 : (slotsOf d.L)[j]? = some (e.at_, .bool true) := by unfold slotsOf; rw [List.getElem?_map, hj]; rfl
  have hap := h.all.apart name_fam
  have hap2 := h.taken.apart int_fam
  have H := Lib.hid h
  have Hk1 := Lib.hid hk1
  have Hk2 := Lib.hid hk2
  have Hap := Lib.hid hap
  have Hap2 := Lib.hid hap2
  have Hnt : Hid (q.mt ≠ q.ma) := Lib.hid (fun e => a6 e.symm)
  have hnv : nameV (e.isB, e.id) = .agg (Value.bool e.isB :: byV e.id).toArray := rfl
  obtain ⟨nl, hnl⟩ : ∃ x, x = (Value.bool e.isB :: byV e.id) := ⟨_, rfl⟩
  rw [← hnl] at rn ndix hnv
  have Hnv := Lib.hid hnv
  obtain ⟨at9, hat⟩ : ∃ x, x = e.at_ := ⟨_, rfl⟩
  rw [← hat] at y33
  have Hat := Lib.hid hat
  clear h hj he hf hk1 hk2 hap hap2 hnl hnv hat a1 a2 a3 a4 a5 a6 n2
  go_enter Tryd.func128, Tryd.ntmps128
  go_upto_region 0 with fail
  refine wp_region_held_drew (S := fun w' => Only [q.ma] w w') (by kernel_rfl) ((Only.refl _ _).drew) (fun hH0 => ?_)
  obtain ⟨W0, hW0⟩ : ∃ W, W = w.drew := ⟨_, rfl⟩
  have hall0 : Hid (MapAt nameV (fun n => n.2.length = 32) W0 q.ma (keysOf d.L)) := Lib.hid (by rw [hW0]; exact H.out.all.keep rfl)
  rw [← hW0] at hH0 ⊢
  clear hW0
  refine wpAnyH_take (i := 0) (v := ?_) rfl (by kernel_rfl) (by kernel_rfl) (by kernel_rfl) (fun _ _ _ h => h) (Or.inl ⟨by kernel_rfl, ?_⟩) hH0 ?_
  rotate_left 1
  · intro w hSw
    go_simp
    try with_reducible rfl
  try simp only [Act.put, List.getElem_toArray, List.getElem_cons_zero, List.getElem_cons_succ, List.setIfInBounds_toArray, List.set_cons_zero, List.set_cons_succ]
  refine wpAnyH_take (i := 1) (v := ?_) rfl (by kernel_rfl) (by kernel_rfl) (by kernel_rfl) (fun _ _ _ h => h) (Or.inl ⟨by kernel_rfl, ?_⟩) hH0 ?_
  rotate_left 1
  · intro w hSw
    go_simp
    try with_reducible rfl
  try simp only [Act.put, List.getElem_toArray, List.getElem_cons_zero, List.getElem_cons_succ, List.setIfInBounds_toArray, List.set_cons_zero, List.set_cons_succ]
  refine wpAnyH_take (i := 2) (v := ?_) rfl (by kernel_rfl) (by kernel_rfl) (by kernel_rfl) (fun _ _ _ h => h) (Or.inl ⟨by kernel_rfl, ?_⟩) hH0 ?_
  rotate_left 1
  · intro w hSw
    go_simp
    try with_reducible rfl
  try simp only [Act.put, List.getElem_toArray, List.getElem_cons_zero, List.getElem_cons_succ, List.setIfInBounds_toArray, List.set_cons_zero, List.set_cons_succ]
  refine wpAnyH_take (i := 3) (v := ?_) rfl (by kernel_rfl) (by kernel_rfl) (by kernel_rfl) (fun _ _ _ h => h) (Or.inl ⟨by kernel_rfl, ?_⟩) hH0 ?_
  rotate_left 1
  · intro w hSw
    have f0 := (hSw.cell (p := ⟨q.p, 1, none⟩) lp nma).trans x1
    go_simp
    try with_reducible rfl
  try simp only [Act.put, List.getElem_toArray, List.getElem_cons_zero, List.getElem_cons_succ, List.setIfInBounds_toArray, List.set_cons_zero, List.set_cons_succ]
  refine wpAnyH_take (i := 4) (v := ?_) rfl (by kernel_rfl) (by kernel_rfl) (by kernel_rfl) (fun _ _ _ h => h) (Or.inl ⟨by kernel_rfl, ?_⟩) hH0 ?_
  rotate_left 1
  · intro w hSw
    go_simp
    try with_reducible rfl
  try simp only [Act.put, List.getElem_toArray, List.getElem_cons_zero, List.getElem_cons_succ, List.setIfInBounds_toArray, List.set_cons_zero, List.set_cons_succ]
  refine wpAnyH_take (i := 5) (v := ?_) rfl (by kernel_rfl) (by kernel_rfl) (by kernel_rfl) (fun _ _ _ h => h) (Or.inl ⟨by kernel_rfl, ?_⟩) hH0 ?_
  rotate_left 1
  · intro w hSw
    go_simp
    try with_reducible rfl
  try simp only [Act.put, List.getElem_toArray, List.getElem_cons_zero, List.getElem_cons_succ, List.setIfInBounds_toArray, List.set_cons_zero, List.set_cons_succ]
  refine wpAnyH_take (i := 6) (v := ?_) rfl (by kernel_rfl) (by kernel_rfl) (by kernel_rfl) (fun _ _ _ h => h) (Or.inl ⟨by kernel_rfl, ?_⟩) hH0 ?_
  rotate_left 1
  · intro w hSw
    go_simp
    try with_reducible rfl
  try simp only [Act.put, List.getElem_toArray, List.getElem_cons_zero, List.getElem_cons_succ, List.setIfInBounds_toArray, List.set_cons_zero, List.set_cons_succ]
  refine wpAnyH_take (i := 7) (v := _) rfl (by kernel_rfl) (by kernel_rfl) (by kernel_rfl) (fun _ _ _ h => h) (yieldsIf_load_mid (by kernel_rfl) _ _ rfl _ _ rfl nl _ (fun W hW => range_onlyH rn hW ⟨le, nea⟩) nund rfl ndix) hH0 ?_
  try simp only [Act.put, List.getElem_toArray, List.getElem_cons_zero, List.getElem_cons_succ, List.setIfInBounds_toArray, List.set_cons_zero, List.set_cons_succ]
  refine wpAnyH_ready (rs := [8]) (by kernel_rfl) (by simp) ?_
  refine AllReadyH.cons rfl (fun K_ hK => ?_) ?_
  · rw [if_pos (by rfl)]
    obtain ⟨W1, j1, hrun1, hl1, hput1, hOp1⟩ := hall0.out.del name_fam Tryd.underlying116 (List.mem_of_getElem? Hk1.out) 127 0
    rw [Hnv.out] at hrun1
    obtain rfl := (pw_idx Hap.out hl1 Hk1.out rfl).symm
    refine wp_deleteR 116 127 _ _ rfl hrun1 ?_
    have HPut := Lib.hid hput1
    have HOp := Lib.hid hOp1
    clear hrun1 hput1 hOp1 hl1 hall0
    refine hK.out _ _ ((hH0).trans HOp.out) (fun hH1 => ?_)
    clear hK K_
    try simp only [Act.put, List.getElem_toArray, List.getElem_cons_zero, List.getElem_cons_succ, List.setIfInBounds_toArray, List.set_cons_zero, List.set_cons_succ]
    refine wpAnyH_done (by kernel_rfl) ?_ _
    have HH := Lib.hid hH1
    obtain ⟨w2, hw2⟩ : ∃ y, y = W1 := ⟨_, rfl⟩
    rw [← hw2] at HH HPut ⊢
    clear hH1 hw2
    go_upto_region 1 with fail
    refine wp_region_held_drew (S := fun w' => Only [q.ma, q.mt] w w') (by kernel_rfl) ((HH.out.mono (by simp)).drew) (fun hH0 => ?_)
    obtain ⟨W0, hW0⟩ : ∃ W, W = w2.drew := ⟨_, rfl⟩
    have htk0 : Hid (MapAt intK (fun n => n < 1000000) W0 q.mt (slotsOf d.L)) := Lib.hid (by rw [hW0]; exact (H.out.taken.keep (HH.out.block q.mt H.out.taken.lt (by simpa using Hnt.out))).keep rfl)
    have hall1 : Hid (MapAt nameV (fun n => n.2.length = 32) W0 q.ma ((keysOf d.L).eraseIdx j)) := Lib.hid (by rw [hW0]; exact HPut.out.keep rfl)
    rw [← hW0] at hH0 ⊢
    clear hW0
    refine wpAnyH_take (i := 0) (v := ?_) rfl (by kernel_rfl) (by kernel_rfl) (by kernel_rfl) (fun _ _ _ h => h) (Or.inl ⟨by kernel_rfl, ?_⟩) hH0 ?_
    rotate_left 1
    · intro w hSw
      go_simp
      try with_reducible rfl
    try simp only [Act.put, List.getElem_toArray, List.getElem_cons_zero, List.getElem_cons_succ, List.setIfInBounds_toArray, List.set_cons_zero, List.set_cons_succ]
    refine wpAnyH_take (i := 1) (v := ?_) rfl (by kernel_rfl) (by kernel_rfl) (by kernel_rfl) (fun _ _ _ h => h) (Or.inl ⟨by kernel_rfl, ?_⟩) hH0 ?_
    rotate_left 1
    · intro w hSw
      go_simp
      try with_reducible rfl
    try simp only [Act.put, List.getElem_toArray, List.getElem_cons_zero, List.getElem_cons_succ, List.setIfInBounds_toArray, List.set_cons_zero, List.set_cons_succ]
    refine wpAnyH_take (i := 2) (v := ?_) rfl (by kernel_rfl) (by kernel_rfl) (by kernel_rfl) (fun _ _ _ h => h) (Or.inl ⟨by kernel_rfl, ?_⟩) hH0 ?_
    rotate_left 1
    · intro w hSw
      go_simp
      try with_reducible rfl
    try simp only [Act.put, List.getElem_toArray, List.getElem_cons_zero, List.getElem_cons_succ, List.setIfInBounds_toArray, List.set_cons_zero, List.set_cons_succ]
    refine wpAnyH_take (i := 3) (v := ?_) rfl (by kernel_rfl) (by kernel_rfl) (by kernel_rfl) (fun _ _ _ h => h) (Or.inl ⟨by kernel_rfl, ?_⟩) hH0 ?_
    rotate_left 1
    · intro w hSw
      have f0 := (hSw.cell (p := ⟨q.p, 2, none⟩) lp np2).trans x2
      have f1 := (hSw.cell (p := ⟨e.blk, 33, none⟩) le ne2).trans y33
      go_simp
      try with_reducible rfl
    try simp only [Act.put, List.getElem_toArray, List.getElem_cons_zero, List.getElem_cons_succ, List.setIfInBounds_toArray, List.set_cons_zero, List.set_cons_succ]
    refine wpAnyH_take (i := 4) (v := ?_) rfl (by kernel_rfl) (by kernel_rfl) (by kernel_rfl) (fun _ _ _ h => h) (Or.inl ⟨by kernel_rfl, ?_⟩) hH0 ?_
    rotate_left 1
    · intro w hSw
      go_simp
      try with_reducible rfl
    try simp only [Act.put, List.getElem_toArray, List.getElem_cons_zero, List.getElem_cons_succ, List.setIfInBounds_toArray, List.set_cons_zero, List.set_cons_succ]
    refine wpAnyH_take (i := 5) (v := ?_) rfl (by kernel_rfl) (by kernel_rfl) (by kernel_rfl) (fun _ _ _ h => h) (Or.inl ⟨by kernel_rfl, ?_⟩) hH0 ?_
    rotate_left 1
    · intro w hSw
      go_simp
      try with_reducible rfl
    try simp only [Act.put, List.getElem_toArray, List.getElem_cons_zero, List.getElem_cons_succ, List.setIfInBounds_toArray, List.set_cons_zero, List.set_cons_succ]
    refine wpAnyH_take (i := 6) (v := ?_) rfl (by kernel_rfl) (by kernel_rfl) (by kernel_rfl) (fun _ _ _ h => h) (Or.inl ⟨by kernel_rfl, ?_⟩) hH0 ?_
    rotate_left 1
    · intro w hSw
      go_simp
      try with_reducible rfl
    try simp only [Act.put, List.getElem_toArray, List.getElem_cons_zero, List.getElem_cons_succ, List.setIfInBounds_toArray, List.set_cons_zero, List.set_cons_succ]
    refine wpAnyH_take (i := 7) (v := ?_) rfl (by kernel_rfl) (by kernel_rfl) (by kernel_rfl) (fun _ _ _ h => h) (Or.inl ⟨by kernel_rfl, ?_⟩) hH0 ?_
    rotate_left 1
    · intro w hSw
      have f0 := (hSw.cell (p := ⟨q.p, 2, none⟩) lp np2).trans x2
      have f1 := (hSw.cell (p := ⟨e.blk, 33, none⟩) le ne2).trans y33
      go_simp
      try with_reducible rfl
    try simp only [Act.put, List.getElem_toArray, List.getElem_cons_zero, List.getElem_cons_succ, List.setIfInBounds_toArray, List.set_cons_zero, List.set_cons_succ]
    refine wpAnyH_ready (rs := [8]) (by kernel_rfl) (by simp) ?_
    refine AllReadyH.cons rfl (fun K_ hK => ?_) ?_
    · rw [if_pos (by rfl)]
      obtain ⟨W1, j1, hrun1, hl1, hput1, hOp1⟩ := htk0.out.del int_fam Tryd.underlying117 (List.mem_of_getElem? Hk2.out) 3 0
      rw [show intK e.at_ = .int .i64 (at9 : Int) by rw [Hat.out]; rfl] at hrun1
      obtain rfl := (pw_idx Hap2.out hl1 Hk2.out rfl).symm
      refine wp_deleteR 117 3 _ _ rfl hrun1 ?_
      have HPut2 := Lib.hid hput1
      have HOp2 := Lib.hid hOp1
      have HAll2 := Lib.hid (hall1.out.keep (hOp1.block q.ma hall1.out.lt (by simpa using fun e => Hnt.out e.symm)))
      clear hrun1 hput1 hOp1 hl1 htk0 hall1
      refine hK.out _ _ ((hH0).trans (HOp2.out.mono (by simp))) (fun hH1 => ?_)
      clear hK K_
      try simp only [Act.put, List.getElem_toArray, List.getElem_cons_zero, List.getElem_cons_succ, List.setIfInBounds_toArray, List.set_cons_zero, List.set_cons_succ]
      refine wpAnyH_done (by kernel_rfl) ?_ _
      have HF := Lib.hid hH1
      obtain ⟨w3, hw3⟩ : ∃ y, y = W1 := ⟨_, rfl⟩
      rw [← hw3] at HF HPut2 HAll2 ⊢
      clear hH1 hw3
      go_wp2_with fail
      (try simp only [Exit.inBlock, Exit.then])
      go_end0
      exact ⟨rfl, hv_remove H.out HF.out (by have := HAll2.out; unfold keysOf at this; rw [← Go.ChangeMaps.map_eraseIdx] at this; exact this) (by have := HPut2.out; unfold slotsOf at this; rw [← Go.ChangeMaps.map_eraseIdx] at this; exact this), HF.out⟩
    exact AllReadyH.nil
  exact AllReadyH.nil

/-! ### the oldest -/
def ptrE : Option HEnt → Value
  | none => .pointer none
  | some e => .pointer (some ⟨e.blk, 0, none⟩)
/-- of the entries of L that are not in left, none that is not pinned was used before the best one -/
structure BestOf (L left : List HEnt) (pins : List (List UInt8)) (best : Option HEnt) : Prop where
  sub : ∀ e ∈ left, e ∈ L
  mem : ∀ b, best = some b → b ∈ L ∧ b.id ∉ pins
  low : ∀ e ∈ L, e ∈ left ∨ e.id ∈ pins ∨ ∃ b, best = some b ∧ b.used ≤ e.used
theorem bestOf_start (L : List HEnt) (pins : List (List UInt8)) : BestOf L L pins none := ⟨fun e h => h, (fun b h => by cases h), fun e h => .inl h⟩
theorem mem_erase_or {L : List HEnt} {i : Nat} {x y : HEnt} (hi : L[i]? = some x) (hy : y ∈ L) : y ∈ L.eraseIdx i ∨ y = x := by
  induction L generalizing i with
  | nil => simp at hy
  | cons a L ih =>
    cases i with
    | zero =>
      have e1 : a = x := by simpa using hi
      rcases List.mem_cons.1 hy with h | h
      · right; rw [h, e1]
      · left; simpa using h
    | succ i =>
      have hi' : L[i]? = some x := by simpa using hi
      rw [List.eraseIdx_cons_succ]
      rcases List.mem_cons.1 hy with h | h
      · left; rw [h]; simp
      · rcases ih hi' h with h | h
        · left; simp [h]
        · right; exact h
theorem BestOf.skip {L left : List HEnt} {pins : List (List UInt8)} {best : Option HEnt} {i : Nat} {x : HEnt} (h : BestOf L left pins best) (hi : left[i]? = some x) (hs : x.id ∈ pins ∨ ∃ b, best = some b ∧ b.used ≤ x.used) : BestOf L (left.eraseIdx i) pins best :=
  ⟨fun e he => h.sub e (List.mem_of_mem_eraseIdx he), h.mem, fun e he => by
    rcases h.low e he with h1 | h1
    · rcases mem_erase_or hi h1 with h2 | rfl
      · exact .inl h2
      · exact .inr hs
    · exact .inr h1⟩
theorem BestOf.take {L left : List HEnt} {pins : List (List UInt8)} {best : Option HEnt} {i : Nat} {x : HEnt} (h : BestOf L left pins best) (hi : left[i]? = some x) (hp : x.id ∉ pins) (hs : ∀ b, best = some b → x.used ≤ b.used) : BestOf L (left.eraseIdx i) pins (some x) :=
  ⟨fun e he => h.sub e (List.mem_of_mem_eraseIdx he), fun b hb => by obtain rfl := Option.some.inj hb; exact ⟨h.sub _ (List.mem_of_getElem? hi), hp⟩, fun e he => by
    rcases h.low e he with h1 | h1 | ⟨b, h1, h2⟩
    · rcases mem_erase_or hi h1 with h2 | rfl
      · exact .inl h2
      · exact .inr (.inr ⟨_, rfl, Int.le_refl _⟩)
    · exact .inr (.inl h1)
    · exact .inr (.inr ⟨x, rfl, Int.le_trans (hs b h1) h2⟩)⟩
theorem pin_look {w : World} {q : HvP} {d : HvD} (h : HvAt w q d) {id : List UInt8} (hid : id.length = 32) : (Instr.lookup 118 (.map (some q.mp)) (digK id) false).run Tryd.prog w = .ok (.bool (decide (id ∈ d.pins))) w := by
  rcases h.pin.look dig_fam Tryd.underlying118 (zero_boolR w) (a := id) hid with ⟨v, hv, hr⟩ | ⟨hn, hr⟩
  · obtain ⟨x, hx, e1⟩ := List.mem_map.1 hv
    obtain ⟨e2, e3⟩ := Prod.mk.inj e1
    rw [← e3] at hr
    rw [hr, decide_eq_true (by rw [← e2]; exact hx)]
  · rw [hr, decide_eq_false (fun hm => hn (id, .bool true) (List.mem_map.2 ⟨id, hm, rfl⟩) rfl)]

def OldPost (w : World) (q : HvP) (d : HvD) (e : Ending) (w' : World) : Prop := ∃ best, e = .returned (ptrE best) ∧ BestOf d.L [] d.pins best ∧ Below w.heap.size w w'
set_option maxHeartbeats 4000000 in
set_option maxRecDepth 100000 in
theorem oldest_any (q : HvP) (d : HvD) (w : World) (h : HvAt w q d) :
    Calls Tryd.prog 147 #[.pointer (some ⟨q.p, 0, none⟩)] w (OldPost w q d) := by
  obtain ⟨-, x1, -, x3, -⟩ := hv_cells h
  obtain ⟨clk, hit, hrun⟩ := h.all.iter
  have hrun := hrun 116 _ _ Tryd.underlying116
  have hB := (Below.refl w.heap.size w).alloc (Nat.le_refl _) (.mapIter (some q.ma) clk #[] clk)
  obtain ⟨w1, hw1⟩ : ∃ y, y = w.alloc (.mapIter (some q.ma) clk #[] clk) := ⟨_, rfl⟩
  obtain ⟨r, hr⟩ : ∃ y, y = w.heap.size := ⟨_, rfl⟩
  rw [← hw1] at hit hrun hB
  rw [← hr] at hit hrun
  have H := Lib.hid h
  have Hit := Lib.hid hit
  have HB := Lib.hid hB
  have Hr := Lib.hid hr
  clear h hit hB hw1 hr
  go_enter Tryd.func147, Tryd.ntmps147
  go_wp2_with (refine wpList_rangeR rfl 116 _ rfl (.pointer (some ⟨r, 0, none⟩)) hrun ?_)
  simp only [Act.put, List.setIfInBounds_toArray, List.set_cons_succ, List.set_cons_zero]
  clear hrun x1 x3
  go_loopw [2, 4] (fun bv _ wr => ∃ (left : List HEnt) (best : Option HEnt), bv = ptrE best ∧ IterAt nameV (fun n => n.2.length = 32) wr q.ma r (keysOf d.L) (keysOf left) ∧ BestOf d.L left d.pins best ∧ Only [r] w1 wr) (fun _ _ wr => wr.rangeLeft q.ma r)
  case atStart => exact ⟨d.L, none, rfl, Hit.out, bestOf_start _ _, Only.refl _ _⟩
  case round =>
    obtain ⟨left, best, rfl, hit, hbo, ho⟩ := hrel
    have Hbo := Lib.hid hbo
    have Ho := Lib.hid ho
    rcases hit.next 0 with ⟨hl, hrun⟩ | ⟨i, p, w2, hp, hrun, hit2, hO2, hen⟩
    · obtain rfl : left = [] := by unfold keysOf at hl; simpa using hl
      clear hbo ho hit
      go_wp2_with (refine wpList_nextR rfl _ rfl (.tuple #[.bool false]) hrun ?_)
      go_ret
      exact ⟨best, rfl, Hbo.out, HB.out.trans (Ho.out.below HB.out.size (by simp [Hr.out]))⟩
    · have hpi : (keysOf left)[i]? = some p := hp
      unfold keysOf at hpi
      rw [List.getElem?_map] at hpi
      obtain ⟨x, hx, rfl⟩ := Option.map_eq_some_iff.1 hpi
      have he : keysOf left = keysOf left := rfl
      have hit3 : IterAt nameV (fun n => n.2.length = 32) w2 q.ma r (keysOf d.L) (keysOf (left.eraseIdx i)) := by
        have h3 := hit2
        unfold keysOf at h3 ⊢
        rw [← Go.ChangeMaps.map_eraseIdx] at h3
        exact h3
      have hm : w2.rangeLeft q.ma r < wr.rangeLeft q.ma r := iter_less hit hit3 (List.getElem?_eq_some_iff.1 hx).1
      have hxL := Hbo.out.sub x (List.mem_of_getElem? hx)
      have hO := ho.trans hO2
      have h2 : HvAt w2 q d := (H.out.below HB.out).keep (fun k hk => hO.block k (by have := H.out.lt k hk; have := HB.out.size; omega) (by have := H.out.lt k hk; have := Hr.out; simp; omega))
      have hf := H.out.fit x hxL
      obtain ⟨-, y34, -, -⟩ := ent_cells hf (h2.ents x hxL)
      obtain ⟨-, -, -, x3, -⟩ := hv_cells h2
      have lp : q.p < w2.heap.size := heap_lt h2.hp
      have le : x.blk < w2.heap.size := heap_lt (h2.ents x hxL)
      have rn : w2.rangeAt x.blk 1 (byV x.id) := fun k v hv => by
        rw [Lib.cell_of_heap (h2.ents x hxL), List.getElem?_toArray]
        unfold HEnt.cells
        rw [show 1 + k = k + 1 by omega, List.cons_append, List.getElem?_cons_succ, List.getElem?_append_left (List.getElem?_eq_some_iff.1 hv).1]; exact hv
      have dix : (Tryd.prog.info? 23).map (·.size) = some (byV x.id).length := by rw [dig_info, byV_length, hf.1]
      have dund := Tryd.underlying23
      have hpl : Hid (∀ W, Below w2.heap.size w2 W → (Instr.lookup 118 (.map (some q.mp)) (.agg (byV x.id).toArray) false).run Tryd.prog W = .ok (.bool (decide (x.id ∈ d.pins))) W) := Lib.hid (fun W hW => pin_look (h2.below hW) hf.1)
      have H2 := Lib.hid h2
      have Hx := Lib.hid hx
      have HO := Lib.hid hO
      have Hm := Lib.hid hm
      have Hit3 := Lib.hid hit3
      have HxL := Lib.hid hxL
      obtain ⟨ic, hic⟩ : ∃ c, c = byV x.id := ⟨_, rfl⟩
      rw [← hic] at rn dix hpl
      clear hbo ho hit hit2 hit3 hpi hp he hO2 hO h2 hf hm hx hxL hic
      have hnv : nameV (x.isB, x.id) = .agg (Value.bool x.isB :: byV x.id).toArray := rfl
      obtain ⟨nv, hnv2⟩ : ∃ v, v = nameV (x.isB, x.id) := ⟨_, rfl⟩
      simp only [] at hrun hen
      rw [← hnv2] at hrun hen
      clear hnv hnv2
      go_upto_region 4 with (first
        | (refine wpList_nextR rfl _ rfl (.tuple #[.bool true, nv, .pointer (some ⟨x.blk, 0, none⟩)]) hrun ?_)
        | (refine wpList_entryR rfl _ rfl (.tuple #[nv, .pointer (some ⟨x.blk, 0, none⟩)]) hen ?_))
      clear hrun hen
      by_cases hpin : x.id ∈ d.pins
      · rw [decide_eq_true hpin] at hpl
        have Hpin := Lib.hid hpin
        clear hpin
        refine wp_region_held_drew (S := fun w' => Below w2.heap.size w2 w') (by kernel_rfl) ((Below.refl _ _).drew) (fun hH0 => ?_)
        obtain ⟨W0, hW0⟩ : ∃ W, W = w2.drew := ⟨_, rfl⟩
        rw [← hW0] at hH0 ⊢
        clear hW0
        refine wpAnyH_take (i := 0) (v := ?_) rfl (by kernel_rfl) (by kernel_rfl) (by kernel_rfl) (fun _ _ _ h => h) (Or.inl ⟨by kernel_rfl, ?_⟩) hH0 ?_
        rotate_left 1
        · intro w hSw
          go_simp
          try with_reducible rfl
        try simp only [Act.put, List.getElem_toArray, List.getElem_cons_zero, List.getElem_cons_succ, List.setIfInBounds_toArray, List.set_cons_zero, List.set_cons_succ]
        refine wpAnyH_take (i := 1) (v := ?_) rfl (by kernel_rfl) (by kernel_rfl) (by kernel_rfl) (fun _ _ _ h => h) (Or.inl ⟨by kernel_rfl, ?_⟩) hH0 ?_
        rotate_left 1
        · intro w hSw
          go_simp
          try with_reducible rfl
        try simp only [Act.put, List.getElem_toArray, List.getElem_cons_zero, List.getElem_cons_succ, List.setIfInBounds_toArray, List.set_cons_zero, List.set_cons_succ]
        refine wpAnyH_take (i := 2) (v := ?_) rfl (by kernel_rfl) (by kernel_rfl) (by kernel_rfl) (fun _ _ _ h => h) (Or.inl ⟨by kernel_rfl, ?_⟩) hH0 ?_
        rotate_left 1
        · intro w hSw
          go_simp
          try with_reducible rfl
        try simp only [Act.put, List.getElem_toArray, List.getElem_cons_zero, List.getElem_cons_succ, List.setIfInBounds_toArray, List.set_cons_zero, List.set_cons_succ]
        refine wpAnyH_take (i := 3) (v := ?_) rfl (by kernel_rfl) (by kernel_rfl) (by kernel_rfl) (fun _ _ _ h => h) (Or.inl ⟨by kernel_rfl, ?_⟩) hH0 ?_
        rotate_left 1
        · intro w hSw
          have f0 := (hSw.cell (p := ⟨q.p, 3, none⟩) lp).trans x3
          have f1 := (hSw.cell (p := ⟨x.blk, 34, none⟩) le).trans y34
          go_simp
          try with_reducible rfl
        try simp only [Act.put, List.getElem_toArray, List.getElem_cons_zero, List.getElem_cons_succ, List.setIfInBounds_toArray, List.set_cons_zero, List.set_cons_succ]
        refine wpAnyH_take (i := 4) (v := ?_) rfl (by kernel_rfl) (by kernel_rfl) (by kernel_rfl) (fun _ _ _ h => h) (Or.inl ⟨by kernel_rfl, ?_⟩) hH0 ?_
        rotate_left 1
        · intro w hSw
          go_simp
          try with_reducible rfl
        try simp only [Act.put, List.getElem_toArray, List.getElem_cons_zero, List.getElem_cons_succ, List.setIfInBounds_toArray, List.set_cons_zero, List.set_cons_succ]
        refine wpAnyH_take (i := 5) (v := ?_) rfl (by kernel_rfl) (by kernel_rfl) (by kernel_rfl) (fun _ _ _ h => h) (Or.inl ⟨by kernel_rfl, ?_⟩) hH0 ?_
        rotate_left 1
        · intro w hSw
          go_simp
          try with_reducible rfl
        try simp only [Act.put, List.getElem_toArray, List.getElem_cons_zero, List.getElem_cons_succ, List.setIfInBounds_toArray, List.set_cons_zero, List.set_cons_succ]
        refine wpAnyH_take (i := 6) (v := ?_) rfl (by kernel_rfl) (by kernel_rfl) (by kernel_rfl) (fun _ _ _ h => h) (Or.inl ⟨by kernel_rfl, ?_⟩) hH0 ?_
        rotate_left 1
        · intro w hSw
          go_simp
          try with_reducible rfl
        try simp only [Act.put, List.getElem_toArray, List.getElem_cons_zero, List.getElem_cons_succ, List.setIfInBounds_toArray, List.set_cons_zero, List.set_cons_succ]
        refine wpAnyH_take (i := 7) (v := ?_) rfl (by kernel_rfl) (by kernel_rfl) (by kernel_rfl) (fun _ _ _ h => h) (Or.inl ⟨by kernel_rfl, ?_⟩) hH0 ?_
        rotate_left 1
        · intro w hSw
          go_simp
          try with_reducible rfl
        try simp only [Act.put, List.getElem_toArray, List.getElem_cons_zero, List.getElem_cons_succ, List.setIfInBounds_toArray, List.set_cons_zero, List.set_cons_succ]
        refine wpAnyH_take (i := 8) (v := _) rfl (by kernel_rfl) (by kernel_rfl) (by kernel_rfl) (fun _ _ _ h => h) (yieldsIf_load_mid (by kernel_rfl) _ _ rfl _ _ rfl ic _ (fun W hW => range_below rn hW le) dund rfl dix) hH0 ?_
        try simp only [Act.put, List.getElem_toArray, List.getElem_cons_zero, List.getElem_cons_succ, List.setIfInBounds_toArray, List.set_cons_zero, List.set_cons_succ]
        refine wpAnyH_take (i := 9) (v := _) rfl (by kernel_rfl) (by kernel_rfl) (by kernel_rfl) (fun _ _ _ h => h) (yieldsIf_lookup (by kernel_rfl) 118 (.tmp 17) (.tmp 22) rfl (.bool true) (fun W hW => hpl.out W hW)) hH0 ?_
        try simp only [Act.put, List.getElem_toArray, List.getElem_cons_zero, List.getElem_cons_succ, List.setIfInBounds_toArray, List.set_cons_zero, List.set_cons_succ]
        refine wpAnyH_take (i := 10) (v := ?_) rfl (by kernel_rfl) (by kernel_rfl) (by kernel_rfl) (fun _ _ _ h => h) (Or.inl ⟨by kernel_rfl, ?_⟩) hH0 ?_
        rotate_left 1
        · intro w hSw
          go_simp
          try with_reducible rfl
        try simp only [Act.put, List.getElem_toArray, List.getElem_cons_zero, List.getElem_cons_succ, List.setIfInBounds_toArray, List.set_cons_zero, List.set_cons_succ]
        refine wpAnyH_take (i := 11) (v := ?_) rfl (by kernel_rfl) (by kernel_rfl) (by kernel_rfl) (fun _ _ _ h => h) (Or.inl ⟨by kernel_rfl, ?_⟩) hH0 ?_
        rotate_left 1
        · intro w hSw
          go_simp
          try with_reducible rfl
        try simp only [Act.put, List.getElem_toArray, List.getElem_cons_zero, List.getElem_cons_succ, List.setIfInBounds_toArray, List.set_cons_zero, List.set_cons_succ]
        refine wpAnyH_take (i := 12) (v := undef) rfl (by kernel_rfl) (by kernel_rfl) (by kernel_rfl) (fun _ _ _ h => h) (Or.inr ⟨by kernel_rfl, rfl⟩) hH0 ?_
        try simp only [Act.put, List.getElem_toArray, List.getElem_cons_zero, List.getElem_cons_succ, List.setIfInBounds_toArray, List.set_cons_zero, List.set_cons_succ]
        refine wpAnyH_take (i := 13) (v := undef) rfl (by kernel_rfl) (by kernel_rfl) (by kernel_rfl) (fun _ _ _ h => h) (Or.inr ⟨by kernel_rfl, rfl⟩) hH0 ?_
        try simp only [Act.put, List.getElem_toArray, List.getElem_cons_zero, List.getElem_cons_succ, List.setIfInBounds_toArray, List.set_cons_zero, List.set_cons_succ]
        refine wpAnyH_take (i := 14) (v := undef) rfl (by kernel_rfl) (by kernel_rfl) (by kernel_rfl) (fun _ _ _ h => h) (Or.inr ⟨by kernel_rfl, rfl⟩) hH0 ?_
        try simp only [Act.put, List.getElem_toArray, List.getElem_cons_zero, List.getElem_cons_succ, List.setIfInBounds_toArray, List.set_cons_zero, List.set_cons_succ]
        refine wpAnyH_take (i := 15) (v := undef) rfl (by kernel_rfl) (by kernel_rfl) (by kernel_rfl) (fun _ _ _ h => h) (Or.inr ⟨by kernel_rfl, rfl⟩) hH0 ?_
        try simp only [Act.put, List.getElem_toArray, List.getElem_cons_zero, List.getElem_cons_succ, List.setIfInBounds_toArray, List.set_cons_zero, List.set_cons_succ]
        refine wpAnyH_take (i := 16) (v := undef) rfl (by kernel_rfl) (by kernel_rfl) (by kernel_rfl) (fun _ _ _ h => h) (Or.inr ⟨by kernel_rfl, rfl⟩) hH0 ?_
        try simp only [Act.put, List.getElem_toArray, List.getElem_cons_zero, List.getElem_cons_succ, List.setIfInBounds_toArray, List.set_cons_zero, List.set_cons_succ]
        refine wpAnyH_take (i := 17) (v := undef) rfl (by kernel_rfl) (by kernel_rfl) (by kernel_rfl) (fun _ _ _ h => h) (Or.inr ⟨by kernel_rfl, rfl⟩) hH0 ?_
        try simp only [Act.put, List.getElem_toArray, List.getElem_cons_zero, List.getElem_cons_succ, List.setIfInBounds_toArray, List.set_cons_zero, List.set_cons_succ]
        refine wpAnyH_take (i := 18) (v := undef) rfl (by kernel_rfl) (by kernel_rfl) (by kernel_rfl) (fun _ _ _ h => h) (Or.inr ⟨by kernel_rfl, rfl⟩) hH0 ?_
        try simp only [Act.put, List.getElem_toArray, List.getElem_cons_zero, List.getElem_cons_succ, List.setIfInBounds_toArray, List.set_cons_zero, List.set_cons_succ]
        refine wpAnyH_take (i := 19) (v := undef) rfl (by kernel_rfl) (by kernel_rfl) (by kernel_rfl) (fun _ _ _ h => h) (Or.inr ⟨by kernel_rfl, rfl⟩) hH0 ?_
        try simp only [Act.put, List.getElem_toArray, List.getElem_cons_zero, List.getElem_cons_succ, List.setIfInBounds_toArray, List.set_cons_zero, List.set_cons_succ]
        refine wpAnyH_take (i := 20) (v := undef) rfl (by kernel_rfl) (by kernel_rfl) (by kernel_rfl) (fun _ _ _ h => h) (Or.inr ⟨by kernel_rfl, rfl⟩) hH0 ?_
        try simp only [Act.put, List.getElem_toArray, List.getElem_cons_zero, List.getElem_cons_succ, List.setIfInBounds_toArray, List.set_cons_zero, List.set_cons_succ]
        refine wpAnyH_take (i := 21) (v := undef) rfl (by kernel_rfl) (by kernel_rfl) (by kernel_rfl) (fun _ _ _ h => h) (Or.inr ⟨by kernel_rfl, rfl⟩) hH0 ?_
        try simp only [Act.put, List.getElem_toArray, List.getElem_cons_zero, List.getElem_cons_succ, List.setIfInBounds_toArray, List.set_cons_zero, List.set_cons_succ]
        refine wpAnyH_take (i := 22) (v := undef) rfl (by kernel_rfl) (by kernel_rfl) (by kernel_rfl) (fun _ _ _ h => h) (Or.inr ⟨by kernel_rfl, rfl⟩) hH0 ?_
        try simp only [Act.put, List.getElem_toArray, List.getElem_cons_zero, List.getElem_cons_succ, List.setIfInBounds_toArray, List.set_cons_zero, List.set_cons_succ]
        refine wpAnyH_take (i := 23) (v := undef) rfl (by kernel_rfl) (by kernel_rfl) (by kernel_rfl) (fun _ _ _ h => h) (Or.inr ⟨by kernel_rfl, rfl⟩) hH0 ?_
        try simp only [Act.put, List.getElem_toArray, List.getElem_cons_zero, List.getElem_cons_succ, List.setIfInBounds_toArray, List.set_cons_zero, List.set_cons_succ]
        refine wpAnyH_take (i := 24) (v := undef) rfl (by kernel_rfl) (by kernel_rfl) (by kernel_rfl) (fun _ _ _ h => h) (Or.inr ⟨by kernel_rfl, rfl⟩) hH0 ?_
        try simp only [Act.put, List.getElem_toArray, List.getElem_cons_zero, List.getElem_cons_succ, List.setIfInBounds_toArray, List.set_cons_zero, List.set_cons_succ]
        refine wpAnyH_take (i := 25) (v := ?_) rfl (by kernel_rfl) (by kernel_rfl) (by kernel_rfl) (fun _ _ _ h => h) (Or.inl ⟨by kernel_rfl, ?_⟩) hH0 ?_
        rotate_left 1
        · intro w hSw
          go_simp
          try with_reducible rfl
        try simp only [Act.put, List.getElem_toArray, List.getElem_cons_zero, List.getElem_cons_succ, List.setIfInBounds_toArray, List.set_cons_zero, List.set_cons_succ]
        refine wpAnyH_done (by kernel_rfl) ?_ _
        have hb := hH0
        have hl3 : Only [r] w1 W0 := HO.out.trans (Only.of_below hH0)
        have HL3 := Lib.hid hl3
        have hit4 := Hit3.out.keep (hH0.block q.ma Hit3.out.lt.1) (hH0.block r Hit3.out.lt.2.1)
        have Hit4 := Lib.hid hit4
        have hrl : (W0).rangeLeft q.ma r = w2.rangeLeft q.ma r := iter_same Hit3.out hit4
        have Hrl := Lib.hid hrl
        clear hH0 hl3 hb hit4 hrl
        go_wp2_with fail
        go_roundw
        case rel => exact ⟨left.eraseIdx i, best, rfl, Hit4.out, Hbo.out.skip Hx.out (.inl Hpin.out), HL3.out⟩
        case measure => rw [Hrl.out]; exact Hm.out
      · rw [decide_eq_false hpin] at hpl
        have Hpin := Lib.hid hpin
        clear hpin
        cases best with
        | none =>
          simp only [ptrE]
          refine wp_region_held_drew (S := fun w' => Below w2.heap.size w2 w') (by kernel_rfl) ((Below.refl _ _).drew) (fun hH0 => ?_)
          obtain ⟨W0, hW0⟩ : ∃ W, W = w2.drew := ⟨_, rfl⟩
          rw [← hW0] at hH0 ⊢
          clear hW0
          refine wpAnyH_take (i := 0) (v := ?_) rfl (by kernel_rfl) (by kernel_rfl) (by kernel_rfl) (fun _ _ _ h => h) (Or.inl ⟨by kernel_rfl, ?_⟩) hH0 ?_
          rotate_left 1
          · intro w hSw
            go_simp
            try with_reducible rfl
          try simp only [Act.put, List.getElem_toArray, List.getElem_cons_zero, List.getElem_cons_succ, List.setIfInBounds_toArray, List.set_cons_zero, List.set_cons_succ]
          refine wpAnyH_take (i := 1) (v := ?_) rfl (by kernel_rfl) (by kernel_rfl) (by kernel_rfl) (fun _ _ _ h => h) (Or.inl ⟨by kernel_rfl, ?_⟩) hH0 ?_
          rotate_left 1
          · intro w hSw
            go_simp
            try with_reducible rfl
          try simp only [Act.put, List.getElem_toArray, List.getElem_cons_zero, List.getElem_cons_succ, List.setIfInBounds_toArray, List.set_cons_zero, List.set_cons_succ]
          refine wpAnyH_take (i := 2) (v := ?_) rfl (by kernel_rfl) (by kernel_rfl) (by kernel_rfl) (fun _ _ _ h => h) (Or.inl ⟨by kernel_rfl, ?_⟩) hH0 ?_
          rotate_left 1
          · intro w hSw
            go_simp
            try with_reducible rfl
          try simp only [Act.put, List.getElem_toArray, List.getElem_cons_zero, List.getElem_cons_succ, List.setIfInBounds_toArray, List.set_cons_zero, List.set_cons_succ]
          refine wpAnyH_take (i := 3) (v := ?_) rfl (by kernel_rfl) (by kernel_rfl) (by kernel_rfl) (fun _ _ _ h => h) (Or.inl ⟨by kernel_rfl, ?_⟩) hH0 ?_
          rotate_left 1
          · intro w hSw
            have f0 := (hSw.cell (p := ⟨q.p, 3, none⟩) lp).trans x3
            have f1 := (hSw.cell (p := ⟨x.blk, 34, none⟩) le).trans y34
            go_simp
            try with_reducible rfl
          try simp only [Act.put, List.getElem_toArray, List.getElem_cons_zero, List.getElem_cons_succ, List.setIfInBounds_toArray, List.set_cons_zero, List.set_cons_succ]
          refine wpAnyH_take (i := 4) (v := ?_) rfl (by kernel_rfl) (by kernel_rfl) (by kernel_rfl) (fun _ _ _ h => h) (Or.inl ⟨by kernel_rfl, ?_⟩) hH0 ?_
          rotate_left 1
          · intro w hSw
            go_simp
            try with_reducible rfl
          try simp only [Act.put, List.getElem_toArray, List.getElem_cons_zero, List.getElem_cons_succ, List.setIfInBounds_toArray, List.set_cons_zero, List.set_cons_succ]
          refine wpAnyH_take (i := 5) (v := ?_) rfl (by kernel_rfl) (by kernel_rfl) (by kernel_rfl) (fun _ _ _ h => h) (Or.inl ⟨by kernel_rfl, ?_⟩) hH0 ?_
          rotate_left 1
          · intro w hSw
            go_simp
            try with_reducible rfl
          try simp only [Act.put, List.getElem_toArray, List.getElem_cons_zero, List.getElem_cons_succ, List.setIfInBounds_toArray, List.set_cons_zero, List.set_cons_succ]
          refine wpAnyH_take (i := 6) (v := ?_) rfl (by kernel_rfl) (by kernel_rfl) (by kernel_rfl) (fun _ _ _ h => h) (Or.inl ⟨by kernel_rfl, ?_⟩) hH0 ?_
          rotate_left 1
          · intro w hSw
            go_simp
            try with_reducible rfl
          try simp only [Act.put, List.getElem_toArray, List.getElem_cons_zero, List.getElem_cons_succ, List.setIfInBounds_toArray, List.set_cons_zero, List.set_cons_succ]
          refine wpAnyH_take (i := 7) (v := ?_) rfl (by kernel_rfl) (by kernel_rfl) (by kernel_rfl) (fun _ _ _ h => h) (Or.inl ⟨by kernel_rfl, ?_⟩) hH0 ?_
          rotate_left 1
          · intro w hSw
            go_simp
            try with_reducible rfl
          try simp only [Act.put, List.getElem_toArray, List.getElem_cons_zero, List.getElem_cons_succ, List.setIfInBounds_toArray, List.set_cons_zero, List.set_cons_succ]
          refine wpAnyH_take (i := 8) (v := _) rfl (by kernel_rfl) (by kernel_rfl) (by kernel_rfl) (fun _ _ _ h => h) (yieldsIf_load_mid (by kernel_rfl) _ _ rfl _ _ rfl ic _ (fun W hW => range_below rn hW le) dund rfl dix) hH0 ?_
          try simp only [Act.put, List.getElem_toArray, List.getElem_cons_zero, List.getElem_cons_succ, List.setIfInBounds_toArray, List.set_cons_zero, List.set_cons_succ]
          refine wpAnyH_take (i := 9) (v := _) rfl (by kernel_rfl) (by kernel_rfl) (by kernel_rfl) (fun _ _ _ h => h) (yieldsIf_lookup (by kernel_rfl) 118 (.tmp 17) (.tmp 22) rfl (.bool false) (fun W hW => hpl.out W hW)) hH0 ?_
          try simp only [Act.put, List.getElem_toArray, List.getElem_cons_zero, List.getElem_cons_succ, List.setIfInBounds_toArray, List.set_cons_zero, List.set_cons_succ]
          refine wpAnyH_take (i := 10) (v := ?_) rfl (by kernel_rfl) (by kernel_rfl) (by kernel_rfl) (fun _ _ _ h => h) (Or.inl ⟨by kernel_rfl, ?_⟩) hH0 ?_
          rotate_left 1
          · intro w hSw
            go_simp
            try with_reducible rfl
          try simp only [Act.put, List.getElem_toArray, List.getElem_cons_zero, List.getElem_cons_succ, List.setIfInBounds_toArray, List.set_cons_zero, List.set_cons_succ]
          refine wpAnyH_take (i := 11) (v := ?_) rfl (by kernel_rfl) (by kernel_rfl) (by kernel_rfl) (fun _ _ _ h => h) (Or.inl ⟨by kernel_rfl, ?_⟩) hH0 ?_
          rotate_left 1
          · intro w hSw
            go_simp
            try with_reducible rfl
          try simp only [Act.put, List.getElem_toArray, List.getElem_cons_zero, List.getElem_cons_succ, List.setIfInBounds_toArray, List.set_cons_zero, List.set_cons_succ]
          refine wpAnyH_take (i := 12) (v := ?_) rfl (by kernel_rfl) (by kernel_rfl) (by kernel_rfl) (fun _ _ _ h => h) (Or.inl ⟨by kernel_rfl, ?_⟩) hH0 ?_
          rotate_left 1
          · intro w hSw
            go_simp
            try with_reducible rfl
          try simp only [Act.put, List.getElem_toArray, List.getElem_cons_zero, List.getElem_cons_succ, List.setIfInBounds_toArray, List.set_cons_zero, List.set_cons_succ]
          refine wpAnyH_take (i := 13) (v := ?_) rfl (by kernel_rfl) (by kernel_rfl) (by kernel_rfl) (fun _ _ _ h => h) (Or.inl ⟨by kernel_rfl, ?_⟩) hH0 ?_
          rotate_left 1
          · intro w hSw
            go_simp
            try with_reducible rfl
          try simp only [Act.put, List.getElem_toArray, List.getElem_cons_zero, List.getElem_cons_succ, List.setIfInBounds_toArray, List.set_cons_zero, List.set_cons_succ]
          refine wpAnyH_take (i := 14) (v := ?_) rfl (by kernel_rfl) (by kernel_rfl) (by kernel_rfl) (fun _ _ _ h => h) (Or.inl ⟨by kernel_rfl, ?_⟩) hH0 ?_
          rotate_left 1
          · intro w hSw
            go_simp
            try with_reducible rfl
          try simp only [Act.put, List.getElem_toArray, List.getElem_cons_zero, List.getElem_cons_succ, List.setIfInBounds_toArray, List.set_cons_zero, List.set_cons_succ]
          refine wpAnyH_take (i := 15) (v := undef) rfl (by kernel_rfl) (by kernel_rfl) (by kernel_rfl) (fun _ _ _ h => h) (Or.inr ⟨by kernel_rfl, rfl⟩) hH0 ?_
          try simp only [Act.put, List.getElem_toArray, List.getElem_cons_zero, List.getElem_cons_succ, List.setIfInBounds_toArray, List.set_cons_zero, List.set_cons_succ]
          refine wpAnyH_take (i := 16) (v := undef) rfl (by kernel_rfl) (by kernel_rfl) (by kernel_rfl) (fun _ _ _ h => h) (Or.inr ⟨by kernel_rfl, rfl⟩) hH0 ?_
          try simp only [Act.put, List.getElem_toArray, List.getElem_cons_zero, List.getElem_cons_succ, List.setIfInBounds_toArray, List.set_cons_zero, List.set_cons_succ]
          refine wpAnyH_take (i := 17) (v := undef) rfl (by kernel_rfl) (by kernel_rfl) (by kernel_rfl) (fun _ _ _ h => h) (Or.inr ⟨by kernel_rfl, rfl⟩) hH0 ?_
          try simp only [Act.put, List.getElem_toArray, List.getElem_cons_zero, List.getElem_cons_succ, List.setIfInBounds_toArray, List.set_cons_zero, List.set_cons_succ]
          refine wpAnyH_take (i := 18) (v := undef) rfl (by kernel_rfl) (by kernel_rfl) (by kernel_rfl) (fun _ _ _ h => h) (Or.inr ⟨by kernel_rfl, rfl⟩) hH0 ?_
          try simp only [Act.put, List.getElem_toArray, List.getElem_cons_zero, List.getElem_cons_succ, List.setIfInBounds_toArray, List.set_cons_zero, List.set_cons_succ]
          refine wpAnyH_take (i := 19) (v := undef) rfl (by kernel_rfl) (by kernel_rfl) (by kernel_rfl) (fun _ _ _ h => h) (Or.inr ⟨by kernel_rfl, rfl⟩) hH0 ?_
          try simp only [Act.put, List.getElem_toArray, List.getElem_cons_zero, List.getElem_cons_succ, List.setIfInBounds_toArray, List.set_cons_zero, List.set_cons_succ]
          refine wpAnyH_take (i := 20) (v := undef) rfl (by kernel_rfl) (by kernel_rfl) (by kernel_rfl) (fun _ _ _ h => h) (Or.inr ⟨by kernel_rfl, rfl⟩) hH0 ?_
          try simp only [Act.put, List.getElem_toArray, List.getElem_cons_zero, List.getElem_cons_succ, List.setIfInBounds_toArray, List.set_cons_zero, List.set_cons_succ]
          refine wpAnyH_take (i := 21) (v := undef) rfl (by kernel_rfl) (by kernel_rfl) (by kernel_rfl) (fun _ _ _ h => h) (Or.inr ⟨by kernel_rfl, rfl⟩) hH0 ?_
          try simp only [Act.put, List.getElem_toArray, List.getElem_cons_zero, List.getElem_cons_succ, List.setIfInBounds_toArray, List.set_cons_zero, List.set_cons_succ]
          refine wpAnyH_take (i := 22) (v := undef) rfl (by kernel_rfl) (by kernel_rfl) (by kernel_rfl) (fun _ _ _ h => h) (Or.inr ⟨by kernel_rfl, rfl⟩) hH0 ?_
          try simp only [Act.put, List.getElem_toArray, List.getElem_cons_zero, List.getElem_cons_succ, List.setIfInBounds_toArray, List.set_cons_zero, List.set_cons_succ]
          refine wpAnyH_take (i := 23) (v := undef) rfl (by kernel_rfl) (by kernel_rfl) (by kernel_rfl) (fun _ _ _ h => h) (Or.inr ⟨by kernel_rfl, rfl⟩) hH0 ?_
          try simp only [Act.put, List.getElem_toArray, List.getElem_cons_zero, List.getElem_cons_succ, List.setIfInBounds_toArray, List.set_cons_zero, List.set_cons_succ]
          refine wpAnyH_take (i := 24) (v := ?_) rfl (by kernel_rfl) (by kernel_rfl) (by kernel_rfl) (fun _ _ _ h => h) (Or.inl ⟨by kernel_rfl, ?_⟩) hH0 ?_
          rotate_left 1
          · intro w hSw
            go_simp
            try with_reducible rfl
          try simp only [Act.put, List.getElem_toArray, List.getElem_cons_zero, List.getElem_cons_succ, List.setIfInBounds_toArray, List.set_cons_zero, List.set_cons_succ]
          refine wpAnyH_take (i := 25) (v := ?_) rfl (by kernel_rfl) (by kernel_rfl) (by kernel_rfl) (fun _ _ _ h => h) (Or.inl ⟨by kernel_rfl, ?_⟩) hH0 ?_
          rotate_left 1
          · intro w hSw
            go_simp
            try with_reducible rfl
          try simp only [Act.put, List.getElem_toArray, List.getElem_cons_zero, List.getElem_cons_succ, List.setIfInBounds_toArray, List.set_cons_zero, List.set_cons_succ]
          refine wpAnyH_done (by kernel_rfl) ?_ _
          have hb := hH0
          have hl3 : Only [r] w1 W0 := HO.out.trans (Only.of_below hH0)
          have HL3 := Lib.hid hl3
          have hit4 := Hit3.out.keep (hH0.block q.ma Hit3.out.lt.1) (hH0.block r Hit3.out.lt.2.1)
          have Hit4 := Lib.hid hit4
          have hrl : (W0).rangeLeft q.ma r = w2.rangeLeft q.ma r := iter_same Hit3.out hit4
          have Hrl := Lib.hid hrl
          clear hH0 hl3 hb hit4 hrl
          go_wp2_with fail
          go_roundw
          case rel => exact ⟨left.eraseIdx i, (some x), rfl, Hit4.out, Hbo.out.take Hx.out Hpin.out (fun b hb => by cases hb), HL3.out⟩
          case measure => rw [Hrl.out]; exact Hm.out
        | some bb =>
          have hbL := (Hbo.out.mem bb rfl).1
          have z34 := (ent_cells (H.out.fit bb hbL) (H2.out.ents bb hbL)).2.1
          have lb : bb.blk < w2.heap.size := heap_lt (H2.out.ents bb hbL)
          obtain ⟨bu, hbu⟩ : ∃ u, u = bb.used := ⟨_, rfl⟩
          obtain ⟨xu, hxu⟩ : ∃ u, u = x.used := ⟨_, rfl⟩
          rw [← hbu] at z34
          rw [← hxu] at y34
          have Hbu := Lib.hid hbu
          have Hxu := Lib.hid hxu
          clear hbu hxu hbL
          simp only [ptrE]
          by_cases hlt : xu < bu
          · have Hlt := Lib.hid hlt
            refine wp_region_held_drew (S := fun w' => Below w2.heap.size w2 w') (by kernel_rfl) ((Below.refl _ _).drew) (fun hH0 => ?_)
            obtain ⟨W0, hW0⟩ : ∃ W, W = w2.drew := ⟨_, rfl⟩
            rw [← hW0] at hH0 ⊢
            clear hW0
            refine wpAnyH_take (i := 0) (v := ?_) rfl (by kernel_rfl) (by kernel_rfl) (by kernel_rfl) (fun _ _ _ h => h) (Or.inl ⟨by kernel_rfl, ?_⟩) hH0 ?_
            rotate_left 1
            · intro w hSw
              go_simp
              try with_reducible rfl
            try simp only [Act.put, List.getElem_toArray, List.getElem_cons_zero, List.getElem_cons_succ, List.setIfInBounds_toArray, List.set_cons_zero, List.set_cons_succ]
            refine wpAnyH_take (i := 1) (v := ?_) rfl (by kernel_rfl) (by kernel_rfl) (by kernel_rfl) (fun _ _ _ h => h) (Or.inl ⟨by kernel_rfl, ?_⟩) hH0 ?_
            rotate_left 1
            · intro w hSw
              go_simp
              try with_reducible rfl
            try simp only [Act.put, List.getElem_toArray, List.getElem_cons_zero, List.getElem_cons_succ, List.setIfInBounds_toArray, List.set_cons_zero, List.set_cons_succ]
            refine wpAnyH_take (i := 2) (v := ?_) rfl (by kernel_rfl) (by kernel_rfl) (by kernel_rfl) (fun _ _ _ h => h) (Or.inl ⟨by kernel_rfl, ?_⟩) hH0 ?_
            rotate_left 1
            · intro w hSw
              go_simp
              try with_reducible rfl
            try simp only [Act.put, List.getElem_toArray, List.getElem_cons_zero, List.getElem_cons_succ, List.setIfInBounds_toArray, List.set_cons_zero, List.set_cons_succ]
            refine wpAnyH_take (i := 3) (v := ?_) rfl (by kernel_rfl) (by kernel_rfl) (by kernel_rfl) (fun _ _ _ h => h) (Or.inl ⟨by kernel_rfl, ?_⟩) hH0 ?_
            rotate_left 1
            · intro w hSw
              have f0 := (hSw.cell (p := ⟨q.p, 3, none⟩) lp).trans x3
              have f1 := (hSw.cell (p := ⟨x.blk, 34, none⟩) le).trans y34
              have f2 := (hSw.cell (p := ⟨bb.blk, 34, none⟩) lb).trans z34
              go_simp
              try with_reducible rfl
            try simp only [Act.put, List.getElem_toArray, List.getElem_cons_zero, List.getElem_cons_succ, List.setIfInBounds_toArray, List.set_cons_zero, List.set_cons_succ]
            refine wpAnyH_take (i := 4) (v := ?_) rfl (by kernel_rfl) (by kernel_rfl) (by kernel_rfl) (fun _ _ _ h => h) (Or.inl ⟨by kernel_rfl, ?_⟩) hH0 ?_
            rotate_left 1
            · intro w hSw
              go_simp
              try with_reducible rfl
            try simp only [Act.put, List.getElem_toArray, List.getElem_cons_zero, List.getElem_cons_succ, List.setIfInBounds_toArray, List.set_cons_zero, List.set_cons_succ]
            refine wpAnyH_take (i := 5) (v := ?_) rfl (by kernel_rfl) (by kernel_rfl) (by kernel_rfl) (fun _ _ _ h => h) (Or.inl ⟨by kernel_rfl, ?_⟩) hH0 ?_
            rotate_left 1
            · intro w hSw
              go_simp
              try with_reducible rfl
            try simp only [Act.put, List.getElem_toArray, List.getElem_cons_zero, List.getElem_cons_succ, List.setIfInBounds_toArray, List.set_cons_zero, List.set_cons_succ]
            refine wpAnyH_take (i := 6) (v := ?_) rfl (by kernel_rfl) (by kernel_rfl) (by kernel_rfl) (fun _ _ _ h => h) (Or.inl ⟨by kernel_rfl, ?_⟩) hH0 ?_
            rotate_left 1
            · intro w hSw
              go_simp
              try with_reducible rfl
            try simp only [Act.put, List.getElem_toArray, List.getElem_cons_zero, List.getElem_cons_succ, List.setIfInBounds_toArray, List.set_cons_zero, List.set_cons_succ]
            refine wpAnyH_take (i := 7) (v := ?_) rfl (by kernel_rfl) (by kernel_rfl) (by kernel_rfl) (fun _ _ _ h => h) (Or.inl ⟨by kernel_rfl, ?_⟩) hH0 ?_
            rotate_left 1
            · intro w hSw
              go_simp
              try with_reducible rfl
            try simp only [Act.put, List.getElem_toArray, List.getElem_cons_zero, List.getElem_cons_succ, List.setIfInBounds_toArray, List.set_cons_zero, List.set_cons_succ]
            refine wpAnyH_take (i := 8) (v := _) rfl (by kernel_rfl) (by kernel_rfl) (by kernel_rfl) (fun _ _ _ h => h) (yieldsIf_load_mid (by kernel_rfl) _ _ rfl _ _ rfl ic _ (fun W hW => range_below rn hW le) dund rfl dix) hH0 ?_
            try simp only [Act.put, List.getElem_toArray, List.getElem_cons_zero, List.getElem_cons_succ, List.setIfInBounds_toArray, List.set_cons_zero, List.set_cons_succ]
            refine wpAnyH_take (i := 9) (v := _) rfl (by kernel_rfl) (by kernel_rfl) (by kernel_rfl) (fun _ _ _ h => h) (yieldsIf_lookup (by kernel_rfl) 118 (.tmp 17) (.tmp 22) rfl (.bool false) (fun W hW => hpl.out W hW)) hH0 ?_
            try simp only [Act.put, List.getElem_toArray, List.getElem_cons_zero, List.getElem_cons_succ, List.setIfInBounds_toArray, List.set_cons_zero, List.set_cons_succ]
            refine wpAnyH_take (i := 10) (v := ?_) rfl (by kernel_rfl) (by kernel_rfl) (by kernel_rfl) (fun _ _ _ h => h) (Or.inl ⟨by kernel_rfl, ?_⟩) hH0 ?_
            rotate_left 1
            · intro w hSw
              go_simp
              try with_reducible rfl
            try simp only [Act.put, List.getElem_toArray, List.getElem_cons_zero, List.getElem_cons_succ, List.setIfInBounds_toArray, List.set_cons_zero, List.set_cons_succ]
            refine wpAnyH_take (i := 11) (v := ?_) rfl (by kernel_rfl) (by kernel_rfl) (by kernel_rfl) (fun _ _ _ h => h) (Or.inl ⟨by kernel_rfl, ?_⟩) hH0 ?_
            rotate_left 1
            · intro w hSw
              go_simp
              try with_reducible rfl
            try simp only [Act.put, List.getElem_toArray, List.getElem_cons_zero, List.getElem_cons_succ, List.setIfInBounds_toArray, List.set_cons_zero, List.set_cons_succ]
            refine wpAnyH_take (i := 12) (v := ?_) rfl (by kernel_rfl) (by kernel_rfl) (by kernel_rfl) (fun _ _ _ h => h) (Or.inl ⟨by kernel_rfl, ?_⟩) hH0 ?_
            rotate_left 1
            · intro w hSw
              go_simp
              try with_reducible rfl
            try simp only [Act.put, List.getElem_toArray, List.getElem_cons_zero, List.getElem_cons_succ, List.setIfInBounds_toArray, List.set_cons_zero, List.set_cons_succ]
            refine wpAnyH_take (i := 13) (v := ?_) rfl (by kernel_rfl) (by kernel_rfl) (by kernel_rfl) (fun _ _ _ h => h) (Or.inl ⟨by kernel_rfl, ?_⟩) hH0 ?_
            rotate_left 1
            · intro w hSw
              go_simp
              try with_reducible rfl
            try simp only [Act.put, List.getElem_toArray, List.getElem_cons_zero, List.getElem_cons_succ, List.setIfInBounds_toArray, List.set_cons_zero, List.set_cons_succ]
            refine wpAnyH_take (i := 14) (v := ?_) rfl (by kernel_rfl) (by kernel_rfl) (by kernel_rfl) (fun _ _ _ h => h) (Or.inl ⟨by kernel_rfl, ?_⟩) hH0 ?_
            rotate_left 1
            · intro w hSw
              go_simp
              try with_reducible rfl
            try simp only [Act.put, List.getElem_toArray, List.getElem_cons_zero, List.getElem_cons_succ, List.setIfInBounds_toArray, List.set_cons_zero, List.set_cons_succ]
            refine wpAnyH_take (i := 15) (v := ?_) rfl (by kernel_rfl) (by kernel_rfl) (by kernel_rfl) (fun _ _ _ h => h) (Or.inl ⟨by kernel_rfl, ?_⟩) hH0 ?_
            rotate_left 1
            · intro w hSw
              go_simp
              try with_reducible rfl
            try simp only [Act.put, List.getElem_toArray, List.getElem_cons_zero, List.getElem_cons_succ, List.setIfInBounds_toArray, List.set_cons_zero, List.set_cons_succ]
            refine wpAnyH_take (i := 16) (v := ?_) rfl (by kernel_rfl) (by kernel_rfl) (by kernel_rfl) (fun _ _ _ h => h) (Or.inl ⟨by kernel_rfl, ?_⟩) hH0 ?_
            rotate_left 1
            · intro w hSw
              go_simp
              try with_reducible rfl
            try simp only [Act.put, List.getElem_toArray, List.getElem_cons_zero, List.getElem_cons_succ, List.setIfInBounds_toArray, List.set_cons_zero, List.set_cons_succ]
            refine wpAnyH_take (i := 17) (v := ?_) rfl (by kernel_rfl) (by kernel_rfl) (by kernel_rfl) (fun _ _ _ h => h) (Or.inl ⟨by kernel_rfl, ?_⟩) hH0 ?_
            rotate_left 1
            · intro w hSw
              go_simp
              try with_reducible rfl
            try simp only [Act.put, List.getElem_toArray, List.getElem_cons_zero, List.getElem_cons_succ, List.setIfInBounds_toArray, List.set_cons_zero, List.set_cons_succ]
            refine wpAnyH_take (i := 18) (v := ?_) rfl (by kernel_rfl) (by kernel_rfl) (by kernel_rfl) (fun _ _ _ h => h) (Or.inl ⟨by kernel_rfl, ?_⟩) hH0 ?_
            rotate_left 1
            · intro w hSw
              have f0 := (hSw.cell (p := ⟨q.p, 3, none⟩) lp).trans x3
              have f1 := (hSw.cell (p := ⟨x.blk, 34, none⟩) le).trans y34
              have f2 := (hSw.cell (p := ⟨bb.blk, 34, none⟩) lb).trans z34
              go_simp
              try with_reducible rfl
            try simp only [Act.put, List.getElem_toArray, List.getElem_cons_zero, List.getElem_cons_succ, List.setIfInBounds_toArray, List.set_cons_zero, List.set_cons_succ]
            refine wpAnyH_take (i := 19) (v := ?_) rfl (by kernel_rfl) (by kernel_rfl) (by kernel_rfl) (fun _ _ _ h => h) (Or.inl ⟨by kernel_rfl, ?_⟩) hH0 ?_
            rotate_left 1
            · intro w hSw
              go_simp
              try with_reducible rfl
            try simp only [Act.put, List.getElem_toArray, List.getElem_cons_zero, List.getElem_cons_succ, List.setIfInBounds_toArray, List.set_cons_zero, List.set_cons_succ]
            refine wpAnyH_take (i := 20) (v := ?_) rfl (by kernel_rfl) (by kernel_rfl) (by kernel_rfl) (fun _ _ _ h => h) (Or.inl ⟨by kernel_rfl, ?_⟩) hH0 ?_
            rotate_left 1
            · intro w hSw
              go_simp
              try with_reducible rfl
            try simp only [Act.put, List.getElem_toArray, List.getElem_cons_zero, List.getElem_cons_succ, List.setIfInBounds_toArray, List.set_cons_zero, List.set_cons_succ]
            refine wpAnyH_take (i := 21) (v := ?_) rfl (by kernel_rfl) (by kernel_rfl) (by kernel_rfl) (fun _ _ _ h => h) (Or.inl ⟨by kernel_rfl, ?_⟩) hH0 ?_
            rotate_left 1
            · intro w hSw
              go_simp
              try with_reducible rfl
            try simp only [Act.put, List.getElem_toArray, List.getElem_cons_zero, List.getElem_cons_succ, List.setIfInBounds_toArray, List.set_cons_zero, List.set_cons_succ]
            refine wpAnyH_take (i := 22) (v := ?_) rfl (by kernel_rfl) (by kernel_rfl) (by kernel_rfl) (fun _ _ _ h => h) (Or.inl ⟨by kernel_rfl, ?_⟩) hH0 ?_
            rotate_left 1
            · intro w hSw
              have f0 := (hSw.cell (p := ⟨q.p, 3, none⟩) lp).trans x3
              have f1 := (hSw.cell (p := ⟨x.blk, 34, none⟩) le).trans y34
              have f2 := (hSw.cell (p := ⟨bb.blk, 34, none⟩) lb).trans z34
              go_simp
              try with_reducible rfl
            try simp only [Act.put, List.getElem_toArray, List.getElem_cons_zero, List.getElem_cons_succ, List.setIfInBounds_toArray, List.set_cons_zero, List.set_cons_succ]
            refine wpAnyH_take (i := 23) (v := ?_) rfl (by kernel_rfl) (by kernel_rfl) (by kernel_rfl) (fun _ _ _ h => h) (Or.inl ⟨by kernel_rfl, ?_⟩) hH0 ?_
            rotate_left 1
            · intro w hSw
              go_simp
              try with_reducible rfl
            try simp only [Act.put, List.getElem_toArray, List.getElem_cons_zero, List.getElem_cons_succ, List.setIfInBounds_toArray, List.set_cons_zero, List.set_cons_succ]
            refine wpAnyH_take (i := 24) (v := ?_) rfl (by kernel_rfl) (by kernel_rfl) (by kernel_rfl) (fun _ _ _ h => h) (Or.inl ⟨by kernel_rfl, ?_⟩) hH0 ?_
            rotate_left 1
            · intro w hSw
              go_simp
              try with_reducible rfl
            try simp only [Act.put, List.getElem_toArray, List.getElem_cons_zero, List.getElem_cons_succ, List.setIfInBounds_toArray, List.set_cons_zero, List.set_cons_succ]
            refine wpAnyH_take (i := 25) (v := ?_) rfl (by kernel_rfl) (by kernel_rfl) (by kernel_rfl) (fun _ _ _ h => h) (Or.inl ⟨by kernel_rfl, ?_⟩) hH0 ?_
            rotate_left 1
            · intro w hSw
              go_simp
              try with_reducible rfl
            try simp only [Act.put, List.getElem_toArray, List.getElem_cons_zero, List.getElem_cons_succ, List.setIfInBounds_toArray, List.set_cons_zero, List.set_cons_succ]
            refine wpAnyH_done (by kernel_rfl) ?_ _
            have hb := hH0
            have hl3 : Only [r] w1 W0 := HO.out.trans (Only.of_below hH0)
            have HL3 := Lib.hid hl3
            have hit4 := Hit3.out.keep (hH0.block q.ma Hit3.out.lt.1) (hH0.block r Hit3.out.lt.2.1)
            have Hit4 := Lib.hid hit4
            have hrl : (W0).rangeLeft q.ma r = w2.rangeLeft q.ma r := iter_same Hit3.out hit4
            have Hrl := Lib.hid hrl
            clear hH0 hl3 hb hit4 hrl
            go_wp2_with fail
            go_roundw
            case rel => exact ⟨left.eraseIdx i, (some x), rfl, Hit4.out, Hbo.out.take Hx.out Hpin.out (fun b hb => by obtain rfl := Option.some.inj hb; rw [← Hxu.out, ← Hbu.out]; have := Hlt.out; omega), HL3.out⟩
            case measure => rw [Hrl.out]; exact Hm.out
          · have Hlt := Lib.hid hlt
            refine wp_region_held_drew (S := fun w' => Below w2.heap.size w2 w') (by kernel_rfl) ((Below.refl _ _).drew) (fun hH0 => ?_)
            obtain ⟨W0, hW0⟩ : ∃ W, W = w2.drew := ⟨_, rfl⟩
            rw [← hW0] at hH0 ⊢
            clear hW0
            refine wpAnyH_take (i := 0) (v := ?_) rfl (by kernel_rfl) (by kernel_rfl) (by kernel_rfl) (fun _ _ _ h => h) (Or.inl ⟨by kernel_rfl, ?_⟩) hH0 ?_
            rotate_left 1
            · intro w hSw
              go_simp
              try with_reducible rfl
            try simp only [Act.put, List.getElem_toArray, List.getElem_cons_zero, List.getElem_cons_succ, List.setIfInBounds_toArray, List.set_cons_zero, List.set_cons_succ]
            refine wpAnyH_take (i := 1) (v := ?_) rfl (by kernel_rfl) (by kernel_rfl) (by kernel_rfl) (fun _ _ _ h => h) (Or.inl ⟨by kernel_rfl, ?_⟩) hH0 ?_
            rotate_left 1
            · intro w hSw
              go_simp
              try with_reducible rfl
            try simp only [Act.put, List.getElem_toArray, List.getElem_cons_zero, List.getElem_cons_succ, List.setIfInBounds_toArray, List.set_cons_zero, List.set_cons_succ]
            refine wpAnyH_take (i := 2) (v := ?_) rfl (by kernel_rfl) (by kernel_rfl) (by kernel_rfl) (fun _ _ _ h => h) (Or.inl ⟨by kernel_rfl, ?_⟩) hH0 ?_
            rotate_left 1
            · intro w hSw
              go_simp
              try with_reducible rfl
            try simp only [Act.put, List.getElem_toArray, List.getElem_cons_zero, List.getElem_cons_succ, List.setIfInBounds_toArray, List.set_cons_zero, List.set_cons_succ]
            refine wpAnyH_take (i := 3) (v := ?_) rfl (by kernel_rfl) (by kernel_rfl) (by kernel_rfl) (fun _ _ _ h => h) (Or.inl ⟨by kernel_rfl, ?_⟩) hH0 ?_
            rotate_left 1
            · intro w hSw
              have f0 := (hSw.cell (p := ⟨q.p, 3, none⟩) lp).trans x3
              have f1 := (hSw.cell (p := ⟨x.blk, 34, none⟩) le).trans y34
              have f2 := (hSw.cell (p := ⟨bb.blk, 34, none⟩) lb).trans z34
              go_simp
              try with_reducible rfl
            try simp only [Act.put, List.getElem_toArray, List.getElem_cons_zero, List.getElem_cons_succ, List.setIfInBounds_toArray, List.set_cons_zero, List.set_cons_succ]
            refine wpAnyH_take (i := 4) (v := ?_) rfl (by kernel_rfl) (by kernel_rfl) (by kernel_rfl) (fun _ _ _ h => h) (Or.inl ⟨by kernel_rfl, ?_⟩) hH0 ?_
            rotate_left 1
            · intro w hSw
              go_simp
              try with_reducible rfl
            try simp only [Act.put, List.getElem_toArray, List.getElem_cons_zero, List.getElem_cons_succ, List.setIfInBounds_toArray, List.set_cons_zero, List.set_cons_succ]
            refine wpAnyH_take (i := 5) (v := ?_) rfl (by kernel_rfl) (by kernel_rfl) (by kernel_rfl) (fun _ _ _ h => h) (Or.inl ⟨by kernel_rfl, ?_⟩) hH0 ?_
            rotate_left 1
            · intro w hSw
              go_simp
              try with_reducible rfl
            try simp only [Act.put, List.getElem_toArray, List.getElem_cons_zero, List.getElem_cons_succ, List.setIfInBounds_toArray, List.set_cons_zero, List.set_cons_succ]
            refine wpAnyH_take (i := 6) (v := ?_) rfl (by kernel_rfl) (by kernel_rfl) (by kernel_rfl) (fun _ _ _ h => h) (Or.inl ⟨by kernel_rfl, ?_⟩) hH0 ?_
            rotate_left 1
            · intro w hSw
              go_simp
              try with_reducible rfl
            try simp only [Act.put, List.getElem_toArray, List.getElem_cons_zero, List.getElem_cons_succ, List.setIfInBounds_toArray, List.set_cons_zero, List.set_cons_succ]
            refine wpAnyH_take (i := 7) (v := ?_) rfl (by kernel_rfl) (by kernel_rfl) (by kernel_rfl) (fun _ _ _ h => h) (Or.inl ⟨by kernel_rfl, ?_⟩) hH0 ?_
            rotate_left 1
            · intro w hSw
              go_simp
              try with_reducible rfl
            try simp only [Act.put, List.getElem_toArray, List.getElem_cons_zero, List.getElem_cons_succ, List.setIfInBounds_toArray, List.set_cons_zero, List.set_cons_succ]
            refine wpAnyH_take (i := 8) (v := _) rfl (by kernel_rfl) (by kernel_rfl) (by kernel_rfl) (fun _ _ _ h => h) (yieldsIf_load_mid (by kernel_rfl) _ _ rfl _ _ rfl ic _ (fun W hW => range_below rn hW le) dund rfl dix) hH0 ?_
            try simp only [Act.put, List.getElem_toArray, List.getElem_cons_zero, List.getElem_cons_succ, List.setIfInBounds_toArray, List.set_cons_zero, List.set_cons_succ]
            refine wpAnyH_take (i := 9) (v := _) rfl (by kernel_rfl) (by kernel_rfl) (by kernel_rfl) (fun _ _ _ h => h) (yieldsIf_lookup (by kernel_rfl) 118 (.tmp 17) (.tmp 22) rfl (.bool false) (fun W hW => hpl.out W hW)) hH0 ?_
            try simp only [Act.put, List.getElem_toArray, List.getElem_cons_zero, List.getElem_cons_succ, List.setIfInBounds_toArray, List.set_cons_zero, List.set_cons_succ]
            refine wpAnyH_take (i := 10) (v := ?_) rfl (by kernel_rfl) (by kernel_rfl) (by kernel_rfl) (fun _ _ _ h => h) (Or.inl ⟨by kernel_rfl, ?_⟩) hH0 ?_
            rotate_left 1
            · intro w hSw
              go_simp
              try with_reducible rfl
            try simp only [Act.put, List.getElem_toArray, List.getElem_cons_zero, List.getElem_cons_succ, List.setIfInBounds_toArray, List.set_cons_zero, List.set_cons_succ]
            refine wpAnyH_take (i := 11) (v := ?_) rfl (by kernel_rfl) (by kernel_rfl) (by kernel_rfl) (fun _ _ _ h => h) (Or.inl ⟨by kernel_rfl, ?_⟩) hH0 ?_
            rotate_left 1
            · intro w hSw
              go_simp
              try with_reducible rfl
            try simp only [Act.put, List.getElem_toArray, List.getElem_cons_zero, List.getElem_cons_succ, List.setIfInBounds_toArray, List.set_cons_zero, List.set_cons_succ]
            refine wpAnyH_take (i := 12) (v := ?_) rfl (by kernel_rfl) (by kernel_rfl) (by kernel_rfl) (fun _ _ _ h => h) (Or.inl ⟨by kernel_rfl, ?_⟩) hH0 ?_
            rotate_left 1
            · intro w hSw
              go_simp
              try with_reducible rfl
            try simp only [Act.put, List.getElem_toArray, List.getElem_cons_zero, List.getElem_cons_succ, List.setIfInBounds_toArray, List.set_cons_zero, List.set_cons_succ]
            refine wpAnyH_take (i := 13) (v := ?_) rfl (by kernel_rfl) (by kernel_rfl) (by kernel_rfl) (fun _ _ _ h => h) (Or.inl ⟨by kernel_rfl, ?_⟩) hH0 ?_
            rotate_left 1
            · intro w hSw
              go_simp
              try with_reducible rfl
            try simp only [Act.put, List.getElem_toArray, List.getElem_cons_zero, List.getElem_cons_succ, List.setIfInBounds_toArray, List.set_cons_zero, List.set_cons_succ]
            refine wpAnyH_take (i := 14) (v := ?_) rfl (by kernel_rfl) (by kernel_rfl) (by kernel_rfl) (fun _ _ _ h => h) (Or.inl ⟨by kernel_rfl, ?_⟩) hH0 ?_
            rotate_left 1
            · intro w hSw
              go_simp
              try with_reducible rfl
            try simp only [Act.put, List.getElem_toArray, List.getElem_cons_zero, List.getElem_cons_succ, List.setIfInBounds_toArray, List.set_cons_zero, List.set_cons_succ]
            refine wpAnyH_take (i := 15) (v := ?_) rfl (by kernel_rfl) (by kernel_rfl) (by kernel_rfl) (fun _ _ _ h => h) (Or.inl ⟨by kernel_rfl, ?_⟩) hH0 ?_
            rotate_left 1
            · intro w hSw
              go_simp
              try with_reducible rfl
            try simp only [Act.put, List.getElem_toArray, List.getElem_cons_zero, List.getElem_cons_succ, List.setIfInBounds_toArray, List.set_cons_zero, List.set_cons_succ]
            refine wpAnyH_take (i := 16) (v := ?_) rfl (by kernel_rfl) (by kernel_rfl) (by kernel_rfl) (fun _ _ _ h => h) (Or.inl ⟨by kernel_rfl, ?_⟩) hH0 ?_
            rotate_left 1
            · intro w hSw
              go_simp
              try with_reducible rfl
            try simp only [Act.put, List.getElem_toArray, List.getElem_cons_zero, List.getElem_cons_succ, List.setIfInBounds_toArray, List.set_cons_zero, List.set_cons_succ]
            refine wpAnyH_take (i := 17) (v := ?_) rfl (by kernel_rfl) (by kernel_rfl) (by kernel_rfl) (fun _ _ _ h => h) (Or.inl ⟨by kernel_rfl, ?_⟩) hH0 ?_
            rotate_left 1
            · intro w hSw
              go_simp
              try with_reducible rfl
            try simp only [Act.put, List.getElem_toArray, List.getElem_cons_zero, List.getElem_cons_succ, List.setIfInBounds_toArray, List.set_cons_zero, List.set_cons_succ]
            refine wpAnyH_take (i := 18) (v := ?_) rfl (by kernel_rfl) (by kernel_rfl) (by kernel_rfl) (fun _ _ _ h => h) (Or.inl ⟨by kernel_rfl, ?_⟩) hH0 ?_
            rotate_left 1
            · intro w hSw
              have f0 := (hSw.cell (p := ⟨q.p, 3, none⟩) lp).trans x3
              have f1 := (hSw.cell (p := ⟨x.blk, 34, none⟩) le).trans y34
              have f2 := (hSw.cell (p := ⟨bb.blk, 34, none⟩) lb).trans z34
              go_simp
              try with_reducible rfl
            try simp only [Act.put, List.getElem_toArray, List.getElem_cons_zero, List.getElem_cons_succ, List.setIfInBounds_toArray, List.set_cons_zero, List.set_cons_succ]
            refine wpAnyH_take (i := 19) (v := ?_) rfl (by kernel_rfl) (by kernel_rfl) (by kernel_rfl) (fun _ _ _ h => h) (Or.inl ⟨by kernel_rfl, ?_⟩) hH0 ?_
            rotate_left 1
            · intro w hSw
              go_simp
              try with_reducible rfl
            try simp only [Act.put, List.getElem_toArray, List.getElem_cons_zero, List.getElem_cons_succ, List.setIfInBounds_toArray, List.set_cons_zero, List.set_cons_succ]
            refine wpAnyH_take (i := 20) (v := ?_) rfl (by kernel_rfl) (by kernel_rfl) (by kernel_rfl) (fun _ _ _ h => h) (Or.inl ⟨by kernel_rfl, ?_⟩) hH0 ?_
            rotate_left 1
            · intro w hSw
              go_simp
              try with_reducible rfl
            try simp only [Act.put, List.getElem_toArray, List.getElem_cons_zero, List.getElem_cons_succ, List.setIfInBounds_toArray, List.set_cons_zero, List.set_cons_succ]
            refine wpAnyH_take (i := 21) (v := ?_) rfl (by kernel_rfl) (by kernel_rfl) (by kernel_rfl) (fun _ _ _ h => h) (Or.inl ⟨by kernel_rfl, ?_⟩) hH0 ?_
            rotate_left 1
            · intro w hSw
              go_simp
              try with_reducible rfl
            try simp only [Act.put, List.getElem_toArray, List.getElem_cons_zero, List.getElem_cons_succ, List.setIfInBounds_toArray, List.set_cons_zero, List.set_cons_succ]
            refine wpAnyH_take (i := 22) (v := ?_) rfl (by kernel_rfl) (by kernel_rfl) (by kernel_rfl) (fun _ _ _ h => h) (Or.inl ⟨by kernel_rfl, ?_⟩) hH0 ?_
            rotate_left 1
            · intro w hSw
              have f0 := (hSw.cell (p := ⟨q.p, 3, none⟩) lp).trans x3
              have f1 := (hSw.cell (p := ⟨x.blk, 34, none⟩) le).trans y34
              have f2 := (hSw.cell (p := ⟨bb.blk, 34, none⟩) lb).trans z34
              go_simp
              try with_reducible rfl
            try simp only [Act.put, List.getElem_toArray, List.getElem_cons_zero, List.getElem_cons_succ, List.setIfInBounds_toArray, List.set_cons_zero, List.set_cons_succ]
            refine wpAnyH_take (i := 23) (v := ?_) rfl (by kernel_rfl) (by kernel_rfl) (by kernel_rfl) (fun _ _ _ h => h) (Or.inl ⟨by kernel_rfl, ?_⟩) hH0 ?_
            rotate_left 1
            · intro w hSw
              go_simp
              try with_reducible rfl
            try simp only [Act.put, List.getElem_toArray, List.getElem_cons_zero, List.getElem_cons_succ, List.setIfInBounds_toArray, List.set_cons_zero, List.set_cons_succ]
            refine wpAnyH_take (i := 24) (v := ?_) rfl (by kernel_rfl) (by kernel_rfl) (by kernel_rfl) (fun _ _ _ h => h) (Or.inl ⟨by kernel_rfl, ?_⟩) hH0 ?_
            rotate_left 1
            · intro w hSw
              go_simp
              try with_reducible rfl
            try simp only [Act.put, List.getElem_toArray, List.getElem_cons_zero, List.getElem_cons_succ, List.setIfInBounds_toArray, List.set_cons_zero, List.set_cons_succ]
            refine wpAnyH_take (i := 25) (v := ?_) rfl (by kernel_rfl) (by kernel_rfl) (by kernel_rfl) (fun _ _ _ h => h) (Or.inl ⟨by kernel_rfl, ?_⟩) hH0 ?_
            rotate_left 1
            · intro w hSw
              go_simp
              try with_reducible rfl
            try simp only [Act.put, List.getElem_toArray, List.getElem_cons_zero, List.getElem_cons_succ, List.setIfInBounds_toArray, List.set_cons_zero, List.set_cons_succ]
            refine wpAnyH_done (by kernel_rfl) ?_ _
            have hb := hH0
            have hl3 : Only [r] w1 W0 := HO.out.trans (Only.of_below hH0)
            have HL3 := Lib.hid hl3
            have hit4 := Hit3.out.keep (hH0.block q.ma Hit3.out.lt.1) (hH0.block r Hit3.out.lt.2.1)
            have Hit4 := Lib.hid hit4
            have hrl : (W0).rangeLeft q.ma r = w2.rangeLeft q.ma r := iter_same Hit3.out hit4
            have Hrl := Lib.hid hrl
            clear hH0 hl3 hb hit4 hrl
            go_wp2_with fail
            go_roundw
            case rel => exact ⟨left.eraseIdx i, (some bb), rfl, Hit4.out, Hbo.out.skip Hx.out (.inr ⟨bb, rfl, by rw [← Hxu.out, ← Hbu.out]; have := Hlt.out; omega⟩), HL3.out⟩
            case measure => rw [Hrl.out]; exact Hm.out
end Go.Proofs.YteihfoacdocgkaaDoor

set_option linter.unusedVariables false
set_option linter.unusedSimpArgs false
namespace Go.Proofs.YteihfoacdocgkaaDoor
open Go.RowKit Pl Sh
attribute [local go_sem] Lb.ba_get Lb.ba_cut Lb.ba_add Lb.ba_size Lb.take_rest

set_option maxHeartbeats 2000000 in
set_option maxRecDepth 100000 in
theorem room_none (q : HvP) (d : HvD) (w : World) (h : HvAt w q d) (hns : d.s.slots.length ≤ 128) (hfull : ∀ i, i < d.s.slots.length → ∃ e ∈ d.L, e.at_ = i) (hno : ∀ e ∈ d.L, e.id ∈ d.pins) :
    Calls Tryd.prog 126 #[.pointer (some ⟨q.p, 0, none⟩)] w fun r w' => r = .returned (.tuple #[.int .i64 0, .int .i64 11]) ∧ Below w.heap.size w w' := by
  obtain ⟨c0, -, c2, -, -, -, -, -⟩ := hv_cells h
  have hl := Lib.hid (len_any q.b q.g d.s w h.sh)
  obtain ⟨n, hn⟩ : ∃ n, n = d.s.slots.length := ⟨_, rfl⟩
  rw [← hn] at hl hfull hns
  have Hyes := Lib.hid (fun i (hi : i < n) => taken_yes h (hfull i hi))
  have Hold := Lib.hid (oldest_any q d w h)
  have Hno := Lib.hid hno
  clear h hn hfull hno
  go_enter Tryd.func126, Tryd.ntmps126
  go_wp2_with fail
  refine hl.out.mono ?_
  rintro e w1 ⟨rfl, rfl⟩
  clear hl
  go_wp2_with fail
  go_loopw [13] (fun i wr => ∃ k : Nat, k ≤ n ∧ i = .int .i64 k ∧ w = wr) (fun i _ => n - (intOf i).toNat)
  case atStart => exact ⟨0, by omega, rfl, by first | trivial | rfl⟩
  case round =>
    obtain ⟨k, hk, rfl, rfl⟩ := hrel
    by_cases hkm : k < n
    · have j1 : (k : Int) < (n : Int) := by omega
      have hy := Hyes.out k hkm
      go_wp2_with (refine wpList_lookupR rfl 117 _ _ rfl (.bool true) hy ?_)
      go_roundw
      case rel => exact ⟨k + 1, by omega, by go_num, by first | trivial | rfl⟩
      case measure => simp [intOf]; omega
    · have j1 : ¬ (k : Int) < (n : Int) := by omega
      clear c2
      go_wp2_with fail
      refine Hold.out.mono ?_
      rintro e w2 ⟨best, rfl, hbo, hB⟩
      obtain rfl : best = none := by
        cases best with
        | none => rfl
        | some b => exact absurd (Hno.out b (hbo.mem b rfl).1) (hbo.mem b rfl).2
      have HB := Lib.hid hB
      clear hbo hB c0
      simp only [ptrE]
      go_wp2_with fail
      go_ret2
      exact ⟨rfl, HB.out⟩

def EvictPost (w : World) (q : HvP) (d : HvD) (j : Nat) (x : HEnt) (e : Ending) (w' : World) : Prop :=
  Only (q.own d.L) w w' ∧
  ((St.writeErr d.s x.at_ [] ≠ 0 ∧ e = .returned (.tuple #[.int .i64 0, .int .i64 (St.writeErr d.s x.at_ [])]) ∧ HvAt w' q { d with s := St.write d.s x.at_ [], dead := d.dead || (St.writeErr d.s x.at_ [] == 10) }) ∨
   (St.writeErr d.s x.at_ [] = 0 ∧ St.syncErr (St.write d.s x.at_ []) ≠ 0 ∧ e = .returned (.tuple #[.int .i64 0, .int .i64 (St.syncErr (St.write d.s x.at_ []))]) ∧ HvAt w' q { d with s := St.sync (St.write d.s x.at_ []), dead := d.dead || (St.syncErr (St.write d.s x.at_ []) == 10) }) ∨
   (St.writeErr d.s x.at_ [] = 0 ∧ St.syncErr (St.write d.s x.at_ []) = 0 ∧ e = .returned (.tuple #[.int .i64 x.at_, .int .i64 0]) ∧ HvAt w' q { d with s := St.sync (St.write d.s x.at_ []), L := d.L.eraseIdx j }))
set_option maxHeartbeats 4000000 in
set_option maxRecDepth 100000 in
theorem room_evict (q : HvP) (d : HvD) (j : Nat) (x : HEnt) (w : World) (h : HvAt w q d) (hns : d.s.slots.length ≤ 128) (hfull : ∀ i, i < d.s.slots.length → ∃ e ∈ d.L, e.at_ = i) (hj : d.L[j]? = some x) (hx : x.id ∉ d.pins) (hlow : ∀ e ∈ d.L, e.id ∈ d.pins ∨ x.used ≤ e.used) (huq : ∀ e ∈ d.L, e.used = x.used → e = x)
    (hf1 : d.s.pw.fits 2) (hf2 : (St.write d.s x.at_ []).pw.fits 2) :
    Calls Tryd.prog 126 #[.pointer (some ⟨q.p, 0, none⟩)] w (EvictPost w q d j x) := by
  obtain ⟨c0, -, c2, -, -, -, -, -⟩ := hv_cells h
  have hl := Lib.hid (len_any q.b q.g d.s w h.sh)
  obtain ⟨n, hn⟩ : ∃ n, n = d.s.slots.length := ⟨_, rfl⟩
  rw [← hn] at hl hfull hns
  have Hyes := Lib.hid (fun i (hi : i < n) => taken_yes h (hfull i hi))
  have Hold := Lib.hid (oldest_any q d w h)
  have hxL := List.mem_of_getElem? hj
  obtain ⟨y33, -, -, -⟩ := ent_cells (h.fit x hxL) (h.ents x hxL)
  have lp : q.p < w.heap.size := heap_lt h.hp
  have lx : x.blk < w.heap.size := heap_lt (h.ents x hxL)
  obtain ⟨-, n2⟩ := own_nd h.nd
  have nx : x.blk ∉ [q.b, q.g, q.p] := by simp; exact ⟨(n2 x hxL).2.2.2.2.1, (n2 x hxL).2.2.2.2.2, (n2 x hxL).1⟩
  have nx2 : x.blk ∉ [q.b, q.g, q.p, q.ma, q.mt] := by simp; exact ⟨(n2 x hxL).2.2.2.2.1, (n2 x hxL).2.2.2.2.2, (n2 x hxL).1, (n2 x hxL).2.1, (n2 x hxL).2.2.1⟩
  have hbest : Hid (∀ best, BestOf d.L [] d.pins best → best = some x) := Lib.hid (fun best hb => by
    rcases hb.low x hxL with h1 | h1 | ⟨b, h1, h2⟩
    · cases h1
    · exact absurd h1 hx
    · obtain ⟨m1, m2⟩ := hb.mem b h1
      rcases hlow b m1 with h3 | h3
      · exact absurd h3 m2
      · rw [h1, huq b m1 (by omega)])
  have hmem := @own_mem q d.L
  have hsub : Hid (∀ k ∈ [q.b, q.g, q.p, q.ma, q.mt], k ∈ q.own d.L) := Lib.hid (by intro k hk; simp at hk; rcases hk with rfl | rfl | rfl | rfl | rfl; exact hmem.2.2.2.2.1; exact hmem.2.2.2.2.2.1; exact hmem.1; exact hmem.2.1; exact hmem.2.2.1)
  have H := Lib.hid h
  have Hj := Lib.hid hj
  have Hf1 := Lib.hid hf1
  obtain ⟨at9, hat⟩ : ∃ a, a = x.at_ := ⟨_, rfl⟩
  unfold EvictPost
  rw [← hat] at y33 hf2 ⊢
  have Hat := Lib.hid hat
  obtain ⟨s1, hs1⟩ : ∃ s, s = St.write d.s (at9 : Int) [] := ⟨_, rfl⟩
  rw [← hs1] at hf2 ⊢
  have Hs1 := Lib.hid hs1
  have Hf2 := Lib.hid hf2
  obtain ⟨e1, he1⟩ : ∃ e, e = St.writeErr d.s (at9 : Int) [] := ⟨_, rfl⟩
  obtain ⟨e2, he2⟩ : ∃ e, e = St.syncErr s1 := ⟨_, rfl⟩
  rw [← he1, ← he2]
  have He1 := Lib.hid he1
  have He2 := Lib.hid he2
  have at0 : (0 : Int) ≤ (at9 : Int) := by omega
  clear h hn hfull hj hx hlow huq hxL n2 hmem hf1 hf2 hat hs1 he1 he2
  go_enter Tryd.func126, Tryd.ntmps126
  go_wp2_with fail
  refine hl.out.mono ?_
  rintro e w1 ⟨rfl, rfl⟩
  clear hl
  go_wp2_with fail
  go_loopw [13] (fun i wr => ∃ k : Nat, k ≤ n ∧ i = .int .i64 k ∧ w = wr) (fun i _ => n - (intOf i).toNat)
  case atStart => exact ⟨0, by omega, rfl, by first | trivial | rfl⟩
  case round =>
    obtain ⟨k, hk, rfl, rfl⟩ := hrel
    by_cases hkm : k < n
    · have j1 : (k : Int) < (n : Int) := by omega
      have hy := Hyes.out k hkm
      go_wp2_with (refine wpList_lookupR rfl 117 _ _ rfl (.bool true) hy ?_)
      go_roundw
      case rel => exact ⟨k + 1, by omega, by go_num, by first | trivial | rfl⟩
      case measure => simp [intOf]; omega
    · have j1 : ¬ (k : Int) < (n : Int) := by omega
      clear c2
      go_wp2_with fail
      refine Hold.out.mono ?_
      rintro e w2 ⟨best, rfl, hbo, hB⟩
      obtain rfl := hbest.out best hbo
      have HB := Lib.hid hB
      have H2 := Lib.hid (H.out.below hB)
      have c0 := (hB.cell (p := ⟨q.p, 0, none⟩) lp).trans c0
      have y33 := (hB.cell (p := ⟨x.blk, 33, none⟩) lx).trans y33
      have lx2 : x.blk < w2.heap.size := Nat.lt_of_lt_of_le lx hB.size
      clear hbo hB
      simp only [ptrE]
      go_upto_region 10 with fail
      refine wp_region_held_drew (S := fun w' => Only [q.b, q.g, q.p] w2 w' ∧ w'.cell? ⟨q.p, 0, none⟩ = some (.pointer (some ⟨q.b, 0, none⟩))) (by kernel_rfl) ⟨(Only.refl _ _).drew, c0⟩ (fun hH0 => ?_)
      obtain ⟨W0, hW0⟩ : ∃ W, W = w2.drew := ⟨_, rfl⟩
      have hA0 : Hid (HvAt W0 q d) := Lib.hid (by rw [hW0]; exact H2.out.keep (fun k hk => rfl))
      rw [← hW0] at hH0 ⊢
      clear hW0
      refine wpAnyH_take (i := 0) (v := ?_) rfl (by kernel_rfl) (by kernel_rfl) (by kernel_rfl) (fun _ _ _ h => h) (Or.inl ⟨by kernel_rfl, ?_⟩) hH0 ?_
      rotate_left 1
      · intro w hSw
        go_simp
        try with_reducible rfl
      try simp only [Act.put, List.getElem_toArray, List.getElem_cons_zero, List.getElem_cons_succ, List.setIfInBounds_toArray, List.set_cons_zero, List.set_cons_succ]
      refine wpAnyH_take (i := 1) (v := ?_) rfl (by kernel_rfl) (by kernel_rfl) (by kernel_rfl) (fun _ _ _ h => h) (Or.inl ⟨by kernel_rfl, ?_⟩) hH0 ?_
      rotate_left 1
      · intro w hSw
        go_simp
        try with_reducible rfl
      try simp only [Act.put, List.getElem_toArray, List.getElem_cons_zero, List.getElem_cons_succ, List.setIfInBounds_toArray, List.set_cons_zero, List.set_cons_succ]
      refine wpAnyH_take (i := 2) (v := ?_) rfl (by kernel_rfl) (by kernel_rfl) (by kernel_rfl) (fun _ _ _ h => h) (Or.inl ⟨by kernel_rfl, ?_⟩) hH0 ?_
      rotate_left 1
      · intro w hSw
        go_simp
        try with_reducible rfl
      try simp only [Act.put, List.getElem_toArray, List.getElem_cons_zero, List.getElem_cons_succ, List.setIfInBounds_toArray, List.set_cons_zero, List.set_cons_succ]
      refine wpAnyH_take (i := 3) (v := ?_) rfl (by kernel_rfl) (by kernel_rfl) (by kernel_rfl) (fun _ _ _ h => h) (Or.inl ⟨by kernel_rfl, ?_⟩) hH0 ?_
      rotate_left 1
      · intro w hSw
        go_simp
        try with_reducible rfl
      try simp only [Act.put, List.getElem_toArray, List.getElem_cons_zero, List.getElem_cons_succ, List.setIfInBounds_toArray, List.set_cons_zero, List.set_cons_succ]
      refine wpAnyH_take (i := 4) (v := ?_) rfl (by kernel_rfl) (by kernel_rfl) (by kernel_rfl) (fun _ _ _ h => h) (Or.inl ⟨by kernel_rfl, ?_⟩) hH0 ?_
      rotate_left 1
      · intro w hSw
        have f0 := hSw.2
        go_simp
        try with_reducible rfl
      try simp only [Act.put, List.getElem_toArray, List.getElem_cons_zero, List.getElem_cons_succ, List.setIfInBounds_toArray, List.set_cons_zero, List.set_cons_succ]
      refine wpAnyH_take (i := 5) (v := ?_) rfl (by kernel_rfl) (by kernel_rfl) (by kernel_rfl) (fun _ _ _ h => h) (Or.inl ⟨by kernel_rfl, ?_⟩) hH0 ?_
      rotate_left 1
      · intro w hSw
        go_simp
        try with_reducible rfl
      try simp only [Act.put, List.getElem_toArray, List.getElem_cons_zero, List.getElem_cons_succ, List.setIfInBounds_toArray, List.set_cons_zero, List.set_cons_succ]
      refine wpAnyH_take (i := 6) (v := ?_) rfl (by kernel_rfl) (by kernel_rfl) (by kernel_rfl) (fun _ _ _ h => h) (Or.inl ⟨by kernel_rfl, ?_⟩) hH0 ?_
      rotate_left 1
      · intro w hSw
        go_simp
        try with_reducible rfl
      try simp only [Act.put, List.getElem_toArray, List.getElem_cons_zero, List.getElem_cons_succ, List.setIfInBounds_toArray, List.set_cons_zero, List.set_cons_succ]
      refine wpAnyH_take (i := 7) (v := ?_) rfl (by kernel_rfl) (by kernel_rfl) (by kernel_rfl) (fun _ _ _ h => h) (Or.inl ⟨by kernel_rfl, ?_⟩) hH0 ?_
      rotate_left 1
      · intro w hSw
        go_simp
        try with_reducible rfl
      try simp only [Act.put, List.getElem_toArray, List.getElem_cons_zero, List.getElem_cons_succ, List.setIfInBounds_toArray, List.set_cons_zero, List.set_cons_succ]
      refine wpAnyH_take (i := 8) (v := ?_) rfl (by kernel_rfl) (by kernel_rfl) (by kernel_rfl) (fun _ _ _ h => h) (Or.inl ⟨by kernel_rfl, ?_⟩) hH0 ?_
      rotate_left 1
      · intro w hSw
        have f0 := (hSw.1.cell (p := ⟨x.blk, 33, none⟩) lx2 nx).trans y33
        go_simp
        try with_reducible rfl
      try simp only [Act.put, List.getElem_toArray, List.getElem_cons_zero, List.getElem_cons_succ, List.setIfInBounds_toArray, List.set_cons_zero, List.set_cons_succ]
      refine wpAnyH_ready (rs := [9]) (by kernel_rfl) (by simp) ?_
      refine AllReadyH.cons rfl (fun K_ hK => ?_) ?_
      · go_simp
        refine (write_any q.b q.g d.s (at9 : Int) [] W0 hA0.out.sh Hf1.out (by decide)).mono ?_
        rintro e W1 ⟨rfl, hsh1, hO1⟩
        have hA2 := Lib.hid (hv_shelf hA0.out hO1 hsh1)
        have hS1 : Only [q.b, q.g, q.p] w2 W1 ∧ W1.cell? ⟨q.p, 0, none⟩ = some (.pointer (some ⟨q.b, 0, none⟩)) := ⟨hH0.1.trans (hO1.mono (by simp)), (hv_cells hA2.out).1⟩
        rw [← He1.out]
        rw [← Hs1.out] at hA2
        clear hsh1 hO1 hA0
        refine hK.out _ _ hS1 (fun hH1 => ?_)
        clear hK K_
        try simp only [Act.put, List.getElem_toArray, List.getElem_cons_zero, List.getElem_cons_succ, List.setIfInBounds_toArray, List.set_cons_zero, List.set_cons_succ]
        refine wpAnyH_ready (rs := [10]) (by kernel_rfl) (by simp) ?_
        refine AllReadyH.cons rfl (fun K_ hK => ?_) ?_
        · go_simp
          refine (did_any q _ e1 W1 hA2.out).mono ?_
          rintro e W2 ⟨rfl, hd2, hO2⟩
          have hA3 := Lib.hid hd2
          have hS2 : Only [q.b, q.g, q.p] w2 W2 ∧ W2.cell? ⟨q.p, 0, none⟩ = some (.pointer (some ⟨q.b, 0, none⟩)) := ⟨hH1.1.trans (hO2.mono (by simp)), (hv_cells hA3.out).1⟩
          clear hd2 hO2 hA2
          refine hK.out _ _ hS2 (fun hH2 => ?_)
          clear hK K_
          try simp only [Act.put, List.getElem_toArray, List.getElem_cons_zero, List.getElem_cons_succ, List.setIfInBounds_toArray, List.set_cons_zero, List.set_cons_succ]
          refine wpAnyH_take (i := 11) (v := ?_) rfl (by kernel_rfl) (by kernel_rfl) (by kernel_rfl) (fun _ _ _ h => h) (Or.inl ⟨by kernel_rfl, ?_⟩) hH2 ?_
          rotate_left 1
          · intro w hSw
            go_simp
            try with_reducible rfl
          try simp only [Act.put, List.getElem_toArray, List.getElem_cons_zero, List.getElem_cons_succ, List.setIfInBounds_toArray, List.set_cons_zero, List.set_cons_succ]
          refine wpAnyH_done (by kernel_rfl) ?_ _
          have HH := Lib.hid (hH2)
          obtain ⟨w4, hw4⟩ : ∃ y, y = W2 := ⟨_, rfl⟩
          rw [← hw4] at HH hA3 ⊢
          clear hH2 hw4
          by_cases hz1 : e1 = 0
          · have He1z : Hid (e1 = 0) := Lib.hid hz1
            have e1b : (e1 != 0) = false := by simpa using hz1
            have hA4 : Hid (HvAt w4 q { d with s := s1 }) := Lib.hid (by have h := hA3.out; rwa [hz1, show (d.dead || ((0 : Int) == 10)) = d.dead by simp] at h)
            clear hA3 hz1
            go_upto_region 13 with fail
            have c04 := HH.out.2
            go_wp2_with fail
            refine (sync_any q.b q.g s1 w4 hA4.out.sh Hf2.out).mono ?_
            rintro e w5 ⟨rfl, hsh5, hO5⟩
            have hB2 := Lib.hid (hv_shelf hA4.out hO5 hsh5)
            have HS5 := Lib.hid (HH.out.1.trans (hO5.mono (by simp)))
            rw [← He2.out]
            clear hsh5 hO5 c04
            go_wp2_with fail
            refine (did_any q _ e2 w5 hB2.out).mono ?_
            rintro e w6 ⟨rfl, hd6, hO6⟩
            have hB3 := Lib.hid hd6
            have HG := Lib.hid (HS5.out.trans (hO6.mono (by simp)))
            clear hd6 hO6
            by_cases hz2 : e2 = 0
            · have Hz2 := Lib.hid hz2
              have e2b : (e2 != 0) = false := by simpa using hz2
              have hB4 : Hid (HvAt w6 q { d with s := St.sync s1 }) := Lib.hid (by have h := hB3.out; rwa [hz2, show (d.dead || ((0 : Int) == 10)) = d.dead by simp] at h)
              have hrm := Lib.hid (remove_any q { d with s := St.sync s1 } j x w6 hB4.out Hj.out)
              clear hB3 hz2
              go_wp2_with fail
              refine hrm.out.mono ?_
              rintro e w7 ⟨rfl, h7, hO7⟩
              have H7 := Lib.hid h7
              have hO27 : Only [q.b, q.g, q.p, q.ma, q.mt] w2 w7 := (HG.out.mono (by simp)).trans (hO7.mono (by simp))
              have y337 := (hO27.cell (p := ⟨x.blk, 33, none⟩) lx2 nx2).trans y33
              have HO27 := Lib.hid hO27
              clear h7 hO7 hO27 hrm
              go_wp2_with fail
              go_ret2
              exact ⟨(Only.of_below HB.out).trans (HO27.out.mono hsub.out), .inr (.inr ⟨He1z.out, Hz2.out, rfl, H7.out⟩)⟩
            · have hb2 : (e2 != 0) = true := by simpa using hz2
              have Hz2 := Lib.hid hz2
              clear hz2
              go_wp2_with fail
              go_ret2
              exact ⟨(Only.of_below HB.out).trans (HG.out.mono (fun k hk => hsub.out k (by simp at hk ⊢; omega))), .inr (.inl ⟨He1z.out, Hz2.out, rfl, hB3.out⟩)⟩
          · have hb1 : (e1 != 0) = true := by simpa using hz1
            have Hz1 := Lib.hid hz1
            clear hz1
            go_wp2_with fail
            go_ret2
            exact ⟨(Only.of_below HB.out).trans (HH.out.1.mono (fun k hk => hsub.out k (by simp at hk ⊢; omega))), .inl ⟨Hz1.out, rfl, hA3.out⟩⟩
        exact AllReadyH.nil
      exact AllReadyH.nil
end Go.Proofs.YteihfoacdocgkaaDoor

set_option linter.unusedVariables false
set_option linter.unusedSimpArgs false
namespace Go.Proofs.YteihfoacdocgkaaDoor
open Go.RowKit Pl Sh
attribute [local go_sem] Lb.ba_get Lb.ba_cut Lb.ba_add Lb.ba_size Lb.take_rest

set_option maxHeartbeats 4000000 in
set_option maxRecDepth 100000 in
theorem hput_err (q : HvP) (d d2 : HvD) (NC : Array Value) (row : List UInt8) (er a0 : Int) (w : World) (h : HvAt w q d) (he : er ≠ 0)
    (hroom : ∀ W, HvAt W q d → Calls Tryd.prog 126 #[.pointer (some ⟨q.p, 0, none⟩)] W fun e w' => e = .returned (.tuple #[.int .i64 a0, .int .i64 er]) ∧ HvAt w' q d2 ∧ Only (q.own d.L) W w') :
    Calls Tryd.prog 68 #[.pointer (some ⟨q.p, 0, none⟩), .agg NC, .string ⟨row.toArray⟩] w fun e w' => e = .returned (.int .i64 er) ∧ HvAt w' q d2 ∧ Only (q.own d.L) w w' := by
  have hb1 := (Below.refl w.heap.size w).alloc (Nat.le_refl _) (.cells NC 127)
  have h1 := h.below hb1
  have hr := Lib.hid (hroom _ h1)
  have Hb1 := Lib.hid hb1
  have hen : (er != 0) = true := by simpa using he
  clear h hb1 h1 hroom he
  go_enter Tryd.func68, Tryd.ntmps68
  go_wp2_with fail
  refine hr.out.mono ?_
  rintro e w2 ⟨rfl, h2, hO2⟩
  have H2 := Lib.hid h2
  have HO2 := Lib.hid hO2
  clear hr h2 hO2
  go_wp2_with fail
  go_ret
  exact ⟨rfl, H2.out, (Only.of_below Hb1.out).trans HO2.out⟩

def PutGPost (K : List Int) (w : World) (q : HvP) (d d2 : HvD) (isB : Bool) (id row : List UInt8) (m : Nat) (e : Ending) (w' : World) : Prop :=
  Only (q.own d.L) w w' ∧
  ((St.writeErr d2.s m (textS K row) ≠ 0 ∧ e = .returned (.int .i64 (St.writeErr d2.s m (textS K row))) ∧ HvAt w' q { d2 with s := St.write d2.s m (textS K row), dead := d2.dead || (St.writeErr d2.s m (textS K row) == 10) }) ∨
   (St.writeErr d2.s m (textS K row) = 0 ∧ e = .returned (.int .i64 0) ∧ ∃ blk, w.heap.size ≤ blk ∧ HvAt w' q { d2 with s := St.write d2.s m (textS K row), L := d2.L ++ [⟨isB, id, m, ((d2.clk + 1 : Nat) : Int), row, blk⟩], clk := d2.clk + 1 }))
set_option maxHeartbeats 4000000 in
set_option maxRecDepth 100000 in
theorem hput_gen (K : List Int) (q : HvP) (d d2 : HvD) (isB : Bool) (id row : List UInt8) (m : Nat) (w : World) (h : HvAt w q d) (hL : Laid K w) (h0 : 0 ∉ q.own d.L)
    (hroom : ∀ W, HvAt W q d → Calls Tryd.prog 126 #[.pointer (some ⟨q.p, 0, none⟩)] W fun e w' => e = .returned (.tuple #[.int .i64 m, .int .i64 0]) ∧ HvAt w' q d2 ∧ Only (q.own d.L) W w')
    (hm : m < 1000) (hfree : ∀ e ∈ d2.L, e.at_ ≠ m) (hid : id.length = 32) (hrow : row.length ≤ 600) (hk : ∀ e ∈ d2.L, (e.isB, e.id) ≠ (isB, id)) (hc : d2.clk < 1000000) (hfit : d2.s.pw.fits 2) :
    Calls Tryd.prog 68 #[.pointer (some ⟨q.p, 0, none⟩), .agg (Value.bool isB :: byV id).toArray, .string ⟨row.toArray⟩] w (PutGPost K w q d d2 isB id row m) := by
  obtain ⟨NC, hNC⟩ : ∃ x, x = (Value.bool isB :: byV id).toArray := ⟨_, rfl⟩
  have hNl : NC.size = 33 := by rw [hNC]; simp [byV_length, hid]
  have hb1 := (Below.refl w.heap.size w).alloc (Nat.le_refl _) (.cells NC 127)
  have hn0 := heap_alloc_new w (.cells NC 127)
  have h1 := h.below hb1
  have hL1 := hL.below hb1
  obtain ⟨w1, hw1⟩ : ∃ y, y = w.alloc (.cells NC 127) := ⟨_, rfl⟩
  obtain ⟨n0, hn⟩ : ∃ y, y = w.heap.size := ⟨_, rfl⟩
  rw [← hw1] at h1 hn0 hb1 hL1
  rw [← hn] at hn0
  have hr := Lib.hid (hroom w1 h1)
  have hOth : ∀ W, (Only (q.own d.L) w1 W) → Laid K W := fun W hW => hL1.only hW h0
  have hlt := h.lt
  have hsub : ∀ k ∈ [q.p, q.b, q.g, q.ma, q.mt], k ∈ q.own d.L := by
    have mm := @own_mem q d.L
    intro k hk
    simp at hk
    rcases hk with rfl | rfl | rfl | rfl | rfl
    · exact mm.1
    · exact mm.2.2.2.2.1
    · exact mm.2.2.2.2.2.1
    · exact mm.2.1
    · exact mm.2.2.1
  have Hsub := Lib.hid hsub
  have Hn0 := Lib.hid hn0
  have Hb1 := Lib.hid hb1
  have Hn := Lib.hid hn
  have Hw1 := Lib.hid hw1
  have HNC := Lib.hid hNC
  have Hk := Lib.hid hk
  have Hfree := Lib.hid hfree
  have Hid' := Lib.hid hid
  have Hlt := Lib.hid hlt
  have Hfit := Lib.hid hfit
  have NDIX : Hid ((Tryd.prog.info? 127).map (·.size) = some NC.size) := Lib.hid (by rw [name_info, hNl])
  obtain ⟨tx, htx⟩ : ∃ t, t = textS K row := ⟨_, rfl⟩
  have htl : tx.length ≤ 632 := by rw [htx]; unfold textS; rw [List.length_append, hashB_length]; omega
  have Htx := Lib.hid htx
  have HOth := Lib.hid hOth
  unfold PutGPost
  rw [← htx]
  obtain ⟨s1, hs1⟩ : ∃ s, s = St.write d2.s (m : Int) tx := ⟨_, rfl⟩
  obtain ⟨e1, he1⟩ : ∃ e, e = St.writeErr d2.s (m : Int) tx := ⟨_, rfl⟩
  rw [← hs1, ← he1]
  have Hs1 := Lib.hid hs1
  have He1 := Lib.hid he1
  rw [← hNC]
  clear h h1 hL hL1 hb1 hn hw1 hn0 hNC hk hfree hid hlt hNl htx hOth h0 hroom hfit hs1 he1 hsub
  go_enter Tryd.func68, Tryd.ntmps68
  go_upto_region 1 with fail
  rw [← Hw1.out, ← Hn.out]
  go_wp2_with fail
  refine hr.out.mono ?_
  rintro e w2 ⟨rfl, h2, hO2⟩
  have H2 := Lib.hid h2
  have HO2 := Lib.hid hO2
  have c0 := (hv_cells h2).1
  clear hr h2 hO2
  go_upto_region 4 with fail
  have htext := Lib.hid (fun W (hW : Only (q.own d.L) w1 W) => htext_any K row W (HOth.out W hW) (by omega))
  rw [← Htx.out] at htext
  refine wp_region_held_drew (S := fun w' => Only (q.own d.L) w1 w' ∧ w'.cell? ⟨q.p, 0, none⟩ = some (.pointer (some ⟨q.b, 0, none⟩))) (by kernel_rfl) ⟨HO2.out.drew, c0⟩ (fun hH0 => ?_)
  obtain ⟨W0, hW0⟩ : ∃ W, W = w2.drew := ⟨_, rfl⟩
  have hA0 : Hid (HvAt W0 q d2) := Lib.hid (by rw [hW0]; exact H2.out.keep (fun k hk => rfl))
  rw [← hW0] at hH0 ⊢
  clear hW0
  refine wpAnyH_take (i := 0) (v := ?_) rfl (by kernel_rfl) (by kernel_rfl) (by kernel_rfl) (fun _ _ _ h => h) (Or.inl ⟨by kernel_rfl, ?_⟩) hH0 ?_
  rotate_left 1
  · intro w hSw
    go_simp
    try with_reducible rfl
  try simp only [Act.put, List.getElem_toArray, List.getElem_cons_zero, List.getElem_cons_succ, List.setIfInBounds_toArray, List.set_cons_zero, List.set_cons_succ]
  refine wpAnyH_take (i := 1) (v := ?_) rfl (by kernel_rfl) (by kernel_rfl) (by kernel_rfl) (fun _ _ _ h => h) (Or.inl ⟨by kernel_rfl, ?_⟩) hH0 ?_
  rotate_left 1
  · intro w hSw
    go_simp
    try with_reducible rfl
  try simp only [Act.put, List.getElem_toArray, List.getElem_cons_zero, List.getElem_cons_succ, List.setIfInBounds_toArray, List.set_cons_zero, List.set_cons_succ]
  refine wpAnyH_take (i := 2) (v := ?_) rfl (by kernel_rfl) (by kernel_rfl) (by kernel_rfl) (fun _ _ _ h => h) (Or.inl ⟨by kernel_rfl, ?_⟩) hH0 ?_
  rotate_left 1
  · intro w hSw
    go_simp
    try with_reducible rfl
  try simp only [Act.put, List.getElem_toArray, List.getElem_cons_zero, List.getElem_cons_succ, List.setIfInBounds_toArray, List.set_cons_zero, List.set_cons_succ]
  refine wpAnyH_take (i := 3) (v := ?_) rfl (by kernel_rfl) (by kernel_rfl) (by kernel_rfl) (fun _ _ _ h => h) (Or.inl ⟨by kernel_rfl, ?_⟩) hH0 ?_
  rotate_left 1
  · intro w hSw
    go_simp
    try with_reducible rfl
  try simp only [Act.put, List.getElem_toArray, List.getElem_cons_zero, List.getElem_cons_succ, List.setIfInBounds_toArray, List.set_cons_zero, List.set_cons_succ]
  refine wpAnyH_take (i := 4) (v := ?_) rfl (by kernel_rfl) (by kernel_rfl) (by kernel_rfl) (fun _ _ _ h => h) (Or.inl ⟨by kernel_rfl, ?_⟩) hH0 ?_
  rotate_left 1
  · intro w hSw
    have f0 := hSw.2
    go_simp
    try with_reducible rfl
  try simp only [Act.put, List.getElem_toArray, List.getElem_cons_zero, List.getElem_cons_succ, List.setIfInBounds_toArray, List.set_cons_zero, List.set_cons_succ]
  refine wpAnyH_take (i := 5) (v := ?_) rfl (by kernel_rfl) (by kernel_rfl) (by kernel_rfl) (fun _ _ _ h => h) (Or.inl ⟨by kernel_rfl, ?_⟩) hH0 ?_
  rotate_left 1
  · intro w hSw
    go_simp
    try with_reducible rfl
  try simp only [Act.put, List.getElem_toArray, List.getElem_cons_zero, List.getElem_cons_succ, List.setIfInBounds_toArray, List.set_cons_zero, List.set_cons_succ]
  refine wpAnyH_take (i := 6) (v := ?_) rfl (by kernel_rfl) (by kernel_rfl) (by kernel_rfl) (fun _ _ _ h => h) (Or.inl ⟨by kernel_rfl, ?_⟩) hH0 ?_
  rotate_left 1
  · intro w hSw
    go_simp
    try with_reducible rfl
  try simp only [Act.put, List.getElem_toArray, List.getElem_cons_zero, List.getElem_cons_succ, List.setIfInBounds_toArray, List.set_cons_zero, List.set_cons_succ]
  refine wpAnyH_ready (rs := [7]) (by kernel_rfl) (by simp) ?_
  refine AllReadyH.cons rfl (fun K_ hK => ?_) ?_
  · go_simp
    refine (htext.out W0 hH0.1).mono ?_
    rintro e W1 ⟨rfl, hb1⟩
    have hA1 := Lib.hid (hA0.out.below hb1)
    have hS1 : Only (q.own d.L) w1 W1 ∧ W1.cell? ⟨q.p, 0, none⟩ = some (.pointer (some ⟨q.b, 0, none⟩)) := ⟨(Only.trans hH0.1 (Only.of_below hb1)), (hv_cells hA1.out).1⟩
    clear hA0
    refine hK.out _ _ hS1 (fun hH1 => ?_)
    clear hK K_
    try simp only [Act.put, List.getElem_toArray, List.getElem_cons_zero, List.getElem_cons_succ, List.setIfInBounds_toArray, List.set_cons_zero, List.set_cons_succ]
    refine wpAnyH_ready (rs := [8]) (by kernel_rfl) (by simp) ?_
    refine AllReadyH.cons rfl (fun K_ hK => ?_) ?_
    · go_simp
      refine (write_any q.b q.g d2.s (m : Int) tx W1 hA1.out.sh Hfit.out (by omega)).mono ?_
      rintro e W2 ⟨rfl, hsh2, hO2⟩
      have hA2 := Lib.hid (hv_shelf hA1.out hO2 hsh2)
      have hS2 : Only (q.own d.L) w1 W2 ∧ W2.cell? ⟨q.p, 0, none⟩ = some (.pointer (some ⟨q.b, 0, none⟩)) := ⟨hH1.1.trans (hO2.mono (fun k hk => Hsub.out k (by simp at hk ⊢; omega))), (hv_cells hA2.out).1⟩
      rw [← He1.out]
      rw [← Hs1.out] at hA2
      clear hsh2 hO2 hA1
      refine hK.out _ _ hS2 (fun hH2 => ?_)
      clear hK K_
      try simp only [Act.put, List.getElem_toArray, List.getElem_cons_zero, List.getElem_cons_succ, List.setIfInBounds_toArray, List.set_cons_zero, List.set_cons_succ]
      refine wpAnyH_ready (rs := [9]) (by kernel_rfl) (by simp) ?_
      refine AllReadyH.cons rfl (fun K_ hK => ?_) ?_
      · go_simp
        refine (did_any q _ e1 W2 hA2.out).mono ?_
        rintro e W3 ⟨rfl, hd3, hO3⟩
        have hA3 := Lib.hid hd3
        have hS3 : Only (q.own d.L) w1 W3 ∧ W3.cell? ⟨q.p, 0, none⟩ = some (.pointer (some ⟨q.b, 0, none⟩)) := ⟨hH2.1.trans (hO3.mono (fun k hk => Hsub.out k (by simp at hk ⊢; omega))), (hv_cells hA3.out).1⟩
        clear hd3 hO3 hA2
        refine hK.out _ _ hS3 (fun hH3 => ?_)
        clear hK K_
        try simp only [Act.put, List.getElem_toArray, List.getElem_cons_zero, List.getElem_cons_succ, List.setIfInBounds_toArray, List.set_cons_zero, List.set_cons_succ]
        refine wpAnyH_take (i := 10) (v := ?_) rfl (by kernel_rfl) (by kernel_rfl) (by kernel_rfl) (fun _ _ _ h => h) (Or.inl ⟨by kernel_rfl, ?_⟩) hH3 ?_
        rotate_left 1
        · intro w hSw
          go_simp
          try with_reducible rfl
        try simp only [Act.put, List.getElem_toArray, List.getElem_cons_zero, List.getElem_cons_succ, List.setIfInBounds_toArray, List.set_cons_zero, List.set_cons_succ]
        refine wpAnyH_done (by kernel_rfl) ?_ _
        have HH := Lib.hid (hH3).1
        obtain ⟨w5, hw5⟩ : ∃ y, y = W3 := ⟨_, rfl⟩
        rw [← hw5] at HH hA3 ⊢
        clear hH3 hw5 htext c0
        by_cases hz : e1 = 0
        · have Hz := Lib.hid hz
          have e1b : (e1 != 0) = false := by simpa using hz
          have hA5 : HvAt w5 q { d2 with s := s1 } := by
            have h := hA3.out
            rwa [hz, show (d2.dead || ((0 : Int) == 10)) = d2.dead by simp] at h
          have hn5 := HH.out.keep Hn0.out (fun hk => by have := Hlt.out n0 hk; have := Hn.out; omega)
          have hadd := Lib.hid (hadd_any q { d2 with s := s1 } isB id m row w5 hA5 Hid'.out (by omega) (by omega) hc Hk.out Hfree.out)
          rw [← HNC.out] at hadd
          have hsz : w.heap.size ≤ w5.heap.size := Nat.le_trans Hb1.out.size HH.out.size
          have Hsz := Lib.hid hsz
          have Hn5 := Lib.hid hn5
          clear hA5 hn5 hA3 hsz hz
          have nund := Tryd.underlying127
          have ndix := NDIX.out
          go_wp2_with (refine wpList_load_row rfl 127 _ rfl n0 rfl 127 NC (0, 0) _ Hn5.out nund rfl ndix ?_)
          refine hadd.out.mono ?_
          rintro e w6 ⟨rfl, blk, hbl, hA6, hO6⟩
          have HA6 := Lib.hid hA6
          have HO6 := Lib.hid hO6
          have Hbl := Lib.hid (Nat.le_trans Hsz.out hbl)
          clear hbl hA6 hO6 hadd
          go_wp2_with fail
          go_ret
          exact ⟨((Only.of_below Hb1.out).trans HH.out).trans (HO6.out.mono (fun k hk => Hsub.out k (by simp at hk ⊢; omega))), .inr ⟨Hz.out, rfl, blk, Hbl.out, HA6.out⟩⟩
        · have hb1 : (e1 != 0) = true := by simpa using hz
          have Hz := Lib.hid hz
          clear hz
          go_wp2_with fail
          go_ret
          exact ⟨(Only.of_below Hb1.out).trans HH.out, .inl ⟨Hz.out, rfl, hA3.out⟩⟩
      exact AllReadyH.nil
    exact AllReadyH.nil
  exact AllReadyH.nil
end Go.Proofs.YteihfoacdocgkaaDoor

set_option linter.unusedVariables false
set_option linter.unusedSimpArgs false
namespace Go.Proofs.YteihfoacdocgkaaDoor
open Go.RowKit Pl Sh
attribute [local go_sem] Lb.ba_get Lb.ba_cut Lb.ba_add Lb.ba_size Lb.take_rest

set_option maxHeartbeats 4000000 in
set_option maxRecDepth 100000 in
theorem gpb_wide (q : HvP) (d : HvD) (b : List UInt8) (K : List Int) (w : World) (hat : HvAt w q d) (hL : Laid K w) (hr : d.ready) (hb : 512 < b.length) :
    Calls Tryd.prog 23 #[.pointer (some ⟨q.p, 0, none⟩), .string ⟨b.toArray⟩] w fun e w' => e = .returned (.tuple #[.agg (digV (List.replicate 32 0)), .int .i64 33]) ∧ Below w.heap.size w w' := by
  have hi : (512 : Int) < (b.length : Int) := by omega
  have hbd := built_dig0
  have hb1 := (Below.refl w.heap.size w).alloc (Nat.le_refl _) (.cells (digV (List.replicate 32 0)) 23)
  have hn0 := heap_alloc_new w (.cells (digV (List.replicate 32 0)) 23)
  have h1 := hat.below hb1
  have hL1 := hL.below hb1
  obtain ⟨w1, hw1⟩ : ∃ y, y = w.alloc (.cells (digV (List.replicate 32 0)) 23) := ⟨_, rfl⟩
  obtain ⟨n0, hn⟩ : ∃ y, y = w.heap.size := ⟨_, rfl⟩
  rw [← hw1] at h1 hn0 hb1 hL1
  rw [← hn] at hn0
  have hrd := Lib.hid (ready_ok q d w1 h1 hr)
  have dund := Tryd.underlying23
  have Hn0 := Lib.hid hn0
  have Hb1 := Lib.hid hb1
  have Hn := Lib.hid hn
  have Hw1 := Lib.hid hw1
  have HAT := Lib.hid hat
  have HL1 := Lib.hid hL1
  have H1 := Lib.hid h1
  obtain ⟨DV, hDV⟩ : ∃ v, v = digV (List.replicate 32 0) := ⟨_, rfl⟩
  have dixA : (Tryd.prog.info? 23).map (·.size) = some DV.size := by rw [hDV, dig_info]; rfl
  have hone : DV.all (·.oneCell') = true := by rw [hDV]; exact digV_one _
  rw [← hDV] at hbd
  have HDV := Lib.hid hDV
  clear hat hr hL hL1 h1 hb1 hn0 hn hw1 hb hDV
  go_enter Tryd.func23, Tryd.ntmps23
  go_upto_region 1 with fail
  show Code.wp _ _ _ _ (w.alloc (.cells (digV (List.replicate 32 0)) 23))
  rw [← Hw1.out, ← Hn.out]
  go_wp2_with fail
  refine hrd.out.mono ?_
  rintro r w2 ⟨rfl, hB2⟩
  have B2 := Lib.hid (Hb1.out.trans (hB2.mono Hb1.out.size))
  have Hn2 := Lib.hid (below_keep hB2 Hn0.out)
  have H2 := Lib.hid (H1.out.below hB2)
  have HL2 := Lib.hid (HL1.out.below hB2)
  clear hB2 hrd
  have hn2 := Hn2.out
  rw [← HDV.out] at hn2
  have Hn2b := Lib.hid hn2
  clear hn2
  go_wp2_with (first
    | (refine wpList_build0' rfl 23 rfl DV hbd ?_)
    | (refine wpList_store_row rfl 23 _ _ rfl n0 DV rfl rfl 23 DV Hn2b.out dixA rfl hone ?_))
  (try simp only [Exit.inBlock, Exit.then])
  refine bodyPost_ret (results_cell_row2 rfl _ _ n0 23 DV (0, 0) _ rfl (setRow_heap _ _ _ _ _ _ Hn2b.out) dund rfl dixA) rfl ?_
  have hB3 : Below w.heap.size w (w2.setRow n0 DV) := B2.out.trans (((Only.refl [n0] w2).setRow (by simp) _).below B2.out.size (by intro x hx; simp at hx; rw [hx, Hn.out]; exact Nat.le_refl _))
  rw [← HDV.out]
  exact ⟨rfl, hB3⟩

set_option maxHeartbeats 4000000 in
set_option maxRecDepth 100000 in
theorem gpb_again (K : List Int) (q : HvP) (d : HvD) (j : Nat) (e : HEnt) (b : List UInt8) (w : World) (hat : HvAt w q d) (hL : Laid K w) (hr : d.ready) (hb : b.length ≤ 512) (hj : d.L[j]? = some e) (e1 : e.isB = true) (e2 : e.id = hashB K b) (hcl : d.clk < 1000000) :
    Calls Tryd.prog 23 #[.pointer (some ⟨q.p, 0, none⟩), .string ⟨b.toArray⟩] w fun r w' => r = .returned (.tuple #[.agg (digV (hashB K b)), .int .i64 0]) ∧ HvAt w' q { d with L := d.L.set j { e with used := ((d.clk + 1 : Nat) : Int) }, clk := d.clk + 1 } ∧ Only (q.own d.L) w w' := by
  have ib : ¬ (512 : Int) < (b.length : Int) := by omega
  obtain ⟨dg, hdg⟩ : ∃ x, x = hashB K b := ⟨_, rfl⟩
  have hdl : dg.length = 32 := by rw [hdg]; exact hashB_length K b
  have hbn := built_name true dg hdl
  obtain ⟨NV, hNV⟩ : ∃ x, x = (Value.bool true :: byV dg).toArray := ⟨_, rfl⟩
  rw [← hNV] at hbn
  have hNs : NV.size = 33 := by rw [hNV]; simp [byV_length, hdl]
  have ndixA : (Tryd.prog.info? 127).map (·.size) = some NV.size := by rw [name_info, hNs]
  have hNone : NV.all (·.oneCell') = true := by rw [hNV, List.all_toArray, List.all_cons, byV_one]; rfl
  obtain ⟨DL, hDL⟩ : ∃ x, x = byV dg := ⟨_, rfl⟩
  have dixL : (Tryd.prog.info? 23).map (·.size) = some DL.length := by rw [hDL, dig_info, byV_length, hdl]
  have dixA : (Tryd.prog.info? 23).map (·.size) = some DL.toArray.size := by rw [dixL]; simp
  have doneA : DL.toArray.all (·.oneCell') = true := by rw [hDL, List.all_toArray, byV_one]
  have dsz : DL.toArray.size = 32 := by rw [hDL]; simp [byV_length, hdl]
  have Hdg := Lib.hid hdg
  have HNV := Lib.hid hNV
  have HDL := Lib.hid hDL
  have Hdl := Lib.hid hdl

  have hb1 := (Below.refl w.heap.size w).alloc (Nat.le_refl _) (.cells (digV (List.replicate 32 0)) 23)
  have hn0 := heap_alloc_new w (.cells (digV (List.replicate 32 0)) 23)
  have h1 := hat.below hb1
  have hL1 := hL.below hb1
  obtain ⟨w1, hw1⟩ : ∃ y, y = w.alloc (.cells (digV (List.replicate 32 0)) 23) := ⟨_, rfl⟩
  obtain ⟨n0, hn⟩ : ∃ y, y = w.heap.size := ⟨_, rfl⟩
  rw [← hw1] at h1 hn0 hb1 hL1
  rw [← hn] at hn0
  have hrd := Lib.hid (ready_ok q d w1 h1 hr)
  have dund := Tryd.underlying23
  have Hn0 := Lib.hid hn0
  have Hb1 := Lib.hid hb1
  have Hn := Lib.hid hn
  have Hw1 := Lib.hid hw1
  have HAT := Lib.hid hat
  have HL1 := Lib.hid hL1
  have H1 := Lib.hid h1
  rw [← hdg] at e2
  have Hj := Lib.hid hj
  have E1 := Lib.hid e1
  have E2 := Lib.hid e2
  have Hown := Lib.hid (own_use (q := q) hj ((d.clk + 1 : Nat) : Int))
  clear hat hr hL hL1 h1 hb1 hn0 hn hw1 hj e1 e2 hdg hNV hDL hdl
  go_enter Tryd.func23, Tryd.ntmps23
  go_upto_region 1 with fail
  show Code.wp _ _ _ _ (w.alloc (.cells (digV (List.replicate 32 0)) 23))
  rw [← Hw1.out, ← Hn.out]
  go_wp2_with fail
  refine hrd.out.mono ?_
  rintro r w2 ⟨rfl, hB2⟩
  have B2 := Lib.hid (Hb1.out.trans (hB2.mono Hb1.out.size))
  have Hn2 := Lib.hid (below_keep hB2 Hn0.out)
  have H2 := Lib.hid (H1.out.below hB2)
  have HL2 := Lib.hid (HL1.out.below hB2)
  clear hB2 hrd
  have hb1s := (Below.refl w2.heap.size w2).alloc (Nat.le_refl _) (.cells #[.string ⟨b.toArray⟩] 9)
  have cb : (w2.alloc (.cells #[.string ⟨b.toArray⟩] 9)).cell? ⟨w2.heap.size, 0, none⟩ = some (.string ⟨b.toArray⟩) := by rw [Lib.cell_of_heap (heap_alloc_new w2 _)]; rfl
  have hof := Lib.hid (of_hash K (some ⟨w2.heap.size, 0, none⟩) 1 b _ (HL2.out.below hb1s) ⟨_, rfl, cb⟩ (by omega))
  have Hb1s := Lib.hid hb1s
  rw [← Hdg.out] at hof
  have hdd : digV dg = (byV dg).toArray := rfl
  rw [hdd] at hof
  clear hb1s cb hdd
  go_wp2_with fail
  refine hof.out.mono ?_
  rintro r w3 ⟨rfl, hB3⟩
  have hb23 : Below w2.heap.size w2 w3 := Hb1s.out.trans (hB3.mono Hb1s.out.size)
  have B3 := Lib.hid hb23
  clear hB3 hof hb23 Hb1s
  go_upto_region 7 with (first
    | (refine wpList_build2 rfl 127 _ _ _ _ rfl _ _ rfl rfl _ hbn ?_)
    | (refine wpList_store_row rfl 127 _ _ rfl w3.heap.size NV rfl rfl 127 _ (heap_alloc_new w3 _) ndixA (by rw [hNs]; rfl) hNone ?_))
  show Code.wp _ _ _ _ ((w3.alloc (.cells zeroName 127)).setRow w3.heap.size NV)
  have hq := setRow_heap _ _ _ NV _ _ (heap_alloc_new w3 (.cells zeroName 127))
  have hB4 : Below w3.heap.size w3 ((w3.alloc (.cells zeroName 127)).setRow w3.heap.size NV) := (Only.below (((Only.refl [w3.heap.size] w3).alloc _).setRow (by simp) _) (Nat.le_refl _) (by simp))
  obtain ⟨nb, hnb⟩ : ∃ q, q = w3.heap.size := ⟨_, rfl⟩
  obtain ⟨w5, hw5⟩ : ∃ y, y = ((w3.alloc (.cells zeroName 127)).setRow w3.heap.size NV) := ⟨_, rfl⟩
  rw [← hw5] at hq hB4 ⊢
  rw [← hnb] at hq ⊢
  have hb5 : Below w2.heap.size w2 w5 := B3.out.trans (hB4.mono B3.out.size)
  have h5 := H2.out.below hb5
  have hnb2 : w2.heap.size ≤ nb := by rw [hnb]; exact B3.out.size
  have r5 : w5.rangeAt nb 0 NV.toList := fun k v hv => by rw [Lib.cell_of_heap hq, Nat.zero_add]; simpa using hv
  have l5 : nb < w5.heap.size := heap_lt hq
  have x1 := (hv_cells h5).2.1
  have lp : q.p < w5.heap.size := heap_lt h5.hp
  have hLv : ∀ W, Below w5.heap.size w5 W → HvAt W q d := fun W hW => h5.below hW
  have ndix : (Tryd.prog.info? 127).map (·.size) = some NV.toList.length := by rw [ndixA]; simp
  have nund := Tryd.underlying127
  have rD : w5.rangeAt nb 1 DL := fun k v hv => by
    have h1 : NV[1 + k]? = some v := by
      rw [HNV.out, List.getElem?_toArray, Nat.add_comm, List.getElem?_cons_succ]
      rw [HDL.out] at hv; exact hv
    rw [Lib.cell_of_heap hq]; exact h1
  have Hn5 := Lib.hid (below_keep hb5 Hn2.out)
  have B5 := Lib.hid (B2.out.trans (hb5.mono B2.out.size))
  have H5 := Lib.hid h5
  have HL5 := Lib.hid (HL2.out.below hb5)
  have hlt := HAT.out.lt
  have hnS : nb ∉ q.own d.L := fun hm => by have := hlt nb hm; have := B2.out.size; omega
  have hn0S : n0 ∉ q.own d.L := fun hm => by have := hlt n0 hm; have := Hn.out; omega
  have HnS := Lib.hid hnS
  have Hn0S := Lib.hid hn0S
  have l0 : n0 < w5.heap.size := heap_lt Hn5.out
  clear hw5 hnb hB4 hq hb5 h5 hnb2 hlt hnS hn0S
  have hlook := Lib.hid (fun W (hW : Below w5.heap.size w5 W) => look_yes (hLv W hW) (List.mem_of_getElem? Hj.out))
  rw [show nameV (e.isB, e.id) = .agg NV from by rw [HNV.out, E1.out, E2.out]; rfl] at hlook
  obtain ⟨bk, hbk⟩ : ∃ x, x = e.blk := ⟨_, rfl⟩
  rw [← hbk] at hlook
  have Hbk := Lib.hid hbk
  clear hLv hbk
  refine wp_region_held_drew (S := fun w' => Below w5.heap.size w5 w') (by kernel_rfl) ((Below.refl _ _).drew) (fun hH0 => ?_)
  obtain ⟨W0, hW0⟩ : ∃ W, W = w5.drew := ⟨_, rfl⟩
  rw [← hW0] at hH0 ⊢
  clear hW0
  refine wpAnyH_take (i := 0) (v := ?_) rfl (by kernel_rfl) (by kernel_rfl) (by kernel_rfl) (fun _ _ _ h => h) (Or.inl ⟨by kernel_rfl, ?_⟩) hH0 ?_
  rotate_left 1
  · intro w hSw
    go_simp
    try with_reducible rfl
  try simp only [Act.put, List.getElem_toArray, List.getElem_cons_zero, List.getElem_cons_succ, List.setIfInBounds_toArray, List.set_cons_zero, List.set_cons_succ]
  refine wpAnyH_take (i := 1) (v := ?_) rfl (by kernel_rfl) (by kernel_rfl) (by kernel_rfl) (fun _ _ _ h => h) (Or.inl ⟨by kernel_rfl, ?_⟩) hH0 ?_
  rotate_left 1
  · intro w hSw
    go_simp
    try with_reducible rfl
  try simp only [Act.put, List.getElem_toArray, List.getElem_cons_zero, List.getElem_cons_succ, List.setIfInBounds_toArray, List.set_cons_zero, List.set_cons_succ]
  refine wpAnyH_take (i := 2) (v := ?_) rfl (by kernel_rfl) (by kernel_rfl) (by kernel_rfl) (fun _ _ _ h => h) (Or.inl ⟨by kernel_rfl, ?_⟩) hH0 ?_
  rotate_left 1
  · intro w hSw
    go_simp
    try with_reducible rfl
  try simp only [Act.put, List.getElem_toArray, List.getElem_cons_zero, List.getElem_cons_succ, List.setIfInBounds_toArray, List.set_cons_zero, List.set_cons_succ]
  refine wpAnyH_take (i := 3) (v := ?_) rfl (by kernel_rfl) (by kernel_rfl) (by kernel_rfl) (fun _ _ _ h => h) (Or.inl ⟨by kernel_rfl, ?_⟩) hH0 ?_
  rotate_left 1
  · intro w hSw
    have f0 := (hSw.cell (p := ⟨q.p, 1, none⟩) lp).trans x1
    go_simp
    try with_reducible rfl
  try simp only [Act.put, List.getElem_toArray, List.getElem_cons_zero, List.getElem_cons_succ, List.setIfInBounds_toArray, List.set_cons_zero, List.set_cons_succ]
  refine wpAnyH_take (i := 4) (v := _) rfl (by kernel_rfl) (by kernel_rfl) (by kernel_rfl) (fun _ _ _ h => h) (yieldsIf_load_mid (by kernel_rfl) _ _ rfl _ _ rfl NV.toList _ (fun W hW => range_below r5 hW l5) nund rfl ndix) hH0 ?_
  try simp only [Act.put, List.getElem_toArray, List.getElem_cons_zero, List.getElem_cons_succ, List.setIfInBounds_toArray, List.set_cons_zero, List.set_cons_succ]
  refine wpAnyH_take (i := 5) (v := _) rfl (by kernel_rfl) (by kernel_rfl) (by kernel_rfl) (fun _ _ _ h => h) (yieldsIf_lookup (by kernel_rfl) 116 (.tmp 27) (.tmp 28) rfl (.pointer (some ⟨bk, 0, none⟩)) (fun W hW => hlook.out W hW)) hH0 ?_
  try simp only [Act.put, List.getElem_toArray, List.getElem_cons_zero, List.getElem_cons_succ, List.setIfInBounds_toArray, List.set_cons_zero, List.set_cons_succ]
  refine wpAnyH_take (i := 6) (v := ?_) rfl (by kernel_rfl) (by kernel_rfl) (by kernel_rfl) (fun _ _ _ h => h) (Or.inl ⟨by kernel_rfl, ?_⟩) hH0 ?_
  rotate_left 1
  · intro w hSw
    go_simp
    try with_reducible rfl
  try simp only [Act.put, List.getElem_toArray, List.getElem_cons_zero, List.getElem_cons_succ, List.setIfInBounds_toArray, List.set_cons_zero, List.set_cons_succ]
  refine wpAnyH_done (by kernel_rfl) ?_ _
  have H6 := Lib.hid hH0
  obtain ⟨w6, hw6⟩ : ∃ y, y = W0 := ⟨_, rfl⟩
  rw [← hw6] at H6 ⊢
  clear hH0 hw6 hlook
  have huse := Lib.hid (use_any q d j e w6 (H5.out.below H6.out) Hj.out hcl)
  rw [show (Value.pointer (some ⟨e.blk, 0, none⟩)) = .pointer (some ⟨bk, 0, none⟩) by rw [Hbk.out]] at huse
  go_wp2_with fail
  refine huse.out.mono ?_
  rintro r w7 ⟨rfl, h7, hO7⟩
  have hO : Only (q.own d.L) w5 w7 := (Only.of_below H6.out).trans hO7
  have rF := range_onlyH rD hO ⟨l5, HnS.out⟩
  have HnF := Lib.hid (hO.keep Hn5.out Hn0S.out)
  have H7 := Lib.hid h7
  have O7 := Lib.hid hO
  clear h7 hO7 hO huse
  go_wp2_with (first
    | (refine wpList_load_mid rfl 23 _ rfl nb 1 rfl DL _ rF dund rfl dixL ?_)
    | (refine wpList_store_row rfl 23 _ _ rfl n0 DL.toArray rfl rfl 23 _ HnF.out dixA (by rw [dsz]; rfl) doneA ?_))
  (try simp only [Exit.inBlock, Exit.then])
  refine bodyPost_ret (results_cell_row2 rfl _ _ n0 23 DL.toArray (0, 0) _ rfl (setRow_heap _ _ _ _ _ _ HnF.out) dund rfl dixA) rfl ?_
  have hO9 : Only (q.own d.L) w (w7.setRow n0 DL.toArray) := (((Only.of_below B5.out).trans O7.out)).trans' n0 (by rw [Hn.out]; exact Nat.le_refl _) DL.toArray
  rw [← Hdg.out]
  refine ⟨by rw [HDL.out]; rfl, H7.out.keep (fun x hx => ?_), hO9⟩
  exact setRow_other _ _ _ (by rw [Hown.out] at hx; exact fun e0 => Hn0S.out (e0 ▸ hx))

/-- what a call of put does, R: of its error and the store behind it -/
def PutR (q : HvP) (d : HvD) (R : Int → HvD → Prop) (W : World) (r : Ending) (w' : World) : Prop :=
  ∃ er d', r = .returned (.int .i64 er) ∧ R er d' ∧ HvAt w' q d' ∧ Only (q.own d.L) W w' ∧ ∀ x ∈ q.own d'.L, x ∈ q.own d.L ∨ W.heap.size ≤ x
def PbR (K : List Int) (q : HvP) (d : HvD) (b : List UInt8) (R : Int → HvD → Prop) (W : World) (r : Ending) (w' : World) : Prop :=
  ∃ er d', r = .returned (.tuple #[.agg (digV (if er = 0 then hashB K b else List.replicate 32 0)), .int .i64 er]) ∧ R er d' ∧ HvAt w' q d' ∧ Only (q.own d.L) W w' ∧ ∀ x ∈ q.own d'.L, x ∈ q.own d.L ∨ W.heap.size ≤ x
set_option maxHeartbeats 4000000 in
set_option maxRecDepth 100000 in
theorem gpb_new (K : List Int) (q : HvP) (d : HvD) (b : List UInt8) (R : Int → HvD → Prop) (w : World) (hat : HvAt w q d) (hL : Laid K w) (h0 : 0 ∉ q.own d.L) (hr : d.ready) (hb : b.length ≤ 512) (hne : ∀ e ∈ d.L, (e.isB, e.id) ≠ (true, hashB K b))
    (hput : ∀ W, HvAt W q d → Laid K W → Calls Tryd.prog 68 #[.pointer (some ⟨q.p, 0, none⟩), .agg (Value.bool true :: byV (hashB K b)).toArray, .string ⟨(blobRowS b).toArray⟩] W (PutR q d R W)) :
    Calls Tryd.prog 23 #[.pointer (some ⟨q.p, 0, none⟩), .string ⟨b.toArray⟩] w (PbR K q d b R w) := by
  have ib : ¬ (512 : Int) < (b.length : Int) := by omega
  obtain ⟨dg, hdg⟩ : ∃ x, x = hashB K b := ⟨_, rfl⟩
  have hdl : dg.length = 32 := by rw [hdg]; exact hashB_length K b
  have hbn := built_name true dg hdl
  obtain ⟨NV, hNV⟩ : ∃ x, x = (Value.bool true :: byV dg).toArray := ⟨_, rfl⟩
  rw [← hNV] at hbn
  have hNs : NV.size = 33 := by rw [hNV]; simp [byV_length, hdl]
  have ndixA : (Tryd.prog.info? 127).map (·.size) = some NV.size := by rw [name_info, hNs]
  have hNone : NV.all (·.oneCell') = true := by rw [hNV, List.all_toArray, List.all_cons, byV_one]; rfl
  obtain ⟨DL, hDL⟩ : ∃ x, x = byV dg := ⟨_, rfl⟩
  have dixL : (Tryd.prog.info? 23).map (·.size) = some DL.length := by rw [hDL, dig_info, byV_length, hdl]
  have dixA : (Tryd.prog.info? 23).map (·.size) = some DL.toArray.size := by rw [dixL]; simp
  have doneA : DL.toArray.all (·.oneCell') = true := by rw [hDL, List.all_toArray, byV_one]
  have dsz : DL.toArray.size = 32 := by rw [hDL]; simp [byV_length, hdl]
  have Hdg := Lib.hid hdg
  have HNV := Lib.hid hNV
  have HDL := Lib.hid hDL
  have Hdl := Lib.hid hdl

  have hb1 := (Below.refl w.heap.size w).alloc (Nat.le_refl _) (.cells (digV (List.replicate 32 0)) 23)
  have hn0 := heap_alloc_new w (.cells (digV (List.replicate 32 0)) 23)
  have h1 := hat.below hb1
  have hL1 := hL.below hb1
  obtain ⟨w1, hw1⟩ : ∃ y, y = w.alloc (.cells (digV (List.replicate 32 0)) 23) := ⟨_, rfl⟩
  obtain ⟨n0, hn⟩ : ∃ y, y = w.heap.size := ⟨_, rfl⟩
  rw [← hw1] at h1 hn0 hb1 hL1
  rw [← hn] at hn0
  have hrd := Lib.hid (ready_ok q d w1 h1 hr)
  have dund := Tryd.underlying23
  have Hn0 := Lib.hid hn0
  have Hb1 := Lib.hid hb1
  have Hn := Lib.hid hn
  have Hw1 := Lib.hid hw1
  have HAT := Lib.hid hat
  have HL1 := Lib.hid hL1
  have H1 := Lib.hid h1
  rw [← hdg] at hne hput
  have Hne := Lib.hid hne
  have H0' := Lib.hid h0
  have hbr := Lib.hid (fun W => blobRow_any b W hb)
  obtain ⟨rw_, hrw⟩ : ∃ x, x = blobRowS b := ⟨_, rfl⟩
  rw [← hrw] at hbr hput
  rw [← hNV] at hput
  have hput := Lib.hid hput
  clear hat hr hL hL1 h1 hb1 hn0 hn hw1 hdg hNV hDL hdl hne h0 hrw
  unfold PbR
  go_enter Tryd.func23, Tryd.ntmps23
  go_upto_region 1 with fail
  show Code.wp _ _ _ _ (w.alloc (.cells (digV (List.replicate 32 0)) 23))
  rw [← Hw1.out, ← Hn.out]
  go_wp2_with fail
  refine hrd.out.mono ?_
  rintro r w2 ⟨rfl, hB2⟩
  have B2 := Lib.hid (Hb1.out.trans (hB2.mono Hb1.out.size))
  have Hn2 := Lib.hid (below_keep hB2 Hn0.out)
  have H2 := Lib.hid (H1.out.below hB2)
  have HL2 := Lib.hid (HL1.out.below hB2)
  clear hB2 hrd
  have hb1s := (Below.refl w2.heap.size w2).alloc (Nat.le_refl _) (.cells #[.string ⟨b.toArray⟩] 9)
  have cb : (w2.alloc (.cells #[.string ⟨b.toArray⟩] 9)).cell? ⟨w2.heap.size, 0, none⟩ = some (.string ⟨b.toArray⟩) := by rw [Lib.cell_of_heap (heap_alloc_new w2 _)]; rfl
  have hof := Lib.hid (of_hash K (some ⟨w2.heap.size, 0, none⟩) 1 b _ (HL2.out.below hb1s) ⟨_, rfl, cb⟩ (by omega))
  have Hb1s := Lib.hid hb1s
  rw [← Hdg.out] at hof
  have hdd : digV dg = (byV dg).toArray := rfl
  rw [hdd] at hof
  clear hb1s cb hdd
  go_wp2_with fail
  refine hof.out.mono ?_
  rintro r w3 ⟨rfl, hB3⟩
  have hb23 : Below w2.heap.size w2 w3 := Hb1s.out.trans (hB3.mono Hb1s.out.size)
  have B3 := Lib.hid hb23
  clear hB3 hof hb23 Hb1s
  go_upto_region 7 with (first
    | (refine wpList_build2 rfl 127 _ _ _ _ rfl _ _ rfl rfl _ hbn ?_)
    | (refine wpList_store_row rfl 127 _ _ rfl w3.heap.size NV rfl rfl 127 _ (heap_alloc_new w3 _) ndixA (by rw [hNs]; rfl) hNone ?_))
  show Code.wp _ _ _ _ ((w3.alloc (.cells zeroName 127)).setRow w3.heap.size NV)
  have hq := setRow_heap _ _ _ NV _ _ (heap_alloc_new w3 (.cells zeroName 127))
  have hB4 : Below w3.heap.size w3 ((w3.alloc (.cells zeroName 127)).setRow w3.heap.size NV) := (Only.below (((Only.refl [w3.heap.size] w3).alloc _).setRow (by simp) _) (Nat.le_refl _) (by simp))
  obtain ⟨nb, hnb⟩ : ∃ q, q = w3.heap.size := ⟨_, rfl⟩
  obtain ⟨w5, hw5⟩ : ∃ y, y = ((w3.alloc (.cells zeroName 127)).setRow w3.heap.size NV) := ⟨_, rfl⟩
  rw [← hw5] at hq hB4 ⊢
  rw [← hnb] at hq ⊢
  have hb5 : Below w2.heap.size w2 w5 := B3.out.trans (hB4.mono B3.out.size)
  have h5 := H2.out.below hb5
  have hnb2 : w2.heap.size ≤ nb := by rw [hnb]; exact B3.out.size
  have r5 : w5.rangeAt nb 0 NV.toList := fun k v hv => by rw [Lib.cell_of_heap hq, Nat.zero_add]; simpa using hv
  have l5 : nb < w5.heap.size := heap_lt hq
  have x1 := (hv_cells h5).2.1
  have lp : q.p < w5.heap.size := heap_lt h5.hp
  have hLv : ∀ W, Below w5.heap.size w5 W → HvAt W q d := fun W hW => h5.below hW
  have ndix : (Tryd.prog.info? 127).map (·.size) = some NV.toList.length := by rw [ndixA]; simp
  have nund := Tryd.underlying127
  have rD : w5.rangeAt nb 1 DL := fun k v hv => by
    have h1 : NV[1 + k]? = some v := by
      rw [HNV.out, List.getElem?_toArray, Nat.add_comm, List.getElem?_cons_succ]
      rw [HDL.out] at hv; exact hv
    rw [Lib.cell_of_heap hq]; exact h1
  have Hn5 := Lib.hid (below_keep hb5 Hn2.out)
  have B5 := Lib.hid (B2.out.trans (hb5.mono B2.out.size))
  have H5 := Lib.hid h5
  have HL5 := Lib.hid (HL2.out.below hb5)
  have hlt := HAT.out.lt
  have hnS : nb ∉ q.own d.L := fun hm => by have := hlt nb hm; have := B2.out.size; omega
  have hn0S : n0 ∉ q.own d.L := fun hm => by have := hlt n0 hm; have := Hn.out; omega
  have HnS := Lib.hid hnS
  have Hn0S := Lib.hid hn0S
  have l0 : n0 < w5.heap.size := heap_lt Hn5.out
  clear hw5 hnb hB4 hq hb5 h5 hnb2 hlt hnS hn0S
  have hlook := Lib.hid (fun W (hW : Below w5.heap.size w5 W) => look_no (hLv W hW) Hdl.out Hne.out)
  rw [show nameV (true, dg) = .agg NV from by rw [HNV.out]; rfl] at hlook
  clear hLv
  refine wp_region_held_drew (S := fun w' => Below w5.heap.size w5 w') (by kernel_rfl) ((Below.refl _ _).drew) (fun hH0 => ?_)
  obtain ⟨W0, hW0⟩ : ∃ W, W = w5.drew := ⟨_, rfl⟩
  rw [← hW0] at hH0 ⊢
  clear hW0
  refine wpAnyH_take (i := 0) (v := ?_) rfl (by kernel_rfl) (by kernel_rfl) (by kernel_rfl) (fun _ _ _ h => h) (Or.inl ⟨by kernel_rfl, ?_⟩) hH0 ?_
  rotate_left 1
  · intro w hSw
    go_simp
    try with_reducible rfl
  try simp only [Act.put, List.getElem_toArray, List.getElem_cons_zero, List.getElem_cons_succ, List.setIfInBounds_toArray, List.set_cons_zero, List.set_cons_succ]
  refine wpAnyH_take (i := 1) (v := ?_) rfl (by kernel_rfl) (by kernel_rfl) (by kernel_rfl) (fun _ _ _ h => h) (Or.inl ⟨by kernel_rfl, ?_⟩) hH0 ?_
  rotate_left 1
  · intro w hSw
    go_simp
    try with_reducible rfl
  try simp only [Act.put, List.getElem_toArray, List.getElem_cons_zero, List.getElem_cons_succ, List.setIfInBounds_toArray, List.set_cons_zero, List.set_cons_succ]
  refine wpAnyH_take (i := 2) (v := ?_) rfl (by kernel_rfl) (by kernel_rfl) (by kernel_rfl) (fun _ _ _ h => h) (Or.inl ⟨by kernel_rfl, ?_⟩) hH0 ?_
  rotate_left 1
  · intro w hSw
    go_simp
    try with_reducible rfl
  try simp only [Act.put, List.getElem_toArray, List.getElem_cons_zero, List.getElem_cons_succ, List.setIfInBounds_toArray, List.set_cons_zero, List.set_cons_succ]
  refine wpAnyH_take (i := 3) (v := ?_) rfl (by kernel_rfl) (by kernel_rfl) (by kernel_rfl) (fun _ _ _ h => h) (Or.inl ⟨by kernel_rfl, ?_⟩) hH0 ?_
  rotate_left 1
  · intro w hSw
    have f0 := (hSw.cell (p := ⟨q.p, 1, none⟩) lp).trans x1
    go_simp
    try with_reducible rfl
  try simp only [Act.put, List.getElem_toArray, List.getElem_cons_zero, List.getElem_cons_succ, List.setIfInBounds_toArray, List.set_cons_zero, List.set_cons_succ]
  refine wpAnyH_take (i := 4) (v := _) rfl (by kernel_rfl) (by kernel_rfl) (by kernel_rfl) (fun _ _ _ h => h) (yieldsIf_load_mid (by kernel_rfl) _ _ rfl _ _ rfl NV.toList _ (fun W hW => range_below r5 hW l5) nund rfl ndix) hH0 ?_
  try simp only [Act.put, List.getElem_toArray, List.getElem_cons_zero, List.getElem_cons_succ, List.setIfInBounds_toArray, List.set_cons_zero, List.set_cons_succ]
  refine wpAnyH_take (i := 5) (v := _) rfl (by kernel_rfl) (by kernel_rfl) (by kernel_rfl) (fun _ _ _ h => h) (yieldsIf_lookup (by kernel_rfl) 116 (.tmp 27) (.tmp 28) rfl (.pointer none) (fun W hW => hlook.out W hW)) hH0 ?_
  try simp only [Act.put, List.getElem_toArray, List.getElem_cons_zero, List.getElem_cons_succ, List.setIfInBounds_toArray, List.set_cons_zero, List.set_cons_succ]
  refine wpAnyH_take (i := 6) (v := ?_) rfl (by kernel_rfl) (by kernel_rfl) (by kernel_rfl) (fun _ _ _ h => h) (Or.inl ⟨by kernel_rfl, ?_⟩) hH0 ?_
  rotate_left 1
  · intro w hSw
    go_simp
    try with_reducible rfl
  try simp only [Act.put, List.getElem_toArray, List.getElem_cons_zero, List.getElem_cons_succ, List.setIfInBounds_toArray, List.set_cons_zero, List.set_cons_succ]
  refine wpAnyH_done (by kernel_rfl) ?_ _
  have H6 := Lib.hid hH0
  obtain ⟨w6, hw6⟩ : ∃ y, y = W0 := ⟨_, rfl⟩
  rw [← hw6] at H6 ⊢
  clear hH0 hw6 hlook
  have h6 := H5.out.below H6.out
  have r6 := range_below r5 H6.out l5
  have l6 : nb < w6.heap.size := Nat.lt_of_lt_of_le l5 H6.out.size
  have HV6 := Lib.hid h6
  have HL6 := Lib.hid (HL5.out.below H6.out)
  clear h6
  go_upto_region 11 with fail
  refine wp_region_held_drew (S := fun w' => Only (q.own d.L) w6 w') (by kernel_rfl) ((Only.refl _ _).drew) (fun hH0 => ?_)
  obtain ⟨W0, hW0⟩ : ∃ W, W = w6.drew := ⟨_, rfl⟩
  have hA0 : Hid (HvAt W0 q d) := Lib.hid (by rw [hW0]; exact HV6.out.keep (fun k hk => rfl))
  rw [← hW0] at hH0 ⊢
  clear hW0
  refine wpAnyH_take (i := 0) (v := ?_) rfl (by kernel_rfl) (by kernel_rfl) (by kernel_rfl) (fun _ _ _ h => h) (Or.inl ⟨by kernel_rfl, ?_⟩) hH0 ?_
  rotate_left 1
  · intro w hSw
    go_simp
    try with_reducible rfl
  try simp only [Act.put, List.getElem_toArray, List.getElem_cons_zero, List.getElem_cons_succ, List.setIfInBounds_toArray, List.set_cons_zero, List.set_cons_succ]
  refine wpAnyH_take (i := 1) (v := _) rfl (by kernel_rfl) (by kernel_rfl) (by kernel_rfl) (fun _ _ _ h => h) (yieldsIf_load_mid (by kernel_rfl) _ _ rfl _ _ rfl NV.toList _ (fun W hW => range_onlyH r6 hW ⟨l6, HnS.out⟩) nund rfl ndix) hH0 ?_
  try simp only [Act.put, List.getElem_toArray, List.getElem_cons_zero, List.getElem_cons_succ, List.setIfInBounds_toArray, List.set_cons_zero, List.set_cons_succ]
  refine wpAnyH_take (i := 2) (v := ?_) rfl (by kernel_rfl) (by kernel_rfl) (by kernel_rfl) (fun _ _ _ h => h) (Or.inl ⟨by kernel_rfl, ?_⟩) hH0 ?_
  rotate_left 1
  · intro w hSw
    go_simp
    try with_reducible rfl
  try simp only [Act.put, List.getElem_toArray, List.getElem_cons_zero, List.getElem_cons_succ, List.setIfInBounds_toArray, List.set_cons_zero, List.set_cons_succ]
  refine wpAnyH_ready (rs := [3]) (by kernel_rfl) (by simp) ?_
  refine AllReadyH.cons rfl (fun K_ hK => ?_) ?_
  · go_simp
    refine (hbr.out W0).mono ?_
    rintro r W1 ⟨rfl, hb1⟩
    have hA1 := Lib.hid (hA0.out.below hb1)
    have hS1 : Only (q.own d.L) w6 W1 := Only.trans hH0 (Only.of_below hb1)
    clear hA0 hb1
    refine hK.out _ _ hS1 (fun hH1 => ?_)
    clear hK K_
    try simp only [Act.put, List.getElem_toArray, List.getElem_cons_zero, List.getElem_cons_succ, List.setIfInBounds_toArray, List.set_cons_zero, List.set_cons_succ]
    refine wpAnyH_ready (rs := [4]) (by kernel_rfl) (by simp) ?_
    refine AllReadyH.cons rfl (fun K_ hK => ?_) ?_
    · go_simp
      have hpu := hput.out W1 hA1.out (HL6.out.only hH1 H0'.out)
      refine hpu.mono ?_
      rintro r W2 ⟨er, d9, rfl, hR2, hd2, hO2, hn2⟩
      have HR := Lib.hid hR2
      have HA2 := Lib.hid hd2
      have Hnw := Lib.hid hn2
      have HW7 := Lib.hid (hH1).size
      have hS2 : Only (q.own d.L) w6 W2 := Only.trans hH1 hO2
      clear hR2 hd2 hO2 hn2 hA1 hpu
      refine hK.out _ _ hS2 (fun hH2 => ?_)
      clear hK K_
      try simp only [Act.put, List.getElem_toArray, List.getElem_cons_zero, List.getElem_cons_succ, List.setIfInBounds_toArray, List.set_cons_zero, List.set_cons_succ]
      refine wpAnyH_take (i := 5) (v := ?_) rfl (by kernel_rfl) (by kernel_rfl) (by kernel_rfl) (fun _ _ _ h => h) (Or.inl ⟨by kernel_rfl, ?_⟩) hH2 ?_
      rotate_left 1
      · intro w hSw
        go_simp
        try with_reducible rfl
      try simp only [Act.put, List.getElem_toArray, List.getElem_cons_zero, List.getElem_cons_succ, List.setIfInBounds_toArray, List.set_cons_zero, List.set_cons_succ]
      refine wpAnyH_done (by kernel_rfl) ?_ _
      have O7 := Lib.hid ((Only.of_below H6.out).trans hH2)
      obtain ⟨w7, hw7⟩ : ∃ y, y = W2 := ⟨_, rfl⟩
      rw [← hw7] at O7 HA2 ⊢
      clear hH2 hw7
      have rF := range_onlyH rD O7.out ⟨l5, HnS.out⟩
      have HnF := Lib.hid (O7.out.keep Hn5.out Hn0S.out)
      have hsz6 : w.heap.size < w6.heap.size := by have := H6.out.size; have := B5.out.size; have := l0; have := Hn.out; omega
      have hn09 : ∀ x ∈ q.own d9.L, x ≠ n0 := fun x hx e0 => by
        rcases Hnw.out x hx with h | h
        · exact Hn0S.out (e0 ▸ h)
        · have := HW7.out; have := Hn.out; omega
      have Hn09 := Lib.hid hn09
      have hnew : ∀ x ∈ q.own d9.L, x ∈ q.own d.L ∨ w.heap.size ≤ x := fun x hx => by
        rcases Hnw.out x hx with h | h
        · exact .inl h
        · right; have := HW7.out; omega
      have Hnew := Lib.hid hnew
      clear hn09 hnew
      by_cases hz : er = 0
      · have Hz := Lib.hid hz
        have ez : (er != 0) = false := by simpa using hz
        clear hz
        go_wp2_with (first
          | (refine wpList_load_mid rfl 23 _ rfl nb 1 rfl DL _ rF dund rfl dixL ?_)
          | (refine wpList_store_row rfl 23 _ _ rfl n0 DL.toArray rfl rfl 23 _ HnF.out dixA (by rw [dsz]; rfl) doneA ?_))
        (try simp only [Exit.inBlock, Exit.then])
        refine bodyPost_ret (results_cell_row2 rfl _ _ n0 23 DL.toArray (0, 0) _ rfl (setRow_heap _ _ _ _ _ _ HnF.out) dund rfl dixA) rfl ?_
        have hO9 : Only (q.own d.L) w (w7.setRow n0 DL.toArray) := (((Only.of_below B5.out).trans O7.out)).trans' n0 (by rw [Hn.out]; exact Nat.le_refl _) DL.toArray
        refine ⟨er, d9, by rw [if_pos Hz.out, ← Hdg.out, HDL.out, Hz.out]; rfl, HR.out, HA2.out.keep (fun x hx => setRow_other _ _ _ (Hn09.out x hx)), hO9, Hnew.out⟩
      · have Hz := Lib.hid hz
        have ez : (er != 0) = true := by simpa using hz
        have hbd := built_dig0
        obtain ⟨DV, hDV⟩ : ∃ v, v = digV (List.replicate 32 0) := ⟨_, rfl⟩
        have dixV : (Tryd.prog.info? 23).map (·.size) = some DV.size := by rw [hDV, dig_info]; rfl
        have hone : DV.all (·.oneCell') = true := by rw [hDV]; exact digV_one _
        rw [← hDV] at hbd HnF
        have HDV := Lib.hid hDV
        clear hz hDV
        go_wp2_with (first
          | (refine wpList_build0' rfl 23 rfl DV hbd ?_)
          | (refine wpList_store_row rfl 23 _ _ rfl n0 DV rfl rfl 23 DV HnF.out dixV rfl hone ?_))
        (try simp only [Exit.inBlock, Exit.then])
        refine bodyPost_ret (results_cell_row2 rfl _ _ n0 23 DV (0, 0) _ rfl (setRow_heap _ _ _ _ _ _ HnF.out) dund rfl dixV) rfl ?_
        have hO9 : Only (q.own d.L) w (w7.setRow n0 DV) := (((Only.of_below B5.out).trans O7.out)).trans' n0 (by rw [Hn.out]; exact Nat.le_refl _) DV
        refine ⟨er, d9, by rw [if_neg Hz.out, ← HDV.out]; rfl, HR.out, HA2.out.keep (fun x hx => setRow_other _ _ _ (Hn09.out x hx)), hO9, Hnew.out⟩
    exact AllReadyH.nil
  exact AllReadyH.nil
end Go.Proofs.YteihfoacdocgkaaDoor

set_option linter.unusedVariables false
set_option linter.unusedSimpArgs false
namespace Go.Proofs.YteihfoacdocgkaaDoor
open Go.RowKit Pl Sh
attribute [local go_sem] Lb.ba_get Lb.ba_cut Lb.ba_add Lb.ba_size Lb.take_rest

set_option maxHeartbeats 4000000 in
set_option maxRecDepth 100000 in
theorem gblob_yes (K : List Int) (q : HvP) (d : HvD) (j : Nat) (e : HEnt) (dg : List UInt8) (w : World) (hat : HvAt w q d) (hL : Laid K w) (hr : d.ready) (hdg : dg.length = 32) (hj : d.L[j]? = some e) (e1 : e.isB = true) (e2 : e.id = dg) (hc : d.clk < 1000000) (htx : St.read d.s e.at_ = textS K e.row) :
    Calls Tryd.prog 27 #[.pointer (some ⟨q.p, 0, none⟩), .agg (byV dg).toArray] w fun r w' => r = .returned (.tuple #[.string ⟨((asBlobS e.row).1).toArray⟩, .bool (asBlobS e.row).2]) ∧ HvAt w' q { d with L := d.L.set j { e with used := ((d.clk + 1 : Nat) : Int) }, clk := d.clk + 1 } ∧ Only (q.own d.L) w w' := by
  have hb1 := (Below.refl w.heap.size w).alloc (Nat.le_refl _) (.cells (byV dg).toArray 23)
  have hn0 := heap_alloc_new w (.cells (byV dg).toArray 23)
  have h1 := hat.below hb1
  have hL1 := hL.below hb1
  obtain ⟨w1, hw1⟩ : ∃ y, y = w.alloc (.cells (byV dg).toArray 23) := ⟨_, rfl⟩
  obtain ⟨n0, hn⟩ : ∃ y, y = w.heap.size := ⟨_, rfl⟩
  rw [← hw1] at h1 hn0 hb1 hL1
  rw [← hn] at hn0
  have hbu := built_name true dg hdg
  obtain ⟨DV, hDV⟩ : ∃ x, x = (byV dg).toArray := ⟨_, rfl⟩
  have dix : (Tryd.prog.info? 23).map (·.size) = some DV.size := by rw [hDV, dig_info]; simp [byV_length, hdg]
  have dund := Tryd.underlying23
  rw [← hDV] at hbu hn0 ⊢
  obtain ⟨NV, hNV⟩ : ∃ x, x = (Value.bool true :: byV dg).toArray := ⟨_, rfl⟩
  rw [← hNV] at hbu
  have Hn0 := Lib.hid hn0
  have Hb1 := Lib.hid hb1
  have Hn := Lib.hid hn
  have Hw1 := Lib.hid (show w1 = w.alloc (.cells DV 23) by rw [hDV]; exact hw1)
  have hfi := find_ok K q d j e w1 h1 hL1 hr hj hc htx
  have ha : (Value.bool e.isB :: byV e.id).toArray = NV := by rw [e1, e2, hNV]
  rw [ha] at hfi
  have hfit := (hat.fit e (List.mem_of_getElem? hj)).2.2
  have hab := Lib.hid (fun W => asBlob_any e.row W (by omega))
  have Hfi := Lib.hid hfi
  clear hat hr hL hL1 h1 hb1 hn0 hn hw1 hDV hNV hj e1 e2 hfi ha hc htx hfit
  go_enter Tryd.func27, Tryd.ntmps27
  go_upto_region 1 with fail
  rw [← Hw1.out, ← Hn.out]
  go_wp2_with (first
    | (refine wpList_load_row rfl 23 _ rfl n0 rfl 23 DV (0, 0) _ Hn0.out dund rfl dix ?_)
    | (refine wpList_build2 rfl 127 _ _ _ _ rfl _ _ rfl rfl _ hbu ?_))
  refine Hfi.out.mono ?_
  rintro r w2 ⟨rfl, h2, hO2⟩
  have H2 := Lib.hid h2
  have O2 := Lib.hid hO2
  clear h2 hO2 Hfi
  go_wp2_with fail
  refine (hab.out _).mono ?_
  rintro r w3 ⟨rfl, hB3⟩
  have B3 := Lib.hid hB3
  clear hB3 hab
  go_wp2_with fail
  go_ret2
  exact ⟨rfl, H2.out.below B3.out, ((Only.of_below Hb1.out).trans O2.out).trans (Only.of_below B3.out)⟩
set_option maxHeartbeats 4000000 in
set_option maxRecDepth 100000 in
theorem gblob_no (K : List Int) (q : HvP) (d : HvD) (dg : List UInt8) (w : World) (hat : HvAt w q d) (hL : Laid K w) (hr : d.ready) (hdg : dg.length = 32) (hno : ∀ e ∈ d.L, (e.isB, e.id) ≠ (true, dg)) :
    Calls Tryd.prog 27 #[.pointer (some ⟨q.p, 0, none⟩), .agg (byV dg).toArray] w fun r w' => r = .returned (.tuple #[.string ⟨#[]⟩, .bool false]) ∧ Below w.heap.size w w' := by
  have hb1 := (Below.refl w.heap.size w).alloc (Nat.le_refl _) (.cells (byV dg).toArray 23)
  have hn0 := heap_alloc_new w (.cells (byV dg).toArray 23)
  have h1 := hat.below hb1
  have hL1 := hL.below hb1
  obtain ⟨w1, hw1⟩ : ∃ y, y = w.alloc (.cells (byV dg).toArray 23) := ⟨_, rfl⟩
  obtain ⟨n0, hn⟩ : ∃ y, y = w.heap.size := ⟨_, rfl⟩
  rw [← hw1] at h1 hn0 hb1 hL1
  rw [← hn] at hn0
  have hbu := built_name true dg hdg
  obtain ⟨DV, hDV⟩ : ∃ x, x = (byV dg).toArray := ⟨_, rfl⟩
  have dix : (Tryd.prog.info? 23).map (·.size) = some DV.size := by rw [hDV, dig_info]; simp [byV_length, hdg]
  have dund := Tryd.underlying23
  rw [← hDV] at hbu hn0 ⊢
  obtain ⟨NV, hNV⟩ : ∃ x, x = (Value.bool true :: byV dg).toArray := ⟨_, rfl⟩
  rw [← hNV] at hbu
  have Hn0 := Lib.hid hn0
  have Hb1 := Lib.hid hb1
  have Hn := Lib.hid hn
  have Hw1 := Lib.hid (show w1 = w.alloc (.cells DV 23) by rw [hDV]; exact hw1)
  have hfi := find_none K q d true dg w1 h1 hL1 hr hdg hno
  rw [← hNV] at hfi
  have Hfi := Lib.hid hfi
  clear hat hr hL hL1 h1 hb1 hn0 hn hw1 hDV hNV hno hfi
  go_enter Tryd.func27, Tryd.ntmps27
  go_upto_region 1 with fail
  rw [← Hw1.out, ← Hn.out]
  go_wp2_with (first
    | (refine wpList_load_row rfl 23 _ rfl n0 rfl 23 DV (0, 0) _ Hn0.out dund rfl dix ?_)
    | (refine wpList_build2 rfl 127 _ _ _ _ rfl _ _ rfl rfl _ hbu ?_))
  refine Hfi.out.mono ?_
  rintro r w2 ⟨rfl, hB2⟩
  have B2 := Lib.hid (Hb1.out.trans (hB2.mono Hb1.out.size))
  clear hB2 Hfi
  go_wp2_with fail
  go_ret2
  exact ⟨rfl, B2.out⟩

/-- a block is made, and a row lies in it -/
theorem put_newH (w : World) (Z R : Array Value) (t : TypeId) : ((w.alloc (.cells Z t)).setRow w.heap.size R).heap[w.heap.size]? = some (.cells R t (0, 0)) ∧ Below w.heap.size w ((w.alloc (.cells Z t)).setRow w.heap.size R) :=
  ⟨setRow_heap _ _ _ R _ _ (heap_alloc_new w (.cells Z t)), (Only.below (((Only.refl [w.heap.size] w).alloc _).setRow (by simp) _) (Nat.le_refl _) (by simp))⟩

/-! ### Pin -/
def pinAdd (pins : List (List UInt8)) (x : List UInt8) : List (List UInt8) := if x ∈ pins then pins else pins ++ [x]
def pinsAt (pins : List (List UInt8)) (ds : List (List UInt8)) : Nat → List (List UInt8)
  | 0 => pins
  | k + 1 => pinAdd (pinsAt pins ds k) (ds.getD k [])
theorem hv_pins {w w2 : World} {q : HvP} {d : HvD} {pins : List (List UInt8)} (h : HvAt w q d) (hO : Only [q.mp] w w2) (hp : MapAt digK (fun x => x.length = 32) w2 q.mp (pinsOf pins)) : HvAt w2 q { d with pins := pins } := by
  obtain ⟨n1, n2⟩ := own_nd h.nd
  obtain ⟨a1, a2, a3, a4, a5, a6, a7, a8, a9, a10, a11, a12, a13, a14, a15⟩ := own_six h.nd
  exact ⟨hO.keep h.hp (by simp; exact a3), h.all.keep (hO.block q.ma h.all.lt (by simp; exact a7)), h.taken.keep (hO.block q.mt h.taken.lt (by simp; exact a10)), hp, fun e he => hO.keep (h.ents e he) (by simp; exact (n2 e he).2.2.2.1), h.fit,
    ⟨hO.keep h.sh.pw (by simp; exact fun e => a13 e.symm), hO.keep h.sh.slots (by simp; exact fun e => a14 e.symm), h.sh.ne, h.sh.len⟩, h.nd⟩
theorem pin_put {w : World} {q : HvP} {d : HvD} (h : HvAt w q d) {x : List UInt8} (hx : x.length = 32) :
    ∃ w', (Instr.mapUpdate 118 (.map (some q.mp)) (digK x) (.bool true)).run Tryd.prog w = .ok () w' ∧ HvAt w' q { d with pins := pinAdd d.pins x } ∧ Only [q.mp] w w' := by
  unfold pinAdd
  by_cases hm : x ∈ d.pins
  · rw [if_pos hm]
    obtain ⟨w', hr, hp, hO⟩ := h.pin.putSame dig_fam Tryd.underlying118 (a := x) (v := .bool true) (List.mem_map.2 ⟨x, hm, rfl⟩)
    exact ⟨w', hr, hv_pins h hO hp, hO⟩
  · rw [if_neg hm]
    obtain ⟨w', hr, hp, hO⟩ := h.pin.put dig_fam Tryd.underlying118 (a := x) hx (by intro p hp e1; obtain ⟨y, hy, rfl⟩ := List.mem_map.1 hp; exact hm (by rw [← e1]; exact hy)) (.bool true)
    refine ⟨w', hr, hv_pins h hO ?_, hO⟩
    unfold pinsOf at hp ⊢
    rw [List.map_append]
    exact hp
set_option maxHeartbeats 4000000 in
set_option maxRecDepth 100000 in
theorem pin_any (q : HvP) (d : HvD) (A : Option Addr) (cap : Nat) (ds : List (List UInt8)) (w : World) (h : HvAt w q d) (hD : Digs w w.heap.size A ds) (hA : ∀ a, A = some a → a.block ∉ q.own d.L) (hn : ds.length ≤ maxLen) (h32 : ∀ x ∈ ds, x.length = 32) :
    Calls Tryd.prog 25 #[.pointer (some ⟨q.p, 0, none⟩), .slice A ds.length cap] w fun r w' => r = .returned (.tuple #[]) ∧ HvAt w' q { d with pins := pinsAt d.pins ds ds.length } ∧ Only [q.mp] w w' := by
  have H := Lib.hid h
  have HD := Lib.hid hD
  have HA := Lib.hid hA
  have H32 := Lib.hid h32
  obtain ⟨n, hnn⟩ : ∃ n, n = ds.length := ⟨_, rfl⟩
  rw [← hnn] at hn ⊢
  unfold maxLen at hn
  have Hn := Lib.hid hnn
  have n63 : (n : Int) ≤ 9223372036854775807 := by omega
  clear h hD hA h32 hnn
  go_enter Tryd.func25, Tryd.ntmps25
  go_wp2_with fail
  go_loopw [10] (fun i wr => ∃ k : Nat, k ≤ n ∧ i = .int .i64 k ∧ HvAt wr q { d with pins := pinsAt d.pins ds k } ∧ Only [q.mp] w wr) (fun i _ => n - (intOf i).toNat)
  case atStart => exact ⟨0, by omega, rfl, H.out, Only.refl _ _⟩
  case round =>
    obtain ⟨k, hk, rfl, hat, ho⟩ := hrel
    have Hat := Lib.hid hat
    have Ho := Lib.hid ho
    by_cases hkn : k < n
    · have j1 : (k : Int) < (n : Int) := by omega
      have hkl : k < ds.length := by rw [← Hn.out]; exact hkn
      obtain ⟨b, o, rfl, hbl, hr⟩ := HD.out k hkl
      have hbm : b ∉ [q.mp] := by
        have := HA.out _ rfl
        simp; exact fun e => this (e ▸ (@own_mem q d.L).2.2.2.1)
      have hr := range_onlyH hr ho ⟨hbl, hbm⟩
      obtain ⟨x, hx⟩ : ∃ x, x = ds[k] := ⟨_, rfl⟩
      have hxl : x.length = 32 := by rw [hx]; exact H32.out _ (List.getElem_mem hkl)
      rw [← hx] at hr
      have hxd : x = ds.getD k [] := by rw [hx]; simp [List.getD, hkl]
      have Hxd := Lib.hid hxd
      have dix : (Tryd.prog.info? 23).map (·.size) = some (byV x).length := by rw [dig_info, byV_length, hxl]
      have dund := Tryd.underlying23
      have dixA : (Tryd.prog.info? 23).map (·.size) = some (byV x).toArray.size := by rw [dix]; simp
      have doneA : (byV x).toArray.all (·.oneCell') = true := by rw [List.all_toArray, byV_one]
      have dsz : (byV x).toArray.size = 32 := by simp [byV_length, hxl]
      have hdk : digK x = .agg (byV x).toArray := rfl
      have Hxl := Lib.hid hxl
      obtain ⟨dl, hdl⟩ : ∃ l, l = byV x := ⟨_, rfl⟩
      rw [← hdl] at hr dix dixA doneA dsz hdk
      have Hdk := Lib.hid hdk
      clear hat ho hx hxl hxd hdl hdk
      go_upto_region 4 with (first | (refine wpList_load_mid rfl 23 _ rfl b (o + k * 32) rfl dl _ hr dund rfl dix ?_) | (refine wpList_store_row rfl 23 _ _ rfl wr.heap.size dl.toArray rfl rfl 23 _ (heap_alloc_new wr _) dixA (by rw [dsz]; rfl) doneA ?_))
      show Code.wp _ _ _ _ ((wr.alloc (.cells (digV (List.replicate 32 0)) 23)).setRow wr.heap.size dl.toArray)
      obtain ⟨hq_w5, hB_w5⟩ := put_newH wr (digV (List.replicate 32 0)) dl.toArray 23
      obtain ⟨nb, hp_w5⟩ : ∃ q, q = wr.heap.size := ⟨_, rfl⟩
      obtain ⟨w5, hw_w5⟩ : ∃ y, y = ((wr.alloc (.cells (digV (List.replicate 32 0)) 23)).setRow wr.heap.size dl.toArray) := ⟨_, rfl⟩
      rw [← hw_w5] at hq_w5 hB_w5 ⊢
      rw [← hp_w5] at hq_w5 ⊢
      have HQ_w5 := Lib.hid hq_w5
      have HB_w5 := Lib.hid hB_w5
      have Hp_w5 := Lib.hid hp_w5
      clear hq_w5 hB_w5 hp_w5 hw_w5
      have H5 := Lib.hid (Hat.out.below HB_w5.out)
      have x3 := (hv_cells H5.out).2.2.2.1
      have lp : q.p < w5.heap.size := heap_lt H5.out.hp
      have r5 : w5.rangeAt nb 0 dl := fun k v hv => by rw [Lib.cell_of_heap HQ_w5.out, Nat.zero_add, List.getElem?_toArray]; exact hv
      have l5 : nb < w5.heap.size := heap_lt HQ_w5.out
      clear hr
      have np : q.p ∉ [q.mp] := by simpa using (own_six H5.out.nd).2.2.1
      have nnb : nb ∉ [q.mp] := by simp; have := Hat.out.lt q.mp (by simp [HvP.own]); have := Hp_w5.out; omega
      refine wp_region_held_drew (S := fun w' => Only [q.mp] w5 w') (by kernel_rfl) ((Only.refl _ _).drew) (fun hH0 => ?_)
      obtain ⟨W0, hW0⟩ : ∃ W, W = w5.drew := ⟨_, rfl⟩
      have hA0 : Hid (HvAt W0 q { d with pins := pinsAt d.pins ds k }) := Lib.hid (by rw [hW0]; exact H5.out.keep (fun k hk => rfl))
      rw [← hW0] at hH0 ⊢
      clear hW0
      refine wpAnyH_take (i := 0) (v := ?_) rfl (by kernel_rfl) (by kernel_rfl) (by kernel_rfl) (fun _ _ _ h => h) (Or.inl ⟨by kernel_rfl, ?_⟩) hH0 ?_
      rotate_left 1
      · intro w hSw
        go_simp
        try with_reducible rfl
      try simp only [Act.put, List.getElem_toArray, List.getElem_cons_zero, List.getElem_cons_succ, List.setIfInBounds_toArray, List.set_cons_zero, List.set_cons_succ]
      refine wpAnyH_take (i := 1) (v := ?_) rfl (by kernel_rfl) (by kernel_rfl) (by kernel_rfl) (fun _ _ _ h => h) (Or.inl ⟨by kernel_rfl, ?_⟩) hH0 ?_
      rotate_left 1
      · intro w hSw
        go_simp
        try with_reducible rfl
      try simp only [Act.put, List.getElem_toArray, List.getElem_cons_zero, List.getElem_cons_succ, List.setIfInBounds_toArray, List.set_cons_zero, List.set_cons_succ]
      refine wpAnyH_take (i := 2) (v := ?_) rfl (by kernel_rfl) (by kernel_rfl) (by kernel_rfl) (fun _ _ _ h => h) (Or.inl ⟨by kernel_rfl, ?_⟩) hH0 ?_
      rotate_left 1
      · intro w hSw
        go_simp
        try with_reducible rfl
      try simp only [Act.put, List.getElem_toArray, List.getElem_cons_zero, List.getElem_cons_succ, List.setIfInBounds_toArray, List.set_cons_zero, List.set_cons_succ]
      refine wpAnyH_take (i := 3) (v := ?_) rfl (by kernel_rfl) (by kernel_rfl) (by kernel_rfl) (fun _ _ _ h => h) (Or.inl ⟨by kernel_rfl, ?_⟩) hH0 ?_
      rotate_left 1
      · intro w hSw
        have f0 := (hSw.cell (p := ⟨q.p, 3, none⟩) lp np).trans x3
        go_simp
        try with_reducible rfl
      try simp only [Act.put, List.getElem_toArray, List.getElem_cons_zero, List.getElem_cons_succ, List.setIfInBounds_toArray, List.set_cons_zero, List.set_cons_succ]
      refine wpAnyH_take (i := 4) (v := _) rfl (by kernel_rfl) (by kernel_rfl) (by kernel_rfl) (fun _ _ _ h => h) (yieldsIf_load_mid (by kernel_rfl) _ _ rfl _ _ rfl dl _ (fun W hW => range_onlyH r5 hW ⟨l5, nnb⟩) dund rfl dix) hH0 ?_
      try simp only [Act.put, List.getElem_toArray, List.getElem_cons_zero, List.getElem_cons_succ, List.setIfInBounds_toArray, List.set_cons_zero, List.set_cons_succ]
      refine wpAnyH_ready (rs := [5]) (by kernel_rfl) (by simp) ?_
      refine AllReadyH.cons rfl (fun K_ hK => ?_) ?_
      · rw [if_pos (by rfl)]
        obtain ⟨W1, hrun1, hput1, hOp1⟩ := pin_put hA0.out Hxl.out
        rw [Hdk.out] at hrun1
        refine wp_mapUpdateR 118 _ _ _ rfl hrun1 ?_
        have HPut := Lib.hid hput1
        have HOp := Lib.hid hOp1
        clear hrun1 hput1 hOp1 hA0
        refine hK.out _ _ ((hH0).trans HOp.out) (fun hH1 => ?_)
        clear hK K_
        try simp only [Act.put, List.getElem_toArray, List.getElem_cons_zero, List.getElem_cons_succ, List.setIfInBounds_toArray, List.set_cons_zero, List.set_cons_succ]
        refine wpAnyH_done (by kernel_rfl) ?_ _
        have HF := Lib.hid ((Ho.out.trans (Only.of_below HB_w5.out)).trans hH1)
        clear hH1
        go_wp2_with fail
        go_roundw
        case rel => exact ⟨k + 1, by omega, by go_num, by have h := HPut.out; rw [Hxd.out] at h; exact h, HF.out⟩
        case measure => simp [intOf]; omega
      exact AllReadyH.nil
    · obtain rfl : k = n := by omega
      have j1 : ¬ (k : Int) < (k : Int) := by omega
      clear hat ho
      go_wp2_with fail
      go_end0
      exact ⟨rfl, Hat.out, Ho.out⟩

/-! ### Sync -/
set_option maxHeartbeats 2000000 in
theorem hsync_any (q : HvP) (d : HvD) (w : World) (h : HvAt w q d) (hr : d.ready) (hf : d.s.pw.fits 2) :
    Calls Tryd.prog 32 #[.pointer (some ⟨q.p, 0, none⟩)] w fun r w' => r = .returned (.int .i64 (St.syncErr d.s)) ∧ HvAt w' q { d with s := St.sync d.s, dead := d.dead || (St.syncErr d.s == 10) } ∧ Only [q.p, q.b, q.g] w w' := by
  have hrd := Lib.hid (ready_ok q d w h hr)
  have H := Lib.hid h
  have Hf := Lib.hid hf
  obtain ⟨e2, he2⟩ : ∃ e, e = St.syncErr d.s := ⟨_, rfl⟩
  rw [← he2]
  have He2 := Lib.hid he2
  clear h hf he2 hr
  go_enter Tryd.func32, Tryd.ntmps32
  go_wp2_with fail
  refine hrd.out.mono ?_
  rintro e w2 ⟨rfl, hB2⟩
  have H2 := Lib.hid (H.out.below hB2)
  have HB2 := Lib.hid hB2
  have c0 := (hv_cells H2.out).1
  clear hB2 hrd
  go_wp2_with fail
  refine (sync_any q.b q.g d.s w2 H2.out.sh Hf.out).mono ?_
  rintro e w3 ⟨rfl, hsh3, hO3⟩
  have H3 := Lib.hid (hv_shelf H2.out hO3 hsh3)
  have HO3 := Lib.hid hO3
  rw [← He2.out]
  clear hsh3 hO3 c0
  go_wp2_with fail
  refine (did_any q _ e2 w3 H3.out).mono ?_
  rintro e w4 ⟨rfl, h4, hO4⟩
  have H4 := Lib.hid h4
  have HO4 := Lib.hid hO4
  clear h4 hO4
  go_wp2_with fail
  go_ret
  exact ⟨rfl, H4.out, ((Only.of_below HB2.out).trans (HO3.out.mono (by intro k hk; simp at hk ⊢; omega))).trans (HO4.out.mono (by intro k hk; simp at hk ⊢; omega))⟩
end Go.Proofs.YteihfoacdocgkaaDoor

set_option linter.unusedVariables false
set_option linter.unusedSimpArgs false
namespace Go.Proofs.YteihfoacdocgkaaDoor
open Go.RowKit Pl Sh
attribute [local go_sem] Lb.ba_get Lb.ba_cut Lb.ba_add Lb.ba_size Lb.take_rest

/-- an entry but for its block: its kind, its digest, its slot, when it was used, its row -/
abbrev E5 := Bool × List UInt8 × Nat × Int × List UInt8
def e5 (e : HEnt) : E5 := (e.isB, e.id, e.at_, e.used, e.row)
abbrev RdF := List UInt8 → Option (Bool × List UInt8 × List UInt8)
/-- what load makes of the first k slots: the shelf, the entries, whether anything was wiped out -/
def ldS (s0 : St) (RD : RdF) : Nat → St × List E5 × Bool
  | 0 => (s0, [], false)
  | k + 1 => match RD (St.read s0 k) with
    | some (b, i, r) => if (ldS s0 RD k).2.1.any (fun e => e.1 == b && e.2.1 == i) then (St.write (ldS s0 RD k).1 k [], (ldS s0 RD k).2.1, true) else ((ldS s0 RD k).1, (ldS s0 RD k).2.1 ++ [(b, i, k, (((ldS s0 RD k).2.1.length + 1 : Nat) : Int), r)], (ldS s0 RD k).2.2)
    | none => if St.read s0 k = [] then ldS s0 RD k else (St.write (ldS s0 RD k).1 k [], (ldS s0 RD k).2.1, true)
def rdVal : Option (Bool × List UInt8 × List UInt8) → Value
  | some (b, i, r) => .tuple #[.agg (Value.bool b :: byV i).toArray, .string ⟨r.toArray⟩, .bool true]
  | none => .tuple #[.agg zeroName, .string ⟨#[]⟩, .bool false]
def ReadC (RD : RdF) (t : List UInt8) (W : World) : Prop := Calls Tryd.prog 124 #[.string ⟨t.toArray⟩] W fun e w' => e = .returned (rdVal (RD t)) ∧ Below W.heap.size W w'
/-- a shelf that works, of n slots -/
structure Works (s : St) (n a : Nat) : Prop where
  down : s.pw.down = false
  armed : s.pw.armed = 0
  acts : s.pw.acts ≤ a
  life : s.pw.life < 100000
  len : s.slots.length = n
theorem Works.write {s : St} {n a : Nat} (h : Works s n a) {k : Nat} (hk : k < n) (t : List UInt8) (ht : t.length ≤ 640) : St.writeErr s k t = 0 ∧ Works (St.write s k t) n (a + 1) ∧ St.read (St.write s k t) k = t ∧ ∀ i : Nat, i ≠ k → St.read (St.write s k t) i = St.read s i := by
  obtain ⟨f1, f2, f3, f4, f5⟩ := write_facts s k t h.down h.armed (by rw [h.len]; exact hk) ht
  refine ⟨f1, ⟨by rw [f2]; exact h.down, by rw [f2]; exact h.armed, by rw [f2]; have := h.acts; show s.pw.acts + 1 ≤ _; omega, by rw [f2]; exact h.life, by rw [f3]; exact h.len⟩, f4, f5⟩
theorem Works.fits {s : St} {n a : Nat} (h : Works s n a) (ha : a < 1000000) : s.pw.fits 2 := ⟨by have := h.acts; omega, by rw [h.armed]; decide, by have := h.life; omega⟩
theorem Works.more {s : St} {n a a' : Nat} (h : Works s n a) (ha : a ≤ a') : Works s n a' := ⟨h.down, h.armed, Nat.le_trans h.acts ha, h.life, h.len⟩
theorem ldS_works {s0 : St} {RD : RdF} {n a : Nat} (h : Works s0 n a) : ∀ k, k ≤ n → Works (ldS s0 RD k).1 n (a + k) ∧ (∀ i : Nat, k ≤ i → St.read (ldS s0 RD k).1 i = St.read s0 i) ∧ (ldS s0 RD k).2.1.length ≤ k ∧ ∀ e ∈ (ldS s0 RD k).2.1, e.2.2.1 < k
  | 0, _ => ⟨h, fun i _ => rfl, Nat.le_refl _, fun e he => by simp [ldS] at he⟩
  | k + 1, hk => by
    obtain ⟨h1, h2, h3, h4⟩ := ldS_works (RD := RD) h k (by omega)
    have hw := h1.write (k := k) (by omega) [] (by decide)
    unfold ldS
    split
    · split
      · exact ⟨hw.2.1, fun i hi => by rw [hw.2.2.2 i (by omega)]; exact h2 i (by omega), by show (ldS s0 RD k).2.1.length ≤ k + 1; omega, fun e he => by have := h4 e he; omega⟩
      · refine ⟨h1.more (by omega), fun i hi => h2 i (by omega), by simp only [List.length_append, List.length_singleton]; omega, fun e he => ?_⟩
        rcases List.mem_append.1 he with he | he
        · have := h4 e he; omega
        · simp only [List.mem_singleton] at he; subst he; exact Nat.lt_succ_self _
    · split
      · exact ⟨h1.more (by omega), fun i hi => h2 i (by omega), by omega, fun e he => by have := h4 e he; omega⟩
      · exact ⟨hw.2.1, fun i hi => by rw [hw.2.2.2 i (by omega)]; exact h2 i (by omega), by show (ldS s0 RD k).2.1.length ≤ k + 1; omega, fun e he => by have := h4 e he; omega⟩
theorem any_keys {L : List HEnt} {l : List E5} (hl : L.map e5 = l) (b : Bool) (i : List UInt8) : l.any (fun e => e.1 == b && e.2.1 == i) = true ↔ ∃ e ∈ L, (e.isB, e.id) = (b, i) := by
  subst hl
  simp [e5]
theorem sync_works {s : St} {n a : Nat} (h : Works s n a) : St.syncErr s = 0 ∧ Works (St.sync s) n (a + 1) := by
  have he : s.pw.err = 0 := by unfold Pw.err; rw [if_neg (by rw [h.armed]; decide)]
  have hs : St.sync s = St.settle { s with pw := s.pw.act } := by unfold St.sync; rw [if_neg (by simp [h.down]), if_pos he]
  have hp : s.pw.act = { s.pw with acts := s.pw.acts + 1 } := by unfold Pw.act; rw [if_pos h.armed]
  refine ⟨by unfold St.syncErr; rw [if_neg (by simp [h.down]), he], ?_⟩
  rw [hs]
  unfold St.settle
  refine ⟨by show (s.pw.act).down = false; rw [hp]; exact h.down, by show (s.pw.act).armed = 0; rw [hp]; exact h.armed, by show (s.pw.act).acts ≤ _; rw [hp]; have := h.acts; show s.pw.acts + 1 ≤ a + 1; omega, by show (s.pw.act).life < _; rw [hp]; exact h.life, by show (s.slots.map sure1).length = n; rw [List.length_map]; exact h.len⟩

/-- the store behind load -/
def ldEnd (s0 : St) (RD : RdF) (n : Nat) : St := if (ldS s0 RD n).2.2 = true then St.sync (ldS s0 RD n).1 else (ldS s0 RD n).1
def LoadPost (w : World) (q : HvP) (d : HvD) (RD : RdF) (n : Nat) (r : Ending) (w' : World) : Prop :=
  r = .returned (.int .i64 0) ∧ ∃ L, L.map e5 = (ldS d.s RD n).2.1 ∧ HvAt w' q { d with s := ldEnd d.s RD n, L := L, clk := L.length } ∧ Only (q.own []) w w' ∧ ∀ x ∈ q.own L, x ∈ q.own [] ∨ w.heap.size ≤ x
set_option maxHeartbeats 4000000 in
set_option maxRecDepth 100000 in
theorem load_gen (K : List Int) (q : HvP) (d : HvD) (RD : RdF) (n : Nat) (w : World) (h : HvAt w q d) (hd : d.L = []) (hcl : d.clk = 0) (hL : Laid K w) (h0 : 0 ∉ q.own []) (hw : Works d.s n 900000) (hn128 : n ≤ 128)
    (hread : ∀ i, i < n → ∀ W, Laid K W → ReadC RD (St.read d.s i) W) (hRD : ∀ i, i < n → ∀ b id r, RD (St.read d.s i) = some (b, id, r) → id.length = 32 ∧ r.length ≤ 10000 ∧ St.read d.s i ≠ []) :
    Calls Tryd.prog 65 #[.pointer (some ⟨q.p, 0, none⟩)] w (LoadPost w q d RD n) := by
  obtain ⟨s0, L0, pins, clk0, life, dead⟩ := d
  obtain rfl : L0 = [] := hd
  obtain rfl : clk0 = 0 := hcl
  have hl := Lib.hid (len_any q.b q.g s0 w h.sh)
  rw [hw.len] at hl
  have x0 := (hv_cells h).1
  have H := Lib.hid h
  have HL := Lib.hid hL
  have H0 := Lib.hid h0
  have HW := Lib.hid hw
  have HR := Lib.hid hread
  have HRD := Lib.hid hRD
  have n63 : (n : Int) ≤ 9223372036854775807 := by omega
  have hzi := zeroName_info
  have hzo := zeroName_one
  have hzs : zeroName.size = 33 := by kernel_rfl
  have hsub : Hid (∀ k ∈ [q.p, q.b, q.g, q.ma, q.mt], k ∈ q.own []) := Lib.hid (by
    have mm := @own_mem q []
    intro k hk
    simp only [List.mem_cons, List.not_mem_nil, or_false] at hk
    rcases hk with rfl | rfl | rfl | rfl | rfl
    · exact mm.1
    · exact mm.2.2.2.2.1
    · exact mm.2.2.2.2.2.1
    · exact mm.2.1
    · exact mm.2.2.1)
  have hown0 : Hid (∀ L k, k ∈ q.own [] → k ∈ q.own L) := Lib.hid (fun L k hk => by
    simp only [HvP.own, List.map_nil, List.mem_cons, List.not_mem_nil, or_false] at hk ⊢
    rcases hk with h | h | h | h | h | h <;> simp [h])
  have nund := Tryd.underlying127
  clear h hL h0 hw hread hRD
  unfold LoadPost
  go_enter Tryd.func65, Tryd.ntmps65
  go_wp2_with fail
  refine hl.out.mono ?_
  rintro r w1 ⟨rfl, rfl⟩
  clear hl
  go_wp2_with fail
  clear x0
  go_loopw [3, 16] (fun v i wr => ∃ (k : Nat) (L : List HEnt), k ≤ n ∧ v = .bool (ldS s0 RD k).2.2 ∧ i = .int .i64 k ∧ L.map e5 = (ldS s0 RD k).2.1 ∧ HvAt wr q ⟨(ldS s0 RD k).1, L, pins, L.length, life, dead⟩ ∧ Only (q.own []) w wr ∧ ∀ x ∈ q.own L, x ∈ q.own [] ∨ w.heap.size ≤ x) (fun _ i _ => n - (intOf i).toNat)
  case atStart => exact ⟨0, [], by omega, rfl, rfl, rfl, H.out, Only.refl _ _, fun x hx => .inl hx⟩
  case round =>
    obtain ⟨k, L, hk, rfl, rfl, hLe, hat, ho, hx⟩ := hrel
    have HLe := Lib.hid hLe
    have Hat := Lib.hid hat
    have Ho := Lib.hid ho
    have Hx := Lib.hid hx
    have hks := ldS_works (RD := RD) HW.out k hk
    have HWk := Lib.hid hks.1
    have HRk := Lib.hid hks.2.1
    have hlen : L.length ≤ 128 := by have h := congrArg List.length hLe; rw [List.length_map] at h; have := hks.2.2.1; omega
    have HAtk : Hid (∀ e ∈ L, e.at_ < k) := Lib.hid (fun e he => by
      have hm : e5 e ∈ (ldS s0 RD k).2.1 := by rw [← hLe]; exact List.mem_map.2 ⟨e, he, rfl⟩
      exact hks.2.2.2 _ hm)
    clear hLe hat ho hx hks
    by_cases hkn : k < n
    · have j1 : (k : Int) < (n : Int) := by omega
      have hrd := read_any q.b q.g (ldS s0 RD k).1 (k : Int) wr Hat.out.sh
      rw [HRk.out k (Nat.le_refl _), show St.atErr (ldS s0 RD k).1 k = 0 by unfold St.atErr; rw [if_neg (by simp [HWk.out.down]), if_neg (by rw [HWk.out.len]; omega)]] at hrd
      have Hrd := Lib.hid hrd
      have HLr := Lib.hid (HL.out.only Ho.out H0.out)
      have hre := HR.out k hkn wr HLr.out
      unfold ReadC at hre
      have hRDk := Lib.hid (HRD.out k hkn)
      have hst : ∀ o, RD (St.read s0 k) = o → ldS s0 RD (k + 1) = match o with
        | some (b, i, r) => if (ldS s0 RD k).2.1.any (fun e => e.1 == b && e.2.1 == i) then (St.write (ldS s0 RD k).1 k [], (ldS s0 RD k).2.1, true) else ((ldS s0 RD k).1, (ldS s0 RD k).2.1 ++ [(b, i, k, (((ldS s0 RD k).2.1.length + 1 : Nat) : Int), r)], (ldS s0 RD k).2.2)
        | none => if St.read s0 k = [] then ldS s0 RD k else (St.write (ldS s0 RD k).1 k [], (ldS s0 RD k).2.1, true) := fun o ho => by
        subst ho; rfl
      have Hst := Lib.hid hst
      obtain ⟨o, hod⟩ : ∃ o, o = RD (St.read s0 k) := ⟨_, rfl⟩
      rw [← hod] at hre hRDk
      have Ho2 := Lib.hid hod
      obtain ⟨t, ht⟩ : ∃ t, t = St.read s0 k := ⟨_, rfl⟩
      rw [← ht] at hre Hrd hRDk
      have Ht := Lib.hid ht
      obtain ⟨sk, hsk⟩ : ∃ s, s = (ldS s0 RD k).1 := ⟨_, rfl⟩
      obtain ⟨lk, hlk⟩ : ∃ s, s = (ldS s0 RD k).2.1 := ⟨_, rfl⟩
      obtain ⟨vk, hvk⟩ : ∃ s, s = (ldS s0 RD k).2.2 := ⟨_, rfl⟩
      rw [← hsk] at Hat HWk Hst
      rw [← hlk] at HLe Hst
      rw [← hvk] at Hst ⊢
      have Hsk := Lib.hid hsk
      have Hlk := Lib.hid hlk
      have Hvk := Lib.hid hvk
      have Hre := Lib.hid hre
      have x0 := (hv_cells Hat.out).1
      clear hrd hre hst hod ht hsk hlk hvk
      go_wp2_with fail
      refine Hrd.out.mono ?_
      rintro r w2 ⟨rfl, rfl⟩
      clear Hrd
      go_wp2_with fail
      refine Hre.out.mono ?_
      rintro r w3 ⟨rfl, hB3⟩
      have Hat3 := Lib.hid (Hat.out.below hB3)
      have HB3 := Lib.hid (Ho.out.trans (Only.of_below hB3))
      clear hB3 Hre x0
      cases o with
      | none =>
        simp only [rdVal]
        obtain ⟨NV, hNV⟩ : ∃ x, x = zeroName := ⟨_, rfl⟩
        rw [← hNV] at hzi hzo hzs ⊢
        have HNV := Lib.hid hNV
        clear hNV
        go_upto_region 7 with (first | (refine wpList_store_row rfl 127 _ _ rfl w3.heap.size NV rfl rfl 127 _ (heap_alloc_new w3 _) hzi (by rw [HNV.out]; rfl) hzo ?_))
        show Code.wp _ _ _ _ ((w3.alloc (.cells zeroName 127)).setRow w3.heap.size NV)
        obtain ⟨hq_w4, hB_w4⟩ := put_newH w3 zeroName NV 127
        obtain ⟨nb, hp_w4⟩ : ∃ q, q = w3.heap.size := ⟨_, rfl⟩
        obtain ⟨w4, hw_w4⟩ : ∃ y, y = ((w3.alloc (.cells zeroName 127)).setRow w3.heap.size NV) := ⟨_, rfl⟩
        rw [← hw_w4] at hq_w4 hB_w4 ⊢
        rw [← hp_w4] at hq_w4 ⊢
        have HQ_w4 := Lib.hid hq_w4
        have HB_w4 := Lib.hid hB_w4
        have Hp_w4 := Lib.hid hp_w4
        clear hq_w4 hB_w4 hp_w4 hw_w4
        have hH4 : Hid (HvAt w4 q ⟨sk, L, pins, L.length, life, dead⟩) := Lib.hid (Hat3.out.below HB_w4.out)
        have HB4 := Lib.hid (HB3.out.trans (Only.of_below HB_w4.out))
        by_cases hte : t = []
        · have Hs1 : Hid (ldS s0 RD (k + 1) = ldS s0 RD k) := Lib.hid (by rw [Hst.out none Ho2.out.symm]; simp only []; rw [if_pos (by rw [← Ht.out]; exact hte)])
          subst hte
          refine wp_region_held_drew (S := fun w' => Below w4.heap.size w4 w') (by kernel_rfl) ((Below.refl _ _).drew) (fun hH0 => ?_)
          obtain ⟨W0, hW0⟩ : ∃ W, W = w4.drew := ⟨_, rfl⟩
          rw [← hW0] at hH0 ⊢
          clear hW0
          refine wpAnyH_take (i := 0) (v := ?_) rfl (by kernel_rfl) (by kernel_rfl) (by kernel_rfl) (fun _ _ _ h => h) (Or.inl ⟨by kernel_rfl, ?_⟩) hH0 ?_
          rotate_left 1
          · intro w hSw
            go_simp
            try with_reducible rfl
          try simp only [Act.put, List.getElem_toArray, List.getElem_cons_zero, List.getElem_cons_succ, List.setIfInBounds_toArray, List.set_cons_zero, List.set_cons_succ]
          refine wpAnyH_take (i := 1) (v := ?_) rfl (by kernel_rfl) (by kernel_rfl) (by kernel_rfl) (fun _ _ _ h => h) (Or.inl ⟨by kernel_rfl, ?_⟩) hH0 ?_
          rotate_left 1
          · intro w hSw
            go_simp
            try with_reducible rfl
          try simp only [Act.put, List.getElem_toArray, List.getElem_cons_zero, List.getElem_cons_succ, List.setIfInBounds_toArray, List.set_cons_zero, List.set_cons_succ]
          refine wpAnyH_take (i := 2) (v := undef) rfl (by kernel_rfl) (by kernel_rfl) (by kernel_rfl) (fun _ _ _ h => h) (Or.inr ⟨by kernel_rfl, rfl⟩) hH0 ?_
          try simp only [Act.put, List.getElem_toArray, List.getElem_cons_zero, List.getElem_cons_succ, List.setIfInBounds_toArray, List.set_cons_zero, List.set_cons_succ]
          refine wpAnyH_take (i := 3) (v := undef) rfl (by kernel_rfl) (by kernel_rfl) (by kernel_rfl) (fun _ _ _ h => h) (Or.inr ⟨by kernel_rfl, rfl⟩) hH0 ?_
          try simp only [Act.put, List.getElem_toArray, List.getElem_cons_zero, List.getElem_cons_succ, List.setIfInBounds_toArray, List.set_cons_zero, List.set_cons_succ]
          refine wpAnyH_take (i := 4) (v := undef) rfl (by kernel_rfl) (by kernel_rfl) (by kernel_rfl) (fun _ _ _ h => h) (Or.inr ⟨by kernel_rfl, rfl⟩) hH0 ?_
          try simp only [Act.put, List.getElem_toArray, List.getElem_cons_zero, List.getElem_cons_succ, List.setIfInBounds_toArray, List.set_cons_zero, List.set_cons_succ]
          refine wpAnyH_take (i := 5) (v := undef) rfl (by kernel_rfl) (by kernel_rfl) (by kernel_rfl) (fun _ _ _ h => h) (Or.inr ⟨by kernel_rfl, rfl⟩) hH0 ?_
          try simp only [Act.put, List.getElem_toArray, List.getElem_cons_zero, List.getElem_cons_succ, List.setIfInBounds_toArray, List.set_cons_zero, List.set_cons_succ]
          refine wpAnyH_take (i := 6) (v := undef) rfl (by kernel_rfl) (by kernel_rfl) (by kernel_rfl) (fun _ _ _ h => h) (Or.inr ⟨by kernel_rfl, rfl⟩) hH0 ?_
          try simp only [Act.put, List.getElem_toArray, List.getElem_cons_zero, List.getElem_cons_succ, List.setIfInBounds_toArray, List.set_cons_zero, List.set_cons_succ]
          refine wpAnyH_take (i := 7) (v := undef) rfl (by kernel_rfl) (by kernel_rfl) (by kernel_rfl) (fun _ _ _ h => h) (Or.inr ⟨by kernel_rfl, rfl⟩) hH0 ?_
          try simp only [Act.put, List.getElem_toArray, List.getElem_cons_zero, List.getElem_cons_succ, List.setIfInBounds_toArray, List.set_cons_zero, List.set_cons_succ]
          refine wpAnyH_take (i := 8) (v := undef) rfl (by kernel_rfl) (by kernel_rfl) (by kernel_rfl) (fun _ _ _ h => h) (Or.inr ⟨by kernel_rfl, rfl⟩) hH0 ?_
          try simp only [Act.put, List.getElem_toArray, List.getElem_cons_zero, List.getElem_cons_succ, List.setIfInBounds_toArray, List.set_cons_zero, List.set_cons_succ]
          refine wpAnyH_take (i := 9) (v := ?_) rfl (by kernel_rfl) (by kernel_rfl) (by kernel_rfl) (fun _ _ _ h => h) (Or.inl ⟨by kernel_rfl, ?_⟩) hH0 ?_
          rotate_left 1
          · intro w hSw
            go_simp
            try with_reducible rfl
          try simp only [Act.put, List.getElem_toArray, List.getElem_cons_zero, List.getElem_cons_succ, List.setIfInBounds_toArray, List.set_cons_zero, List.set_cons_succ]
          refine wpAnyH_take (i := 10) (v := ?_) rfl (by kernel_rfl) (by kernel_rfl) (by kernel_rfl) (fun _ _ _ h => h) (Or.inl ⟨by kernel_rfl, ?_⟩) hH0 ?_
          rotate_left 1
          · intro w hSw
            go_simp
            try with_reducible rfl
          try simp only [Act.put, List.getElem_toArray, List.getElem_cons_zero, List.getElem_cons_succ, List.setIfInBounds_toArray, List.set_cons_zero, List.set_cons_succ]
          refine wpAnyH_done (by kernel_rfl) ?_ _
          have H6 := Lib.hid (hH4.out.below hH0)
          have HO6 := Lib.hid (HB4.out.trans (Only.of_below hH0))
          obtain ⟨w6, hw6⟩ : ∃ y, y = W0 := ⟨_, rfl⟩
          rw [← hw6] at H6 HO6 ⊢
          clear hH0 hw6
          go_wp2_with fail
          go_roundw
          case rel => exact ⟨k + 1, L, by omega, by rw [Hs1.out, Hvk.out], by go_num, by rw [Hs1.out, ← Hlk.out]; exact HLe.out, by rw [Hs1.out, ← Hsk.out]; exact H6.out, HO6.out, Hx.out⟩
          case measure => simp [intOf]; omega
        · have Hs1 : Hid (ldS s0 RD (k + 1) = (St.write sk k [], lk, true)) := Lib.hid (by rw [Hst.out none Ho2.out.symm]; simp only []; rw [if_neg (by rw [← Ht.out]; exact hte)])
          have hb1 : (t != []) = true := by simpa using hte
          have hb2 : (t == []) = false := by simpa using hte
          clear hte
          refine wp_region_held_drew (S := fun w' => Below w4.heap.size w4 w') (by kernel_rfl) ((Below.refl _ _).drew) (fun hH0 => ?_)
          obtain ⟨W0, hW0⟩ : ∃ W, W = w4.drew := ⟨_, rfl⟩
          rw [← hW0] at hH0 ⊢
          clear hW0
          refine wpAnyH_take (i := 0) (v := ?_) rfl (by kernel_rfl) (by kernel_rfl) (by kernel_rfl) (fun _ _ _ h => h) (Or.inl ⟨by kernel_rfl, ?_⟩) hH0 ?_
          rotate_left 1
          · intro w hSw
            go_simp
            try with_reducible rfl
          try simp only [Act.put, List.getElem_toArray, List.getElem_cons_zero, List.getElem_cons_succ, List.setIfInBounds_toArray, List.set_cons_zero, List.set_cons_succ]
          refine wpAnyH_take (i := 1) (v := ?_) rfl (by kernel_rfl) (by kernel_rfl) (by kernel_rfl) (fun _ _ _ h => h) (Or.inl ⟨by kernel_rfl, ?_⟩) hH0 ?_
          rotate_left 1
          · intro w hSw
            go_simp
            try with_reducible rfl
          try simp only [Act.put, List.getElem_toArray, List.getElem_cons_zero, List.getElem_cons_succ, List.setIfInBounds_toArray, List.set_cons_zero, List.set_cons_succ]
          refine wpAnyH_take (i := 2) (v := undef) rfl (by kernel_rfl) (by kernel_rfl) (by kernel_rfl) (fun _ _ _ h => h) (Or.inr ⟨by kernel_rfl, rfl⟩) hH0 ?_
          try simp only [Act.put, List.getElem_toArray, List.getElem_cons_zero, List.getElem_cons_succ, List.setIfInBounds_toArray, List.set_cons_zero, List.set_cons_succ]
          refine wpAnyH_take (i := 3) (v := undef) rfl (by kernel_rfl) (by kernel_rfl) (by kernel_rfl) (fun _ _ _ h => h) (Or.inr ⟨by kernel_rfl, rfl⟩) hH0 ?_
          try simp only [Act.put, List.getElem_toArray, List.getElem_cons_zero, List.getElem_cons_succ, List.setIfInBounds_toArray, List.set_cons_zero, List.set_cons_succ]
          refine wpAnyH_take (i := 4) (v := undef) rfl (by kernel_rfl) (by kernel_rfl) (by kernel_rfl) (fun _ _ _ h => h) (Or.inr ⟨by kernel_rfl, rfl⟩) hH0 ?_
          try simp only [Act.put, List.getElem_toArray, List.getElem_cons_zero, List.getElem_cons_succ, List.setIfInBounds_toArray, List.set_cons_zero, List.set_cons_succ]
          refine wpAnyH_take (i := 5) (v := undef) rfl (by kernel_rfl) (by kernel_rfl) (by kernel_rfl) (fun _ _ _ h => h) (Or.inr ⟨by kernel_rfl, rfl⟩) hH0 ?_
          try simp only [Act.put, List.getElem_toArray, List.getElem_cons_zero, List.getElem_cons_succ, List.setIfInBounds_toArray, List.set_cons_zero, List.set_cons_succ]
          refine wpAnyH_take (i := 6) (v := undef) rfl (by kernel_rfl) (by kernel_rfl) (by kernel_rfl) (fun _ _ _ h => h) (Or.inr ⟨by kernel_rfl, rfl⟩) hH0 ?_
          try simp only [Act.put, List.getElem_toArray, List.getElem_cons_zero, List.getElem_cons_succ, List.setIfInBounds_toArray, List.set_cons_zero, List.set_cons_succ]
          refine wpAnyH_take (i := 7) (v := undef) rfl (by kernel_rfl) (by kernel_rfl) (by kernel_rfl) (fun _ _ _ h => h) (Or.inr ⟨by kernel_rfl, rfl⟩) hH0 ?_
          try simp only [Act.put, List.getElem_toArray, List.getElem_cons_zero, List.getElem_cons_succ, List.setIfInBounds_toArray, List.set_cons_zero, List.set_cons_succ]
          refine wpAnyH_take (i := 8) (v := undef) rfl (by kernel_rfl) (by kernel_rfl) (by kernel_rfl) (fun _ _ _ h => h) (Or.inr ⟨by kernel_rfl, rfl⟩) hH0 ?_
          try simp only [Act.put, List.getElem_toArray, List.getElem_cons_zero, List.getElem_cons_succ, List.setIfInBounds_toArray, List.set_cons_zero, List.set_cons_succ]
          refine wpAnyH_take (i := 9) (v := ?_) rfl (by kernel_rfl) (by kernel_rfl) (by kernel_rfl) (fun _ _ _ h => h) (Or.inl ⟨by kernel_rfl, ?_⟩) hH0 ?_
          rotate_left 1
          · intro w hSw
            go_simp
            try with_reducible rfl
          try simp only [Act.put, List.getElem_toArray, List.getElem_cons_zero, List.getElem_cons_succ, List.setIfInBounds_toArray, List.set_cons_zero, List.set_cons_succ]
          refine wpAnyH_take (i := 10) (v := ?_) rfl (by kernel_rfl) (by kernel_rfl) (by kernel_rfl) (fun _ _ _ h => h) (Or.inl ⟨by kernel_rfl, ?_⟩) hH0 ?_
          rotate_left 1
          · intro w hSw
            go_simp
            try with_reducible rfl
          try simp only [Act.put, List.getElem_toArray, List.getElem_cons_zero, List.getElem_cons_succ, List.setIfInBounds_toArray, List.set_cons_zero, List.set_cons_succ]
          refine wpAnyH_done (by kernel_rfl) ?_ _
          have H6 := Lib.hid (hH4.out.below hH0)
          have HO6 := Lib.hid (HB4.out.trans (Only.of_below hH0))
          obtain ⟨w6, hw6⟩ : ∃ y, y = W0 := ⟨_, rfl⟩
          rw [← hw6] at H6 HO6 ⊢
          clear hH0 hw6
          have x06 := (hv_cells H6.out).1
          obtain ⟨we, hW2, -, -⟩ := HWk.out.write (k := k) hkn [] (by decide)
          have hwr := write_any q.b q.g sk (k : Int) [] w6 H6.out.sh (HWk.out.fits (by omega)) (by decide)
          rw [we] at hwr
          have Hwr := Lib.hid hwr
          clear we hW2 hwr
          go_wp2_with fail
          refine Hwr.out.mono ?_
          rintro r w7 ⟨rfl, hsh, hO7⟩
          have H7 := Lib.hid (hv_shelf H6.out hO7 hsh)
          have HO7 := Lib.hid (HO6.out.trans (hO7.mono (fun k hk => hsub.out k (by simp at hk ⊢; omega))))
          clear hsh hO7 Hwr x06
          go_wp2_with fail
          go_roundw
          case rel => exact ⟨k + 1, L, by omega, by rw [Hs1.out], by go_num, by rw [Hs1.out]; exact HLe.out, by rw [Hs1.out]; exact H7.out, HO7.out, Hx.out⟩
          case measure => simp [intOf]; omega
      | some v =>
        obtain ⟨vb, vi, vr⟩ := v
        obtain ⟨hvi, hvr, htne⟩ := hRDk.out vb vi vr rfl
        have hb1 : (t != []) = true := by simpa using htne
        have hb2 : (t == []) = false := by simpa using htne
        have Hvi := Lib.hid hvi
        simp only [rdVal]
        obtain ⟨NV, hNV⟩ : ∃ x, x = (Value.bool vb :: byV vi).toArray := ⟨_, rfl⟩
        rw [← hNV]
        have hNs : NV.size = 33 := by rw [hNV]; simp [byV_length, hvi]
        have HNV := Lib.hid hNV
        have ndixA : (Tryd.prog.info? 127).map (·.size) = some NV.size := by rw [name_info, hNs]
        have hNone : NV.all (·.oneCell') = true := by rw [HNV.out, List.all_toArray, List.all_cons, byV_one]; rfl
        clear hNV htne hvi
        go_upto_region 7 with (first | (refine wpList_store_row rfl 127 _ _ rfl w3.heap.size NV rfl rfl 127 _ (heap_alloc_new w3 _) ndixA (by rw [hNs]; rfl) hNone ?_))
        show Code.wp _ _ _ _ ((w3.alloc (.cells zeroName 127)).setRow w3.heap.size NV)
        obtain ⟨hq_w4, hB_w4⟩ := put_newH w3 zeroName NV 127
        obtain ⟨nb, hp_w4⟩ : ∃ q, q = w3.heap.size := ⟨_, rfl⟩
        obtain ⟨w4, hw_w4⟩ : ∃ y, y = ((w3.alloc (.cells zeroName 127)).setRow w3.heap.size NV) := ⟨_, rfl⟩
        rw [← hw_w4] at hq_w4 hB_w4 ⊢
        rw [← hp_w4] at hq_w4 ⊢
        have HQ_w4 := Lib.hid hq_w4
        have HB_w4 := Lib.hid hB_w4
        have Hp_w4 := Lib.hid hp_w4
        clear hq_w4 hB_w4 hp_w4 hw_w4
        have HB4 := Lib.hid (HB3.out.trans (Only.of_below HB_w4.out))
        have hH4 : Hid (HvAt w4 q ⟨sk, L, pins, L.length, life, dead⟩) := Lib.hid (Hat3.out.below HB_w4.out)
        have x1 := (hv_cells hH4.out).2.1
        have lp : q.p < w4.heap.size := heap_lt hH4.out.hp
        have r4 : w4.rangeAt nb 0 NV.toList := fun k v hv => by rw [Lib.cell_of_heap HQ_w4.out, Nat.zero_add]; simpa using hv
        have l4 : nb < w4.heap.size := heap_lt HQ_w4.out
        have ndix : (Tryd.prog.info? 127).map (·.size) = some NV.toList.length := by rw [ndixA]; simp
        by_cases hey : ∃ e ∈ L, (e.isB, e.id) = (vb, vi)
        · have Hs1 : Hid (ldS s0 RD (k + 1) = (St.write sk k [], lk, true)) := Lib.hid (by rw [Hst.out _ Ho2.out.symm]; simp only []; rw [if_pos ((any_keys HLe.out vb vi).2 hey)])
          obtain ⟨ee, heL, hee⟩ := hey
          have hlook := Lib.hid (fun W (hW : Below w4.heap.size w4 W) => look_yes (hH4.out.below hW) heL)
          rw [hee] at hlook
          rw [show nameV (vb, vi) = .agg NV from by rw [HNV.out]; rfl] at hlook
          obtain ⟨bk, hbk⟩ : ∃ x, x = ee.blk := ⟨_, rfl⟩
          rw [← hbk] at hlook
          clear heL hee hbk
          refine wp_region_held_drew (S := fun w' => Below w4.heap.size w4 w') (by kernel_rfl) ((Below.refl _ _).drew) (fun hH0 => ?_)
          obtain ⟨W0, hW0⟩ : ∃ W, W = w4.drew := ⟨_, rfl⟩
          rw [← hW0] at hH0 ⊢
          clear hW0
          refine wpAnyH_take (i := 0) (v := ?_) rfl (by kernel_rfl) (by kernel_rfl) (by kernel_rfl) (fun _ _ _ h => h) (Or.inl ⟨by kernel_rfl, ?_⟩) hH0 ?_
          rotate_left 1
          · intro w hSw
            go_simp
            try with_reducible rfl
          try simp only [Act.put, List.getElem_toArray, List.getElem_cons_zero, List.getElem_cons_succ, List.setIfInBounds_toArray, List.set_cons_zero, List.set_cons_succ]
          refine wpAnyH_take (i := 1) (v := ?_) rfl (by kernel_rfl) (by kernel_rfl) (by kernel_rfl) (fun _ _ _ h => h) (Or.inl ⟨by kernel_rfl, ?_⟩) hH0 ?_
          rotate_left 1
          · intro w hSw
            go_simp
            try with_reducible rfl
          try simp only [Act.put, List.getElem_toArray, List.getElem_cons_zero, List.getElem_cons_succ, List.setIfInBounds_toArray, List.set_cons_zero, List.set_cons_succ]
          refine wpAnyH_take (i := 2) (v := ?_) rfl (by kernel_rfl) (by kernel_rfl) (by kernel_rfl) (fun _ _ _ h => h) (Or.inl ⟨by kernel_rfl, ?_⟩) hH0 ?_
          rotate_left 1
          · intro w hSw
            go_simp
            try with_reducible rfl
          try simp only [Act.put, List.getElem_toArray, List.getElem_cons_zero, List.getElem_cons_succ, List.setIfInBounds_toArray, List.set_cons_zero, List.set_cons_succ]
          refine wpAnyH_take (i := 3) (v := ?_) rfl (by kernel_rfl) (by kernel_rfl) (by kernel_rfl) (fun _ _ _ h => h) (Or.inl ⟨by kernel_rfl, ?_⟩) hH0 ?_
          rotate_left 1
          · intro w hSw
            go_simp
            try with_reducible rfl
          try simp only [Act.put, List.getElem_toArray, List.getElem_cons_zero, List.getElem_cons_succ, List.setIfInBounds_toArray, List.set_cons_zero, List.set_cons_succ]
          refine wpAnyH_take (i := 4) (v := ?_) rfl (by kernel_rfl) (by kernel_rfl) (by kernel_rfl) (fun _ _ _ h => h) (Or.inl ⟨by kernel_rfl, ?_⟩) hH0 ?_
          rotate_left 1
          · intro w hSw
            go_simp
            try with_reducible rfl
          try simp only [Act.put, List.getElem_toArray, List.getElem_cons_zero, List.getElem_cons_succ, List.setIfInBounds_toArray, List.set_cons_zero, List.set_cons_succ]
          refine wpAnyH_take (i := 5) (v := ?_) rfl (by kernel_rfl) (by kernel_rfl) (by kernel_rfl) (fun _ _ _ h => h) (Or.inl ⟨by kernel_rfl, ?_⟩) hH0 ?_
          rotate_left 1
          · intro w hSw
            have f0 := (hSw.cell (p := ⟨q.p, 1, none⟩) lp).trans x1
            go_simp
            try with_reducible rfl
          try simp only [Act.put, List.getElem_toArray, List.getElem_cons_zero, List.getElem_cons_succ, List.setIfInBounds_toArray, List.set_cons_zero, List.set_cons_succ]
          refine wpAnyH_take (i := 6) (v := _) rfl (by kernel_rfl) (by kernel_rfl) (by kernel_rfl) (fun _ _ _ h => h) (yieldsIf_load_mid (by kernel_rfl) _ _ rfl _ _ rfl NV.toList _ (fun W hW => range_below r4 hW l4) nund rfl ndix) hH0 ?_
          try simp only [Act.put, List.getElem_toArray, List.getElem_cons_zero, List.getElem_cons_succ, List.setIfInBounds_toArray, List.set_cons_zero, List.set_cons_succ]
          refine wpAnyH_take (i := 7) (v := _) rfl (by kernel_rfl) (by kernel_rfl) (by kernel_rfl) (fun _ _ _ h => h) (yieldsIf_lookup (by kernel_rfl) 116 (.tmp 40) (.tmp 41) rfl (.pointer (some ⟨bk, 0, none⟩)) (fun W hW => hlook.out W hW)) hH0 ?_
          try simp only [Act.put, List.getElem_toArray, List.getElem_cons_zero, List.getElem_cons_succ, List.setIfInBounds_toArray, List.set_cons_zero, List.set_cons_succ]
          refine wpAnyH_take (i := 8) (v := ?_) rfl (by kernel_rfl) (by kernel_rfl) (by kernel_rfl) (fun _ _ _ h => h) (Or.inl ⟨by kernel_rfl, ?_⟩) hH0 ?_
          rotate_left 1
          · intro w hSw
            go_simp
            try with_reducible rfl
          try simp only [Act.put, List.getElem_toArray, List.getElem_cons_zero, List.getElem_cons_succ, List.setIfInBounds_toArray, List.set_cons_zero, List.set_cons_succ]
          refine wpAnyH_take (i := 9) (v := ?_) rfl (by kernel_rfl) (by kernel_rfl) (by kernel_rfl) (fun _ _ _ h => h) (Or.inl ⟨by kernel_rfl, ?_⟩) hH0 ?_
          rotate_left 1
          · intro w hSw
            go_simp
            try with_reducible rfl
          try simp only [Act.put, List.getElem_toArray, List.getElem_cons_zero, List.getElem_cons_succ, List.setIfInBounds_toArray, List.set_cons_zero, List.set_cons_succ]
          refine wpAnyH_take (i := 10) (v := ?_) rfl (by kernel_rfl) (by kernel_rfl) (by kernel_rfl) (fun _ _ _ h => h) (Or.inl ⟨by kernel_rfl, ?_⟩) hH0 ?_
          rotate_left 1
          · intro w hSw
            go_simp
            try with_reducible rfl
          try simp only [Act.put, List.getElem_toArray, List.getElem_cons_zero, List.getElem_cons_succ, List.setIfInBounds_toArray, List.set_cons_zero, List.set_cons_succ]
          refine wpAnyH_done (by kernel_rfl) ?_ _
          clear x1 r4
          have H6 := Lib.hid (hH4.out.below hH0)
          have HO6 := Lib.hid (HB4.out.trans (Only.of_below hH0))
          obtain ⟨w6, hw6⟩ : ∃ y, y = W0 := ⟨_, rfl⟩
          rw [← hw6] at H6 HO6 ⊢
          clear hH0 hw6
          have x06 := (hv_cells H6.out).1
          obtain ⟨we, hW2, -, -⟩ := HWk.out.write (k := k) hkn [] (by decide)
          have hwr := write_any q.b q.g sk (k : Int) [] w6 H6.out.sh (HWk.out.fits (by omega)) (by decide)
          rw [we] at hwr
          have Hwr := Lib.hid hwr
          clear we hW2 hwr
          go_wp2_with fail
          refine Hwr.out.mono ?_
          rintro r w7 ⟨rfl, hsh, hO7⟩
          have H7 := Lib.hid (hv_shelf H6.out hO7 hsh)
          have HO7 := Lib.hid (HO6.out.trans (hO7.mono (fun k hk => hsub.out k (by simp at hk ⊢; omega))))
          clear hsh hO7 Hwr x06
          go_wp2_with fail
          go_roundw
          case rel => exact ⟨k + 1, L, by omega, by rw [Hs1.out], by go_num, by rw [Hs1.out]; exact HLe.out, by rw [Hs1.out]; exact H7.out, HO7.out, Hx.out⟩
          case measure => simp [intOf]; omega
        · have Hs1 : Hid (ldS s0 RD (k + 1) = (sk, lk ++ [(vb, vi, k, ((lk.length + 1 : Nat) : Int), vr)], vk)) := Lib.hid (by rw [Hst.out _ Ho2.out.symm]; simp only []; rw [if_neg (fun h => hey ((any_keys HLe.out vb vi).1 h))])
          have Hne : Hid (∀ e ∈ L, (e.isB, e.id) ≠ (vb, vi)) := Lib.hid (fun e he h => hey ⟨e, he, h⟩)
          have hlook := Lib.hid (fun W (hW : Below w4.heap.size w4 W) => look_no (hH4.out.below hW) Hvi.out Hne.out)
          rw [show nameV (vb, vi) = .agg NV from by rw [HNV.out]; rfl] at hlook
          clear hey
          refine wp_region_held_drew (S := fun w' => Below w4.heap.size w4 w') (by kernel_rfl) ((Below.refl _ _).drew) (fun hH0 => ?_)
          obtain ⟨W0, hW0⟩ : ∃ W, W = w4.drew := ⟨_, rfl⟩
          rw [← hW0] at hH0 ⊢
          clear hW0
          refine wpAnyH_take (i := 0) (v := ?_) rfl (by kernel_rfl) (by kernel_rfl) (by kernel_rfl) (fun _ _ _ h => h) (Or.inl ⟨by kernel_rfl, ?_⟩) hH0 ?_
          rotate_left 1
          · intro w hSw
            go_simp
            try with_reducible rfl
          try simp only [Act.put, List.getElem_toArray, List.getElem_cons_zero, List.getElem_cons_succ, List.setIfInBounds_toArray, List.set_cons_zero, List.set_cons_succ]
          refine wpAnyH_take (i := 1) (v := ?_) rfl (by kernel_rfl) (by kernel_rfl) (by kernel_rfl) (fun _ _ _ h => h) (Or.inl ⟨by kernel_rfl, ?_⟩) hH0 ?_
          rotate_left 1
          · intro w hSw
            go_simp
            try with_reducible rfl
          try simp only [Act.put, List.getElem_toArray, List.getElem_cons_zero, List.getElem_cons_succ, List.setIfInBounds_toArray, List.set_cons_zero, List.set_cons_succ]
          refine wpAnyH_take (i := 2) (v := ?_) rfl (by kernel_rfl) (by kernel_rfl) (by kernel_rfl) (fun _ _ _ h => h) (Or.inl ⟨by kernel_rfl, ?_⟩) hH0 ?_
          rotate_left 1
          · intro w hSw
            go_simp
            try with_reducible rfl
          try simp only [Act.put, List.getElem_toArray, List.getElem_cons_zero, List.getElem_cons_succ, List.setIfInBounds_toArray, List.set_cons_zero, List.set_cons_succ]
          refine wpAnyH_take (i := 3) (v := ?_) rfl (by kernel_rfl) (by kernel_rfl) (by kernel_rfl) (fun _ _ _ h => h) (Or.inl ⟨by kernel_rfl, ?_⟩) hH0 ?_
          rotate_left 1
          · intro w hSw
            go_simp
            try with_reducible rfl
          try simp only [Act.put, List.getElem_toArray, List.getElem_cons_zero, List.getElem_cons_succ, List.setIfInBounds_toArray, List.set_cons_zero, List.set_cons_succ]
          refine wpAnyH_take (i := 4) (v := ?_) rfl (by kernel_rfl) (by kernel_rfl) (by kernel_rfl) (fun _ _ _ h => h) (Or.inl ⟨by kernel_rfl, ?_⟩) hH0 ?_
          rotate_left 1
          · intro w hSw
            go_simp
            try with_reducible rfl
          try simp only [Act.put, List.getElem_toArray, List.getElem_cons_zero, List.getElem_cons_succ, List.setIfInBounds_toArray, List.set_cons_zero, List.set_cons_succ]
          refine wpAnyH_take (i := 5) (v := ?_) rfl (by kernel_rfl) (by kernel_rfl) (by kernel_rfl) (fun _ _ _ h => h) (Or.inl ⟨by kernel_rfl, ?_⟩) hH0 ?_
          rotate_left 1
          · intro w hSw
            have f0 := (hSw.cell (p := ⟨q.p, 1, none⟩) lp).trans x1
            go_simp
            try with_reducible rfl
          try simp only [Act.put, List.getElem_toArray, List.getElem_cons_zero, List.getElem_cons_succ, List.setIfInBounds_toArray, List.set_cons_zero, List.set_cons_succ]
          refine wpAnyH_take (i := 6) (v := _) rfl (by kernel_rfl) (by kernel_rfl) (by kernel_rfl) (fun _ _ _ h => h) (yieldsIf_load_mid (by kernel_rfl) _ _ rfl _ _ rfl NV.toList _ (fun W hW => range_below r4 hW l4) nund rfl ndix) hH0 ?_
          try simp only [Act.put, List.getElem_toArray, List.getElem_cons_zero, List.getElem_cons_succ, List.setIfInBounds_toArray, List.set_cons_zero, List.set_cons_succ]
          refine wpAnyH_take (i := 7) (v := _) rfl (by kernel_rfl) (by kernel_rfl) (by kernel_rfl) (fun _ _ _ h => h) (yieldsIf_lookup (by kernel_rfl) 116 (.tmp 40) (.tmp 41) rfl (.pointer none) (fun W hW => hlook.out W hW)) hH0 ?_
          try simp only [Act.put, List.getElem_toArray, List.getElem_cons_zero, List.getElem_cons_succ, List.setIfInBounds_toArray, List.set_cons_zero, List.set_cons_succ]
          refine wpAnyH_take (i := 8) (v := ?_) rfl (by kernel_rfl) (by kernel_rfl) (by kernel_rfl) (fun _ _ _ h => h) (Or.inl ⟨by kernel_rfl, ?_⟩) hH0 ?_
          rotate_left 1
          · intro w hSw
            go_simp
            try with_reducible rfl
          try simp only [Act.put, List.getElem_toArray, List.getElem_cons_zero, List.getElem_cons_succ, List.setIfInBounds_toArray, List.set_cons_zero, List.set_cons_succ]
          refine wpAnyH_take (i := 9) (v := ?_) rfl (by kernel_rfl) (by kernel_rfl) (by kernel_rfl) (fun _ _ _ h => h) (Or.inl ⟨by kernel_rfl, ?_⟩) hH0 ?_
          rotate_left 1
          · intro w hSw
            go_simp
            try with_reducible rfl
          try simp only [Act.put, List.getElem_toArray, List.getElem_cons_zero, List.getElem_cons_succ, List.setIfInBounds_toArray, List.set_cons_zero, List.set_cons_succ]
          refine wpAnyH_take (i := 10) (v := ?_) rfl (by kernel_rfl) (by kernel_rfl) (by kernel_rfl) (fun _ _ _ h => h) (Or.inl ⟨by kernel_rfl, ?_⟩) hH0 ?_
          rotate_left 1
          · intro w hSw
            go_simp
            try with_reducible rfl
          try simp only [Act.put, List.getElem_toArray, List.getElem_cons_zero, List.getElem_cons_succ, List.setIfInBounds_toArray, List.set_cons_zero, List.set_cons_succ]
          refine wpAnyH_done (by kernel_rfl) ?_ _
          have H6 := Lib.hid (hH4.out.below hH0)
          have HO6 := Lib.hid (HB4.out.trans (Only.of_below hH0))
          have hq6 := below_keep hH0 HQ_w4.out
          obtain ⟨w6, hw6⟩ : ∃ y, y = W0 := ⟨_, rfl⟩
          rw [← hw6] at H6 HO6 hq6 ⊢
          have HQ6 := Lib.hid hq6
          clear hH0 hw6 x1 r4 hq6
          have hadd := Lib.hid (hadd_any q ⟨sk, L, pins, L.length, life, dead⟩ vb vi k vr w6 H6.out Hvi.out (by omega) hvr (by show L.length < 1000000; omega) Hne.out (fun e he => by have := HAtk.out e he; omega))
          rw [← HNV.out] at hadd
          go_wp2_with (refine wpList_load_row rfl 127 _ rfl nb rfl 127 NV (0, 0) _ HQ6.out nund rfl ndixA ?_)
          refine hadd.out.mono ?_
          rintro r w7 ⟨rfl, blk, hbl, h7, hO7⟩
          have H7 := Lib.hid h7
          have HO7 := Lib.hid (HO6.out.trans (hO7.mono (fun k hk => hsub.out k (by simp at hk ⊢; omega))))
          have Hbl : Hid (w.heap.size ≤ blk) := Lib.hid (Nat.le_trans HO6.out.size hbl)
          have hll : L.length = lk.length := by have h := congrArg List.length HLe.out; rw [List.length_map] at h; exact h
          have Hll := Lib.hid hll
          clear h7 hO7 hbl hadd hll
          go_wp2_with fail
          go_roundw
          case rel =>
            refine ⟨k + 1, L ++ [⟨vb, vi, k, ((L.length + 1 : Nat) : Int), vr, blk⟩], by omega, by rw [Hs1.out], by go_num, ?_, ?_, HO7.out, fun x hx => ?_⟩
            · rw [Hs1.out, List.map_append, HLe.out, ← Hll.out]; rfl
            · rw [Hs1.out]; have h := H7.out; simp only [List.length_append, List.length_singleton]; exact h
            · simp only [HvP.own, List.map_append, List.mem_cons, List.mem_append, List.map_cons, List.map_nil, List.not_mem_nil, or_false] at hx
              have hxx := Hx.out x
              simp only [HvP.own, List.mem_cons, List.map_nil, List.not_mem_nil, or_false] at hxx ⊢
              rcases hx with h | h | h | h | h | h | h | h
              · exact hxx (by simp [h])
              · exact hxx (by simp [h])
              · exact hxx (by simp [h])
              · exact hxx (by simp [h])
              · exact hxx (by simp [h])
              · exact hxx (by simp [h])
              · exact hxx (by simp only [h, or_true])
              · right; rw [h]; exact Hbl.out
          case measure => simp [intOf]; omega
    · obtain rfl : n = k := by omega
      have j1 : ¬ (n : Int) < (n : Int) := by omega
      have hend : ldEnd s0 RD n = if (ldS s0 RD n).2.2 = true then St.sync (ldS s0 RD n).1 else (ldS s0 RD n).1 := rfl
      have Hend := Lib.hid hend
      have hsy := sync_works HWk.out
      have hfit := HWk.out.fits (by omega)
      have hsn := sync_any q.b q.g (ldS s0 RD n).1 wr Hat.out.sh hfit
      rw [hsy.1] at hsn
      have Hsn := Lib.hid hsn
      have x0 := (hv_cells Hat.out).1
      cases hv : (ldS s0 RD n).2.2 with
      | true =>
        rw [hv, if_pos rfl] at hend
        have Hend2 := Lib.hid hend
        clear hend hsy hfit hsn hv Hend
        go_wp2_with fail
        refine Hsn.out.mono ?_
        rintro r w2 ⟨rfl, hsh, hO⟩
        have H2 := Lib.hid (hv_shelf Hat.out hO hsh)
        have HO := Lib.hid hO
        clear hsh hO Hsn x0
        go_wp2_with fail
        go_ret
        exact ⟨rfl, L, HLe.out, by rw [Hend2.out]; exact H2.out, Ho.out.trans (HO.out.mono (fun k hk => hsub.out k (by simp at hk ⊢; omega))), Hx.out⟩
      | false =>
        rw [hv, if_neg (by decide)] at hend
        have Hend2 := Lib.hid hend
        clear hend hsy hfit hsn hv Hend Hsn x0
        go_wp2_with fail
        go_ret
        exact ⟨rfl, L, HLe.out, by rw [Hend2.out]; exact Hat.out, Ho.out, Hx.out⟩
end Go.Proofs.YteihfoacdocgkaaDoor

set_option linter.unusedVariables false
set_option linter.unusedSimpArgs false
namespace Go.Proofs.YteihfoacdocgkaaDoor
open Go.RowKit Pl Sh
attribute [local go_sem] Lb.ba_get Lb.ba_cut Lb.ba_add Lb.ba_size Lb.take_rest

theorem Only.liftH {S S' : List Nat} {w W w' : World} (h : Only S w W) (k : Only S' W w') (hS : ∀ x ∈ S', x ∈ S ∨ w.heap.size ≤ x) : Only S w w' :=
  ⟨k.os.trans h.os, k.tape.trans h.tape, k.output.trans h.output, Nat.le_trans h.size k.size, fun i hi hn => (k.block i (Nat.lt_of_lt_of_le hi h.size) (fun hx => by rcases hS i hx with h1 | h1; exact hn h1; omega)).trans (h.block i hi hn)⟩
def OpenGPost (w : World) (b g : Nat) (s : St) (RD : RdF) (m : Nat) (e : Ending) (w' : World) : Prop :=
  ∃ (q : HvP) (L : List HEnt), q.b = b ∧ q.g = g ∧ e = .returned (.tuple #[.pointer (some ⟨q.p, 0, none⟩), .int .i64 0]) ∧ L.map e5 = (ldS s RD m).2.1 ∧ HvAt w' q ⟨ldEnd s RD m, L, [], L.length, s.pw.life, false⟩ ∧ (∀ x ∈ q.own L, x = b ∨ x = g ∨ w.heap.size ≤ x) ∧ Only [b, g] w w'
set_option maxHeartbeats 4000000 in
set_option maxRecDepth 100000 in
theorem open_gen (K : List Int) (RD : RdF) (m : Nat) (b g : Nat) (s : St) (w : World) (h : ShAt w b g s) (hL : Laid K w) (h0b : 0 ≠ b ∧ 0 ≠ g) (hw : Works s m 900000) (hm : m ≤ 128)
    (hread : ∀ i, i < m → ∀ W, Laid K W → ReadC RD (St.read s i) W) (hRD : ∀ i, i < m → ∀ b id r, RD (St.read s i) = some (b, id, r) → id.length = 32 ∧ r.length ≤ 10000 ∧ St.read s i ≠ []) :
    Calls Tryd.prog 19 #[.pointer (some ⟨b, 0, none⟩)] w (OpenGPost w b g s RD m) := by
  have hdn := hw.down
  have hL0 := hL.lt
  obtain ⟨n, hn⟩ : ∃ n, n = w.heap.size := ⟨_, rfl⟩
  have lb : b < n := by rw [hn]; exact heap_lt h.pw
  have lg : g < n := by rw [hn]; exact heap_lt h.slots
  obtain ⟨wa, hwa⟩ : ∃ x, x = w.alloc (.map #[] 0) := ⟨_, rfl⟩
  obtain ⟨wb, hwb⟩ : ∃ x, x = wa.alloc (.map #[] 0) := ⟨_, rfl⟩
  obtain ⟨wc, hwc⟩ : ∃ x, x = wb.alloc (.map #[] 0) := ⟨_, rfl⟩
  have sa : wa.heap.size = n + 1 := by rw [hwa, hn]; simp
  have sb : wb.heap.size = n + 2 := by rw [hwb]; simp [sa]
  have sc : wc.heap.size = n + 3 := by rw [hwc]; simp [sb]
  have ba : Below n w wa := by rw [hwa, hn]; exact (Below.refl _ w).alloc (Nat.le_refl _) _
  have bb : Below n w wb := by rw [hwb]; exact ba.alloc (by omega) _
  have bc : Below n w wc := by rw [hwc]; exact bb.alloc (by omega) _
  obtain ⟨wd, hwd⟩ : ∃ x, x = wc.alloc (.cells (hvCells b n (n + 1) (n + 2) 0 s.pw.life false) 120) := ⟨_, rfl⟩
  have bd : Below n w wd := by rw [hwd]; exact bc.alloc (by omega) _
  have ha : MapAt nameV (fun x => x.2.length = 32) wd n [] := by
    have h0 : MapAt nameV (fun x => x.2.length = 32) wa n [] := by rw [hwa, hn]; exact mapAt_made w
    exact ((h0.keep (w' := wb) (by rw [hwb]; exact heap_alloc_old wa _ (by omega))).keep (w' := wc) (by rw [hwc]; exact heap_alloc_old wb _ (by omega))).keep (by rw [hwd]; exact heap_alloc_old wc _ (by omega))
  have ht : MapAt intK (fun x => x < 1000000) wd (n + 1) [] := by
    have h0 : MapAt intK (fun x => x < 1000000) wb (n + 1) [] := by rw [hwb, ← sa]; exact mapAt_made wa
    exact (h0.keep (w' := wc) (by rw [hwc]; exact heap_alloc_old wb _ (by omega))).keep (by rw [hwd]; exact heap_alloc_old wc _ (by omega))
  have hpn : MapAt digK (fun x => x.length = 32) wd (n + 2) [] := by
    have h0 : MapAt digK (fun x => x.length = 32) wc (n + 2) [] := by rw [hwc, ← sb]; exact mapAt_made wb
    exact h0.keep (by rw [hwd]; exact heap_alloc_old wc _ (by omega))
  have hp : wd.heap[n + 3]? = some (.cells (hvCells b n (n + 1) (n + 2) 0 s.pw.life false) 120 (0, 0)) := by rw [hwd, ← sc]; exact heap_alloc_new wc _
  have hbg := h.ne
  have hd : HvAt wd ⟨n + 3, b, g, n, n + 1, n + 2⟩ ⟨s, [], [], 0, s.pw.life, false⟩ := ⟨hp, ha, ht, hpn, (fun e he => by cases he), (fun e he => by cases he), ⟨(bd.block b lb).trans h.pw, (bd.block g lg).trans h.slots, h.ne, h.len⟩, by simp [HvP.own]; omega⟩
  have k1 : ∀ t, (Instr.makeMap t .none).run Tryd.prog w = .ok (.map (some n)) wa := fun t => by rw [hwa, hn]; rfl
  have k2 : ∀ t, (Instr.makeMap t .none).run Tryd.prog wa = .ok (.map (some (n + 1))) wb := fun t => by rw [hwb, ← sa]; rfl
  have k3 : ∀ t, (Instr.makeMap t .none).run Tryd.prog wb = .ok (.map (some (n + 2))) wc := fun t => by rw [hwc, ← sb]; rfl
  have hdw := Lib.hid (down_any b g s w h)
  have hlf := Lib.hid (life_any b g s wc ⟨(bc.block b lb).trans h.pw, (bc.block g lg).trans h.slots, h.ne, h.len⟩)
  have hld := Lib.hid (load_gen K _ _ RD m wd hd rfl rfl (hL.below (bd.mono (by rw [hn]; exact Nat.le_refl _))) (by simp [HvP.own]; omega) hw hm hread hRD)
  have hbu := built_hive b n (n + 1) (n + 2) s.pw.life
  obtain ⟨lf, hlf'⟩ : ∃ x : Int, x = (s.pw.life : Int) := ⟨_, rfl⟩
  rw [← hlf'] at hlf hbu hwd
  obtain ⟨HC, hHC⟩ : ∃ x, x = hvCells b n (n + 1) (n + 2) 0 lf false := ⟨_, rfl⟩
  rw [← hHC] at hbu hwd
  clear hHC
  rw [hdn] at hdw
  have Hd := Lib.hid hd
  have Bd := Lib.hid bd
  have Hn := Lib.hid hn
  have Hwa := Lib.hid hwa
  have Hwb := Lib.hid hwb
  have Hwc := Lib.hid hwc
  have Hwd := Lib.hid hwd
  have Sa := Lib.hid sa
  have Sb := Lib.hid sb
  have Sc := Lib.hid sc
  clear h hdn hw hm hread hRD hL lb lg ba bb bc bd ha ht hpn hp hbg hd hn hwa hwb hwc hwd hlf' sa sb sc
  go_enter Tryd.func19, Tryd.ntmps19
  go_upto_region 3 with fail
  go_upto_region 5 with (go_at_call 63; refine hdw.out.mono ?_; rintro r w1 ⟨rfl, rfl⟩)
  go_wp2_with fail
  refine hlf.out.mono ?_
  rintro r w2 ⟨rfl, rfl⟩
  go_upto_region 6 with (refine wpList_build5 rfl 120 0 1 2 3 5 (.tmp 12) (.tmp 13) (.tmp 14) (.tmp 15) (.tmp 17) rfl (.pointer (some ⟨b, 0, .none⟩)) (.map (some n)) (.map (some (n + 1))) (.map (some (n + 2))) (.int .i64 lf) rfl rfl rfl rfl rfl HC hbu ?_)
  rw [← Hwd.out, Sc.out]
  go_wp2_with fail
  refine hld.out.mono ?_
  rintro r w3 ⟨rfl, L, hLe, hat, hO3, hx⟩
  have HAT := Lib.hid hat
  have HLE := Lib.hid hLe
  have HX := Lib.hid hx
  have HO : Hid (Only [b, g] w w3) := Lib.hid ((Only.of_below (by rw [← Hn.out]; exact Bd.out) : Only [b, g] w wd).liftH hO3 (by intro x hx; have := Hn.out; simp [HvP.own] at hx ⊢; omega))
  have hwd : w.heap.size ≤ wd.heap.size := by rw [← Hn.out]; exact Nat.le_trans (by rw [Hn.out]; exact Nat.le_refl _) Bd.out.size
  have Hwdz := Lib.hid hwd
  clear hO3 hat hLe hx hld hlf hdw hwd
  go_wp2_with fail
  go_ret2
  refine ⟨⟨n + 3, b, g, n, n + 1, n + 2⟩, L, rfl, rfl, rfl, HLE.out, HAT.out, fun x hx => ?_, HO.out⟩
  have hn := Hn.out
  have hwz := Hwdz.out
  rcases HX.out x hx with h | h
  · simp [HvP.own] at h; omega
  · right; right; omega

/-! ### the text of a blob -/
theorem text_drop (K : List Int) (row : List UInt8) : (textS K row).drop 32 = row := by
  unfold textS
  rw [List.drop_append_of_le_length (by rw [hashB_length]; exact Nat.le_refl _), List.drop_eq_nil_of_le (by rw [hashB_length]; exact Nat.le_refl _)]
  rfl
set_option maxHeartbeats 4000000 in
set_option maxRecDepth 100000 in
theorem hread_blob (K : List Int) (b : List UInt8) (w : World) (hL : Laid K w) (hb : b.length ≤ 512) :
    Calls Tryd.prog 124 #[.string ⟨(textS K (blobRowS b)).toArray⟩] w fun e w' => e = .returned (rdVal (some (true, hashB K b, blobRowS b))) ∧ Below w.heap.size w w' := by
  have h0 := heap_alloc_new w (.cells zeroName 127)
  have b0 := (Below.refl w.heap.size w).alloc (Nat.le_refl _) (.cells zeroName 127)
  have hdr := text_drop K (blobRowS b)
  have hrl := blobRow_len b hb
  have htl : (textS K (blobRowS b)).length = 32 + (blobRowS b).length := by unfold textS; rw [List.length_append, hashB_length]
  have hab := Lib.hid (fun W => asBlob_any (blobRowS b) W (by omega))
  rw [asBlob_blob b hb] at hab
  have HL := Lib.hid hL
  have htx := Lib.hid (fun W (hW : Below w.heap.size w W) => htext_any K (blobRowS b) W (HL.out.below hW) (by omega))
  obtain ⟨row, hrow⟩ : ∃ r, r = blobRowS b := ⟨_, rfl⟩
  rw [← hrow] at hdr hrl htl hab htx ⊢
  obtain ⟨t, ht⟩ : ∃ t, t = textS K row := ⟨_, rfl⟩
  rw [← ht] at hdr htl htx ⊢
  have hl32 : ¬ (t.length : Int) < 32 := by omega
  have hl32b : (32 : Int) ≤ (t.length : Int) := by omega
  obtain ⟨dg, hdg⟩ : ∃ x, x = hashB K b := ⟨_, rfl⟩
  have hdl : dg.length = 32 := by rw [hdg]; exact hashB_length K b
  rw [← hdg]
  have hbn := built_name true dg hdl
  simp only [rdVal]
  obtain ⟨NV, hNV⟩ : ∃ x, x = (Value.bool true :: byV dg).toArray := ⟨_, rfl⟩
  rw [← hNV] at hbn ⊢
  have hNs : NV.size = 33 := by rw [hNV]; simp [byV_length, hdl]
  have ndixA : (Tryd.prog.info? 127).map (·.size) = some NV.size := by rw [name_info, hNs]
  have hNone : NV.all (·.oneCell') = true := by rw [hNV, List.all_toArray, List.all_cons, byV_one]; rfl
  have hlb : b.length ≤ 1000000 := by omega
  have Hdg := Lib.hid hdg
  have HNV := Lib.hid hNV
  clear hL hdg hNV ht hrow hb
  go_enter Tryd.func124, Tryd.ntmps124
  go_upto_region 1 with fail
  show Code.wp _ _ _ _ (w.alloc (.cells zeroName 127))
  obtain ⟨q, hq⟩ : ∃ q, q = w.heap.size := ⟨_, rfl⟩
  obtain ⟨w1, hw1⟩ : ∃ y, y = w.alloc (.cells zeroName 127) := ⟨_, rfl⟩
  rw [← hw1] at h0 b0 ⊢
  rw [← hq] at h0 ⊢
  have H0 := Lib.hid h0
  have Hq := Lib.hid hq
  have Hb0 := Lib.hid b0
  clear hw1 hq h0 b0
  have htt : (t != t) = false := by simp
  go_wp2_with fail
  refine (htx.out w1 Hb0.out).mono ?_
  rintro e w2 ⟨rfl, hB2⟩
  have H02 := Lib.hid (below_keep hB2 H0.out)
  have Hb2 := Lib.hid (Hb0.out.trans (hB2.mono Hb0.out.size))
  clear hB2 htx
  go_wp2_with fail
  refine (hab.out w2).mono ?_
  rintro e w3 ⟨rfl, hB3⟩
  have H03 := Lib.hid (below_keep hB3 H02.out)
  have hb3 : Below w.heap.size w w3 := Hb2.out.trans (hB3.mono Hb2.out.size)
  have Hb3 := Lib.hid hb3
  have hb1s := (Below.refl w3.heap.size w3).alloc (Nat.le_refl _) (.cells #[.string ⟨b.toArray⟩] 9)
  have cb : (w3.alloc (.cells #[.string ⟨b.toArray⟩] 9)).cell? ⟨w3.heap.size, 0, none⟩ = some (.string ⟨b.toArray⟩) := by rw [Lib.cell_of_heap (heap_alloc_new w3 _)]; rfl
  have hof := Lib.hid (of_hash K (some ⟨w3.heap.size, 0, none⟩) 1 b _ ((HL.out.below hb3).below hb1s) ⟨_, rfl, cb⟩ (by omega))
  have Hb1s := Lib.hid hb1s
  rw [← Hdg.out] at hof
  have hdd : digV dg = (byV dg).toArray := rfl
  rw [hdd] at hof
  clear hB3 hab hb3 hb1s cb hdd
  go_wp2_with fail
  refine hof.out.mono ?_
  rintro e w4 ⟨rfl, hB4⟩
  have hb4 : Below w3.heap.size w3 w4 := Hb1s.out.trans (hB4.mono Hb1s.out.size)
  have H04 := Lib.hid (below_keep hb4 H03.out)
  have Hb4 := Lib.hid (Hb3.out.trans (hb4.mono Hb3.out.size))
  clear hB4 hb4 hof
  have hzs : zeroName.size = 33 := by kernel_rfl
  go_wp2_with (first
    | (refine wpList_build2 rfl 127 _ _ _ _ rfl _ _ rfl rfl _ hbn ?_)
    | (refine wpList_store_row rfl 127 _ _ rfl q NV rfl rfl 127 zeroName H04.out ndixA (by rw [hNs, hzs]) hNone ?_))
  (try simp only [Exit.inBlock, Exit.then])
  refine bodyPost_ret (results_cell_row3 rfl _ _ q 127 NV (0, 0) _ rfl (setRow_heap _ _ _ _ _ _ H04.out) Tryd.underlying127 rfl ndixA) rfl ?_
  refine ⟨rfl, ?_⟩
  exact Hb4.out.trans (((Only.refl [q] w4).setRow (by simp) _).below Hb4.out.size (by intro x hx; simp at hx; rw [hx, Hq.out]; exact Nat.le_refl _))
end Go.Proofs.YteihfoacdocgkaaDoor
