/-
  Layer 5 (hive): the walks of did, Len, add.
-/
import Derived.Test.YtfbjbhddapoopaaDoorHvC
set_option linter.unusedVariables false
set_option linter.unusedSimpArgs false
namespace Go.Proofs.YtfbjbhddapoopaaDoor
open Go.RowKit Pl Sh
attribute [local go_sem] Lb.ba_get Lb.ba_cut Lb.ba_add Lb.ba_size Lb.take_rest

/-- nothing but the store's own block has turned -/
theorem hv_head {w w2 : World} {q : HvP} {d d' : HvD} (h : HvAt w q d) (hO : Only [q.p] w w2) (hp : w2.heap[q.p]? = some (.cells (hvCells q.b q.ma q.mt q.mp d'.clk d'.life d'.dead) 144 (0, 0)))
    (e1 : d'.s = d.s) (e2 : d'.L = d.L) (e3 : d'.pins = d.pins) : HvAt w2 q d' := by
  obtain ⟨n1, n2⟩ := own_nd h.nd
  obtain ⟨a1, a2, a3, a4, a5, -⟩ := own_six h.nd
  refine ⟨hp, ?_, ?_, ?_, fun x hx => ?_, fun x hx => h.fit x (e2 ▸ hx), ?_, by rw [e2]; exact h.nd⟩
  · rw [e2]; exact h.all.keep (hO.block q.ma h.all.lt (by simpa using a1.symm))
  · rw [e2]; exact h.taken.keep (hO.block q.mt h.taken.lt (by simpa using a2.symm))
  · rw [e3]; exact h.pin.keep (hO.block q.mp h.pin.lt (by simpa using a3.symm))
  · rw [e2] at hx
    exact hO.keep (h.ents x hx) (by simpa using (n2 x hx).1)
  · rw [e1]
    exact ⟨hO.keep h.sh.pw (by simpa using a4.symm), hO.keep h.sh.slots (by simpa using a5.symm), h.sh.ne, h.sh.len⟩
set_option maxHeartbeats 2000000 in
theorem did_any (q : HvP) (d : HvD) (e : Int) (w : World) (h : HvAt w q d) :
    Calls Tryd.prog 94 #[.pointer (some ⟨q.p, 0, none⟩), .int .i64 e] w fun r w' => r = .returned (.int .i64 e) ∧ HvAt w' q { d with dead := d.dead || (e == 10) } ∧ Only [q.p] w w' := by
  obtain ⟨-, -, -, -, -, -, c6, z⟩ := hv_cells h
  have z6 := z 6
  have H := Lib.hid h
  obtain ⟨dd, hdd⟩ : ∃ x, x = d.dead := ⟨_, rfl⟩
  rw [← hdd] at c6 ⊢
  have fin : ∀ x, HvAt (w.setCell ⟨q.p, 6, none⟩ (.bool x)) q { d with dead := x } ∧ Only [q.p] w (w.setCell ⟨q.p, 6, none⟩ (.bool x)) := fun x => by
    have o1 : Only [q.p] w (w.setCell ⟨q.p, 6, none⟩ (.bool x)) := (Only.refl _ _).setCell (by simp) _
    have g1 := heap_setCell_same _ q.p 6 _ _ (.bool x) h.hp
    rw [hv_set6] at g1
    exact ⟨hv_head h o1 g1 rfl rfl rfl, o1⟩
  have Fin := Lib.hid fin
  clear h hdd fin z
  go_enter Tryd.func94, Tryd.ntmps94
  cases dd
  · by_cases he : e = 10
    · have e1 : (e == 10) = true := by simp [he]
      have E1 := Lib.hid e1
      clear he
      go_wp2_with fail
      go_ret
      refine ⟨rfl, ?_⟩
      have := Fin.out true
      simpa [E1.out] using this
    · have e1 : (e == 10) = false := by simp [he]
      have E1 := Lib.hid e1
      clear he
      go_wp2_with fail
      go_ret
      refine ⟨rfl, ?_⟩
      have := Fin.out false
      simpa [E1.out] using this
  · go_wp2_with fail
    go_ret
    exact ⟨rfl, Fin.out true⟩
set_option maxHeartbeats 2000000 in
theorem hlen_any (q : HvP) (d : HvD) (w : World) (h : HvAt w q d) :
    Calls Tryd.prog 45 #[.pointer (some ⟨q.p, 0, none⟩)] w fun r w' => r = .returned (.int .i64 d.L.length) ∧ w = w' := by
  obtain ⟨-, c1, -, -, -, -, -, -⟩ := hv_cells h
  have hl : ∀ ty, (Builtin.len_ #[140] ty #[.map (some q.ma)]).run Tryd.prog w = .ok (.int .i64 d.L.length) w := fun ty => by
    have := h.all.len Tryd.underlying140 ty
    rwa [show (keysOf d.L).length = d.L.length by simp [keysOf]] at this
  clear h
  go_enter Tryd.func45, Tryd.ntmps45
  go_wp2_with fail
  go_ret
  exact ⟨rfl, rfl⟩

/-! ### add -/
theorem range_onlyH {w w' : World} {b o : Nat} {cs : List Value} {bs : List Nat} (h : w.rangeAt b o cs) (ho : Only bs w w') (hl : b < w.heap.size ∧ b ∉ bs) : w'.rangeAt b o cs := range_keep h (ho.block b hl.1 hl.2)
def entPlaces : List (Nat × Nat) := [(0, 33), (33, 1), (34, 1), (35, 1)]
def zeroEnt : HEnt := ⟨false, List.replicate 32 0, 0, 0, [], 0⟩
set_option maxRecDepth 100000 in
theorem ent_zero : (Tryd.prog.info? 158).map (·.zero) = some (some (.agg zeroEnt.cells.toArray)) := by kernel_rfl
theorem ent_info : (Tryd.prog.info? 158).map (·.size) = some 36 := by kernel_rfl
set_option maxRecDepth 100000 in
theorem built_ent (e : HEnt) (h : e.id.length = 32) : Tryd.prog.built 158 [(0, .agg (Value.bool e.isB :: byV e.id).toArray), (1, .int .i64 e.at_), (2, .int .i64 e.used), (3, .string ⟨e.row.toArray⟩)] = some e.cells.toArray := by
  obtain ⟨it, hit, hz⟩ := Option.map_eq_some_iff.1 ent_zero
  have hp : ∀ fs, Tryd.prog.underlying 158 = some (.struct fs) → fs.toList.mapM (fun f => (Tryd.prog.info? f.type).map fun i => (f.offset, i.size)) = some entPlaces := by
    intro fs h
    obtain rfl := (TypeDesc.struct.inj (Option.some.inj (Tryd.underlying158.symm.trans h)))
    kernel_rfl
  unfold Program.built
  rw [hit]
  simp only [Tryd.underlying158]
  rw [hz, hp _ Tryd.underlying158]
  have h33 : (Value.bool e.isB :: byV e.id).length = 33 := by simp [byV_length, h]
  have h1 := fill_seg (place := (entPlaces.toArray[·]?)) (i := 0) (v := .agg (Value.bool e.isB :: byV e.id).toArray) (rest := [(1, .int .i64 e.at_), (2, .int .i64 e.used), (3, .string ⟨e.row.toArray⟩)]) (pre := []) (old := Value.bool false :: byV (List.replicate 32 0)) (vs := Value.bool e.isB :: byV e.id) (off := 0) (size := 33)
    (post := [Value.int .i64 0, Value.int .i64 0, Value.string ⟨#[]⟩]) rfl (cells_agg _) h33 rfl rfl
  have h2 := fill_seg (place := (entPlaces.toArray[·]?)) (i := 1) (v := .int .i64 e.at_) (rest := [(2, .int .i64 e.used), (3, .string ⟨e.row.toArray⟩)]) (pre := Value.bool e.isB :: byV e.id) (old := [Value.int .i64 0]) (vs := [Value.int .i64 e.at_]) (off := 33) (size := 1)
    (post := [Value.int .i64 0, Value.string ⟨#[]⟩]) rfl (cells_int _ _) rfl h33 rfl
  have h3 := fill_seg (place := (entPlaces.toArray[·]?)) (i := 2) (v := .int .i64 e.used) (rest := [(3, .string ⟨e.row.toArray⟩)]) (pre := (Value.bool e.isB :: byV e.id) ++ [Value.int .i64 e.at_]) (old := [Value.int .i64 0]) (vs := [Value.int .i64 e.used]) (off := 34) (size := 1)
    (post := [Value.string ⟨#[]⟩]) rfl (cells_int _ _) rfl (by simp [byV_length, h]) rfl
  have h4 := fill_seg (place := (entPlaces.toArray[·]?)) (i := 3) (v := .string ⟨e.row.toArray⟩) (rest := []) (pre := (Value.bool e.isB :: byV e.id) ++ [Value.int .i64 e.at_, Value.int .i64 e.used]) (old := [Value.string ⟨#[]⟩]) (vs := [Value.string ⟨e.row.toArray⟩]) (off := 35) (size := 1)
    (post := []) rfl (cells_str _) rfl (by simp [byV_length, h]) rfl
  simp only [List.append_assoc, List.singleton_append, List.cons_append, List.nil_append, List.append_nil] at h1 h2 h3 h4
  have h5 := ((h1.trans h2).trans h3).trans (h4.trans (fill_nil _ _))
  exact h5
/-- an entry more -/
theorem hv_add {w w2 : World} {q : HvP} {d : HvD} (e : HEnt) {clk : Nat} (h : HvAt w q d) (hO : Only [q.p, q.ma, q.mt] w w2)
    (hp : w2.heap[q.p]? = some (.cells (hvCells q.b q.ma q.mt q.mp clk d.life d.dead) 144 (0, 0)))
    (hall : MapAt nameV (fun n => n.2.length = 32) w2 q.ma (keysOf d.L ++ [((e.isB, e.id), Value.pointer (some ⟨e.blk, 0, none⟩))])) (htk : MapAt intK (fun n => n < 1000000) w2 q.mt (slotsOf d.L ++ [(e.at_, Value.bool true)]))
    (he : w2.heap[e.blk]? = some (.cells e.cells.toArray 158 (0, 0))) (hf : e.Fit) (hnew : w.heap.size ≤ e.blk) : HvAt w2 q { d with L := d.L ++ [e], clk := clk } := by
  obtain ⟨n1, n2⟩ := own_nd h.nd
  obtain ⟨a1, a2, a3, a4, a5, a6, a7, a8, a9, a10, a11, a12, a13, a14, a15⟩ := own_six h.nd
  have lt := h.lt
  refine ⟨hp, by simpa [keysOf] using hall, by simpa [slotsOf] using htk, h.pin.keep (hO.block q.mp h.pin.lt (by simp; exact ⟨a3.symm, a7.symm, a10.symm⟩)), fun x hx => ?_, fun x hx => ?_, ⟨hO.keep h.sh.pw (by simp; exact ⟨a4.symm, a8.symm, a11.symm⟩), hO.keep h.sh.slots (by simp; exact ⟨a5.symm, a9.symm, a12.symm⟩), h.sh.ne, h.sh.len⟩, ?_⟩
  · rcases List.mem_append.1 hx with hx | hx
    · obtain ⟨b1, b2, b3, -⟩ := n2 x hx
      exact hO.keep (h.ents x hx) (by simp; exact ⟨b1, b2, b3⟩)
    · simp at hx; rw [hx]; exact he
  · rcases List.mem_append.1 hx with hx | hx
    · exact h.fit x hx
    · simp at hx; rw [hx]; exact hf
  · have hown : q.own (d.L ++ [e]) = q.own d.L ++ [e.blk] := by simp [HvP.own]
    show (q.own (d.L ++ [e])).Nodup
    rw [hown, List.nodup_append]
    exact ⟨h.nd, by simp, fun a ha b hb => by simp at hb; have := lt a ha; omega⟩

set_option maxHeartbeats 4000000 in
set_option maxRecDepth 100000 in
theorem hadd_any (q : HvP) (d : HvD) (isB : Bool) (id : List UInt8) (at_ : Nat) (row : List UInt8) (w : World) (h : HvAt w q d) (hid : id.length = 32) (hat : at_ < 1000) (hrow : row.length ≤ 10000) (hc : d.clk < 1000000)
    (hk : ∀ e ∈ d.L, (e.isB, e.id) ≠ (isB, id)) (ha : ∀ e ∈ d.L, e.at_ ≠ at_) :
    Calls Tryd.prog 118 #[.pointer (some ⟨q.p, 0, none⟩), .agg (Value.bool isB :: byV id).toArray, .int .i64 at_, .string ⟨row.toArray⟩] w fun r w' => r = .returned (.tuple #[]) ∧
      ∃ blk, w.heap.size ≤ blk ∧ HvAt w' q { d with L := d.L ++ [⟨isB, id, at_, ((d.clk + 1 : Nat) : Int), row, blk⟩], clk := d.clk + 1 } ∧ Only [q.p, q.ma, q.mt] w w' := by
  obtain ⟨NC, hNC⟩ : ∃ x, x = (Value.bool isB :: byV id).toArray := ⟨_, rfl⟩
  have hNl : NC.toList.length = 33 := by rw [hNC]; simp [byV_length, hid]
  have hb1 := (Below.refl w.heap.size w).alloc (Nat.le_refl _) (.cells NC 137)
  have hn0 := heap_alloc_new w (.cells NC 137)
  have h1 := h.below hb1
  obtain ⟨w1, hw1⟩ : ∃ y, y = w.alloc (.cells NC 137) := ⟨_, rfl⟩
  obtain ⟨n0, hn⟩ : ∃ y, y = w.heap.size := ⟨_, rfl⟩
  rw [← hw1] at h1 hn0 hb1
  rw [← hn] at hn0
  have hpn : q.p < w.heap.size := h.lt _ own_mem.1
  obtain ⟨-, c1, c2, -, c4, -, -, z⟩ := hv_cells h1
  have z4 := z 4
  obtain ⟨n, hcl⟩ : ∃ n, n = d.clk := ⟨_, rfl⟩
  rw [← hcl] at c4 hc ⊢
  have hw : IntKind.i64.wrap ((n : Int) + 1) = (n : Int) + 1 := IntWalk.i64_in _ (by omega)
  have o2 : Only [q.p] w1 (w1.setCell ⟨q.p, 4, none⟩ (.int .i64 ((n : Int) + 1))) := (Only.refl _ _).setCell (by simp) _
  have g2 := heap_setCell_same _ q.p 4 _ _ (.int .i64 ((n : Int) + 1)) h1.hp
  rw [hv_set4] at g2
  obtain ⟨w2, hw2⟩ : ∃ y, y = w1.setCell ⟨q.p, 4, none⟩ (.int .i64 ((n : Int) + 1)) := ⟨_, rfl⟩
  rw [← hw2] at o2 g2
  have h2 : HvAt w2 q { d with clk := n + 1 } := hv_head h1 o2 (by rw [show (({ d with clk := n + 1 } : HvD).clk : Int) = (n : Int) + 1 by simp]; exact g2) rfl rfl rfl
  obtain ⟨a1, a2, a3, a4, a5, a6, a7, a8, a9, a10, a11, a12, a13, a14, a15⟩ := own_six h.nd
  have hn2 := o2.keep hn0 (by simp; omega)
  have r0 : w2.rangeAt n0 0 NC.toList := fun k v hv => by rw [Lib.cell_of_heap hn2, Nat.zero_add]; simpa using hv
  have l0 : n0 < w2.heap.size := heap_lt hn2
  obtain ⟨-, x1, x2, -, x4, -, -, -⟩ := hv_cells h2
  have lp : q.p < w2.heap.size := heap_lt h2.hp
  have hpm : q.p ∉ [q.ma] := by simpa using a1
  have h0m : n0 ∉ [q.ma] := by have := h.all.lt; simp; omega
  have ndix : (Tryd.prog.info? 137).map (·.size) = some NC.toList.length := by rw [name_info, hNl]
  have nund := Tryd.underlying137
  have x4' : w2.cell? ⟨q.p, 4, none⟩ = some (.int .i64 ((n : Int) + 1)) := by rw [x4]; simp
  obtain ⟨EC, hEC⟩ : ∃ x, x = (⟨isB, id, at_, ((n + 1 : Nat) : Int), row, 0⟩ : HEnt).cells.toArray := ⟨_, rfl⟩
  have hbu := built_ent ⟨isB, id, at_, ((n + 1 : Nat) : Int), row, 0⟩ hid
  rw [← hEC] at hbu
  simp only at hbu
  rw [← hNC] at hbu
  rw [show ((n + 1 : Nat) : Int) = (n : Int) + 1 by simp] at hbu
  have H := Lib.hid h
  have H2 := Lib.hid h2
  have Hk := Lib.hid hk
  have Ha := Lib.hid ha
  have HEC := Lib.hid hEC
  have HNC := Lib.hid hNC
  have Hid' := Lib.hid hid
  have Hat := Lib.hid hat
  have Hrow := Lib.hid hrow
  have Hcl := Lib.hid hcl
  have Hb1 := Lib.hid hb1
  have O2 := Lib.hid o2
  have Hn := Lib.hid hn
  have Hw2 := Lib.hid hw2
  have Hw1 := Lib.hid hw1
  rw [← hNC]
  clear h h1 h2 hk ha hEC hNC hid hat hrow hcl hb1 o2 g2 hn0 hn2 hw2 hw1 z x1 a1 a2 a3 a4 a5 a6 a7 a8 a9 a10 a11 a12 a13 a14 a15 x4 hNl
  have x1 := (hv_cells H2.out).2.1
  go_enter Tryd.func118, Tryd.ntmps118
  go_upto_region 1 with fail
  rw [← Hw1.out, ← Hn.out]
  go_upto_region 2 with fail
  rw [← Hw2.out]
  refine wp_region_held_drew (S := fun w' => Only [q.ma] w2 w') (by kernel_rfl) ((Only.refl _ _).drew) (fun hH0 => ?_)
  obtain ⟨W0, hW0⟩ : ∃ W, W = w2.drew := ⟨_, rfl⟩
  have hall0 : Hid (MapAt nameV (fun n => n.2.length = 32) W0 q.ma (keysOf d.L)) := Lib.hid (by rw [hW0]; exact H2.out.all.keep rfl)
  rw [← hW0] at hH0 ⊢
  clear hW0
  refine wpAnyH_take (i := 0) (v := ?_) rfl (by kernel_rfl) (by kernel_rfl) (by kernel_rfl) (fun _ _ _ h => h) (Or.inl ⟨by kernel_rfl, ?_⟩) hH0 ?_
  rotate_left 1
  · intro w hSw
    go_simp
    try with_reducible rfl
  try simp only [Act.put, List.getElem_toArray, List.getElem_cons_zero, List.getElem_cons_succ, List.setIfInBounds_toArray, List.set_cons_zero, List.set_cons_succ]
  refine wpAnyH_take (i := 1) (v := ?_) rfl (by kernel_rfl) (by kernel_rfl) (by kernel_rfl) (fun _ _ _ h => h) (Or.inl ⟨by kernel_rfl, ?_⟩) hH0 ?_
  rotate_left 1
  · intro w hSw
    go_simp
    try with_reducible rfl
  try simp only [Act.put, List.getElem_toArray, List.getElem_cons_zero, List.getElem_cons_succ, List.setIfInBounds_toArray, List.set_cons_zero, List.set_cons_succ]
  refine wpAnyH_take (i := 2) (v := ?_) rfl (by kernel_rfl) (by kernel_rfl) (by kernel_rfl) (fun _ _ _ h => h) (Or.inl ⟨by kernel_rfl, ?_⟩) hH0 ?_
  rotate_left 1
  · intro w hSw
    go_simp
    try with_reducible rfl
  try simp only [Act.put, List.getElem_toArray, List.getElem_cons_zero, List.getElem_cons_succ, List.setIfInBounds_toArray, List.set_cons_zero, List.set_cons_succ]
  refine wpAnyH_take (i := 3) (v := ?_) rfl (by kernel_rfl) (by kernel_rfl) (by kernel_rfl) (fun _ _ _ h => h) (Or.inl ⟨by kernel_rfl, ?_⟩) hH0 ?_
  rotate_left 1
  · intro w hSw
    have f0 := (hSw.cell (p := ⟨q.p, 1, none⟩) lp hpm).trans x1
    have f1 := (hSw.cell (p := ⟨q.p, 4, none⟩) lp hpm).trans x4'
    go_simp
    try with_reducible rfl
  try simp only [Act.put, List.getElem_toArray, List.getElem_cons_zero, List.getElem_cons_succ, List.setIfInBounds_toArray, List.set_cons_zero, List.set_cons_succ]
  refine wpAnyH_take (i := 4) (v := _) rfl (by kernel_rfl) (by kernel_rfl) (by kernel_rfl) (fun _ _ _ h => h) (yieldsIf_load_mid (by kernel_rfl) _ _ rfl _ _ rfl NC.toList _ (fun W hW => range_onlyH r0 hW ⟨l0, h0m⟩) nund rfl ndix) hH0 ?_
  try simp only [Act.put, List.getElem_toArray, List.getElem_cons_zero, List.getElem_cons_succ, List.setIfInBounds_toArray, List.set_cons_zero, List.set_cons_succ]
  refine wpAnyH_take (i := 5) (v := _) rfl (by kernel_rfl) (by kernel_rfl) (by kernel_rfl) (fun _ _ _ h => h) (yieldsIf_load_mid (by kernel_rfl) _ _ rfl _ _ rfl NC.toList _ (fun W hW => range_onlyH r0 hW ⟨l0, h0m⟩) nund rfl ndix) hH0 ?_
  try simp only [Act.put, List.getElem_toArray, List.getElem_cons_zero, List.getElem_cons_succ, List.setIfInBounds_toArray, List.set_cons_zero, List.set_cons_succ]
  refine wpAnyH_take (i := 6) (v := ?_) rfl (by kernel_rfl) (by kernel_rfl) (by kernel_rfl) (fun _ _ _ h => h) (Or.inl ⟨by kernel_rfl, ?_⟩) hH0 ?_
  rotate_left 1
  · intro w hSw
    go_simp
    try with_reducible rfl
  try simp only [Act.put, List.getElem_toArray, List.getElem_cons_zero, List.getElem_cons_succ, List.setIfInBounds_toArray, List.set_cons_zero, List.set_cons_succ]
  refine wpAnyH_take (i := 7) (v := ?_) rfl (by kernel_rfl) (by kernel_rfl) (by kernel_rfl) (fun _ _ _ h => h) (Or.inl ⟨by kernel_rfl, ?_⟩) hH0 ?_
  rotate_left 1
  · intro w hSw
    go_simp
    try with_reducible rfl
  try simp only [Act.put, List.getElem_toArray, List.getElem_cons_zero, List.getElem_cons_succ, List.setIfInBounds_toArray, List.set_cons_zero, List.set_cons_succ]
  refine wpAnyH_take (i := 8) (v := ?_) rfl (by kernel_rfl) (by kernel_rfl) (by kernel_rfl) (fun _ _ _ h => h) (Or.inl ⟨by kernel_rfl, ?_⟩) hH0 ?_
  rotate_left 1
  · intro w hSw
    go_simp
    try with_reducible rfl
  try simp only [Act.put, List.getElem_toArray, List.getElem_cons_zero, List.getElem_cons_succ, List.setIfInBounds_toArray, List.set_cons_zero, List.set_cons_succ]
  refine wpAnyH_take (i := 9) (v := ?_) rfl (by kernel_rfl) (by kernel_rfl) (by kernel_rfl) (fun _ _ _ h => h) (Or.inl ⟨by kernel_rfl, ?_⟩) hH0 ?_
  rotate_left 1
  · intro w hSw
    go_simp
    try with_reducible rfl
  try simp only [Act.put, List.getElem_toArray, List.getElem_cons_zero, List.getElem_cons_succ, List.setIfInBounds_toArray, List.set_cons_zero, List.set_cons_succ]
  refine wpAnyH_take (i := 10) (v := ?_) rfl (by kernel_rfl) (by kernel_rfl) (by kernel_rfl) (fun _ _ _ h => h) (Or.inl ⟨by kernel_rfl, ?_⟩) hH0 ?_
  rotate_left 1
  · intro w hSw
    have f0 := (hSw.cell (p := ⟨q.p, 1, none⟩) lp hpm).trans x1
    have f1 := (hSw.cell (p := ⟨q.p, 4, none⟩) lp hpm).trans x4'
    go_simp
    try with_reducible rfl
  try simp only [Act.put, List.getElem_toArray, List.getElem_cons_zero, List.getElem_cons_succ, List.setIfInBounds_toArray, List.set_cons_zero, List.set_cons_succ]
  refine wpAnyH_take (i := 11) (v := ?_) rfl (by kernel_rfl) (by kernel_rfl) (by kernel_rfl) (fun _ _ _ h => h) (Or.inl ⟨by kernel_rfl, ?_⟩) hH0 ?_
  rotate_left 1
  · intro w hSw
    go_simp
    try with_reducible rfl
  try simp only [Act.put, List.getElem_toArray, List.getElem_cons_zero, List.getElem_cons_succ, List.setIfInBounds_toArray, List.set_cons_zero, List.set_cons_succ]
  refine wpAnyH_take (i := 12) (v := _) rfl (by kernel_rfl) (by kernel_rfl) (by kernel_rfl) (fun _ _ _ h => h) (yieldsIf_build (by kernel_rfl) 158 _ rfl EC (by simpa [Act.eval] using hbu)) hH0 ?_
  try simp only [Act.put, List.getElem_toArray, List.getElem_cons_zero, List.getElem_cons_succ, List.setIfInBounds_toArray, List.set_cons_zero, List.set_cons_succ]
  refine wpAnyH_ready (rs := [13]) (by kernel_rfl) (by simp) ?_
  refine AllReadyH.cons rfl (fun K_ hK => ?_) ?_
  · go_simp
    have hA1 := heap_alloc_new W0 (.cells EC 158)
    have hO1 : Only [q.ma] w2 (W0.alloc (.cells EC 158)) := (hH0).alloc _
    have hs1 : w2.heap.size ≤ W0.heap.size := (hH0).size
    have hm1 := hall0.out.keep (heap_alloc_old W0 (.cells EC 158) hall0.out.lt)
    obtain ⟨blk, hc1⟩ : ∃ c, c = W0.heap.size := ⟨_, rfl⟩
    obtain ⟨W1, hW1⟩ : ∃ y, y = W0.alloc (.cells EC 158) := ⟨_, rfl⟩
    rw [← hW1] at hA1 hO1 hm1 ⊢
    rw [← hc1] at hA1 hs1 ⊢
    have HA := Lib.hid hA1
    have HSz := Lib.hid hs1
    have HM := Lib.hid hm1
    clear hW1 hc1 hA1 hs1 hm1 hall0
    refine hK.out _ _ hO1 (fun hH1 => ?_)
    clear hK K_
    try simp only [Act.put, List.getElem_toArray, List.getElem_cons_zero, List.getElem_cons_succ, List.setIfInBounds_toArray, List.set_cons_zero, List.set_cons_succ]
    refine wpAnyH_ready (rs := [14]) (by kernel_rfl) (by simp) ?_
    refine AllReadyH.cons rfl (fun K_ hK => ?_) ?_
    · rw [if_pos (by rfl)]
      obtain ⟨W2, hrun2, hput2, hOp2⟩ := HM.out.put name_fam Tryd.underlying140 (a := (isB, id)) Hid'.out (by intro x hx; obtain ⟨e, he, rfl⟩ := List.mem_map.1 hx; exact Hk.out e he) (.pointer (some ⟨blk, 0, none⟩))
      rw [show nameV (isB, id) = .agg NC from by rw [HNC.out]; rfl] at hrun2
      refine wp_mapUpdateR 140 _ _ _ rfl hrun2 ?_
      have HPut := Lib.hid hput2
      have HOp := Lib.hid hOp2
      clear hrun2 hput2 hOp2
      refine hK.out _ _ ((hH1).trans HOp.out) (fun hH2 => ?_)
      clear hK K_
      try simp only [Act.put, List.getElem_toArray, List.getElem_cons_zero, List.getElem_cons_succ, List.setIfInBounds_toArray, List.set_cons_zero, List.set_cons_succ]
      refine wpAnyH_done (by kernel_rfl) ?_ _
      have hO3 : Only [q.ma] w2 W2 := hH2
      obtain ⟨w3, hw3⟩ : ∃ y, y = W2 := ⟨_, rfl⟩
      rw [← hw3] at hO3 HPut HOp ⊢
      clear hH2 hw3
      have a1 := own_six H.out.nd
      have hbm : q.ma < w2.heap.size := H2.out.all.lt
      have hent := HOp.out.keep HA.out (by simp; have := HSz.out; omega)
      have hp3 := hO3.keep H2.out.hp (by simpa using a1.1)
      have htk3 := H2.out.taken.keep (hO3.block q.mt H2.out.taken.lt (by simpa using fun e => a1.2.2.2.2.2.1 e.symm))
      obtain ⟨w4, hrun4, hput4, hO4⟩ := htk3.put int_fam Tryd.underlying141 (a := at_) (by show at_ < 1000000; have := Hat.out; omega) (by intro x hx; obtain ⟨e, he, rfl⟩ := List.mem_map.1 hx; exact Ha.out e he) (.bool true)
      have y2 : w3.cell? ⟨q.p, 2, none⟩ = some (.map (some q.mt)) := (hO3.cell (p := ⟨q.p, 2, none⟩) lp hpm).trans x2
      rw [show intK at_ = .int .i64 (at_ : Int) from rfl] at hrun4
      have hent4 := hO4.keep hent (by simp; have := HSz.out; have := H2.out.taken.lt; omega)
      have hp4 := hO4.keep hp3 (by simpa using a1.2.1)
      have hall4 := HPut.out.keep (hO4.block q.ma HPut.out.lt (by simpa using a1.2.2.2.2.2.1))
      have hOw : Only [q.p, q.ma, q.mt] w w4 := (((Only.of_below Hb1.out).trans (O2.out.mono (by simp))).trans (hO3.mono (by simp))).trans (hO4.mono (by simp))
      have hnew : w.heap.size ≤ blk := Nat.le_trans (Nat.le_trans Hb1.out.size O2.out.size) HSz.out
      rw [HEC.out] at hent4
      have hfin := hv_add ⟨isB, id, at_, ((n + 1 : Nat) : Int), row, blk⟩ (clk := n + 1) H.out hOw (by simpa using hp4) (by simpa using hall4) (by simpa using hput4) hent4 ⟨Hid'.out, Hat.out, Hrow.out⟩ hnew
      have HFin := Lib.hid hfin
      have HOw := Lib.hid hOw
      have Hnew := Lib.hid hnew
      clear hfin hOw hnew hent hent4 hp3 hp4 hall4 htk3 hput4 hO4 hO3 a1
      go_wp2_with (refine wpList_mapUpdateR rfl 141 _ _ _ rfl hrun4 ?_)
      (try simp only [Exit.inBlock, Exit.then])
      go_end0
      exact ⟨rfl, blk, Hnew.out, HFin.out, HOw.out⟩
    exact AllReadyH.nil
  exact AllReadyH.nil
end Go.Proofs.YtfbjbhddapoopaaDoor
