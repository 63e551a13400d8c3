/-
  Layer 5 (hive): the memory of a store; the walks of ready, use, did, Len.
-/
import Derived.Test.YtfbjbhddapoopaaDoorHvB
import Derived.Test.YtfbjbhddapoopaaDoorHaA
set_option linter.unusedVariables false
set_option linter.unusedSimpArgs false
namespace Go.Proofs.YtfbjbhddapoopaaDoor
open Go.RowKit Pl Sh
attribute [local go_sem] Lb.ba_get Lb.ba_cut Lb.ba_add Lb.ba_size Lb.take_rest

/-! ### operations on maps, by what they run to -/
theorem wp_mapUpdateR {P : Program} {op : Oper} {a : Act} {w w' : World} {K : Act → World → Prop} {Q : Exit → Act → World → Prop} (t : TypeId) (m x v : Operand) (ho : op.op = .mapUpdate t m x v)
    (hr : (Instr.mapUpdate t (a.eval m) (a.eval x) (a.eval v)).run P w = .ok () w') (h : K (a.put op.dst undef) w') : op.wp P a w K Q := by
  unfold Oper.wp
  simp [execOp, ho, hr, Result.andThen]
  exact h
theorem wpList_mapUpdateR {P : Program} {ops : Array Oper} {rest : List Oper} {o : Oper} {a : Act} {w w' : World} {Q : Exit → Act → World → Prop} (hg : o.guard = none) (t : TypeId) (m x v : Operand) (ho : o.op = .mapUpdate t m x v)
    (hr : (Instr.mapUpdate t (a.eval m) (a.eval x) (a.eval v)).run P w = .ok () w') (h : wpList P ops Q rest (a.put o.dst undef) w') : wpList P ops Q (o :: rest) a w :=
  wpList_plain hg fun _ hK => wp_mapUpdateR t m x v ho hr (hK _ _ h)
theorem wpList_lookupR {P : Program} {ops : Array Oper} {rest : List Oper} {o : Oper} {a : Act} {w : World} {Q : Exit → Act → World → Prop} (hg : o.guard = none) (t : TypeId) (m x : Operand) (ho : o.op = .lookup t m x false) (v : Value)
    (hr : (Instr.lookup t (a.eval m) (a.eval x) false).run P w = .ok v w) (h : wpList P ops Q rest (a.put o.dst v) w) : wpList P ops Q (o :: rest) a w := by
  refine wpList_plain hg fun K' hK' => ?_
  unfold Oper.wp
  simp [execOp, ho, hr, Result.andThen]
  exact hK' _ _ h
theorem yieldsIf_lookup {P : Program} {ops : Array Oper} {S : World → Prop} {op : Oper} {a : Act} (hw : Region.wanted op (yielded ops a.tmps) = true) (t : TypeId) (m x : Operand) (ho : op.op = .lookup t m x false) (v : Value)
    (hr : ∀ w, S w → (Instr.lookup t (a.eval m) (a.eval x) false).run P w = .ok v w) : YieldsIf P ops S op v a :=
  .inl ⟨hw, fun w hS => by
    unfold execOp
    simp only [ho, Sem.run_bind, hr w hS, Result.andThen_ok]
    rfl⟩

/-! ### the memory of a store -/
structure HEnt where
  isB : Bool
  id : List UInt8
  at_ : Nat
  used : Int
  row : List UInt8
  blk : Nat
def HEnt.cells (e : HEnt) : List Value := (Value.bool e.isB :: byV e.id) ++ [Value.int .i64 e.at_, Value.int .i64 e.used, Value.string ⟨e.row.toArray⟩]
def HEnt.Fit (e : HEnt) : Prop := e.id.length = 32 ∧ e.at_ < 1000 ∧ e.row.length ≤ 10000
def hvCells (b ma mt mp : Nat) (clk life : Int) (dead : Bool) : Array Value := #[.pointer (some ⟨b, 0, none⟩), .map (some ma), .map (some mt), .map (some mp), .int .i64 clk, .int .i64 life, .bool dead]
def keysOf (L : List HEnt) : List ((Bool × List UInt8) × Value) := L.map fun e => ((e.isB, e.id), Value.pointer (some ⟨e.blk, 0, none⟩))
def slotsOf (L : List HEnt) : List (Nat × Value) := L.map fun e => (e.at_, Value.bool true)
def pinsOf (pins : List (List UInt8)) : List (List UInt8 × Value) := pins.map fun d => (d, Value.bool true)
/-- where a store lies -/
structure HvP where
  p : Nat
  b : Nat
  g : Nat
  ma : Nat
  mt : Nat
  mp : Nat
/-- what a store knows -/
structure HvD where
  s : St
  L : List HEnt
  pins : List (List UInt8)
  clk : Nat
  life : Int
  dead : Bool
def HvP.own (q : HvP) (L : List HEnt) : List Nat := q.p :: q.ma :: q.mt :: q.mp :: q.b :: q.g :: L.map (·.blk)
structure HvAt (w : World) (q : HvP) (d : HvD) : Prop where
  hp : w.heap[q.p]? = some (.cells (hvCells q.b q.ma q.mt q.mp d.clk d.life d.dead) 144 (0, 0))
  all : MapAt nameV (fun n => n.2.length = 32) w q.ma (keysOf d.L)
  taken : MapAt intK (fun n => n < 1000000) w q.mt (slotsOf d.L)
  pin : MapAt digK (fun x => x.length = 32) w q.mp (pinsOf d.pins)
  ents : ∀ e ∈ d.L, w.heap[e.blk]? = some (.cells e.cells.toArray 158 (0, 0))
  fit : ∀ e ∈ d.L, e.Fit
  sh : ShAt w q.b q.g d.s
  nd : (q.own d.L).Nodup
theorem HvAt.lt {w : World} {q : HvP} {d : HvD} (h : HvAt w q d) : ∀ k ∈ q.own d.L, k < w.heap.size := by
  intro k hk
  simp only [HvP.own, List.mem_cons, List.mem_map] at hk
  rcases hk with rfl | rfl | rfl | rfl | rfl | rfl | ⟨e, he, rfl⟩
  · exact heap_lt h.hp
  · exact h.all.lt
  · exact h.taken.lt
  · exact h.pin.lt
  · exact heap_lt h.sh.pw
  · exact heap_lt h.sh.slots
  · exact heap_lt (h.ents e he)
theorem own_mem {q : HvP} {L : List HEnt} : q.p ∈ q.own L ∧ q.ma ∈ q.own L ∧ q.mt ∈ q.own L ∧ q.mp ∈ q.own L ∧ q.b ∈ q.own L ∧ q.g ∈ q.own L ∧ ∀ e ∈ L, e.blk ∈ q.own L := by
  refine ⟨by simp [HvP.own], by simp [HvP.own], by simp [HvP.own], by simp [HvP.own], by simp [HvP.own], by simp [HvP.own], fun e he => ?_⟩
  simp only [HvP.own, List.mem_cons, List.mem_map]
  exact .inr (.inr (.inr (.inr (.inr (.inr ⟨e, he, rfl⟩)))))
theorem HvAt.keep {w w' : World} {q : HvP} {d : HvD} (h : HvAt w q d) (hk : ∀ k ∈ q.own d.L, w'.heap[k]? = w.heap[k]?) : HvAt w' q d := by
  obtain ⟨m1, m2, m3, m4, m5, m6, m7⟩ := @own_mem q d.L
  exact ⟨(hk _ m1).trans h.hp, h.all.keep (hk _ m2), h.taken.keep (hk _ m3), h.pin.keep (hk _ m4), fun e he => (hk _ (m7 e he)).trans (h.ents e he), h.fit, ⟨(hk _ m5).trans h.sh.pw, (hk _ m6).trans h.sh.slots, h.sh.ne, h.sh.len⟩, h.nd⟩
theorem HvAt.below {w w' : World} {q : HvP} {d : HvD} (h : HvAt w q d) (hb : Below w.heap.size w w') : HvAt w' q d := h.keep (fun k hk => hb.block k (h.lt k hk))
theorem HvAt.drewN {w : World} {q : HvP} {d : HvD} (h : HvAt w q d) (n : Nat) : HvAt (w.drewN n) q d := ⟨h.hp, h.all.keep rfl, h.taken.keep rfl, h.pin.keep rfl, h.ents, h.fit, ⟨h.sh.pw, h.sh.slots, h.sh.ne, h.sh.len⟩, h.nd⟩
theorem hv_cells {w : World} {q : HvP} {d : HvD} (h : HvAt w q d) :
    w.cell? ⟨q.p, 0, none⟩ = some (.pointer (some ⟨q.b, 0, none⟩)) ∧ w.cell? ⟨q.p, 1, none⟩ = some (.map (some q.ma)) ∧ w.cell? ⟨q.p, 2, none⟩ = some (.map (some q.mt)) ∧ w.cell? ⟨q.p, 3, none⟩ = some (.map (some q.mp)) ∧ w.cell? ⟨q.p, 4, none⟩ = some (.int .i64 d.clk) ∧ w.cell? ⟨q.p, 5, none⟩ = some (.int .i64 d.life) ∧ w.cell? ⟨q.p, 6, none⟩ = some (.bool d.dead) ∧ ∀ j, w.frozen? ⟨q.p, j, none⟩ = false := by
  refine ⟨?_, ?_, ?_, ?_, ?_, ?_, ?_, fun j => Lib.frozen_of_heap h.hp j⟩ <;> (rw [Lib.cell_of_heap h.hp]; rfl)
theorem ent_at {e : HEnt} (h : e.id.length = 32) : e.cells.length = 36 ∧ e.cells[33]? = some (.int .i64 e.at_) ∧ e.cells[34]? = some (.int .i64 e.used) ∧ e.cells[35]? = some (.string ⟨e.row.toArray⟩) := by
  have hl : (Value.bool e.isB :: byV e.id).length = 33 := by simp [byV_length, h]
  refine ⟨by simp [HEnt.cells, byV_length, h], ?_, ?_, ?_⟩ <;>
  · unfold HEnt.cells
    rw [List.getElem?_append_right (by omega), hl]
    rfl
theorem ent_cells {w : World} {e : HEnt} (hf : e.Fit) (h : w.heap[e.blk]? = some (.cells e.cells.toArray 158 (0, 0))) :
    w.cell? ⟨e.blk, 33, none⟩ = some (.int .i64 e.at_) ∧ w.cell? ⟨e.blk, 34, none⟩ = some (.int .i64 e.used) ∧ w.cell? ⟨e.blk, 35, none⟩ = some (.string ⟨e.row.toArray⟩) ∧ ∀ j, w.frozen? ⟨e.blk, j, none⟩ = false := by
  obtain ⟨-, a, b, c⟩ := ent_at hf.1
  refine ⟨by rw [Lib.cell_of_heap h]; simpa using a, by rw [Lib.cell_of_heap h]; simpa using b, by rw [Lib.cell_of_heap h]; simpa using c, fun j => Lib.frozen_of_heap h j⟩
theorem ent_set34 {e : HEnt} (h : e.id.length = 32) (u : Int) : e.cells.toArray.setIfInBounds 34 (.int .i64 u) = ({ e with used := u } : HEnt).cells.toArray := by
  have hl : (Value.bool e.isB :: byV e.id).length = 33 := by simp [byV_length, h]
  rw [List.setIfInBounds_toArray]
  congr 1
  unfold HEnt.cells
  rw [List.set_append_right _ _ (by omega), hl]
  rfl
theorem hv_set4 (b ma mt mp : Nat) (clk life : Int) (dead : Bool) (u : Int) : (hvCells b ma mt mp clk life dead).setIfInBounds 4 (.int .i64 u) = hvCells b ma mt mp u life dead := rfl
theorem hv_set6 (b ma mt mp : Nat) (clk life : Int) (dead : Bool) (u : Bool) : (hvCells b ma mt mp clk life dead).setIfInBounds 6 (.bool u) = hvCells b ma mt mp clk life u := rfl

theorem map_set_same {α β : Type} (f : α → β) (L : List α) (j : Nat) (x y : α) (hj : L[j]? = some x) (hf : f y = f x) : (L.set j y).map f = L.map f := by
  apply List.ext_getElem?
  intro i
  rw [List.getElem?_map, List.getElem?_map, List.getElem?_set]
  split
  · rename_i hij
    subst hij
    rw [hj]
    split
    · simp [hf]
    · rename_i hn; exact absurd (List.getElem?_eq_some_iff.1 hj).1 hn
  · rfl
theorem set_other {L : List HEnt} (hn : (L.map (·.blk)).Nodup) {j : Nat} {e e' x : HEnt} (hj : L[j]? = some e) (hx : x ∈ L.set j e') (hb : x ≠ e') : x ∈ L ∧ x.blk ≠ e.blk := by
  obtain ⟨i, hi⟩ := List.mem_iff_getElem?.1 hx
  rw [List.getElem?_set] at hi
  split at hi
  · rename_i hij
    split at hi
    · exact absurd (Option.some.inj hi).symm hb
    · cases hi
  · rename_i hij
    refine ⟨List.mem_of_getElem? hi, fun eb => ?_⟩
    have h1 : (L.map (·.blk))[i]? = some x.blk := by rw [List.getElem?_map, hi]; rfl
    have h2 : (L.map (·.blk))[j]? = some e.blk := by rw [List.getElem?_map, hj]; rfl
    obtain ⟨l1, g1⟩ := List.getElem?_eq_some_iff.1 h1
    obtain ⟨l2, g2⟩ := List.getElem?_eq_some_iff.1 h2
    exact hij ((List.getElem_inj hn).1 (g2.trans (eb.symm.trans g1.symm)))
theorem own_nd {q : HvP} {L : List HEnt} (h : (q.own L).Nodup) : (L.map (·.blk)).Nodup ∧ ∀ e ∈ L, e.blk ≠ q.p ∧ e.blk ≠ q.ma ∧ e.blk ≠ q.mt ∧ e.blk ≠ q.mp ∧ e.blk ≠ q.b ∧ e.blk ≠ q.g := by
  simp only [HvP.own, List.nodup_cons, List.mem_cons, List.mem_map, not_or] at h
  refine ⟨h.2.2.2.2.2.2, fun e he => ⟨fun e1 => h.1.2.2.2.2.2 ⟨e, he, e1⟩, fun e1 => h.2.1.2.2.2.2 ⟨e, he, e1⟩, fun e1 => h.2.2.1.2.2.2 ⟨e, he, e1⟩, fun e1 => h.2.2.2.1.2.2 ⟨e, he, e1⟩, fun e1 => h.2.2.2.2.1.2 ⟨e, he, e1⟩, fun e1 => h.2.2.2.2.2.1 ⟨e, he, e1⟩⟩⟩
theorem own_six {q : HvP} {L : List HEnt} (h : (q.own L).Nodup) : q.p ≠ q.ma ∧ q.p ≠ q.mt ∧ q.p ≠ q.mp ∧ q.p ≠ q.b ∧ q.p ≠ q.g ∧ q.ma ≠ q.mt ∧ q.ma ≠ q.mp ∧ q.ma ≠ q.b ∧ q.ma ≠ q.g ∧ q.mt ≠ q.mp ∧ q.mt ≠ q.b ∧ q.mt ≠ q.g ∧ q.mp ≠ q.b ∧ q.mp ≠ q.g ∧ q.b ≠ q.g := by
  simp only [HvP.own, List.nodup_cons, List.mem_cons, List.mem_map, not_or] at h
  obtain ⟨⟨a1, a2, a3, a4, a5, -⟩, ⟨b1, b2, b3, b4, -⟩, ⟨c1, c2, c3, -⟩, ⟨d1, d2, -⟩, ⟨e1, -⟩, -⟩ := h
  exact ⟨a1, a2, a3, a4, a5, b1, b2, b3, b4, c1, c2, c3, d1, d2, e1⟩
/-- an entry is used -/
theorem hv_use {w w2 : World} {q : HvP} {d : HvD} {j : Nat} {e : HEnt} {u : Int} {clk : Nat} (h : HvAt w q d) (hj : d.L[j]? = some e) (hO : Only [q.p, e.blk] w w2)
    (hp : w2.heap[q.p]? = some (.cells (hvCells q.b q.ma q.mt q.mp clk d.life d.dead) 144 (0, 0))) (he : w2.heap[e.blk]? = some (.cells ({ e with used := u } : HEnt).cells.toArray 158 (0, 0))) :
    HvAt w2 q { d with L := d.L.set j { e with used := u }, clk := clk } := by
  have hem := List.mem_of_getElem? hj
  obtain ⟨n1, n2⟩ := own_nd h.nd
  obtain ⟨a1, a2, a3, a4, a5, -⟩ := own_six h.nd
  obtain ⟨b1, b2, b3, b4, b5, b6⟩ := n2 e hem
  have k1 : keysOf (d.L.set j { e with used := u }) = keysOf d.L := map_set_same _ _ _ e _ hj rfl
  have k2 : slotsOf (d.L.set j { e with used := u }) = slotsOf d.L := map_set_same _ _ _ e _ hj rfl
  have k3 : (d.L.set j { e with used := u }).map (·.blk) = d.L.map (·.blk) := map_set_same _ _ _ e _ hj rfl
  refine ⟨hp, ?_, ?_, ?_, fun x hx => ?_, fun x hx => ?_, ⟨hO.keep h.sh.pw (by simp; exact ⟨a4.symm, b5.symm⟩), hO.keep h.sh.slots (by simp; exact ⟨a5.symm, b6.symm⟩), h.sh.ne, h.sh.len⟩, ?_⟩
  · show MapAt _ _ _ _ (keysOf (d.L.set j { e with used := u }))
    rw [k1]; exact h.all.keep (hO.block q.ma h.all.lt (by simp; exact ⟨a1.symm, b2.symm⟩))
  · show MapAt _ _ _ _ (slotsOf (d.L.set j { e with used := u }))
    rw [k2]; exact h.taken.keep (hO.block q.mt h.taken.lt (by simp; exact ⟨a2.symm, b3.symm⟩))
  · exact h.pin.keep (hO.block q.mp h.pin.lt (by simp; exact ⟨a3.symm, b4.symm⟩))
  · by_cases hxe : x = { e with used := u }
    · rw [hxe]; exact he
    · obtain ⟨hm, hb⟩ := set_other n1 hj hx hxe
      exact hO.keep (h.ents x hm) (by simp; exact ⟨(n2 x hm).1, hb⟩)
  · by_cases hxe : x = { e with used := u }
    · rw [hxe]; exact h.fit e hem
    · exact h.fit x (set_other n1 hj hx hxe).1
  · show (q.own (d.L.set j { e with used := u })).Nodup
    unfold HvP.own
    rw [k3]; exact h.nd

/-- whether anything can be done -/
def HvD.ready (d : HvD) : Prop := d.dead = false ∧ d.s.pw.down = false ∧ d.s.pw.life = d.life

set_option maxHeartbeats 2000000 in
set_option maxRecDepth 100000 in
theorem ready_ok (q : HvP) (d : HvD) (w : World) (h : HvAt w q d) (hr : d.ready) :
    Calls Tryd.prog 87 #[.pointer (some ⟨q.p, 0, none⟩)] w fun e w' => e = .returned (.int .i64 0) ∧ Below w.heap.size w w' := by
  obtain ⟨h1, h2, h3⟩ := hr
  have hdn := Lib.hid (fun n => (down_any q.b q.g d.s (w.drewN n) (h.drewN n).sh).mono fun _ _ h => And.intro h.1 h.2.symm)
  have hlf := Lib.hid (fun n => (life_any q.b q.g d.s (w.drewN n) (h.drewN n).sh).mono fun _ _ h => And.intro h.1 h.2.symm)
  obtain ⟨c0, -, -, -, -, c5, c6, -⟩ := hv_cells h
  rw [h2] at hdn
  rw [h3] at hlf
  rw [h1] at c6
  obtain ⟨lf, hl⟩ : ∃ l, l = d.life := ⟨_, rfl⟩
  rw [← hl] at hlf c5
  have e1 : (lf != lf) = false := by simp
  clear h h1 h2 h3 hl
  go_enter Tryd.func87, Tryd.ntmps87
  go_upto_region 3 with fail
  go_quiet (first | (go_at_call 84; exact Calls.quiet_of_same (hdn.out _)) | (go_at_call 85; exact Calls.quiet_of_same (hlf.out _)))
  go_wp2_with fail
  go_ret
  exact ⟨rfl, below_drewN'' (Below.refl _ _) _⟩

set_option maxHeartbeats 2000000 in
theorem use_any (q : HvP) (d : HvD) (j : Nat) (e : HEnt) (w : World) (h : HvAt w q d) (hj : d.L[j]? = some e) (hc : d.clk < 1000000) :
    Calls Tryd.prog 88 #[.pointer (some ⟨q.p, 0, none⟩), .pointer (some ⟨e.blk, 0, none⟩)] w fun r w' => r = .returned (.tuple #[]) ∧ HvAt w' q { d with L := d.L.set j { e with used := ((d.clk + 1 : Nat) : Int) }, clk := d.clk + 1 } ∧ Only (q.own d.L) w w' := by
  have he := List.mem_of_getElem? hj
  obtain ⟨-, -, -, -, c4, -, -, z⟩ := hv_cells h
  obtain ⟨-, c34, -, z2⟩ := ent_cells (h.fit e he) (h.ents e he)
  have z4 := z 4
  have z34 := z2 34
  have hne : e.blk ≠ q.p := by
    have := h.nd
    simp only [HvP.own, List.nodup_cons, List.mem_cons, List.mem_map, not_or] at this
    exact fun e1 => this.1.2.2.2.2.2 ⟨e, he, e1⟩
  have H := Lib.hid h
  have Hj := Lib.hid hj
  have He := Lib.hid he
  obtain ⟨n, hn⟩ : ∃ n, n = d.clk := ⟨_, rfl⟩
  rw [← hn] at c4 hc ⊢
  have Hn := Lib.hid hn
  have Hne := Lib.hid hne
  have y34 : (w.setCell ⟨q.p, 4, none⟩ (.int .i64 ((n : Int) + 1))).cell? ⟨e.blk, 34, none⟩ = some (.int .i64 e.used) := by
    exact (((Only.refl [q.p] w).setCell (p := ⟨q.p, 4, none⟩) (by simp) _).cell (p := ⟨e.blk, 34, none⟩) (heap_lt (h.ents e he)) (by simpa using hne)).trans c34
  have hw : IntKind.i64.wrap ((n : Int) + 1) = (n : Int) + 1 := IntWalk.i64_in _ (by omega)
  clear h hj hn hne z z2 he c34
  go_enter Tryd.func88, Tryd.ntmps88
  go_wp2_with fail
  (try simp only [Exit.inBlock, Exit.then])
  go_end0
  have e0 := ((H.out.fit e He.out).1)
  have g1 := heap_setCell_same _ q.p 4 _ _ (.int .i64 ((n : Int) + 1)) H.out.hp
  rw [hv_set4] at g1
  have o1 : Only [q.p] w (w.setCell ⟨q.p, 4, none⟩ (.int .i64 ((n : Int) + 1))) := (Only.refl _ _).setCell (by simp) _
  have g2 := heap_setCell_same _ e.blk 34 _ _ (.int .i64 ((n : Int) + 1)) (o1.keep (H.out.ents e He.out) (by simpa using Hne.out))
  rw [ent_set34 e0] at g2
  have o2 : Only [e.blk] (w.setCell ⟨q.p, 4, none⟩ (.int .i64 ((n : Int) + 1))) ((w.setCell ⟨q.p, 4, none⟩ (.int .i64 ((n : Int) + 1))).setCell ⟨e.blk, 34, none⟩ (.int .i64 ((n : Int) + 1))) := (Only.refl _ _).setCell (by simp) _
  have o3 : Only [q.p, e.blk] w ((w.setCell ⟨q.p, 4, none⟩ (.int .i64 ((n : Int) + 1))).setCell ⟨e.blk, 34, none⟩ (.int .i64 ((n : Int) + 1))) := (o1.mono (by simp)).trans (o2.mono (by simp))
  have m := @own_mem q d.L
  refine ⟨rfl, hv_use H.out Hj.out o3 (by rw [Int.natCast_add]; exact o2.keep g1 (by simp; exact fun e1 => Hne.out e1.symm)) (by rw [Int.natCast_add]; exact g2), o3.mono (by intro k hk; simp at hk; rcases hk with rfl | rfl; exact m.1; exact m.2.2.2.2.2.2 e He.out)⟩
end Go.Proofs.YtfbjbhddapoopaaDoor
