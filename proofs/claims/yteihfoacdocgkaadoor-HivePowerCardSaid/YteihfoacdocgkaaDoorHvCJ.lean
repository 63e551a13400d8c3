/-
  Layer 18's laws: the walk of stored.
-/
import Derived.Test.YteihfoacdocgkaaDoorHvB
import Derived.Test.YteihfoacdocgkaaDoorHaA
set_option linter.unusedVariables false
set_option linter.unusedSimpArgs false
namespace Go.Proofs.YteihfoacdocgkaaDoor
open Go.RowKit Pl Sh
attribute [local go_sem] Lb.ba_get Lb.ba_cut Lb.ba_add Lb.ba_size Lb.take_rest

/-! ### operations on maps, by what they run to -/
theorem wp_mapUpdateR {P : Program} {op : Oper} {a : Act} {w w' : World} {K : Act → World → Prop} {Q : Exit → Act → World → Prop} (t : TypeId) (m x v : Operand) (ho : op.op = .mapUpdate t m x v)
    (hr : (Instr.mapUpdate t (a.eval m) (a.eval x) (a.eval v)).run P w = .ok () w') (h : K (a.put op.dst undef) w') : op.wp P a w K Q := by
  unfold Oper.wp
  simp [execOp, ho, hr, Result.andThen]
  exact h
theorem wpList_mapUpdateR {P : Program} {ops : Array Oper} {rest : List Oper} {o : Oper} {a : Act} {w w' : World} {Q : Exit → Act → World → Prop} (hg : o.guard = none) (t : TypeId) (m x v : Operand) (ho : o.op = .mapUpdate t m x v)
    (hr : (Instr.mapUpdate t (a.eval m) (a.eval x) (a.eval v)).run P w = .ok () w') (h : wpList P ops Q rest (a.put o.dst undef) w') : wpList P ops Q (o :: rest) a w :=
  wpList_plain hg fun _ hK => wp_mapUpdateR t m x v ho hr (hK _ _ h)
theorem wpList_lookupR {P : Program} {ops : Array Oper} {rest : List Oper} {o : Oper} {a : Act} {w : World} {Q : Exit → Act → World → Prop} (hg : o.guard = none) (t : TypeId) (m x : Operand) (ho : o.op = .lookup t m x false) (v : Value)
    (hr : (Instr.lookup t (a.eval m) (a.eval x) false).run P w = .ok v w) (h : wpList P ops Q rest (a.put o.dst v) w) : wpList P ops Q (o :: rest) a w := by
  refine wpList_plain hg fun K' hK' => ?_
  unfold Oper.wp
  simp [execOp, ho, hr, Result.andThen]
  exact hK' _ _ h
theorem yieldsIf_lookup {P : Program} {ops : Array Oper} {S : World → Prop} {op : Oper} {a : Act} (hw : Region.wanted op (yielded ops a.tmps) = true) (t : TypeId) (m x : Operand) (ho : op.op = .lookup t m x false) (v : Value)
    (hr : ∀ w, S w → (Instr.lookup t (a.eval m) (a.eval x) false).run P w = .ok v w) : YieldsIf P ops S op v a :=
  .inl ⟨hw, fun w hS => by
    unfold execOp
    simp only [ho, Sem.run_bind, hr w hS, Result.andThen_ok]
    rfl⟩

/-! ### the memory of a store -/
structure HEnt where
  isB : Bool
  id : List UInt8
  at_ : Nat
  used : Int
  row : List UInt8
  blk : Nat
def HEnt.cells (e : HEnt) : List Value := (Value.bool e.isB :: byV e.id) ++ [Value.int .i64 e.at_, Value.int .i64 e.used, Value.string ⟨e.row.toArray⟩]
def HEnt.Fit (e : HEnt) : Prop := e.id.length = 32 ∧ e.at_ < 1000 ∧ e.row.length ≤ 10000
def hvCells (b ma mt mp : Nat) (clk life : Int) (dead : Bool) : Array Value := #[.pointer (some ⟨b, 0, none⟩), .map (some ma), .map (some mt), .map (some mp), .int .i64 clk, .int .i64 life, .bool dead]
def keysOf (L : List HEnt) : List ((Bool × List UInt8) × Value) := L.map fun e => ((e.isB, e.id), Value.pointer (some ⟨e.blk, 0, none⟩))
def slotsOf (L : List HEnt) : List (Nat × Value) := L.map fun e => (e.at_, Value.bool true)
def pinsOf (pins : List (List UInt8)) : List (List UInt8 × Value) := pins.map fun d => (d, Value.bool true)
/-- where a store lies -/
structure HvP where
  p : Nat
  b : Nat
  g : Nat
  ma : Nat
  mt : Nat
  mp : Nat
/-- what a store knows -/
structure HvD where
  s : St
  L : List HEnt
  pins : List (List UInt8)
  clk : Nat
  life : Int
  dead : Bool
def HvP.own (q : HvP) (L : List HEnt) : List Nat := q.p :: q.ma :: q.mt :: q.mp :: q.b :: q.g :: L.map (·.blk)
structure HvAt (w : World) (q : HvP) (d : HvD) : Prop where
  hp : w.heap[q.p]? = some (.cells (hvCells q.b q.ma q.mt q.mp d.clk d.life d.dead) 120 (0, 0))
  all : MapAt nameV (fun n => n.2.length = 32) w q.ma (keysOf d.L)
  taken : MapAt intK (fun n => n < 1000000) w q.mt (slotsOf d.L)
  pin : MapAt digK (fun x => x.length = 32) w q.mp (pinsOf d.pins)
  ents : ∀ e ∈ d.L, w.heap[e.blk]? = some (.cells e.cells.toArray 138 (0, 0))
  fit : ∀ e ∈ d.L, e.Fit
  sh : ShAt w q.b q.g d.s
  nd : (q.own d.L).Nodup
theorem HvAt.lt {w : World} {q : HvP} {d : HvD} (h : HvAt w q d) : ∀ k ∈ q.own d.L, k < w.heap.size := by
  intro k hk
  simp only [HvP.own, List.mem_cons, List.mem_map] at hk
  rcases hk with rfl | rfl | rfl | rfl | rfl | rfl | ⟨e, he, rfl⟩
  · exact heap_lt h.hp
  · exact h.all.lt
  · exact h.taken.lt
  · exact h.pin.lt
  · exact heap_lt h.sh.pw
  · exact heap_lt h.sh.slots
  · exact heap_lt (h.ents e he)
theorem own_mem {q : HvP} {L : List HEnt} : q.p ∈ q.own L ∧ q.ma ∈ q.own L ∧ q.mt ∈ q.own L ∧ q.mp ∈ q.own L ∧ q.b ∈ q.own L ∧ q.g ∈ q.own L ∧ ∀ e ∈ L, e.blk ∈ q.own L := by
  refine ⟨by simp [HvP.own], by simp [HvP.own], by simp [HvP.own], by simp [HvP.own], by simp [HvP.own], by simp [HvP.own], fun e he => ?_⟩
  simp only [HvP.own, List.mem_cons, List.mem_map]
  exact .inr (.inr (.inr (.inr (.inr (.inr ⟨e, he, rfl⟩)))))
theorem HvAt.keep {w w' : World} {q : HvP} {d : HvD} (h : HvAt w q d) (hk : ∀ k ∈ q.own d.L, w'.heap[k]? = w.heap[k]?) : HvAt w' q d := by
  obtain ⟨m1, m2, m3, m4, m5, m6, m7⟩ := @own_mem q d.L
  exact ⟨(hk _ m1).trans h.hp, h.all.keep (hk _ m2), h.taken.keep (hk _ m3), h.pin.keep (hk _ m4), fun e he => (hk _ (m7 e he)).trans (h.ents e he), h.fit, ⟨(hk _ m5).trans h.sh.pw, (hk _ m6).trans h.sh.slots, h.sh.ne, h.sh.len⟩, h.nd⟩
theorem HvAt.below {w w' : World} {q : HvP} {d : HvD} (h : HvAt w q d) (hb : Below w.heap.size w w') : HvAt w' q d := h.keep (fun k hk => hb.block k (h.lt k hk))
theorem HvAt.drewN {w : World} {q : HvP} {d : HvD} (h : HvAt w q d) (n : Nat) : HvAt (w.drewN n) q d := ⟨h.hp, h.all.keep rfl, h.taken.keep rfl, h.pin.keep rfl, h.ents, h.fit, ⟨h.sh.pw, h.sh.slots, h.sh.ne, h.sh.len⟩, h.nd⟩
theorem hv_cells {w : World} {q : HvP} {d : HvD} (h : HvAt w q d) :
    w.cell? ⟨q.p, 0, none⟩ = some (.pointer (some ⟨q.b, 0, none⟩)) ∧ w.cell? ⟨q.p, 1, none⟩ = some (.map (some q.ma)) ∧ w.cell? ⟨q.p, 2, none⟩ = some (.map (some q.mt)) ∧ w.cell? ⟨q.p, 3, none⟩ = some (.map (some q.mp)) ∧ w.cell? ⟨q.p, 4, none⟩ = some (.int .i64 d.clk) ∧ w.cell? ⟨q.p, 5, none⟩ = some (.int .i64 d.life) ∧ w.cell? ⟨q.p, 6, none⟩ = some (.bool d.dead) ∧ ∀ j, w.frozen? ⟨q.p, j, none⟩ = false := by
  refine ⟨?_, ?_, ?_, ?_, ?_, ?_, ?_, fun j => Lib.frozen_of_heap h.hp j⟩ <;> (rw [Lib.cell_of_heap h.hp]; rfl)
theorem ent_at {e : HEnt} (h : e.id.length = 32) : e.cells.length = 36 ∧ e.cells[33]? = some (.int .i64 e.at_) ∧ e.cells[34]? = some (.int .i64 e.used) ∧ e.cells[35]? = some (.string ⟨e.row.toArray⟩) := by
  have hl : (Value.bool e.isB :: byV e.id).length = 33 := by simp [byV_length, h]
  refine ⟨by simp [HEnt.cells, byV_length, h], ?_, ?_, ?_⟩ <;>
  · unfold HEnt.cells
    rw [List.getElem?_append_right (by omega), hl]
    rfl
theorem ent_cells {w : World} {e : HEnt} (hf : e.Fit) (h : w.heap[e.blk]? = some (.cells e.cells.toArray 138 (0, 0))) :
    w.cell? ⟨e.blk, 33, none⟩ = some (.int .i64 e.at_) ∧ w.cell? ⟨e.blk, 34, none⟩ = some (.int .i64 e.used) ∧ w.cell? ⟨e.blk, 35, none⟩ = some (.string ⟨e.row.toArray⟩) ∧ ∀ j, w.frozen? ⟨e.blk, j, none⟩ = false := by
  obtain ⟨-, a, b, c⟩ := ent_at hf.1
  refine ⟨by rw [Lib.cell_of_heap h]; simpa using a, by rw [Lib.cell_of_heap h]; simpa using b, by rw [Lib.cell_of_heap h]; simpa using c, fun j => Lib.frozen_of_heap h j⟩
theorem ent_set34 {e : HEnt} (h : e.id.length = 32) (u : Int) : e.cells.toArray.setIfInBounds 34 (.int .i64 u) = ({ e with used := u } : HEnt).cells.toArray := by
  have hl : (Value.bool e.isB :: byV e.id).length = 33 := by simp [byV_length, h]
  rw [List.setIfInBounds_toArray]
  congr 1
  unfold HEnt.cells
  rw [List.set_append_right _ _ (by omega), hl]
  rfl
theorem hv_set4 (b ma mt mp : Nat) (clk life : Int) (dead : Bool) (u : Int) : (hvCells b ma mt mp clk life dead).setIfInBounds 4 (.int .i64 u) = hvCells b ma mt mp u life dead := rfl
theorem hv_set6 (b ma mt mp : Nat) (clk life : Int) (dead : Bool) (u : Bool) : (hvCells b ma mt mp clk life dead).setIfInBounds 6 (.bool u) = hvCells b ma mt mp clk life u := rfl

theorem map_set_same {α β : Type} (f : α → β) (L : List α) (j : Nat) (x y : α) (hj : L[j]? = some x) (hf : f y = f x) : (L.set j y).map f = L.map f := by
  apply List.ext_getElem?
  intro i
  rw [List.getElem?_map, List.getElem?_map, List.getElem?_set]
  split
  · rename_i hij
    subst hij
    rw [hj]
    split
    · simp [hf]
    · rename_i hn; exact absurd (List.getElem?_eq_some_iff.1 hj).1 hn
  · rfl
theorem set_other {L : List HEnt} (hn : (L.map (·.blk)).Nodup) {j : Nat} {e e' x : HEnt} (hj : L[j]? = some e) (hx : x ∈ L.set j e') (hb : x ≠ e') : x ∈ L ∧ x.blk ≠ e.blk := by
  obtain ⟨i, hi⟩ := List.mem_iff_getElem?.1 hx
  rw [List.getElem?_set] at hi
  split at hi
  · rename_i hij
    split at hi
    · exact absurd (Option.some.inj hi).symm hb
    · cases hi
  · rename_i hij
    refine ⟨List.mem_of_getElem? hi, fun eb => ?_⟩
    have h1 : (L.map (·.blk))[i]? = some x.blk := by rw [List.getElem?_map, hi]; rfl
    have h2 : (L.map (·.blk))[j]? = some e.blk := by rw [List.getElem?_map, hj]; rfl
    obtain ⟨l1, g1⟩ := List.getElem?_eq_some_iff.1 h1
    obtain ⟨l2, g2⟩ := List.getElem?_eq_some_iff.1 h2
    exact hij ((List.getElem_inj hn).1 (g2.trans (eb.symm.trans g1.symm)))
theorem own_nd {q : HvP} {L : List HEnt} (h : (q.own L).Nodup) : (L.map (·.blk)).Nodup ∧ ∀ e ∈ L, e.blk ≠ q.p ∧ e.blk ≠ q.ma ∧ e.blk ≠ q.mt ∧ e.blk ≠ q.mp ∧ e.blk ≠ q.b ∧ e.blk ≠ q.g := by
  simp only [HvP.own, List.nodup_cons, List.mem_cons, List.mem_map, not_or] at h
  refine ⟨h.2.2.2.2.2.2, fun e he => ⟨fun e1 => h.1.2.2.2.2.2 ⟨e, he, e1⟩, fun e1 => h.2.1.2.2.2.2 ⟨e, he, e1⟩, fun e1 => h.2.2.1.2.2.2 ⟨e, he, e1⟩, fun e1 => h.2.2.2.1.2.2 ⟨e, he, e1⟩, fun e1 => h.2.2.2.2.1.2 ⟨e, he, e1⟩, fun e1 => h.2.2.2.2.2.1 ⟨e, he, e1⟩⟩⟩
theorem own_six {q : HvP} {L : List HEnt} (h : (q.own L).Nodup) : q.p ≠ q.ma ∧ q.p ≠ q.mt ∧ q.p ≠ q.mp ∧ q.p ≠ q.b ∧ q.p ≠ q.g ∧ q.ma ≠ q.mt ∧ q.ma ≠ q.mp ∧ q.ma ≠ q.b ∧ q.ma ≠ q.g ∧ q.mt ≠ q.mp ∧ q.mt ≠ q.b ∧ q.mt ≠ q.g ∧ q.mp ≠ q.b ∧ q.mp ≠ q.g ∧ q.b ≠ q.g := by
  simp only [HvP.own, List.nodup_cons, List.mem_cons, List.mem_map, not_or] at h
  obtain ⟨⟨a1, a2, a3, a4, a5, -⟩, ⟨b1, b2, b3, b4, -⟩, ⟨c1, c2, c3, -⟩, ⟨d1, d2, -⟩, ⟨e1, -⟩, -⟩ := h
  exact ⟨a1, a2, a3, a4, a5, b1, b2, b3, b4, c1, c2, c3, d1, d2, e1⟩
/-- an entry is used -/
theorem hv_use {w w2 : World} {q : HvP} {d : HvD} {j : Nat} {e : HEnt} {u : Int} {clk : Nat} (h : HvAt w q d) (hj : d.L[j]? = some e) (hO : Only [q.p, e.blk] w w2)
    (hp : w2.heap[q.p]? = some (.cells (hvCells q.b q.ma q.mt q.mp clk d.life d.dead) 120 (0, 0))) (he : w2.heap[e.blk]? = some (.cells ({ e with used := u } : HEnt).cells.toArray 138 (0, 0))) :
    HvAt w2 q { d with L := d.L.set j { e with used := u }, clk := clk } := by
  have hem := List.mem_of_getElem? hj
  obtain ⟨n1, n2⟩ := own_nd h.nd
  obtain ⟨a1, a2, a3, a4, a5, -⟩ := own_six h.nd
  obtain ⟨b1, b2, b3, b4, b5, b6⟩ := n2 e hem
  have k1 : keysOf (d.L.set j { e with used := u }) = keysOf d.L := map_set_same _ _ _ e _ hj rfl
  have k2 : slotsOf (d.L.set j { e with used := u }) = slotsOf d.L := map_set_same _ _ _ e _ hj rfl
  have k3 : (d.L.set j { e with used := u }).map (·.blk) = d.L.map (·.blk) := map_set_same _ _ _ e _ hj rfl
  refine ⟨hp, ?_, ?_, ?_, fun x hx => ?_, fun x hx => ?_, ⟨hO.keep h.sh.pw (by simp; exact ⟨a4.symm, b5.symm⟩), hO.keep h.sh.slots (by simp; exact ⟨a5.symm, b6.symm⟩), h.sh.ne, h.sh.len⟩, ?_⟩
  · show MapAt _ _ _ _ (keysOf (d.L.set j { e with used := u }))
    rw [k1]; exact h.all.keep (hO.block q.ma h.all.lt (by simp; exact ⟨a1.symm, b2.symm⟩))
  · show MapAt _ _ _ _ (slotsOf (d.L.set j { e with used := u }))
    rw [k2]; exact h.taken.keep (hO.block q.mt h.taken.lt (by simp; exact ⟨a2.symm, b3.symm⟩))
  · exact h.pin.keep (hO.block q.mp h.pin.lt (by simp; exact ⟨a3.symm, b4.symm⟩))
  · by_cases hxe : x = { e with used := u }
    · rw [hxe]; exact he
    · obtain ⟨hm, hb⟩ := set_other n1 hj hx hxe
      exact hO.keep (h.ents x hm) (by simp; exact ⟨(n2 x hm).1, hb⟩)
  · by_cases hxe : x = { e with used := u }
    · rw [hxe]; exact h.fit e hem
    · exact h.fit x (set_other n1 hj hx hxe).1
  · show (q.own (d.L.set j { e with used := u })).Nodup
    unfold HvP.own
    rw [k3]; exact h.nd

/-- whether anything can be done -/
def HvD.ready (d : HvD) : Prop := d.dead = false ∧ d.s.pw.down = false ∧ d.s.pw.life = d.life

set_option maxHeartbeats 2000000 in
set_option maxRecDepth 100000 in
theorem ready_ok (q : HvP) (d : HvD) (w : World) (h : HvAt w q d) (hr : d.ready) :
    Calls Tryd.prog 66 #[.pointer (some ⟨q.p, 0, none⟩)] w fun e w' => e = .returned (.int .i64 0) ∧ Below w.heap.size w w' := by
  obtain ⟨h1, h2, h3⟩ := hr
  have hdn := Lib.hid (fun n => (down_any q.b q.g d.s (w.drewN n) (h.drewN n).sh).mono fun _ _ h => And.intro h.1 h.2.symm)
  have hlf := Lib.hid (fun n => (life_any q.b q.g d.s (w.drewN n) (h.drewN n).sh).mono fun _ _ h => And.intro h.1 h.2.symm)
  obtain ⟨c0, -, -, -, -, c5, c6, -⟩ := hv_cells h
  rw [h2] at hdn
  rw [h3] at hlf
  rw [h1] at c6
  obtain ⟨lf, hl⟩ : ∃ l, l = d.life := ⟨_, rfl⟩
  rw [← hl] at hlf c5
  have e1 : (lf != lf) = false := by simp
  clear h h1 h2 h3 hl
  go_enter Tryd.func66, Tryd.ntmps66
  go_upto_region 3 with fail
  go_quiet (first | (go_at_call 63; exact Calls.quiet_of_same (hdn.out _)) | (go_at_call 64; exact Calls.quiet_of_same (hlf.out _)))
  go_wp2_with fail
  go_ret
  exact ⟨rfl, below_drewN'' (Below.refl _ _) _⟩

set_option maxHeartbeats 2000000 in
theorem use_any (q : HvP) (d : HvD) (j : Nat) (e : HEnt) (w : World) (h : HvAt w q d) (hj : d.L[j]? = some e) (hc : d.clk < 1000000) :
    Calls Tryd.prog 67 #[.pointer (some ⟨q.p, 0, none⟩), .pointer (some ⟨e.blk, 0, none⟩)] w fun r w' => r = .returned (.tuple #[]) ∧ HvAt w' q { d with L := d.L.set j { e with used := ((d.clk + 1 : Nat) : Int) }, clk := d.clk + 1 } ∧ Only (q.own d.L) w w' := by
  have he := List.mem_of_getElem? hj
  obtain ⟨-, -, -, -, c4, -, -, z⟩ := hv_cells h
  obtain ⟨-, c34, -, z2⟩ := ent_cells (h.fit e he) (h.ents e he)
  have z4 := z 4
  have z34 := z2 34
  have hne : e.blk ≠ q.p := by
    have := h.nd
    simp only [HvP.own, List.nodup_cons, List.mem_cons, List.mem_map, not_or] at this
    exact fun e1 => this.1.2.2.2.2.2 ⟨e, he, e1⟩
  have H := Lib.hid h
  have Hj := Lib.hid hj
  have He := Lib.hid he
  obtain ⟨n, hn⟩ : ∃ n, n = d.clk := ⟨_, rfl⟩
  rw [← hn] at c4 hc ⊢
  have Hn := Lib.hid hn
  have Hne := Lib.hid hne
  have y34 : (w.setCell ⟨q.p, 4, none⟩ (.int .i64 ((n : Int) + 1))).cell? ⟨e.blk, 34, none⟩ = some (.int .i64 e.used) := by
    exact (((Only.refl [q.p] w).setCell (p := ⟨q.p, 4, none⟩) (by simp) _).cell (p := ⟨e.blk, 34, none⟩) (heap_lt (h.ents e he)) (by simpa using hne)).trans c34
  have hw : IntKind.i64.wrap ((n : Int) + 1) = (n : Int) + 1 := IntWalk.i64_in _ (by omega)
  clear h hj hn hne z z2 he c34
  go_enter Tryd.func67, Tryd.ntmps67
  go_wp2_with fail
  (try simp only [Exit.inBlock, Exit.then])
  go_end0
  have e0 := ((H.out.fit e He.out).1)
  have g1 := heap_setCell_same _ q.p 4 _ _ (.int .i64 ((n : Int) + 1)) H.out.hp
  rw [hv_set4] at g1
  have o1 : Only [q.p] w (w.setCell ⟨q.p, 4, none⟩ (.int .i64 ((n : Int) + 1))) := (Only.refl _ _).setCell (by simp) _
  have g2 := heap_setCell_same _ e.blk 34 _ _ (.int .i64 ((n : Int) + 1)) (o1.keep (H.out.ents e He.out) (by simpa using Hne.out))
  rw [ent_set34 e0] at g2
  have o2 : Only [e.blk] (w.setCell ⟨q.p, 4, none⟩ (.int .i64 ((n : Int) + 1))) ((w.setCell ⟨q.p, 4, none⟩ (.int .i64 ((n : Int) + 1))).setCell ⟨e.blk, 34, none⟩ (.int .i64 ((n : Int) + 1))) := (Only.refl _ _).setCell (by simp) _
  have o3 : Only [q.p, e.blk] w ((w.setCell ⟨q.p, 4, none⟩ (.int .i64 ((n : Int) + 1))).setCell ⟨e.blk, 34, none⟩ (.int .i64 ((n : Int) + 1))) := (o1.mono (by simp)).trans (o2.mono (by simp))
  have m := @own_mem q d.L
  refine ⟨rfl, hv_use H.out Hj.out o3 (by rw [Int.natCast_add]; exact o2.keep g1 (by simp; exact fun e1 => Hne.out e1.symm)) (by rw [Int.natCast_add]; exact g2), o3.mono (by intro k hk; simp at hk; rcases hk with rfl | rfl; exact m.1; exact m.2.2.2.2.2.2 e He.out)⟩
end Go.Proofs.YteihfoacdocgkaaDoor

set_option linter.unusedVariables false
set_option linter.unusedSimpArgs false
namespace Go.Proofs.YteihfoacdocgkaaDoor
open Go.RowKit Pl Sh
attribute [local go_sem] Lb.ba_get Lb.ba_cut Lb.ba_add Lb.ba_size Lb.take_rest

/-- nothing but the store's own block has turned -/
theorem hv_head {w w2 : World} {q : HvP} {d d' : HvD} (h : HvAt w q d) (hO : Only [q.p] w w2) (hp : w2.heap[q.p]? = some (.cells (hvCells q.b q.ma q.mt q.mp d'.clk d'.life d'.dead) 120 (0, 0)))
    (e1 : d'.s = d.s) (e2 : d'.L = d.L) (e3 : d'.pins = d.pins) : HvAt w2 q d' := by
  obtain ⟨n1, n2⟩ := own_nd h.nd
  obtain ⟨a1, a2, a3, a4, a5, -⟩ := own_six h.nd
  refine ⟨hp, ?_, ?_, ?_, fun x hx => ?_, fun x hx => h.fit x (e2 ▸ hx), ?_, by rw [e2]; exact h.nd⟩
  · rw [e2]; exact h.all.keep (hO.block q.ma h.all.lt (by simpa using a1.symm))
  · rw [e2]; exact h.taken.keep (hO.block q.mt h.taken.lt (by simpa using a2.symm))
  · rw [e3]; exact h.pin.keep (hO.block q.mp h.pin.lt (by simpa using a3.symm))
  · rw [e2] at hx
    exact hO.keep (h.ents x hx) (by simpa using (n2 x hx).1)
  · rw [e1]
    exact ⟨hO.keep h.sh.pw (by simpa using a4.symm), hO.keep h.sh.slots (by simpa using a5.symm), h.sh.ne, h.sh.len⟩
set_option maxHeartbeats 2000000 in
theorem did_any (q : HvP) (d : HvD) (e : Int) (w : World) (h : HvAt w q d) :
    Calls Tryd.prog 75 #[.pointer (some ⟨q.p, 0, none⟩), .int .i64 e] w fun r w' => r = .returned (.int .i64 e) ∧ HvAt w' q { d with dead := d.dead || (e == 10) } ∧ Only [q.p] w w' := by
  obtain ⟨-, -, -, -, -, -, c6, z⟩ := hv_cells h
  have z6 := z 6
  have H := Lib.hid h
  obtain ⟨dd, hdd⟩ : ∃ x, x = d.dead := ⟨_, rfl⟩
  rw [← hdd] at c6 ⊢
  have fin : ∀ x, HvAt (w.setCell ⟨q.p, 6, none⟩ (.bool x)) q { d with dead := x } ∧ Only [q.p] w (w.setCell ⟨q.p, 6, none⟩ (.bool x)) := fun x => by
    have o1 : Only [q.p] w (w.setCell ⟨q.p, 6, none⟩ (.bool x)) := (Only.refl _ _).setCell (by simp) _
    have g1 := heap_setCell_same _ q.p 6 _ _ (.bool x) h.hp
    rw [hv_set6] at g1
    exact ⟨hv_head h o1 g1 rfl rfl rfl, o1⟩
  have Fin := Lib.hid fin
  clear h hdd fin z
  go_enter Tryd.func75, Tryd.ntmps75
  cases dd
  · by_cases he : e = 10
    · have e1 : (e == 10) = true := by simp [he]
      have E1 := Lib.hid e1
      clear he
      go_wp2_with fail
      go_ret
      refine ⟨rfl, ?_⟩
      have := Fin.out true
      simpa [E1.out] using this
    · have e1 : (e == 10) = false := by simp [he]
      have E1 := Lib.hid e1
      clear he
      go_wp2_with fail
      go_ret
      refine ⟨rfl, ?_⟩
      have := Fin.out false
      simpa [E1.out] using this
  · go_wp2_with fail
    go_ret
    exact ⟨rfl, Fin.out true⟩
set_option maxHeartbeats 2000000 in
theorem hlen_any (q : HvP) (d : HvD) (w : World) (h : HvAt w q d) :
    Calls Tryd.prog 26 #[.pointer (some ⟨q.p, 0, none⟩)] w fun r w' => r = .returned (.int .i64 d.L.length) ∧ w = w' := by
  obtain ⟨-, c1, -, -, -, -, -, -⟩ := hv_cells h
  have hl : ∀ ty, (Builtin.len_ #[116] ty #[.map (some q.ma)]).run Tryd.prog w = .ok (.int .i64 d.L.length) w := fun ty => by
    have := h.all.len Tryd.underlying116 ty
    rwa [show (keysOf d.L).length = d.L.length by simp [keysOf]] at this
  clear h
  go_enter Tryd.func26, Tryd.ntmps26
  go_wp2_with fail
  go_ret
  exact ⟨rfl, rfl⟩

/-! ### add -/
theorem range_onlyH {w w' : World} {b o : Nat} {cs : List Value} {bs : List Nat} (h : w.rangeAt b o cs) (ho : Only bs w w') (hl : b < w.heap.size ∧ b ∉ bs) : w'.rangeAt b o cs := range_keep h (ho.block b hl.1 hl.2)
def entPlaces : List (Nat × Nat) := [(0, 33), (33, 1), (34, 1), (35, 1)]
def zeroEnt : HEnt := ⟨false, List.replicate 32 0, 0, 0, [], 0⟩
set_option maxRecDepth 100000 in
theorem ent_zero : (Tryd.prog.info? 138).map (·.zero) = some (some (.agg zeroEnt.cells.toArray)) := by kernel_rfl
set_option maxRecDepth 100000 in
theorem built_ent (e : HEnt) (h : e.id.length = 32) : Tryd.prog.built 138 [(0, .agg (Value.bool e.isB :: byV e.id).toArray), (1, .int .i64 e.at_), (2, .int .i64 e.used), (3, .string ⟨e.row.toArray⟩)] = some e.cells.toArray := by
  obtain ⟨it, hit, hz⟩ := Option.map_eq_some_iff.1 ent_zero
  have hp : ∀ fs, Tryd.prog.underlying 138 = some (.struct fs) → fs.toList.mapM (fun f => (Tryd.prog.info? f.type).map fun i => (f.offset, i.size)) = some entPlaces := by
    intro fs h
    obtain rfl := (TypeDesc.struct.inj (Option.some.inj (Tryd.underlying138.symm.trans h)))
    kernel_rfl
  unfold Program.built
  rw [hit]
  simp only [Tryd.underlying138]
  rw [hz, hp _ Tryd.underlying138]
  have h33 : (Value.bool e.isB :: byV e.id).length = 33 := by simp [byV_length, h]
  have h1 := fill_seg (place := (entPlaces.toArray[·]?)) (i := 0) (v := .agg (Value.bool e.isB :: byV e.id).toArray) (rest := [(1, .int .i64 e.at_), (2, .int .i64 e.used), (3, .string ⟨e.row.toArray⟩)]) (pre := []) (old := Value.bool false :: byV (List.replicate 32 0)) (vs := Value.bool e.isB :: byV e.id) (off := 0) (size := 33)
    (post := [Value.int .i64 0, Value.int .i64 0, Value.string ⟨#[]⟩]) rfl (cells_agg _) h33 rfl rfl
  have h2 := fill_seg (place := (entPlaces.toArray[·]?)) (i := 1) (v := .int .i64 e.at_) (rest := [(2, .int .i64 e.used), (3, .string ⟨e.row.toArray⟩)]) (pre := Value.bool e.isB :: byV e.id) (old := [Value.int .i64 0]) (vs := [Value.int .i64 e.at_]) (off := 33) (size := 1)
    (post := [Value.int .i64 0, Value.string ⟨#[]⟩]) rfl (cells_int _ _) rfl h33 rfl
  have h3 := fill_seg (place := (entPlaces.toArray[·]?)) (i := 2) (v := .int .i64 e.used) (rest := [(3, .string ⟨e.row.toArray⟩)]) (pre := (Value.bool e.isB :: byV e.id) ++ [Value.int .i64 e.at_]) (old := [Value.int .i64 0]) (vs := [Value.int .i64 e.used]) (off := 34) (size := 1)
    (post := [Value.string ⟨#[]⟩]) rfl (cells_int _ _) rfl (by simp [byV_length, h]) rfl
  have h4 := fill_seg (place := (entPlaces.toArray[·]?)) (i := 3) (v := .string ⟨e.row.toArray⟩) (rest := []) (pre := (Value.bool e.isB :: byV e.id) ++ [Value.int .i64 e.at_, Value.int .i64 e.used]) (old := [Value.string ⟨#[]⟩]) (vs := [Value.string ⟨e.row.toArray⟩]) (off := 35) (size := 1)
    (post := []) rfl (cells_str _) rfl (by simp [byV_length, h]) rfl
  simp only [List.append_assoc, List.singleton_append, List.cons_append, List.nil_append, List.append_nil] at h1 h2 h3 h4
  have h5 := ((h1.trans h2).trans h3).trans (h4.trans (fill_nil _ _))
  exact h5
/-- an entry more -/
theorem hv_add {w w2 : World} {q : HvP} {d : HvD} (e : HEnt) {clk : Nat} (h : HvAt w q d) (hO : Only [q.p, q.ma, q.mt] w w2)
    (hp : w2.heap[q.p]? = some (.cells (hvCells q.b q.ma q.mt q.mp clk d.life d.dead) 120 (0, 0)))
    (hall : MapAt nameV (fun n => n.2.length = 32) w2 q.ma (keysOf d.L ++ [((e.isB, e.id), Value.pointer (some ⟨e.blk, 0, none⟩))])) (htk : MapAt intK (fun n => n < 1000000) w2 q.mt (slotsOf d.L ++ [(e.at_, Value.bool true)]))
    (he : w2.heap[e.blk]? = some (.cells e.cells.toArray 138 (0, 0))) (hf : e.Fit) (hnew : w.heap.size ≤ e.blk) : HvAt w2 q { d with L := d.L ++ [e], clk := clk } := by
  obtain ⟨n1, n2⟩ := own_nd h.nd
  obtain ⟨a1, a2, a3, a4, a5, a6, a7, a8, a9, a10, a11, a12, a13, a14, a15⟩ := own_six h.nd
  have lt := h.lt
  refine ⟨hp, by simpa [keysOf] using hall, by simpa [slotsOf] using htk, h.pin.keep (hO.block q.mp h.pin.lt (by simp; exact ⟨a3.symm, a7.symm, a10.symm⟩)), fun x hx => ?_, fun x hx => ?_, ⟨hO.keep h.sh.pw (by simp; exact ⟨a4.symm, a8.symm, a11.symm⟩), hO.keep h.sh.slots (by simp; exact ⟨a5.symm, a9.symm, a12.symm⟩), h.sh.ne, h.sh.len⟩, ?_⟩
  · rcases List.mem_append.1 hx with hx | hx
    · obtain ⟨b1, b2, b3, -⟩ := n2 x hx
      exact hO.keep (h.ents x hx) (by simp; exact ⟨b1, b2, b3⟩)
    · simp at hx; rw [hx]; exact he
  · rcases List.mem_append.1 hx with hx | hx
    · exact h.fit x hx
    · simp at hx; rw [hx]; exact hf
  · have hown : q.own (d.L ++ [e]) = q.own d.L ++ [e.blk] := by simp [HvP.own]
    show (q.own (d.L ++ [e])).Nodup
    rw [hown, List.nodup_append]
    exact ⟨h.nd, by simp, fun a ha b hb => by simp at hb; have := lt a ha; omega⟩

set_option maxHeartbeats 4000000 in
set_option maxRecDepth 100000 in
theorem hadd_any (q : HvP) (d : HvD) (isB : Bool) (id : List UInt8) (at_ : Nat) (row : List UInt8) (w : World) (h : HvAt w q d) (hid : id.length = 32) (hat : at_ < 1000) (hrow : row.length ≤ 10000) (hc : d.clk < 1000000)
    (hk : ∀ e ∈ d.L, (e.isB, e.id) ≠ (isB, id)) (ha : ∀ e ∈ d.L, e.at_ ≠ at_) :
    Calls Tryd.prog 125 #[.pointer (some ⟨q.p, 0, none⟩), .agg (Value.bool isB :: byV id).toArray, .int .i64 at_, .string ⟨row.toArray⟩] w fun r w' => r = .returned (.tuple #[]) ∧
      ∃ blk, w.heap.size ≤ blk ∧ HvAt w' q { d with L := d.L ++ [⟨isB, id, at_, ((d.clk + 1 : Nat) : Int), row, blk⟩], clk := d.clk + 1 } ∧ Only [q.p, q.ma, q.mt] w w' := by
  obtain ⟨NC, hNC⟩ : ∃ x, x = (Value.bool isB :: byV id).toArray := ⟨_, rfl⟩
  have hNl : NC.toList.length = 33 := by rw [hNC]; simp [byV_length, hid]
  have hb1 := (Below.refl w.heap.size w).alloc (Nat.le_refl _) (.cells NC 127)
  have hn0 := heap_alloc_new w (.cells NC 127)
  have h1 := h.below hb1
  obtain ⟨w1, hw1⟩ : ∃ y, y = w.alloc (.cells NC 127) := ⟨_, rfl⟩
  obtain ⟨n0, hn⟩ : ∃ y, y = w.heap.size := ⟨_, rfl⟩
  rw [← hw1] at h1 hn0 hb1
  rw [← hn] at hn0
  have hpn : q.p < w.heap.size := h.lt _ own_mem.1
  obtain ⟨-, c1, c2, -, c4, -, -, z⟩ := hv_cells h1
  have z4 := z 4
  obtain ⟨n, hcl⟩ : ∃ n, n = d.clk := ⟨_, rfl⟩
  rw [← hcl] at c4 hc ⊢
  have hw : IntKind.i64.wrap ((n : Int) + 1) = (n : Int) + 1 := IntWalk.i64_in _ (by omega)
  have o2 : Only [q.p] w1 (w1.setCell ⟨q.p, 4, none⟩ (.int .i64 ((n : Int) + 1))) := (Only.refl _ _).setCell (by simp) _
  have g2 := heap_setCell_same _ q.p 4 _ _ (.int .i64 ((n : Int) + 1)) h1.hp
  rw [hv_set4] at g2
  obtain ⟨w2, hw2⟩ : ∃ y, y = w1.setCell ⟨q.p, 4, none⟩ (.int .i64 ((n : Int) + 1)) := ⟨_, rfl⟩
  rw [← hw2] at o2 g2
  have h2 : HvAt w2 q { d with clk := n + 1 } := hv_head h1 o2 (by rw [show (({ d with clk := n + 1 } : HvD).clk : Int) = (n : Int) + 1 by simp]; exact g2) rfl rfl rfl
  obtain ⟨a1, a2, a3, a4, a5, a6, a7, a8, a9, a10, a11, a12, a13, a14, a15⟩ := own_six h.nd
  have hn2 := o2.keep hn0 (by simp; omega)
  have r0 : w2.rangeAt n0 0 NC.toList := fun k v hv => by rw [Lib.cell_of_heap hn2, Nat.zero_add]; simpa using hv
  have l0 : n0 < w2.heap.size := heap_lt hn2
  obtain ⟨-, x1, x2, -, x4, -, -, -⟩ := hv_cells h2
  have lp : q.p < w2.heap.size := heap_lt h2.hp
  have hpm : q.p ∉ [q.ma] := by simpa using a1
  have h0m : n0 ∉ [q.ma] := by have := h.all.lt; simp; omega
  have ndix : (Tryd.prog.info? 127).map (·.size) = some NC.toList.length := by rw [name_info, hNl]
  have nund := Tryd.underlying127
  have x4' : w2.cell? ⟨q.p, 4, none⟩ = some (.int .i64 ((n : Int) + 1)) := by rw [x4]; simp
  obtain ⟨EC, hEC⟩ : ∃ x, x = (⟨isB, id, at_, ((n + 1 : Nat) : Int), row, 0⟩ : HEnt).cells.toArray := ⟨_, rfl⟩
  have hbu := built_ent ⟨isB, id, at_, ((n + 1 : Nat) : Int), row, 0⟩ hid
  rw [← hEC] at hbu
  simp only at hbu
  rw [← hNC] at hbu
  rw [show ((n + 1 : Nat) : Int) = (n : Int) + 1 by simp] at hbu
  have H := Lib.hid h
  have H2 := Lib.hid h2
  have Hk := Lib.hid hk
  have Ha := Lib.hid ha
  have HEC := Lib.hid hEC
  have HNC := Lib.hid hNC
  have Hid' := Lib.hid hid
  have Hat := Lib.hid hat
  have Hrow := Lib.hid hrow
  have Hcl := Lib.hid hcl
  have Hb1 := Lib.hid hb1
  have O2 := Lib.hid o2
  have Hn := Lib.hid hn
  have Hw2 := Lib.hid hw2
  have Hw1 := Lib.hid hw1
  rw [← hNC]
  clear h h1 h2 hk ha hEC hNC hid hat hrow hcl hb1 o2 g2 hn0 hn2 hw2 hw1 z x1 a1 a2 a3 a4 a5 a6 a7 a8 a9 a10 a11 a12 a13 a14 a15 x4 hNl
  have x1 := (hv_cells H2.out).2.1
  go_enter Tryd.func125, Tryd.ntmps125
  go_upto_region 1 with fail
  rw [← Hw1.out, ← Hn.out]
  go_upto_region 2 with fail
  rw [← Hw2.out]
  refine wp_region_held_drew (S := fun w' => Only [q.ma] w2 w') (by kernel_rfl) ((Only.refl _ _).drew) (fun hH0 => ?_)
  obtain ⟨W0, hW0⟩ : ∃ W, W = w2.drew := ⟨_, rfl⟩
  have hall0 : Hid (MapAt nameV (fun n => n.2.length = 32) W0 q.ma (keysOf d.L)) := Lib.hid (by rw [hW0]; exact H2.out.all.keep rfl)
  rw [← hW0] at hH0 ⊢
  clear hW0
  refine wpAnyH_take (i := 0) (v := ?_) rfl (by kernel_rfl) (by kernel_rfl) (by kernel_rfl) (fun _ _ _ h => h) (Or.inl ⟨by kernel_rfl, ?_⟩) hH0 ?_
  rotate_left 1
  · intro w hSw
    go_simp
    try with_reducible rfl
  try simp only [Act.put, List.getElem_toArray, List.getElem_cons_zero, List.getElem_cons_succ, List.setIfInBounds_toArray, List.set_cons_zero, List.set_cons_succ]
  refine wpAnyH_take (i := 1) (v := ?_) rfl (by kernel_rfl) (by kernel_rfl) (by kernel_rfl) (fun _ _ _ h => h) (Or.inl ⟨by kernel_rfl, ?_⟩) hH0 ?_
  rotate_left 1
  · intro w hSw
    go_simp
    try with_reducible rfl
  try simp only [Act.put, List.getElem_toArray, List.getElem_cons_zero, List.getElem_cons_succ, List.setIfInBounds_toArray, List.set_cons_zero, List.set_cons_succ]
  refine wpAnyH_take (i := 2) (v := ?_) rfl (by kernel_rfl) (by kernel_rfl) (by kernel_rfl) (fun _ _ _ h => h) (Or.inl ⟨by kernel_rfl, ?_⟩) hH0 ?_
  rotate_left 1
  · intro w hSw
    go_simp
    try with_reducible rfl
  try simp only [Act.put, List.getElem_toArray, List.getElem_cons_zero, List.getElem_cons_succ, List.setIfInBounds_toArray, List.set_cons_zero, List.set_cons_succ]
  refine wpAnyH_take (i := 3) (v := ?_) rfl (by kernel_rfl) (by kernel_rfl) (by kernel_rfl) (fun _ _ _ h => h) (Or.inl ⟨by kernel_rfl, ?_⟩) hH0 ?_
  rotate_left 1
  · intro w hSw
    have f0 := (hSw.cell (p := ⟨q.p, 1, none⟩) lp hpm).trans x1
    have f1 := (hSw.cell (p := ⟨q.p, 4, none⟩) lp hpm).trans x4'
    go_simp
    try with_reducible rfl
  try simp only [Act.put, List.getElem_toArray, List.getElem_cons_zero, List.getElem_cons_succ, List.setIfInBounds_toArray, List.set_cons_zero, List.set_cons_succ]
  refine wpAnyH_take (i := 4) (v := _) rfl (by kernel_rfl) (by kernel_rfl) (by kernel_rfl) (fun _ _ _ h => h) (yieldsIf_load_mid (by kernel_rfl) _ _ rfl _ _ rfl NC.toList _ (fun W hW => range_onlyH r0 hW ⟨l0, h0m⟩) nund rfl ndix) hH0 ?_
  try simp only [Act.put, List.getElem_toArray, List.getElem_cons_zero, List.getElem_cons_succ, List.setIfInBounds_toArray, List.set_cons_zero, List.set_cons_succ]
  refine wpAnyH_take (i := 5) (v := _) rfl (by kernel_rfl) (by kernel_rfl) (by kernel_rfl) (fun _ _ _ h => h) (yieldsIf_load_mid (by kernel_rfl) _ _ rfl _ _ rfl NC.toList _ (fun W hW => range_onlyH r0 hW ⟨l0, h0m⟩) nund rfl ndix) hH0 ?_
  try simp only [Act.put, List.getElem_toArray, List.getElem_cons_zero, List.getElem_cons_succ, List.setIfInBounds_toArray, List.set_cons_zero, List.set_cons_succ]
  refine wpAnyH_take (i := 6) (v := ?_) rfl (by kernel_rfl) (by kernel_rfl) (by kernel_rfl) (fun _ _ _ h => h) (Or.inl ⟨by kernel_rfl, ?_⟩) hH0 ?_
  rotate_left 1
  · intro w hSw
    go_simp
    try with_reducible rfl
  try simp only [Act.put, List.getElem_toArray, List.getElem_cons_zero, List.getElem_cons_succ, List.setIfInBounds_toArray, List.set_cons_zero, List.set_cons_succ]
  refine wpAnyH_take (i := 7) (v := ?_) rfl (by kernel_rfl) (by kernel_rfl) (by kernel_rfl) (fun _ _ _ h => h) (Or.inl ⟨by kernel_rfl, ?_⟩) hH0 ?_
  rotate_left 1
  · intro w hSw
    go_simp
    try with_reducible rfl
  try simp only [Act.put, List.getElem_toArray, List.getElem_cons_zero, List.getElem_cons_succ, List.setIfInBounds_toArray, List.set_cons_zero, List.set_cons_succ]
  refine wpAnyH_take (i := 8) (v := ?_) rfl (by kernel_rfl) (by kernel_rfl) (by kernel_rfl) (fun _ _ _ h => h) (Or.inl ⟨by kernel_rfl, ?_⟩) hH0 ?_
  rotate_left 1
  · intro w hSw
    go_simp
    try with_reducible rfl
  try simp only [Act.put, List.getElem_toArray, List.getElem_cons_zero, List.getElem_cons_succ, List.setIfInBounds_toArray, List.set_cons_zero, List.set_cons_succ]
  refine wpAnyH_take (i := 9) (v := ?_) rfl (by kernel_rfl) (by kernel_rfl) (by kernel_rfl) (fun _ _ _ h => h) (Or.inl ⟨by kernel_rfl, ?_⟩) hH0 ?_
  rotate_left 1
  · intro w hSw
    go_simp
    try with_reducible rfl
  try simp only [Act.put, List.getElem_toArray, List.getElem_cons_zero, List.getElem_cons_succ, List.setIfInBounds_toArray, List.set_cons_zero, List.set_cons_succ]
  refine wpAnyH_take (i := 10) (v := ?_) rfl (by kernel_rfl) (by kernel_rfl) (by kernel_rfl) (fun _ _ _ h => h) (Or.inl ⟨by kernel_rfl, ?_⟩) hH0 ?_
  rotate_left 1
  · intro w hSw
    have f0 := (hSw.cell (p := ⟨q.p, 1, none⟩) lp hpm).trans x1
    have f1 := (hSw.cell (p := ⟨q.p, 4, none⟩) lp hpm).trans x4'
    go_simp
    try with_reducible rfl
  try simp only [Act.put, List.getElem_toArray, List.getElem_cons_zero, List.getElem_cons_succ, List.setIfInBounds_toArray, List.set_cons_zero, List.set_cons_succ]
  refine wpAnyH_take (i := 11) (v := ?_) rfl (by kernel_rfl) (by kernel_rfl) (by kernel_rfl) (fun _ _ _ h => h) (Or.inl ⟨by kernel_rfl, ?_⟩) hH0 ?_
  rotate_left 1
  · intro w hSw
    go_simp
    try with_reducible rfl
  try simp only [Act.put, List.getElem_toArray, List.getElem_cons_zero, List.getElem_cons_succ, List.setIfInBounds_toArray, List.set_cons_zero, List.set_cons_succ]
  refine wpAnyH_take (i := 12) (v := _) rfl (by kernel_rfl) (by kernel_rfl) (by kernel_rfl) (fun _ _ _ h => h) (yieldsIf_build (by kernel_rfl) 138 _ rfl EC (by simpa [Act.eval] using hbu)) hH0 ?_
  try simp only [Act.put, List.getElem_toArray, List.getElem_cons_zero, List.getElem_cons_succ, List.setIfInBounds_toArray, List.set_cons_zero, List.set_cons_succ]
  refine wpAnyH_ready (rs := [13]) (by kernel_rfl) (by simp) ?_
  refine AllReadyH.cons rfl (fun K_ hK => ?_) ?_
  · go_simp
    have hA1 := heap_alloc_new W0 (.cells EC 138)
    have hO1 : Only [q.ma] w2 (W0.alloc (.cells EC 138)) := (hH0).alloc _
    have hs1 : w2.heap.size ≤ W0.heap.size := (hH0).size
    have hm1 := hall0.out.keep (heap_alloc_old W0 (.cells EC 138) hall0.out.lt)
    obtain ⟨blk, hc1⟩ : ∃ c, c = W0.heap.size := ⟨_, rfl⟩
    obtain ⟨W1, hW1⟩ : ∃ y, y = W0.alloc (.cells EC 138) := ⟨_, rfl⟩
    rw [← hW1] at hA1 hO1 hm1 ⊢
    rw [← hc1] at hA1 hs1 ⊢
    have HA := Lib.hid hA1
    have HSz := Lib.hid hs1
    have HM := Lib.hid hm1
    clear hW1 hc1 hA1 hs1 hm1 hall0
    refine hK.out _ _ hO1 (fun hH1 => ?_)
    clear hK K_
    try simp only [Act.put, List.getElem_toArray, List.getElem_cons_zero, List.getElem_cons_succ, List.setIfInBounds_toArray, List.set_cons_zero, List.set_cons_succ]
    refine wpAnyH_ready (rs := [14]) (by kernel_rfl) (by simp) ?_
    refine AllReadyH.cons rfl (fun K_ hK => ?_) ?_
    · rw [if_pos (by rfl)]
      obtain ⟨W2, hrun2, hput2, hOp2⟩ := HM.out.put name_fam Tryd.underlying116 (a := (isB, id)) Hid'.out (by intro x hx; obtain ⟨e, he, rfl⟩ := List.mem_map.1 hx; exact Hk.out e he) (.pointer (some ⟨blk, 0, none⟩))
      rw [show nameV (isB, id) = .agg NC from by rw [HNC.out]; rfl] at hrun2
      refine wp_mapUpdateR 116 _ _ _ rfl hrun2 ?_
      have HPut := Lib.hid hput2
      have HOp := Lib.hid hOp2
      clear hrun2 hput2 hOp2
      refine hK.out _ _ ((hH1).trans HOp.out) (fun hH2 => ?_)
      clear hK K_
      try simp only [Act.put, List.getElem_toArray, List.getElem_cons_zero, List.getElem_cons_succ, List.setIfInBounds_toArray, List.set_cons_zero, List.set_cons_succ]
      refine wpAnyH_done (by kernel_rfl) ?_ _
      have hO3 : Only [q.ma] w2 W2 := hH2
      obtain ⟨w3, hw3⟩ : ∃ y, y = W2 := ⟨_, rfl⟩
      rw [← hw3] at hO3 HPut HOp ⊢
      clear hH2 hw3
      have a1 := own_six H.out.nd
      have hbm : q.ma < w2.heap.size := H2.out.all.lt
      have hent := HOp.out.keep HA.out (by simp; have := HSz.out; omega)
      have hp3 := hO3.keep H2.out.hp (by simpa using a1.1)
      have htk3 := H2.out.taken.keep (hO3.block q.mt H2.out.taken.lt (by simpa using fun e => a1.2.2.2.2.2.1 e.symm))
      obtain ⟨w4, hrun4, hput4, hO4⟩ := htk3.put int_fam Tryd.underlying117 (a := at_) (by show at_ < 1000000; have := Hat.out; omega) (by intro x hx; obtain ⟨e, he, rfl⟩ := List.mem_map.1 hx; exact Ha.out e he) (.bool true)
      have y2 : w3.cell? ⟨q.p, 2, none⟩ = some (.map (some q.mt)) := (hO3.cell (p := ⟨q.p, 2, none⟩) lp hpm).trans x2
      rw [show intK at_ = .int .i64 (at_ : Int) from rfl] at hrun4
      have hent4 := hO4.keep hent (by simp; have := HSz.out; have := H2.out.taken.lt; omega)
      have hp4 := hO4.keep hp3 (by simpa using a1.2.1)
      have hall4 := HPut.out.keep (hO4.block q.ma HPut.out.lt (by simpa using a1.2.2.2.2.2.1))
      have hOw : Only [q.p, q.ma, q.mt] w w4 := (((Only.of_below Hb1.out).trans (O2.out.mono (by simp))).trans (hO3.mono (by simp))).trans (hO4.mono (by simp))
      have hnew : w.heap.size ≤ blk := Nat.le_trans (Nat.le_trans Hb1.out.size O2.out.size) HSz.out
      rw [HEC.out] at hent4
      have hfin := hv_add ⟨isB, id, at_, ((n + 1 : Nat) : Int), row, blk⟩ (clk := n + 1) H.out hOw (by simpa using hp4) (by simpa using hall4) (by simpa using hput4) hent4 ⟨Hid'.out, Hat.out, Hrow.out⟩ hnew
      have HFin := Lib.hid hfin
      have HOw := Lib.hid hOw
      have Hnew := Lib.hid hnew
      clear hfin hOw hnew hent hent4 hp3 hp4 hall4 htk3 hput4 hO4 hO3 a1
      go_wp2_with (refine wpList_mapUpdateR rfl 117 _ _ _ rfl hrun4 ?_)
      (try simp only [Exit.inBlock, Exit.then])
      go_end0
      exact ⟨rfl, blk, Hnew.out, HFin.out, HOw.out⟩
    exact AllReadyH.nil
  exact AllReadyH.nil
end Go.Proofs.YteihfoacdocgkaaDoor

set_option linter.unusedVariables false
set_option linter.unusedSimpArgs false
namespace Go.Proofs.YteihfoacdocgkaaDoor
open Go.RowKit Pl Sh
attribute [local go_sem] Lb.ba_get Lb.ba_cut Lb.ba_add Lb.ba_size Lb.take_rest

theorem zero_boolR (w : World) : (zeroValue 4).run Tryd.prog w = .ok (.bool false) w := by kernel_rfl
theorem zero_entR (w : World) : (zeroValue 128).run Tryd.prog w = .ok (.pointer none) w := by kernel_rfl
theorem taken_yes {w : World} {q : HvP} {d : HvD} (h : HvAt w q d) {i : Nat} (hi : ∃ e ∈ d.L, e.at_ = i) : (Instr.lookup 117 (.map (some q.mt)) (.int .i64 i) false).run Tryd.prog w = .ok (.bool true) w := by
  obtain ⟨e, he, rfl⟩ := hi
  have hf := (h.fit e he).2.1
  rcases h.taken.look int_fam Tryd.underlying117 (zero_boolR w) (a := e.at_) (by show e.at_ < 1000000; omega) with ⟨v, hv, hr⟩ | ⟨hn, -⟩
  · obtain ⟨x, hx, e1⟩ := List.mem_map.1 hv
    rw [← (Prod.mk.inj e1).2] at hr
    exact hr
  · exact absurd rfl (hn (e.at_, .bool true) (List.mem_map.2 ⟨e, he, rfl⟩))
theorem taken_no {w : World} {q : HvP} {d : HvD} (h : HvAt w q d) {i : Nat} (hi : ∀ e ∈ d.L, e.at_ ≠ i) (hi2 : i < 1000000) : (Instr.lookup 117 (.map (some q.mt)) (.int .i64 i) false).run Tryd.prog w = .ok (.bool false) w := by
  rcases h.taken.look int_fam Tryd.underlying117 (zero_boolR w) (a := i) hi2 with ⟨v, hv, hr⟩ | ⟨-, hr⟩
  · obtain ⟨x, hx, e1⟩ := List.mem_map.1 hv
    exact absurd (Prod.mk.inj e1).1 (hi x hx)
  · exact hr

set_option maxHeartbeats 2000000 in
set_option maxRecDepth 100000 in
theorem room_free (q : HvP) (d : HvD) (m : Nat) (w : World) (h : HvAt w q d) (hns : d.s.slots.length ≤ 128) (hm : m < d.s.slots.length) (hfree : ∀ e ∈ d.L, e.at_ ≠ m) (hlow : ∀ i, i < m → ∃ e ∈ d.L, e.at_ = i) :
    Calls Tryd.prog 126 #[.pointer (some ⟨q.p, 0, none⟩)] w fun r w' => r = .returned (.tuple #[.int .i64 m, .int .i64 0]) ∧ w = w' := by
  obtain ⟨c0, -, c2, -, -, -, -, -⟩ := hv_cells h
  have hl := Lib.hid (len_any q.b q.g d.s w h.sh)
  obtain ⟨n, hn⟩ : ∃ n, n = d.s.slots.length := ⟨_, rfl⟩
  rw [← hn] at hl hm hns
  have Hyes := Lib.hid (fun i (hi : i < m) => taken_yes h (hlow i hi))
  have hno := taken_no h hfree (by omega)
  have Hno := Lib.hid hno
  have tund := Tryd.underlying117
  clear h hn hfree hlow hno
  go_enter Tryd.func126, Tryd.ntmps126
  go_wp2_with fail
  refine hl.out.mono ?_
  rintro e w1 ⟨rfl, rfl⟩
  clear hl
  go_wp2_with fail
  go_loopw [13] (fun i wr => ∃ k : Nat, k ≤ m ∧ i = .int .i64 k ∧ w = wr) (fun i _ => m - (intOf i).toNat)
  case atStart => exact ⟨0, by omega, rfl, by first | trivial | rfl⟩
  case round =>
    obtain ⟨k, hk, rfl, rfl⟩ := hrel
    have j1 : (k : Int) < (n : Int) := by omega
    by_cases hkm : k < m
    · have hy := Hyes.out k hkm
      go_wp2_with (refine wpList_lookupR rfl 117 _ _ rfl (.bool true) hy ?_)
      go_roundw
      case rel => exact ⟨k + 1, by omega, by go_num, by first | trivial | rfl⟩
      case measure => simp [intOf]; omega
    · obtain rfl : m = k := by omega
      have hy := Hno.out
      go_wp2_with (refine wpList_lookupR rfl 117 _ _ rfl (.bool false) hy ?_)
      go_ret2
      exact ⟨rfl, rfl⟩

/-- the shelf alone has turned -/
theorem hv_shelf {w w2 : World} {q : HvP} {d : HvD} {s : St} (h : HvAt w q d) (hO : Only [q.b, q.g] w w2) (hs : ShAt w2 q.b q.g s) : HvAt w2 q { d with s := s } := by
  obtain ⟨n1, n2⟩ := own_nd h.nd
  obtain ⟨a1, a2, a3, a4, a5, a6, a7, a8, a9, a10, a11, a12, a13, a14, a15⟩ := own_six h.nd
  exact ⟨hO.keep h.hp (by simp; exact ⟨a4, a5⟩), h.all.keep (hO.block q.ma h.all.lt (by simp; exact ⟨a8, a9⟩)), h.taken.keep (hO.block q.mt h.taken.lt (by simp; exact ⟨a11, a12⟩)), h.pin.keep (hO.block q.mp h.pin.lt (by simp; exact ⟨a13, a14⟩)), fun e he => hO.keep (h.ents e he) (by simp; exact ⟨(n2 e he).2.2.2.2.1, (n2 e he).2.2.2.2.2⟩), h.fit, hs, h.nd⟩

def PutPost (K : List Int) (w : World) (q : HvP) (d : HvD) (isB : Bool) (id row : List UInt8) (m : Nat) (e : Ending) (w' : World) : Prop :=
  e = .returned (.int .i64 0) ∧ ∃ blk, w.heap.size ≤ blk ∧ HvAt w' q { d with s := St.write d.s m (textS K row), L := d.L ++ [⟨isB, id, m, ((d.clk + 1 : Nat) : Int), row, blk⟩], clk := d.clk + 1 } ∧ Only (q.own d.L) w w'
end Go.Proofs.YteihfoacdocgkaaDoor

set_option linter.unusedVariables false
set_option linter.unusedSimpArgs false
namespace Go.Proofs.YteihfoacdocgkaaDoor
open Go.RowKit Pl Sh
attribute [local go_sem] Lb.ba_get Lb.ba_cut Lb.ba_add Lb.ba_size Lb.take_rest

theorem look_yes {w : World} {q : HvP} {d : HvD} (h : HvAt w q d) {e : HEnt} (he : e ∈ d.L) : (Instr.lookup 116 (.map (some q.ma)) (nameV (e.isB, e.id)) false).run Tryd.prog w = .ok (.pointer (some ⟨e.blk, 0, none⟩)) w := by
  have hm : ((e.isB, e.id), Value.pointer (some ⟨e.blk, 0, none⟩)) ∈ keysOf d.L := List.mem_map.2 ⟨e, he, rfl⟩
  rcases h.all.look name_fam Tryd.underlying116 (zero_entR w) (a := (e.isB, e.id)) (h.fit e he).1 with ⟨v, hv, hr⟩ | ⟨hn, -⟩
  · rw [h.all.uniq name_fam hv hm] at hr
    exact hr
  · exact absurd rfl (hn _ hm)
theorem look_no {w : World} {q : HvP} {d : HvD} (h : HvAt w q d) {isB : Bool} {id : List UInt8} (hid : id.length = 32) (hn : ∀ e ∈ d.L, (e.isB, e.id) ≠ (isB, id)) : (Instr.lookup 116 (.map (some q.ma)) (nameV (isB, id)) false).run Tryd.prog w = .ok (.pointer none) w := by
  rcases h.all.look name_fam Tryd.underlying116 (zero_entR w) (a := (isB, id)) hid with ⟨v, hv, hr⟩ | ⟨-, hr⟩
  · obtain ⟨e, he, e1⟩ := List.mem_map.1 hv
    exact absurd (Prod.mk.inj e1).1 (hn e he)
  · exact hr

set_option maxHeartbeats 4000000 in
set_option maxRecDepth 100000 in
theorem find_none (K : List Int) (q : HvP) (d : HvD) (isB : Bool) (id : List UInt8) (w : World) (h : HvAt w q d) (hL : Laid K w) (hr : d.ready) (hid : id.length = 32) (hk : ∀ e ∈ d.L, (e.isB, e.id) ≠ (isB, id)) :
    Calls Tryd.prog 70 #[.pointer (some ⟨q.p, 0, none⟩), .agg (Value.bool isB :: byV id).toArray] w fun r w' => r = .returned (.tuple #[.string ⟨#[]⟩, .bool false]) ∧ Below w.heap.size w w' := by
  obtain ⟨NC, hNC⟩ : ∃ x, x = (Value.bool isB :: byV id).toArray := ⟨_, rfl⟩
  have hNl : NC.toList.length = 33 := by rw [hNC]; simp [byV_length, hid]
  have hb1 := (Below.refl w.heap.size w).alloc (Nat.le_refl _) (.cells NC 127)
  have hn0 := heap_alloc_new w (.cells NC 127)
  have h1 := h.below hb1
  have hL1 := hL.below hb1
  obtain ⟨w1, hw1⟩ : ∃ y, y = w.alloc (.cells NC 127) := ⟨_, rfl⟩
  obtain ⟨n0, hn⟩ : ∃ y, y = w.heap.size := ⟨_, rfl⟩
  rw [← hw1] at h1 hn0 hb1 hL1
  rw [← hn] at hn0
  have hrd := Lib.hid (fun W (hW : Below w1.heap.size w1 W) => ready_ok q d W (h1.below hW) hr)
  have r0 : w1.rangeAt n0 0 NC.toList := fun k v hv => by rw [Lib.cell_of_heap hn0, Nat.zero_add]; simpa using hv
  have l0 : n0 < w1.heap.size := heap_lt hn0
  have x1 := (hv_cells h1).2.1
  have lp : q.p < w1.heap.size := heap_lt h1.hp
  have ndix : (Tryd.prog.info? 127).map (·.size) = some NC.toList.length := by rw [name_info, hNl]
  have nund := Tryd.underlying127
  have H := Lib.hid h
  have H1 := Lib.hid h1
  have HL1 := Lib.hid hL1
  have Hb1 := Lib.hid hb1
  have Hn := Lib.hid hn
  have Hw1 := Lib.hid hw1
  have HNC := Lib.hid hNC
  have Hid' := Lib.hid hid
  have hlook := Lib.hid (fun W (hW : Below w1.heap.size w1 W) => look_no (h1.below hW) hid hk)
  rw [show nameV (isB, id) = .agg NC from by rw [hNC]; rfl] at hlook
  rw [← hNC]
  clear h h1 hL hL1 hb1 hn hw1 hn0 hNC hid hNl hr hk
  go_enter Tryd.func70, Tryd.ntmps70
  go_upto_region 1 with fail
  rw [← Hw1.out, ← Hn.out]
  refine wp_region_held_drew (S := fun w' => Below w1.heap.size w1 w') (by kernel_rfl) ((Below.refl _ _).drew) (fun hH0 => ?_)
  obtain ⟨W0, hW0⟩ : ∃ W, W = w1.drew := ⟨_, rfl⟩
  rw [← hW0] at hH0 ⊢
  clear hW0
  refine wpAnyH_take (i := 0) (v := ?_) rfl (by kernel_rfl) (by kernel_rfl) (by kernel_rfl) (fun _ _ _ h => h) (Or.inl ⟨by kernel_rfl, ?_⟩) hH0 ?_
  rotate_left 1
  · intro w hSw
    go_simp
    try with_reducible rfl
  try simp only [Act.put, List.getElem_toArray, List.getElem_cons_zero, List.getElem_cons_succ, List.setIfInBounds_toArray, List.set_cons_zero, List.set_cons_succ]
  refine wpAnyH_ready (rs := [1]) (by kernel_rfl) (by simp) ?_
  refine AllReadyH.cons rfl (fun K_ hK => ?_) ?_
  · go_simp
    refine (hrd.out W0 hH0).mono ?_
    rintro e W1 ⟨rfl, hb1⟩
    refine hK.out _ _ ((hH0).trans (hb1.mono (hH0).size)) (fun hH1 => ?_)
    clear hK K_
    try simp only [Act.put, List.getElem_toArray, List.getElem_cons_zero, List.getElem_cons_succ, List.setIfInBounds_toArray, List.set_cons_zero, List.set_cons_succ]
    refine wpAnyH_take (i := 2) (v := ?_) rfl (by kernel_rfl) (by kernel_rfl) (by kernel_rfl) (fun _ _ _ h => h) (Or.inl ⟨by kernel_rfl, ?_⟩) hH1 ?_
    rotate_left 1
    · intro w hSw
      go_simp
      try with_reducible rfl
    try simp only [Act.put, List.getElem_toArray, List.getElem_cons_zero, List.getElem_cons_succ, List.setIfInBounds_toArray, List.set_cons_zero, List.set_cons_succ]
    refine wpAnyH_take (i := 3) (v := ?_) rfl (by kernel_rfl) (by kernel_rfl) (by kernel_rfl) (fun _ _ _ h => h) (Or.inl ⟨by kernel_rfl, ?_⟩) hH1 ?_
    rotate_left 1
    · intro w hSw
      go_simp
      try with_reducible rfl
    try simp only [Act.put, List.getElem_toArray, List.getElem_cons_zero, List.getElem_cons_succ, List.setIfInBounds_toArray, List.set_cons_zero, List.set_cons_succ]
    refine wpAnyH_take (i := 4) (v := ?_) rfl (by kernel_rfl) (by kernel_rfl) (by kernel_rfl) (fun _ _ _ h => h) (Or.inl ⟨by kernel_rfl, ?_⟩) hH1 ?_
    rotate_left 1
    · intro w hSw
      go_simp
      try with_reducible rfl
    try simp only [Act.put, List.getElem_toArray, List.getElem_cons_zero, List.getElem_cons_succ, List.setIfInBounds_toArray, List.set_cons_zero, List.set_cons_succ]
    refine wpAnyH_take (i := 5) (v := ?_) rfl (by kernel_rfl) (by kernel_rfl) (by kernel_rfl) (fun _ _ _ h => h) (Or.inl ⟨by kernel_rfl, ?_⟩) hH1 ?_
    rotate_left 1
    · intro w hSw
      go_simp
      try with_reducible rfl
    try simp only [Act.put, List.getElem_toArray, List.getElem_cons_zero, List.getElem_cons_succ, List.setIfInBounds_toArray, List.set_cons_zero, List.set_cons_succ]
    refine wpAnyH_take (i := 6) (v := ?_) rfl (by kernel_rfl) (by kernel_rfl) (by kernel_rfl) (fun _ _ _ h => h) (Or.inl ⟨by kernel_rfl, ?_⟩) hH1 ?_
    rotate_left 1
    · intro w hSw
      go_simp
      try with_reducible rfl
    try simp only [Act.put, List.getElem_toArray, List.getElem_cons_zero, List.getElem_cons_succ, List.setIfInBounds_toArray, List.set_cons_zero, List.set_cons_succ]
    refine wpAnyH_take (i := 7) (v := ?_) rfl (by kernel_rfl) (by kernel_rfl) (by kernel_rfl) (fun _ _ _ h => h) (Or.inl ⟨by kernel_rfl, ?_⟩) hH1 ?_
    rotate_left 1
    · intro w hSw
      have f0 := (hSw.cell (p := ⟨q.p, 1, none⟩) lp).trans x1
      go_simp
      try with_reducible rfl
    try simp only [Act.put, List.getElem_toArray, List.getElem_cons_zero, List.getElem_cons_succ, List.setIfInBounds_toArray, List.set_cons_zero, List.set_cons_succ]
    refine wpAnyH_take (i := 8) (v := _) rfl (by kernel_rfl) (by kernel_rfl) (by kernel_rfl) (fun _ _ _ h => h) (yieldsIf_load_mid (by kernel_rfl) _ _ rfl _ _ rfl NC.toList _ (fun W hW => range_below r0 hW l0) nund rfl ndix) hH1 ?_
    try simp only [Act.put, List.getElem_toArray, List.getElem_cons_zero, List.getElem_cons_succ, List.setIfInBounds_toArray, List.set_cons_zero, List.set_cons_succ]
    refine wpAnyH_take (i := 9) (v := _) rfl (by kernel_rfl) (by kernel_rfl) (by kernel_rfl) (fun _ _ _ h => h) (yieldsIf_lookup (by kernel_rfl) 116 (.tmp 16) (.tmp 17) rfl (.pointer none) (fun W hW => hlook.out W hW)) hH1 ?_
    try simp only [Act.put, List.getElem_toArray, List.getElem_cons_zero, List.getElem_cons_succ, List.setIfInBounds_toArray, List.set_cons_zero, List.set_cons_succ]
    refine wpAnyH_take (i := 10) (v := ?_) rfl (by kernel_rfl) (by kernel_rfl) (by kernel_rfl) (fun _ _ _ h => h) (Or.inl ⟨by kernel_rfl, ?_⟩) hH1 ?_
    rotate_left 1
    · intro w hSw
      go_simp
      try with_reducible rfl
    try simp only [Act.put, List.getElem_toArray, List.getElem_cons_zero, List.getElem_cons_succ, List.setIfInBounds_toArray, List.set_cons_zero, List.set_cons_succ]
    refine wpAnyH_take (i := 11) (v := ?_) rfl (by kernel_rfl) (by kernel_rfl) (by kernel_rfl) (fun _ _ _ h => h) (Or.inl ⟨by kernel_rfl, ?_⟩) hH1 ?_
    rotate_left 1
    · intro w hSw
      go_simp
      try with_reducible rfl
    try simp only [Act.put, List.getElem_toArray, List.getElem_cons_zero, List.getElem_cons_succ, List.setIfInBounds_toArray, List.set_cons_zero, List.set_cons_succ]
    refine wpAnyH_done (by kernel_rfl) ?_ _
    have HH := Lib.hid hH1
    clear hH1
    go_wp2_with fail
    go_ret2
    exact ⟨rfl, Hb1.out.trans (HH.out.mono Hb1.out.size)⟩
  exact AllReadyH.nil

set_option maxHeartbeats 4000000 in
set_option maxRecDepth 100000 in
theorem find_ok (K : List Int) (q : HvP) (d : HvD) (j : Nat) (e : HEnt) (w : World) (h : HvAt w q d) (hL : Laid K w) (hr : d.ready) (hj : d.L[j]? = some e) (hc : d.clk < 1000000) (htx : St.read d.s e.at_ = textS K e.row) :
    Calls Tryd.prog 70 #[.pointer (some ⟨q.p, 0, none⟩), .agg (Value.bool e.isB :: byV e.id).toArray] w fun r w' => r = .returned (.tuple #[.string ⟨e.row.toArray⟩, .bool true]) ∧ HvAt w' q { d with L := d.L.set j { e with used := ((d.clk + 1 : Nat) : Int) }, clk := d.clk + 1 } ∧ Only (q.own d.L) w w' := by
  have he := List.mem_of_getElem? hj
  have hfe := h.fit e he
  have hid := hfe.1
  obtain ⟨NC, hNC⟩ : ∃ x, x = (Value.bool e.isB :: byV e.id).toArray := ⟨_, rfl⟩
  have hNl : NC.toList.length = 33 := by rw [hNC]; simp [byV_length, hid]
  have hb1 := (Below.refl w.heap.size w).alloc (Nat.le_refl _) (.cells NC 127)
  have hn0 := heap_alloc_new w (.cells NC 127)
  have h1 := h.below hb1
  have hL1 := hL.below hb1
  obtain ⟨w1, hw1⟩ : ∃ y, y = w.alloc (.cells NC 127) := ⟨_, rfl⟩
  obtain ⟨n0, hn⟩ : ∃ y, y = w.heap.size := ⟨_, rfl⟩
  rw [← hw1] at h1 hn0 hb1 hL1
  rw [← hn] at hn0
  have hrd := Lib.hid (fun W (hW : Below w1.heap.size w1 W) => ready_ok q d W (h1.below hW) hr)
  have r0 : w1.rangeAt n0 0 NC.toList := fun k v hv => by rw [Lib.cell_of_heap hn0, Nat.zero_add]; simpa using hv
  have l0 : n0 < w1.heap.size := heap_lt hn0
  have x1 := (hv_cells h1).2.1
  have lp : q.p < w1.heap.size := heap_lt h1.hp
  have ndix : (Tryd.prog.info? 127).map (·.size) = some NC.toList.length := by rw [name_info, hNl]
  have nund := Tryd.underlying127
  have H := Lib.hid h
  have H1 := Lib.hid h1
  have HL1 := Lib.hid hL1
  have Hb1 := Lib.hid hb1
  have Hn := Lib.hid hn
  have Hw1 := Lib.hid hw1
  have HNC := Lib.hid hNC
  have Hid' := Lib.hid hid
  have hlook := Lib.hid (fun W (hW : Below w1.heap.size w1 W) => look_yes (h1.below hW) he)
  rw [show nameV (e.isB, e.id) = .agg NC from by rw [hNC]; rfl] at hlook
  rw [← hNC]
  have hread := Lib.hid (fun W (hW : Below w1.heap.size w1 W) => (read_any q.b q.g d.s e.at_ W (h1.below hW).sh).mono fun r w' hh => (And.intro hh.1 (hh.2 ▸ Below.refl W.heap.size W) : _ ∧ Below W.heap.size W w'))
  have htext := Lib.hid (fun W (hW : Below w1.heap.size w1 W) => htext_any K e.row W (hL1.below hW) (by have := hfe.2.2; omega))
  obtain ⟨y33, y34, y35, -⟩ := ent_cells hfe (h1.ents e he)
  have lb : e.blk < w1.heap.size := heap_lt (h1.ents e he)
  have x0 := (hv_cells h1).1
  obtain ⟨tx, htx'⟩ : ∃ t, t = textS K e.row := ⟨_, rfl⟩
  simp only [htx] at hread
  rw [← htx'] at hread htext
  have Hj := Lib.hid hj
  obtain ⟨bk, hbk⟩ : ∃ x, x = e.blk := ⟨_, rfl⟩
  obtain ⟨rw_, hrw⟩ : ∃ x, x = e.row := ⟨_, rfl⟩
  obtain ⟨ea, hea⟩ : ∃ x, x = e.at_ := ⟨_, rfl⟩
  rw [← hbk] at hlook y33 y34 y35 lb
  rw [← hrw] at y35 htext
  rw [← hea] at y33 hread
  have Hbk := Lib.hid hbk
  have Hrw := Lib.hid hrw
  have Hfe := Lib.hid hfe
  have He := Lib.hid he
  clear h h1 hL hL1 hb1 hn hw1 hn0 hNC hid hNl hr hj he htx htx' hfe hbk hrw hea
  go_enter Tryd.func70, Tryd.ntmps70
  go_upto_region 1 with fail
  rw [← Hw1.out, ← Hn.out]
  refine wp_region_held_drew (S := fun w' => Below w1.heap.size w1 w') (by kernel_rfl) ((Below.refl _ _).drew) (fun hH0 => ?_)
  obtain ⟨W0, hW0⟩ : ∃ W, W = w1.drew := ⟨_, rfl⟩
  rw [← hW0] at hH0 ⊢
  clear hW0
  refine wpAnyH_take (i := 0) (v := ?_) rfl (by kernel_rfl) (by kernel_rfl) (by kernel_rfl) (fun _ _ _ h => h) (Or.inl ⟨by kernel_rfl, ?_⟩) hH0 ?_
  rotate_left 1
  · intro w hSw
    go_simp
    try with_reducible rfl
  try simp only [Act.put, List.getElem_toArray, List.getElem_cons_zero, List.getElem_cons_succ, List.setIfInBounds_toArray, List.set_cons_zero, List.set_cons_succ]
  refine wpAnyH_ready (rs := [1]) (by kernel_rfl) (by simp) ?_
  refine AllReadyH.cons rfl (fun K_ hK => ?_) ?_
  · go_simp
    refine (hrd.out W0 hH0).mono ?_
    rintro e W1 ⟨rfl, hb1⟩
    refine hK.out _ _ ((hH0).trans (hb1.mono (hH0).size)) (fun hH1 => ?_)
    clear hK K_
    try simp only [Act.put, List.getElem_toArray, List.getElem_cons_zero, List.getElem_cons_succ, List.setIfInBounds_toArray, List.set_cons_zero, List.set_cons_succ]
    refine wpAnyH_take (i := 2) (v := ?_) rfl (by kernel_rfl) (by kernel_rfl) (by kernel_rfl) (fun _ _ _ h => h) (Or.inl ⟨by kernel_rfl, ?_⟩) hH1 ?_
    rotate_left 1
    · intro w hSw
      go_simp
      try with_reducible rfl
    try simp only [Act.put, List.getElem_toArray, List.getElem_cons_zero, List.getElem_cons_succ, List.setIfInBounds_toArray, List.set_cons_zero, List.set_cons_succ]
    refine wpAnyH_take (i := 3) (v := ?_) rfl (by kernel_rfl) (by kernel_rfl) (by kernel_rfl) (fun _ _ _ h => h) (Or.inl ⟨by kernel_rfl, ?_⟩) hH1 ?_
    rotate_left 1
    · intro w hSw
      go_simp
      try with_reducible rfl
    try simp only [Act.put, List.getElem_toArray, List.getElem_cons_zero, List.getElem_cons_succ, List.setIfInBounds_toArray, List.set_cons_zero, List.set_cons_succ]
    refine wpAnyH_take (i := 4) (v := ?_) rfl (by kernel_rfl) (by kernel_rfl) (by kernel_rfl) (fun _ _ _ h => h) (Or.inl ⟨by kernel_rfl, ?_⟩) hH1 ?_
    rotate_left 1
    · intro w hSw
      go_simp
      try with_reducible rfl
    try simp only [Act.put, List.getElem_toArray, List.getElem_cons_zero, List.getElem_cons_succ, List.setIfInBounds_toArray, List.set_cons_zero, List.set_cons_succ]
    refine wpAnyH_take (i := 5) (v := ?_) rfl (by kernel_rfl) (by kernel_rfl) (by kernel_rfl) (fun _ _ _ h => h) (Or.inl ⟨by kernel_rfl, ?_⟩) hH1 ?_
    rotate_left 1
    · intro w hSw
      go_simp
      try with_reducible rfl
    try simp only [Act.put, List.getElem_toArray, List.getElem_cons_zero, List.getElem_cons_succ, List.setIfInBounds_toArray, List.set_cons_zero, List.set_cons_succ]
    refine wpAnyH_take (i := 6) (v := ?_) rfl (by kernel_rfl) (by kernel_rfl) (by kernel_rfl) (fun _ _ _ h => h) (Or.inl ⟨by kernel_rfl, ?_⟩) hH1 ?_
    rotate_left 1
    · intro w hSw
      go_simp
      try with_reducible rfl
    try simp only [Act.put, List.getElem_toArray, List.getElem_cons_zero, List.getElem_cons_succ, List.setIfInBounds_toArray, List.set_cons_zero, List.set_cons_succ]
    refine wpAnyH_take (i := 7) (v := ?_) rfl (by kernel_rfl) (by kernel_rfl) (by kernel_rfl) (fun _ _ _ h => h) (Or.inl ⟨by kernel_rfl, ?_⟩) hH1 ?_
    rotate_left 1
    · intro w hSw
      have f0 := (hSw.cell (p := ⟨q.p, 1, none⟩) lp).trans x1
      go_simp
      try with_reducible rfl
    try simp only [Act.put, List.getElem_toArray, List.getElem_cons_zero, List.getElem_cons_succ, List.setIfInBounds_toArray, List.set_cons_zero, List.set_cons_succ]
    refine wpAnyH_take (i := 8) (v := _) rfl (by kernel_rfl) (by kernel_rfl) (by kernel_rfl) (fun _ _ _ h => h) (yieldsIf_load_mid (by kernel_rfl) _ _ rfl _ _ rfl NC.toList _ (fun W hW => range_below r0 hW l0) nund rfl ndix) hH1 ?_
    try simp only [Act.put, List.getElem_toArray, List.getElem_cons_zero, List.getElem_cons_succ, List.setIfInBounds_toArray, List.set_cons_zero, List.set_cons_succ]
    refine wpAnyH_take (i := 9) (v := _) rfl (by kernel_rfl) (by kernel_rfl) (by kernel_rfl) (fun _ _ _ h => h) (yieldsIf_lookup (by kernel_rfl) 116 (.tmp 16) (.tmp 17) rfl (.pointer (some ⟨bk, 0, none⟩)) (fun W hW => hlook.out W hW)) hH1 ?_
    try simp only [Act.put, List.getElem_toArray, List.getElem_cons_zero, List.getElem_cons_succ, List.setIfInBounds_toArray, List.set_cons_zero, List.set_cons_succ]
    refine wpAnyH_take (i := 10) (v := ?_) rfl (by kernel_rfl) (by kernel_rfl) (by kernel_rfl) (fun _ _ _ h => h) (Or.inl ⟨by kernel_rfl, ?_⟩) hH1 ?_
    rotate_left 1
    · intro w hSw
      go_simp
      try with_reducible rfl
    try simp only [Act.put, List.getElem_toArray, List.getElem_cons_zero, List.getElem_cons_succ, List.setIfInBounds_toArray, List.set_cons_zero, List.set_cons_succ]
    refine wpAnyH_take (i := 11) (v := ?_) rfl (by kernel_rfl) (by kernel_rfl) (by kernel_rfl) (fun _ _ _ h => h) (Or.inl ⟨by kernel_rfl, ?_⟩) hH1 ?_
    rotate_left 1
    · intro w hSw
      go_simp
      try with_reducible rfl
    try simp only [Act.put, List.getElem_toArray, List.getElem_cons_zero, List.getElem_cons_succ, List.setIfInBounds_toArray, List.set_cons_zero, List.set_cons_succ]
    refine wpAnyH_done (by kernel_rfl) ?_ _
    have HH := Lib.hid hH1
    obtain ⟨w2, hw2⟩ : ∃ y, y = W1 := ⟨_, rfl⟩
    rw [← hw2] at HH ⊢
    clear hH1 hw2
    go_upto_region 3 with fail
    have x1b : w2.cell? ⟨q.p, 1, none⟩ = some (.map (some q.ma)) := (HH.out.cell (p := ⟨q.p, 1, none⟩) lp).trans x1
    have r0b := range_below r0 HH.out l0
    have lpb : q.p < w2.heap.size := Nat.lt_of_lt_of_le lp HH.out.size
    have l0b : n0 < w2.heap.size := Nat.lt_of_lt_of_le l0 HH.out.size
    have hlook2 := Lib.hid (fun W (hW : Below w2.heap.size w2 W) => hlook.out W (HH.out.trans (hW.mono HH.out.size)))
    refine wp_region_held_drew (S := fun w' => Below w2.heap.size w2 w') (by kernel_rfl) ((Below.refl _ _).drew) (fun hH0 => ?_)
    obtain ⟨W0, hW0⟩ : ∃ W, W = w2.drew := ⟨_, rfl⟩
    rw [← hW0] at hH0 ⊢
    clear hW0
    refine wpAnyH_take (i := 0) (v := ?_) rfl (by kernel_rfl) (by kernel_rfl) (by kernel_rfl) (fun _ _ _ h => h) (Or.inl ⟨by kernel_rfl, ?_⟩) hH0 ?_
    rotate_left 1
    · intro w hSw
      go_simp
      try with_reducible rfl
    try simp only [Act.put, List.getElem_toArray, List.getElem_cons_zero, List.getElem_cons_succ, List.setIfInBounds_toArray, List.set_cons_zero, List.set_cons_succ]
    refine wpAnyH_take (i := 1) (v := ?_) rfl (by kernel_rfl) (by kernel_rfl) (by kernel_rfl) (fun _ _ _ h => h) (Or.inl ⟨by kernel_rfl, ?_⟩) hH0 ?_
    rotate_left 1
    · intro w hSw
      go_simp
      try with_reducible rfl
    try simp only [Act.put, List.getElem_toArray, List.getElem_cons_zero, List.getElem_cons_succ, List.setIfInBounds_toArray, List.set_cons_zero, List.set_cons_succ]
    refine wpAnyH_take (i := 2) (v := ?_) rfl (by kernel_rfl) (by kernel_rfl) (by kernel_rfl) (fun _ _ _ h => h) (Or.inl ⟨by kernel_rfl, ?_⟩) hH0 ?_
    rotate_left 1
    · intro w hSw
      go_simp
      try with_reducible rfl
    try simp only [Act.put, List.getElem_toArray, List.getElem_cons_zero, List.getElem_cons_succ, List.setIfInBounds_toArray, List.set_cons_zero, List.set_cons_succ]
    refine wpAnyH_take (i := 3) (v := ?_) rfl (by kernel_rfl) (by kernel_rfl) (by kernel_rfl) (fun _ _ _ h => h) (Or.inl ⟨by kernel_rfl, ?_⟩) hH0 ?_
    rotate_left 1
    · intro w hSw
      have f0 := (hSw.cell (p := ⟨q.p, 1, none⟩) lpb).trans x1b
      go_simp
      try with_reducible rfl
    try simp only [Act.put, List.getElem_toArray, List.getElem_cons_zero, List.getElem_cons_succ, List.setIfInBounds_toArray, List.set_cons_zero, List.set_cons_succ]
    refine wpAnyH_take (i := 4) (v := _) rfl (by kernel_rfl) (by kernel_rfl) (by kernel_rfl) (fun _ _ _ h => h) (yieldsIf_load_mid (by kernel_rfl) _ _ rfl _ _ rfl NC.toList _ (fun W hW => range_below r0b hW l0b) nund rfl ndix) hH0 ?_
    try simp only [Act.put, List.getElem_toArray, List.getElem_cons_zero, List.getElem_cons_succ, List.setIfInBounds_toArray, List.set_cons_zero, List.set_cons_succ]
    refine wpAnyH_take (i := 5) (v := _) rfl (by kernel_rfl) (by kernel_rfl) (by kernel_rfl) (fun _ _ _ h => h) (yieldsIf_lookup (by kernel_rfl) 116 (.tmp 24) (.tmp 25) rfl (.pointer (some ⟨bk, 0, none⟩)) (fun W hW => hlook2.out W hW)) hH0 ?_
    try simp only [Act.put, List.getElem_toArray, List.getElem_cons_zero, List.getElem_cons_succ, List.setIfInBounds_toArray, List.set_cons_zero, List.set_cons_succ]
    refine wpAnyH_take (i := 6) (v := ?_) rfl (by kernel_rfl) (by kernel_rfl) (by kernel_rfl) (fun _ _ _ h => h) (Or.inl ⟨by kernel_rfl, ?_⟩) hH0 ?_
    rotate_left 1
    · intro w hSw
      go_simp
      try with_reducible rfl
    try simp only [Act.put, List.getElem_toArray, List.getElem_cons_zero, List.getElem_cons_succ, List.setIfInBounds_toArray, List.set_cons_zero, List.set_cons_succ]
    refine wpAnyH_done (by kernel_rfl) ?_ _
    have H3 := Lib.hid (HH.out.trans ((hH0).mono HH.out.size))
    obtain ⟨w3, hw3⟩ : ∃ y, y = W0 := ⟨_, rfl⟩
    rw [← hw3] at H3 ⊢
    clear hH0 hw3 hlook2 x1b r0b lpb l0b
    go_upto_region 4 with fail
    have x0b : w3.cell? ⟨q.p, 0, none⟩ = some (.pointer (some ⟨q.b, 0, none⟩)) := (H3.out.cell (p := ⟨q.p, 0, none⟩) lp).trans x0
    have y33b : w3.cell? ⟨bk, 33, none⟩ = some (.int .i64 ea) := (H3.out.cell (p := ⟨bk, 33, none⟩) lb).trans y33
    have lpc : q.p < w3.heap.size := Nat.lt_of_lt_of_le lp H3.out.size
    have lbc : bk < w3.heap.size := Nat.lt_of_lt_of_le lb H3.out.size
    have hread3 := Lib.hid (fun W (hW : Below w3.heap.size w3 W) => hread.out W (H3.out.trans (hW.mono H3.out.size)))
    refine wp_region_held_drew (S := fun w' => Below w3.heap.size w3 w') (by kernel_rfl) ((Below.refl _ _).drew) (fun hH0 => ?_)
    obtain ⟨W0, hW0⟩ : ∃ W, W = w3.drew := ⟨_, rfl⟩
    rw [← hW0] at hH0 ⊢
    clear hW0
    refine wpAnyH_take (i := 0) (v := ?_) rfl (by kernel_rfl) (by kernel_rfl) (by kernel_rfl) (fun _ _ _ h => h) (Or.inl ⟨by kernel_rfl, ?_⟩) hH0 ?_
    rotate_left 1
    · intro w hSw
      go_simp
      try with_reducible rfl
    try simp only [Act.put, List.getElem_toArray, List.getElem_cons_zero, List.getElem_cons_succ, List.setIfInBounds_toArray, List.set_cons_zero, List.set_cons_succ]
    refine wpAnyH_take (i := 1) (v := ?_) rfl (by kernel_rfl) (by kernel_rfl) (by kernel_rfl) (fun _ _ _ h => h) (Or.inl ⟨by kernel_rfl, ?_⟩) hH0 ?_
    rotate_left 1
    · intro w hSw
      go_simp
      try with_reducible rfl
    try simp only [Act.put, List.getElem_toArray, List.getElem_cons_zero, List.getElem_cons_succ, List.setIfInBounds_toArray, List.set_cons_zero, List.set_cons_succ]
    refine wpAnyH_take (i := 2) (v := ?_) rfl (by kernel_rfl) (by kernel_rfl) (by kernel_rfl) (fun _ _ _ h => h) (Or.inl ⟨by kernel_rfl, ?_⟩) hH0 ?_
    rotate_left 1
    · intro w hSw
      go_simp
      try with_reducible rfl
    try simp only [Act.put, List.getElem_toArray, List.getElem_cons_zero, List.getElem_cons_succ, List.setIfInBounds_toArray, List.set_cons_zero, List.set_cons_succ]
    refine wpAnyH_take (i := 3) (v := ?_) rfl (by kernel_rfl) (by kernel_rfl) (by kernel_rfl) (fun _ _ _ h => h) (Or.inl ⟨by kernel_rfl, ?_⟩) hH0 ?_
    rotate_left 1
    · intro w hSw
      have f0 := (hSw.cell (p := ⟨q.p, 0, none⟩) lpc).trans x0b
      have f1 := (hSw.cell (p := ⟨bk, 33, none⟩) lbc).trans y33b
      go_simp
      try with_reducible rfl
    try simp only [Act.put, List.getElem_toArray, List.getElem_cons_zero, List.getElem_cons_succ, List.setIfInBounds_toArray, List.set_cons_zero, List.set_cons_succ]
    refine wpAnyH_take (i := 4) (v := ?_) rfl (by kernel_rfl) (by kernel_rfl) (by kernel_rfl) (fun _ _ _ h => h) (Or.inl ⟨by kernel_rfl, ?_⟩) hH0 ?_
    rotate_left 1
    · intro w hSw
      go_simp
      try with_reducible rfl
    try simp only [Act.put, List.getElem_toArray, List.getElem_cons_zero, List.getElem_cons_succ, List.setIfInBounds_toArray, List.set_cons_zero, List.set_cons_succ]
    refine wpAnyH_take (i := 5) (v := ?_) rfl (by kernel_rfl) (by kernel_rfl) (by kernel_rfl) (fun _ _ _ h => h) (Or.inl ⟨by kernel_rfl, ?_⟩) hH0 ?_
    rotate_left 1
    · intro w hSw
      go_simp
      try with_reducible rfl
    try simp only [Act.put, List.getElem_toArray, List.getElem_cons_zero, List.getElem_cons_succ, List.setIfInBounds_toArray, List.set_cons_zero, List.set_cons_succ]
    refine wpAnyH_take (i := 6) (v := ?_) rfl (by kernel_rfl) (by kernel_rfl) (by kernel_rfl) (fun _ _ _ h => h) (Or.inl ⟨by kernel_rfl, ?_⟩) hH0 ?_
    rotate_left 1
    · intro w hSw
      go_simp
      try with_reducible rfl
    try simp only [Act.put, List.getElem_toArray, List.getElem_cons_zero, List.getElem_cons_succ, List.setIfInBounds_toArray, List.set_cons_zero, List.set_cons_succ]
    refine wpAnyH_take (i := 7) (v := ?_) rfl (by kernel_rfl) (by kernel_rfl) (by kernel_rfl) (fun _ _ _ h => h) (Or.inl ⟨by kernel_rfl, ?_⟩) hH0 ?_
    rotate_left 1
    · intro w hSw
      have f0 := (hSw.cell (p := ⟨q.p, 0, none⟩) lpc).trans x0b
      have f1 := (hSw.cell (p := ⟨bk, 33, none⟩) lbc).trans y33b
      go_simp
      try with_reducible rfl
    try simp only [Act.put, List.getElem_toArray, List.getElem_cons_zero, List.getElem_cons_succ, List.setIfInBounds_toArray, List.set_cons_zero, List.set_cons_succ]
    refine wpAnyH_ready (rs := [8]) (by kernel_rfl) (by simp) ?_
    refine AllReadyH.cons rfl (fun K_ hK => ?_) ?_
    · go_simp
      refine (hread3.out W0 hH0).mono ?_
      rintro e W1 ⟨rfl, hb1⟩
      refine hK.out _ _ ((hH0).trans (hb1.mono (hH0).size)) (fun hH1 => ?_)
      clear hK K_
      try simp only [Act.put, List.getElem_toArray, List.getElem_cons_zero, List.getElem_cons_succ, List.setIfInBounds_toArray, List.set_cons_zero, List.set_cons_succ]
      refine wpAnyH_take (i := 9) (v := ?_) rfl (by kernel_rfl) (by kernel_rfl) (by kernel_rfl) (fun _ _ _ h => h) (Or.inl ⟨by kernel_rfl, ?_⟩) hH1 ?_
      rotate_left 1
      · intro w hSw
        go_simp
        try with_reducible rfl
      try simp only [Act.put, List.getElem_toArray, List.getElem_cons_zero, List.getElem_cons_succ, List.setIfInBounds_toArray, List.set_cons_zero, List.set_cons_succ]
      refine wpAnyH_take (i := 10) (v := ?_) rfl (by kernel_rfl) (by kernel_rfl) (by kernel_rfl) (fun _ _ _ h => h) (Or.inl ⟨by kernel_rfl, ?_⟩) hH1 ?_
      rotate_left 1
      · intro w hSw
        go_simp
        try with_reducible rfl
      try simp only [Act.put, List.getElem_toArray, List.getElem_cons_zero, List.getElem_cons_succ, List.setIfInBounds_toArray, List.set_cons_zero, List.set_cons_succ]
      refine wpAnyH_take (i := 11) (v := ?_) rfl (by kernel_rfl) (by kernel_rfl) (by kernel_rfl) (fun _ _ _ h => h) (Or.inl ⟨by kernel_rfl, ?_⟩) hH1 ?_
      rotate_left 1
      · intro w hSw
        go_simp
        try with_reducible rfl
      try simp only [Act.put, List.getElem_toArray, List.getElem_cons_zero, List.getElem_cons_succ, List.setIfInBounds_toArray, List.set_cons_zero, List.set_cons_succ]
      refine wpAnyH_take (i := 12) (v := ?_) rfl (by kernel_rfl) (by kernel_rfl) (by kernel_rfl) (fun _ _ _ h => h) (Or.inl ⟨by kernel_rfl, ?_⟩) hH1 ?_
      rotate_left 1
      · intro w hSw
        go_simp
        try with_reducible rfl
      try simp only [Act.put, List.getElem_toArray, List.getElem_cons_zero, List.getElem_cons_succ, List.setIfInBounds_toArray, List.set_cons_zero, List.set_cons_succ]
      refine wpAnyH_take (i := 13) (v := ?_) rfl (by kernel_rfl) (by kernel_rfl) (by kernel_rfl) (fun _ _ _ h => h) (Or.inl ⟨by kernel_rfl, ?_⟩) hH1 ?_
      rotate_left 1
      · intro w hSw
        go_simp
        try with_reducible rfl
      try simp only [Act.put, List.getElem_toArray, List.getElem_cons_zero, List.getElem_cons_succ, List.setIfInBounds_toArray, List.set_cons_zero, List.set_cons_succ]
      refine wpAnyH_done (by kernel_rfl) ?_ _
      have H4 := Lib.hid (H3.out.trans ((hH1).mono H3.out.size))
      obtain ⟨w4, hw4⟩ : ∃ y, y = W1 := ⟨_, rfl⟩
      rw [← hw4] at H4 ⊢
      clear hH1 hw4 hread3 x0b y33b lpc lbc
      have y35b : w4.cell? ⟨bk, 35, none⟩ = some (.string ⟨rw_.toArray⟩) := (H4.out.cell (p := ⟨bk, 35, none⟩) lb).trans y35
      have ht4 := Lib.hid (htext.out w4 H4.out)
      clear htext hread hlook hrd
      go_wp2_with fail
      refine ht4.out.mono ?_
      rintro r w5 ⟨rfl, hB5⟩
      have H5 := Lib.hid (H4.out.trans (hB5.mono H4.out.size))
      have h5 := H1.out.below H5.out
      have huse := Lib.hid (use_any q d j e w5 h5 Hj.out hc)
      rw [show (Value.pointer (some ⟨e.blk, 0, none⟩)) = .pointer (some ⟨bk, 0, none⟩) by rw [Hbk.out]] at huse
      have hself : ((⟨tx.toArray⟩ : ByteArray) != ⟨tx.toArray⟩) = false := by rw [ba_bneL]; simp
      clear hB5 ht4 h5 y35b
      go_wp2_with fail
      refine huse.out.mono ?_
      rintro r w6 ⟨rfl, h6, hO6⟩
      have hjl := (List.getElem?_eq_some_iff.1 Hj.out).1
      have hem : ({ e with used := ((d.clk + 1 : Nat) : Int) } : HEnt) ∈ d.L.set j { e with used := ((d.clk + 1 : Nat) : Int) } := List.mem_of_getElem? (by rw [List.getElem?_set_self hjl])
      have z35 : w6.cell? ⟨bk, 35, none⟩ = some (.string ⟨rw_.toArray⟩) := by
        have := (ent_cells (h6.fit _ hem) (h6.ents _ hem)).2.2.1
        rw [Hbk.out, Hrw.out]; exact this
      have H6 := Lib.hid h6
      have O6 := Lib.hid hO6
      clear h6 hO6 hem huse
      go_wp2_with fail
      go_ret2
      exact ⟨by rw [← Hrw.out]; rfl, H6.out, ((Only.of_below Hb1.out).trans (Only.of_below H5.out)).trans O6.out⟩
    exact AllReadyH.nil
  exact AllReadyH.nil
end Go.Proofs.YteihfoacdocgkaaDoor

set_option linter.unusedVariables false
set_option linter.unusedSimpArgs false
namespace Go.Proofs.YteihfoacdocgkaaDoor
open Go.RowKit Pl Sh
attribute [local go_sem] Lb.ba_get Lb.ba_cut Lb.ba_add Lb.ba_size Lb.take_rest

theorem parts_blob (b : List UInt8) (hb : b.length ≤ 512) : partsS (blobRowS b) = [[98], b] := by
  have h := rd_of_row [[98], b] [] 4 (by simp) (by
    intro t ht
    simp only [List.mem_cons, List.not_mem_nil, or_false] at ht
    rcases ht with rfl | rfl
    · simp
    · omega)
  rw [List.append_nil, if_pos (by simp)] at h
  unfold partsS blobRowS
  rw [h]
theorem asBlob_blob (b : List UInt8) (hb : b.length ≤ 512) : asBlobS (blobRowS b) = (b, true) := by
  unfold asBlobS
  rw [parts_blob b hb]
  exact if_pos ⟨rfl, hb⟩
theorem blobRow_len (b : List UInt8) (hb : b.length ≤ 512) : (blobRowS b).length ≤ 600 := by
  have h2 := num_length 2 (by omega)
  have h3 := num_length 1 (by omega)
  have h4 := num_length b.length (by omega)
  unfold blobRowS
  simp only [srow, textsB, textB, List.map_cons, List.map_nil, List.flatten_cons, List.flatten_nil, List.length_append, List.length_nil, List.length_cons, Nat.add_zero, Nat.zero_add, Nat.reduceAdd]
  have e8 := num_length_le (b.length : Int) (by omega) (by omega)
  have e2 := num_length_le 2 (by omega) (by omega)
  have e1 := num_length_le 1 (by omega) (by omega)
  omega

/-- the store has the blobs bl, in this order; so many calls are still good -/
structure KeptH (K : List Int) (d : HvD) (bl : List (List UInt8)) (k : Nat) : Prop where
  ready : d.ready
  armed : d.s.pw.armed = 0
  acts : d.s.pw.acts + k < 1000000
  life : d.s.pw.life < 1000
  slots : d.s.slots.length = 128
  lens : d.L.length = bl.length
  clk : d.clk + k < 1000000
  ents : ∀ (i : Nat) (e : HEnt), d.L[i]? = some e → ∃ b, bl[i]? = some b ∧ e.isB = true ∧ e.at_ = i ∧ e.id = hashB K b ∧ e.row = blobRowS b ∧ b.length ≤ 512 ∧ St.read d.s i = textS K (blobRowS b)
theorem KeptH.less {K : List Int} {d : HvD} {bl : List (List UInt8)} {k k' : Nat} (h : KeptH K d bl k) (hk : k' ≤ k) : KeptH K d bl k' := ⟨h.ready, h.armed, by have := h.acts; omega, h.life, h.slots, h.lens, by have := h.clk; omega, h.ents⟩
/-- the blob of a digest -/
def blobS (K : List Int) (bl : List (List UInt8)) (dg : List UInt8) : List UInt8 × Bool := match bl.find? (fun b => hashB K b == dg) with
  | some b => (b, true)
  | none => ([], false)
/-- a store in memory, in the blocks S -/
def StoreAt (K : List Int) (w : World) (q : HvP) (S : List Nat) (bl : List (List UInt8)) (k : Nat) : Prop := ∃ d, HvAt w q d ∧ KeptH K d bl k ∧ q.own d.L = S
theorem StoreAt.below {K : List Int} {w w' : World} {q : HvP} {S : List Nat} {bl : List (List UInt8)} {k : Nat} (h : StoreAt K w q S bl k) (hb : Below w.heap.size w w') : StoreAt K w' q S bl k := by
  obtain ⟨d, h1, h2, h3⟩ := h
  exact ⟨d, h1.below hb, h2, h3⟩
theorem StoreAt.keep {K : List Int} {w w' : World} {q : HvP} {S : List Nat} {bl : List (List UInt8)} {k : Nat} (h : StoreAt K w q S bl k) (hk : ∀ x ∈ S, w'.heap[x]? = w.heap[x]?) : StoreAt K w' q S bl k := by
  obtain ⟨d, h1, h2, h3⟩ := h
  exact ⟨d, h1.keep (by rw [h3]; exact hk), h2, h3⟩
theorem StoreAt.lt {K : List Int} {w : World} {q : HvP} {S : List Nat} {bl : List (List UInt8)} {k : Nat} (h : StoreAt K w q S bl k) : ∀ x ∈ S, x < w.heap.size := by
  obtain ⟨d, h1, -, h3⟩ := h
  rw [← h3]; exact h1.lt
theorem StoreAt.less {K : List Int} {w : World} {q : HvP} {S : List Nat} {bl : List (List UInt8)} {k k' : Nat} (h : StoreAt K w q S bl k) (hk : k' ≤ k) : StoreAt K w q S bl k' := by
  obtain ⟨d, h1, h2, h3⟩ := h
  exact ⟨d, h1, h2.less hk, h3⟩
theorem own_use {q : HvP} {L : List HEnt} {j : Nat} {e : HEnt} (hj : L[j]? = some e) (u : Int) : q.own (L.set j { e with used := u }) = q.own L := by
  unfold HvP.own
  rw [map_set_same _ _ _ e { e with used := u } hj rfl]
def namePlaces : List (Nat × Nat) := [(0, 1), (1, 32)]
set_option maxRecDepth 100000 in
theorem name_zero : (Tryd.prog.info? 127).map (·.zero) = some (some (.agg zeroName)) := by kernel_rfl
set_option maxRecDepth 100000 in
theorem built_name (b : Bool) (id : List UInt8) (h : id.length = 32) : Tryd.prog.built 127 [(0, .bool b), (1, .agg (byV id).toArray)] = some (Value.bool b :: byV id).toArray := by
  obtain ⟨it, hit, hz⟩ := Option.map_eq_some_iff.1 name_zero
  have hp : ∀ fs, Tryd.prog.underlying 127 = some (.struct fs) → fs.toList.mapM (fun f => (Tryd.prog.info? f.type).map fun i => (f.offset, i.size)) = some namePlaces := by
    intro fs h
    obtain rfl := (TypeDesc.struct.inj (Option.some.inj (Tryd.underlying127.symm.trans h)))
    kernel_rfl
  unfold Program.built
  rw [hit]
  simp only [Tryd.underlying127]
  rw [hz, hp _ Tryd.underlying127]
  have h1 := fill_seg (place := (namePlaces.toArray[·]?)) (i := 0) (v := .bool b) (rest := [(1, .agg (byV id).toArray)]) (pre := []) (old := [Value.bool false]) (vs := [Value.bool b]) (off := 0) (size := 1)
    (post := byV (List.replicate 32 0)) rfl rfl rfl rfl rfl
  have h2 := fill_seg (place := (namePlaces.toArray[·]?)) (i := 1) (v := .agg (byV id).toArray) (rest := []) (pre := [Value.bool b]) (old := byV (List.replicate 32 0)) (vs := byV id) (off := 1) (size := 32)
    (post := []) rfl (cells_agg _) (by rw [byV_length, h]) rfl rfl
  simp only [List.append_nil, List.nil_append, List.singleton_append] at h1 h2
  exact (h1.trans h2).trans (fill_nil _ _)

def BlobPost (K : List Int) (w : World) (q : HvP) (S : List Nat) (bl : List (List UInt8)) (dg : List UInt8) (k : Nat) (e : Ending) (w' : World) : Prop :=
  e = .returned (.tuple #[.string ⟨((blobS K bl dg).1).toArray⟩, .bool (blobS K bl dg).2]) ∧ StoreAt K w' q S bl k ∧ Only S w w'
end Go.Proofs.YteihfoacdocgkaaDoor

set_option linter.unusedVariables false
set_option linter.unusedSimpArgs false
namespace Go.Proofs.YteihfoacdocgkaaDoor
open Go.RowKit Pl Sh
attribute [local go_sem] Lb.ba_get Lb.ba_cut Lb.ba_add Lb.ba_size Lb.take_rest

theorem write_facts (s : St) (m : Nat) (t : List UInt8) (hd : s.pw.down = false) (ha : s.pw.armed = 0) (hm : m < s.slots.length) (ht : t.length ≤ 640) :
    St.writeErr s m t = 0 ∧ (St.write s m t).pw = { s.pw with acts := s.pw.acts + 1 } ∧ (St.write s m t).slots.length = s.slots.length ∧ St.read (St.write s m t) m = t ∧ ∀ i : Nat, i ≠ m → St.read (St.write s m t) i = St.read s i := by
  have h0 : St.atErr s m = 0 := by unfold St.atErr; rw [if_neg (by simp [hd]), if_neg (by omega)]
  have hpe : s.pw.err = 0 := by unfold Pw.err; rw [if_neg (by rw [ha]; decide)]
  have hw : St.write s m t = { pw := s.pw.act, slots := setNow s.slots m t } := by unfold St.write; rw [if_neg (by intro h; rcases h with h | h; exact h h0; omega)]; rfl
  have hact : s.pw.act = { s.pw with acts := s.pw.acts + 1 } := by unfold Pw.act; rw [if_pos ha]
  have hrd : ∀ i : Nat, St.read (St.write s m t) i = if St.atErr s i ≠ 0 then [] else (((setNow s.slots m t)[i]?).map Slot.now).getD [] := by
    intro i
    have e : St.atErr (St.write s m t) i = St.atErr s i := by
      rw [hw, hact]; unfold St.atErr; simp only [setNow_length]
    unfold St.read
    rw [e, hw]
    simp
  refine ⟨by unfold St.writeErr; rw [if_neg (by simpa using h0), if_neg (by omega), hpe], by rw [hw, hact], by rw [hw]; exact setNow_length _ _ _, ?_, fun i hi => ?_⟩
  · rw [hrd m, if_neg (by simpa using h0)]
    unfold setNow
    rw [List.getElem?_eq_getElem hm]
    simp [hm]
  · rw [hrd i]
    unfold St.read setNow
    rw [List.getElem?_eq_getElem hm]
    simp only [Int.toNat_natCast]
    rw [List.getElem?_set_ne (by omega)]
theorem setRow_other (w : World) (g : Nat) (cs : Array Value) {x : Nat} (h : x ≠ g) : (w.setRow g cs).heap[x]? = w.heap[x]? := by
  have := ((Only.refl [g] w).setRow (g := g) (by simp) cs)
  rcases Nat.lt_or_ge x w.heap.size with hx | hx
  · exact this.block x hx (by simpa using h)
  · have h1 : (w.setRow g cs).heap.size = w.heap.size := by simp [World.setRow]
    rw [Array.getElem?_eq_none (by omega), Array.getElem?_eq_none (by omega)]
/-- behind a store to a block of its own -/
theorem Only.trans' {S : List Nat} {w w' : World} (h : Only S w w') (g : Nat) (hg : w.heap.size ≤ g) (cs : Array Value) : Only S w (w'.setRow g cs) := by
  have h1 : Only (g :: S) w (w'.setRow g cs) := (h.mono (by intro x hx; simp [hx])).setRow (by simp) cs
  exact ⟨h1.os, h1.tape, h1.output, h1.size, fun i hi hn => h1.block i hi (by simp; exact ⟨by omega, hn⟩)⟩
/-- what PutBlob answers; what the store has then -/
def putS (K : List Int) (bl : List (List UInt8)) (b : List UInt8) : List UInt8 × Int × List (List UInt8) :=
  if 512 < b.length then (List.replicate 32 0, 33, bl) else if (blobS K bl (hashB K b)).2 = true then (hashB K b, 0, bl) else (hashB K b, 0, bl ++ [b])
def PutBPost (K : List Int) (w : World) (q : HvP) (S : List Nat) (bl : List (List UInt8)) (b : List UInt8) (k : Nat) (e : Ending) (w' : World) : Prop :=
  ∃ S', e = .returned (.tuple #[.agg (digV (putS K bl b).1), .int .i64 (putS K bl b).2.1]) ∧ StoreAt K w' q S' (putS K bl b).2.2 k ∧ Only S w w' ∧ ∀ x ∈ S', x ∈ S ∨ w.heap.size ≤ x
set_option maxRecDepth 100000 in
theorem built_dig0 : Tryd.prog.built 23 [] = some (digV (List.replicate 32 0)) := by kernel_rfl

end Go.Proofs.YteihfoacdocgkaaDoor

set_option linter.unusedVariables false
set_option linter.unusedSimpArgs false
namespace Go.Proofs.YteihfoacdocgkaaDoor
open Go.RowKit Pl Sh
attribute [local go_sem] Lb.ba_get Lb.ba_cut Lb.ba_add Lb.ba_size Lb.take_rest

theorem zeroName_one : zeroName.all (·.oneCell') = true := by kernel_rfl
theorem zeroName_info : (Tryd.prog.info? 127).map (·.size) = some zeroName.size := by kernel_rfl
set_option maxHeartbeats 4000000 in
set_option maxRecDepth 100000 in
theorem load_empty (q : HvP) (d : HvD) (w : World) (h : HvAt w q d) (hdn : d.s.pw.down = false) (hns : d.s.slots.length ≤ 128) (he : ∀ i : Nat, i < d.s.slots.length → St.read d.s i = []) :
    Calls Tryd.prog 65 #[.pointer (some ⟨q.p, 0, none⟩)] w fun r w' => r = .returned (.int .i64 0) ∧ Below w.heap.size w w' := by
  have hl := Lib.hid (len_any q.b q.g d.s w h.sh)
  have x0 := (hv_cells h).1
  obtain ⟨n, hn⟩ : ∃ n, n = d.s.slots.length := ⟨_, rfl⟩
  have hrd := Lib.hid (fun W (hW : Below w.heap.size w W) (i : Nat) (hi : i < n) => (read_any q.b q.g d.s i W (h.below hW).sh).mono fun r w' hh => (by
    rw [he i (by rw [← hn]; exact hi)] at hh
    rw [show St.atErr d.s i = 0 by unfold St.atErr; rw [if_neg (by simp [hdn]), if_neg (by omega)]] at hh
    exact And.intro hh.1 hh.2 : r = .returned (.tuple #[.string ⟨#[]⟩, .int .i64 0]) ∧ W = w'))
  rw [← hn] at hl hns
  have lp : q.p < w.heap.size := heap_lt h.hp
  have hfr := Lib.hid hread_free
  have nund := Tryd.underlying127
  have ndix := zeroName_info
  have none := zeroName_one
  obtain ⟨ZN, hZN⟩ : ∃ x, x = zeroName := ⟨_, rfl⟩
  rw [← hZN] at hfr ndix none
  have HZN := Lib.hid hZN
  clear h hdn he hn hZN
  go_enter Tryd.func65, Tryd.ntmps65
  go_wp2_with fail
  refine hl.out.mono ?_
  rintro r w1 ⟨rfl, rfl⟩
  clear hl
  go_wp2_with fail
  go_loopw [3, 16] (fun v i wr => ∃ k : Nat, k ≤ n ∧ v = .bool false ∧ i = .int .i64 k ∧ Below w.heap.size w wr) (fun _ i _ => n - (intOf i).toNat)
  case atStart => exact ⟨0, by omega, rfl, rfl, Below.refl _ _⟩
  case round =>
    obtain ⟨k, hk, rfl, rfl, hb⟩ := hrel
    by_cases hkn : k < n
    · have j1 : (k : Int) < (n : Int) := by omega
      have x0r : wr.cell? ⟨q.p, 0, .none⟩ = some (.pointer (some ⟨q.b, 0, .none⟩)) := (hb.cell (p := ⟨q.p, 0, .none⟩) lp).trans x0
      have hr := Lib.hid (hrd.out wr hb k hkn)
      have Hb := Lib.hid hb
      clear hb
      go_wp2_with fail
      refine hr.out.mono ?_
      rintro r w2 ⟨rfl, rfl⟩
      clear hr
      go_wp2_with fail
      refine (hfr.out _).mono ?_
      rintro r w3 ⟨rfl, hB3⟩
      have hb3 : Below w.heap.size w w3 := Hb.out.trans (hB3.mono Hb.out.size)
      have Hb3 := Lib.hid hb3
      clear hB3 hb3
      go_upto_region 7 with (refine wpList_store_row rfl 127 _ _ rfl w3.heap.size ZN rfl rfl 127 _ (heap_alloc_new w3 _) ndix (by rw [HZN.out]; rfl) none ?_)
      show Code.wp _ _ _ _ ((w3.alloc (.cells zeroName 127)).setRow w3.heap.size ZN)
      have hB4 : Below w3.heap.size w3 ((w3.alloc (.cells zeroName 127)).setRow w3.heap.size ZN) := (Only.below (((Only.refl [w3.heap.size] w3).alloc _).setRow (by simp) _) (Nat.le_refl _) (by simp))
      obtain ⟨w4, hw4⟩ : ∃ y, y = ((w3.alloc (.cells zeroName 127)).setRow w3.heap.size ZN) := ⟨_, rfl⟩
      rw [← hw4] at hB4 ⊢
      have Hb4 := Lib.hid (Hb3.out.trans (hB4.mono Hb3.out.size))
      clear hw4 hB4
      go_quiet (fail)
      go_wp2_with fail
      go_roundw
      case rel => exact ⟨k + 1, by omega, rfl, by go_num, below_drewN'' Hb4.out _⟩
      case measure => simp [intOf]; omega
    · obtain rfl : n = k := by omega
      have Hb := Lib.hid hb
      go_wp2_with fail
      go_ret
      exact ⟨rfl, Hb.out⟩

theorem wpList_build5 {P : Program} {ops : Array Oper} {rest : List Oper} {o : Oper} {a : Act} {w : World} {Q : Exit → Act → World → Prop} (hg : o.guard = none) (t : TypeId) (i j k l m : Nat) (x y z u v : Operand) (ho : o.op = .build t #[(i, x), (j, y), (k, z), (l, u), (m, v)])
    (vx vy vz vu vv : Value) (hx : a.eval x = vx) (hy : a.eval y = vy) (hz : a.eval z = vz) (hu : a.eval u = vu) (hv : a.eval v = vv) (C : Array Value) (hB : P.built t [(i, vx), (j, vy), (k, vz), (l, vu), (m, vv)] = some C)
    (h : wpList P ops Q rest (a.put o.dst (.agg C)) w) : wpList P ops Q (o :: rest) a w := by
  have e : ((#[(i, x), (j, y), (k, z), (l, u), (m, v)] : Array (Nat × Operand)).map fun (i, x) => (i, a.eval x)).toList = [(i, vx), (j, vy), (k, vz), (l, vu), (m, vv)] := by simp [hx, hy, hz, hu, hv]
  refine wpList_build hg t _ ho ?_ ?_
  · rw [e, hB]; rfl
  · rw [e, hB]; exact h
set_option maxRecDepth 100000 in
theorem built_hive (b ma mt mp : Nat) (life : Int) : Tryd.prog.built 120 [(0, .pointer (some ⟨b, 0, none⟩)), (1, .map (some ma)), (2, .map (some mt)), (3, .map (some mp)), (5, .int .i64 life)] = some (hvCells b ma mt mp 0 life false) := by kernel_rfl
def OpenPost (w : World) (b g : Nat) (s : St) (e : Ending) (w' : World) : Prop :=
  ∃ q : HvP, q.b = b ∧ q.g = g ∧ e = .returned (.tuple #[.pointer (some ⟨q.p, 0, none⟩), .int .i64 0]) ∧ HvAt w' q ⟨s, [], [], 0, s.pw.life, false⟩ ∧ (∀ x ∈ [q.p, q.ma, q.mt, q.mp], w.heap.size ≤ x) ∧ Below w.heap.size w w'
set_option maxHeartbeats 4000000 in
set_option maxRecDepth 100000 in
theorem open_empty (b g : Nat) (s : St) (w : World) (h : ShAt w b g s) (hdn : s.pw.down = false) (hns : s.slots.length ≤ 128) (he : ∀ i : Nat, i < s.slots.length → St.read s i = []) :
    Calls Tryd.prog 19 #[.pointer (some ⟨b, 0, none⟩)] w (OpenPost w b g s) := by
  obtain ⟨n, hn⟩ : ∃ n, n = w.heap.size := ⟨_, rfl⟩
  have lb : b < n := by rw [hn]; exact heap_lt h.pw
  have lg : g < n := by rw [hn]; exact heap_lt h.slots
  obtain ⟨wa, hwa⟩ : ∃ x, x = w.alloc (.map #[] 0) := ⟨_, rfl⟩
  obtain ⟨wb, hwb⟩ : ∃ x, x = wa.alloc (.map #[] 0) := ⟨_, rfl⟩
  obtain ⟨wc, hwc⟩ : ∃ x, x = wb.alloc (.map #[] 0) := ⟨_, rfl⟩
  have sa : wa.heap.size = n + 1 := by rw [hwa, hn]; simp
  have sb : wb.heap.size = n + 2 := by rw [hwb]; simp [sa]
  have sc : wc.heap.size = n + 3 := by rw [hwc]; simp [sb]
  have ba : Below n w wa := by rw [hwa, hn]; exact (Below.refl _ w).alloc (Nat.le_refl _) _
  have bb : Below n w wb := by rw [hwb]; exact ba.alloc (by omega) _
  have bc : Below n w wc := by rw [hwc]; exact bb.alloc (by omega) _
  obtain ⟨wd, hwd⟩ : ∃ x, x = wc.alloc (.cells (hvCells b n (n + 1) (n + 2) 0 s.pw.life false) 120) := ⟨_, rfl⟩
  have bd : Below n w wd := by rw [hwd]; exact bc.alloc (by omega) _
  have ha : MapAt nameV (fun x => x.2.length = 32) wd n [] := by
    have h0 : MapAt nameV (fun x => x.2.length = 32) wa n [] := by rw [hwa, hn]; exact mapAt_made w
    exact ((h0.keep (w' := wb) (by rw [hwb]; exact heap_alloc_old wa _ (by omega))).keep (w' := wc) (by rw [hwc]; exact heap_alloc_old wb _ (by omega))).keep (by rw [hwd]; exact heap_alloc_old wc _ (by omega))
  have ht : MapAt intK (fun x => x < 1000000) wd (n + 1) [] := by
    have h0 : MapAt intK (fun x => x < 1000000) wb (n + 1) [] := by rw [hwb, ← sa]; exact mapAt_made wa
    exact (h0.keep (w' := wc) (by rw [hwc]; exact heap_alloc_old wb _ (by omega))).keep (by rw [hwd]; exact heap_alloc_old wc _ (by omega))
  have hpn : MapAt digK (fun x => x.length = 32) wd (n + 2) [] := by
    have h0 : MapAt digK (fun x => x.length = 32) wc (n + 2) [] := by rw [hwc, ← sb]; exact mapAt_made wb
    exact h0.keep (by rw [hwd]; exact heap_alloc_old wc _ (by omega))
  have hp : wd.heap[n + 3]? = some (.cells (hvCells b n (n + 1) (n + 2) 0 s.pw.life false) 120 (0, 0)) := by rw [hwd, ← sc]; exact heap_alloc_new wc _
  have hbg := h.ne
  have hd : HvAt wd ⟨n + 3, b, g, n, n + 1, n + 2⟩ ⟨s, [], [], 0, s.pw.life, false⟩ := ⟨hp, ha, ht, hpn, (fun e he => by cases he), (fun e he => by cases he), ⟨(bd.block b lb).trans h.pw, (bd.block g lg).trans h.slots, h.ne, h.len⟩, by simp [HvP.own]; omega⟩
  have k1 : ∀ t, (Instr.makeMap t .none).run Tryd.prog w = .ok (.map (some n)) wa := fun t => by rw [hwa, hn]; rfl
  have k2 : ∀ t, (Instr.makeMap t .none).run Tryd.prog wa = .ok (.map (some (n + 1))) wb := fun t => by rw [hwb, ← sa]; rfl
  have k3 : ∀ t, (Instr.makeMap t .none).run Tryd.prog wb = .ok (.map (some (n + 2))) wc := fun t => by rw [hwc, ← sb]; rfl
  have hdw := Lib.hid (down_any b g s w h)
  have hlf := Lib.hid (life_any b g s wc ⟨(bc.block b lb).trans h.pw, (bc.block g lg).trans h.slots, h.ne, h.len⟩)
  have hld := Lib.hid (load_empty _ _ wd hd hdn hns he)
  have hbu := built_hive b n (n + 1) (n + 2) s.pw.life
  obtain ⟨lf, hlf'⟩ : ∃ x : Int, x = (s.pw.life : Int) := ⟨_, rfl⟩
  rw [← hlf'] at hlf hbu hwd
  obtain ⟨HC, hHC⟩ : ∃ x, x = hvCells b n (n + 1) (n + 2) 0 lf false := ⟨_, rfl⟩
  rw [← hHC] at hbu hwd
  clear hHC
  rw [hdn] at hdw
  have Hd := Lib.hid hd
  have Bd := Lib.hid bd
  have Hn := Lib.hid hn
  have Hwa := Lib.hid hwa
  have Hwb := Lib.hid hwb
  have Hwc := Lib.hid hwc
  have Hwd := Lib.hid hwd
  have Sa := Lib.hid sa
  have Sb := Lib.hid sb
  have Sc := Lib.hid sc
  clear h hdn hns he lb lg ba bb bc bd ha ht hpn hp hbg hd hn hwa hwb hwc hwd hlf' sa sb sc
  go_enter Tryd.func19, Tryd.ntmps19
  go_upto_region 3 with fail
  go_upto_region 5 with (go_at_call 63; refine hdw.out.mono ?_; rintro r w1 ⟨rfl, rfl⟩)
  go_wp2_with fail
  refine hlf.out.mono ?_
  rintro r w2 ⟨rfl, rfl⟩
  go_upto_region 6 with (refine wpList_build5 rfl 120 0 1 2 3 5 (.tmp 12) (.tmp 13) (.tmp 14) (.tmp 15) (.tmp 17) rfl (.pointer (some ⟨b, 0, .none⟩)) (.map (some n)) (.map (some (n + 1))) (.map (some (n + 2))) (.int .i64 lf) rfl rfl rfl rfl rfl HC hbu ?_)
  rw [← Hwd.out, Sc.out]
  go_wp2_with fail
  refine hld.out.mono ?_
  rintro r w3 ⟨rfl, hB3⟩
  have H3 := Lib.hid (Hd.out.below hB3)
  have B3 := Lib.hid (Bd.out.trans (hB3.mono (by rw [Hn.out]; exact Bd.out.size)))
  clear hB3 hld hlf hdw
  go_wp2_with fail
  go_ret2
  exact ⟨⟨n + 3, b, g, n, n + 1, n + 2⟩, rfl, rfl, rfl, H3.out, by intro x hx; have := Hn.out; simp at hx; omega, by rw [← Hn.out]; exact B3.out⟩
end Go.Proofs.YteihfoacdocgkaaDoor

set_option linter.unusedVariables false
set_option linter.unusedSimpArgs false
namespace Go.Proofs.YteihfoacdocgkaaDoor
open Go.RowKit Pl Sh
attribute [local go_sem] Lb.ba_get Lb.ba_cut Lb.ba_add Lb.ba_size Lb.take_rest

/-- what a store of texts has, of the first j -/
def stAt (K : List Int) (ls : List (List UInt8)) : Nat → List (List UInt8)
  | 0 => []
  | j + 1 => (putS K (stAt K ls j) (ls.getD j [])).2.2
def StoredPost (K : List Int) (w : World) (ls : List (List UInt8)) (e : Ending) (w' : World) : Prop :=
  ∃ q S, e = .returned (.pointer (some ⟨q.p, 0, none⟩)) ∧ StoreAt K w' q S (stAt K ls (min ls.length 60)) 900000 ∧ (∀ x ∈ S, w.heap.size ≤ x) ∧ Below w.heap.size w w'
theorem new_read (m i : Nat) (hi : i < m) : St.read (St.new m) i = [] := by
  unfold St.read
  split
  · rfl
  · simp [St.new, slot0, hi]
end Go.Proofs.YteihfoacdocgkaaDoor
