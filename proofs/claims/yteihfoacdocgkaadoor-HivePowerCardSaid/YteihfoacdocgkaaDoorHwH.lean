/-
  Layer 5 (hive): ranging over a store's keys by maps.Keys; the walk of Keys.
-/
import Derived.Test.YteihfoacdocgkaaDoorHwG
import Derived.Test.YteihfoacdocgkaaDoorRoundB
import Derived.Test.YteihfoacdocgkaaDoorHwRX
import Derived.RangeFuncNested
import Derived.RangeFuncBound
import Derived.RangeFuncCalls
import Derived.RangeFuncLeaves
import Derived.RangeFuncBox
import Derived.Shelf.Abstract
import Derived.Shelf.RegionOpen
import Derived.WalkKit
import Derived.OwnWalkIn
import Derived.TacticsInMore
import Derived.LoopNIn
import Derived.LoopIn
import Derived.Sort.CutIn
set_option linter.unusedVariables false
set_option linter.unusedSimpArgs false
namespace Go.Proofs.YteihfoacdocgkaaDoor
open Go.RowKit Go.Shelf Pl Sh
attribute [local go_sem] Oper.semAt_some Lb.ba_get Lb.ba_cut Lb.ba_add Lb.ba_size Lb.take_rest

/-! ### operations by what they run to, inside a fence -/
section
variable {F : Fence} {n : Nat} {P : Program} {ops : Array Oper} {rest : List Oper} {o : Oper} {a : Act} {w w' : World} {Q : Exit → Act → World → Prop}
theorem wpIn_runV (hop : ∀ c, o.op ≠ .defer c) (hab : ∀ c, o.op ≠ .call c) (v : Value) (hr : (execOp a.eval o).run P w = .ok (.value v) w') {K : Act → World → Prop} (h : K (a.put o.dst v) w') : o.wpIn F n P a w K Q := by
  unfold Oper.wpIn
  refine ⟨fun f hf => ?_, ?_⟩
  · unfold Oper.about at hf
    split at hf
    · rename_i c hc; exact absurd hc (hab c)
    · cases hf
  · rw [Oper.semAt_plain F _ _ hop, hr]; exact h
theorem wpIn_runS (hop : ∀ c, o.op ≠ .defer c) (hab : ∀ c, o.op ≠ .call c) (hr : (execOp a.eval o).run P w = .ok .skip w') {K : Act → World → Prop} (h : K (a.put o.dst undef) w') : o.wpIn F n P a w K Q := by
  unfold Oper.wpIn
  refine ⟨fun f hf => ?_, ?_⟩
  · unfold Oper.about at hf
    split at hf
    · rename_i c hc; exact absurd hc (hab c)
    · cases hf
  · rw [Oper.semAt_plain F _ _ hop, hr]; exact h
theorem wpListIn_rangeR (hg : o.guard = none) (t : TypeId) (m : Operand) (ho : o.op = .range t m) (v : Value)
    (hr : (Instr.range t (a.eval m)).run P w = .ok v w') (h : wpListIn F n P ops Q rest (a.put o.dst v) w') : wpListIn F n P ops Q (o :: rest) a w :=
  wpListIn_plain hg fun K' hK' => wpIn_runV (by rw [ho]; intro c e; cases e) (by rw [ho]; intro c e; cases e) v (by simp [execOp, ho, hr, Result.andThen]) (hK' _ _ h)
theorem wpListIn_nextR (hg : o.guard = none) (m : Operand) (ho : o.op = .next m false) (v : Value)
    (hr : (Instr.next (a.eval m) false o.type).run P w = .ok v w') (h : wpListIn F n P ops Q rest (a.put o.dst v) w') : wpListIn F n P ops Q (o :: rest) a w :=
  wpListIn_plain hg fun K' hK' => wpIn_runV (by rw [ho]; intro c e; cases e) (by rw [ho]; intro c e; cases e) v (by simp [execOp, ho, hr, Result.andThen]) (hK' _ _ h)
theorem wpListIn_entryR (hg : o.guard = none) (m : Operand) (ho : o.op = .entry m) (v : Value)
    (hr : (Instr.entry (a.eval m)).run P w = .ok v w) (h : wpListIn F n P ops Q rest (a.put o.dst v) w) : wpListIn F n P ops Q (o :: rest) a w :=
  wpListIn_plain hg fun K' hK' => wpIn_runV (by rw [ho]; intro c e; cases e) (by rw [ho]; intro c e; cases e) v (by simp [execOp, ho, hr, Result.andThen]) (hK' _ _ h)
theorem wpListIn_load_rowR (hgd : o.guard = none) (ty : TypeId) (x : Operand) (ho : o.op = .load ty x)
    (g : Nat) (hx : a.eval x = .pointer (some ⟨g, 0, none⟩)) (t : TypeId) (cs : Array Value) (fr : Nat × Nat) (d : TypeDesc) (hg : w.heap[g]? = some (.cells cs t fr))
    (hu : P.underlying ty = some d) (hd : (match d with | .struct _ | .array _ _ => true | _ => false) = true) (hi : (P.info? ty).map (·.size) = some cs.size)
    (h : wpListIn F n P ops Q rest (a.put o.dst (.agg cs)) w) : wpListIn F n P ops Q (o :: rest) a w :=
  wpListIn_plain hgd fun K' hK' => wpIn_runV (by rw [ho]; intro c e; cases e) (by rw [ho]; intro c e; cases e) (.agg cs) (by unfold execOp; simp only [ho, hx, Instr.loadAt, Instr.sureAddr, Sem.run_bind, Sem.run_pure, Result.andThen_ok, run_loadVar_row w g t ty cs fr d hg hu hd hi]) (hK' _ _ h)
theorem wpListIn_store_rowR (hgd : o.guard = none) (ty : TypeId) (x y : Operand) (ho : o.op = .store ty x y)
    (g : Nat) (cells : Array Value) (hx : a.eval x = .pointer (some ⟨g, 0, none⟩)) (hy : a.eval y = .agg cells)
    (t : TypeId) (old : Array Value) (hg : w.heap[g]? = some (.cells old t (0, 0))) (hi : (P.info? ty).map (·.size) = some cells.size)
    (hold : old.size = cells.size) (h1 : cells.all (·.oneCell') = true)
    (h : wpListIn F n P ops Q rest (a.put o.dst undef) (w.setRow g cells)) : wpListIn F n P ops Q (o :: rest) a w :=
  wpListIn_plain hgd fun K' hK' => wpIn_runS (by rw [ho]; intro c e; cases e) (by rw [ho]; intro c e; cases e) (by unfold execOp; simp only [ho, hx, hy, Instr.storeAt, Instr.sureAddr, Sem.run_bind, Sem.run_pure, Result.andThen_ok, run_storeVar_row w g t ty old cells hg hi hold h1]) (hK' _ _ h)
end

theorem Only.grown {r : Nat} {w w' : World} (h : Only [r] w w') : w.grownBy w' (some r) := ⟨h.os, h.tape, h.output, h.size, fun i hi hn => h.block i hi (by simp only [List.mem_singleton]; exact fun e => hn (by rw [e]))⟩
/-- a store's names -/
abbrev NameT := { p : Bool × List UInt8 // p.2.length = 32 }
def namesOf (L : List HEnt) : List (Bool × List UInt8) := L.map fun e => (e.isB, e.id)
theorem hit_mem' {L : List HEnt} {xs : List (Bool × List UInt8)} {left : List HEnt} {e : HEnt} {i : Nat} (h : (xs ++ namesOf left).Perm (namesOf L)) (he : left[i]? = some e) : ((e.isB, e.id), Value.pointer none) ∈ (namesOf L).map (fun n => (n, Value.pointer none)) :=
  List.mem_map.2 ⟨_, h.mem_iff.1 (List.mem_append_right _ (List.mem_map.2 ⟨e, List.mem_of_getElem? he, rfl⟩)), rfl⟩
def KeysStep (L : List HEnt) (xs : List NameT) (left : List HEnt) : Prop := (xs.map (·.1) ++ namesOf left).Perm (namesOf L)
theorem KeysStep.next {L left : List HEnt} {xs : List NameT} {i : Nat} {e : HEnt} (h : KeysStep L xs left) (hi : left[i]? = some e) (x : NameT) (hx : x.1 = (e.isB, e.id)) : KeysStep L (xs ++ [x]) (left.eraseIdx i) := by
  unfold KeysStep at h ⊢
  refine List.Perm.trans ?_ h
  rw [List.map_append, List.append_assoc]
  refine List.Perm.append_left _ ?_
  have hp := (perm_erase hi).map (fun e : HEnt => (e.isB, e.id))
  simpa [namesOf, hx] using hp
theorem name_info2 : (Tryd.prog.info? 127).map (·.size) = some 33 := by rw [zeroName_info]; rfl
def nameA (x : NameT) : Array Value := (Value.bool x.1.1 :: byV x.1.2).toArray
theorem nameA_size (x : NameT) : (nameA x).size = 33 := by simp [nameA, byV_length, x.2]
theorem nameA_one (x : NameT) : (nameA x).all (·.oneCell') = true := by unfold nameA; rw [List.all_toArray, List.all_cons, byV_one]; rfl
theorem IterAt.walks {κ : Type} {kv : κ → Value} {ok : κ → Prop} {w w' : World} {b r : Nat} {l left : List (κ × Value)} (h : IterAt kv ok w b r l left) (hk : KeepsWalks w w') : IterAt kv ok w' b r l left := by
  obtain ⟨⟨es, clk, since, seen, c0, h1, h2, h3, h4, h5⟩, hg⟩ := h
  exact ⟨⟨es, clk, since, seen, c0, hk.same b _ h1 rfl, h2, h3, hk.same r _ h4 rfl, h5⟩, hg⟩
theorem IterAt.walk {κ : Type} {kv : κ → Value} {ok : κ → Prop} {w : World} {b r : Nat} {l left : List (κ × Value)} (h : IterAt kv ok w b r l left) : ∃ o : Obj, w.heap[r]? = some o ∧ o.isWalk = true := by
  obtain ⟨⟨es, clk, since, seen, c0, h1, h2, h3, h4, h5⟩, hg⟩ := h
  exact ⟨_, h4, rfl⟩
set_option maxRecDepth 100000 in
set_option maxHeartbeats 2000000 in
theorem keys1_in (F : Fence) (n : Nat) (hf : F.fn 132) (hro : F.round = none) (hn : 1 ≤ n) (l Bm b : Nat) (L : List HEnt) (J Jx : List NameT → World → Prop) (W : World) (hJ : AbidesFrom W.heap.size J)
    (hY : ∀ pre x W1, J pre W1 → pre.length < L.length → YieldAt F (n - 1) Tryd.prog l #[.agg (nameA x)] W1 fun e W' => (e = .returned (.bool true) ∧ J (pre ++ [x]) W' ∧ KeepsWalks W1 W') ∨ (e = .returned (.bool false) ∧ Jx (pre ++ [x]) W'))
    (hm : W.cell? ⟨Bm, 0, none⟩ = some (.map (some b))) (hmap : MapAt nameV (fun n => n.2.length = 32) W b (keysOf L)) (h0 : J [] W) :
    CallsIn F n Tryd.prog 132 #[.func (.yield l) #[] #[], .pointer (some ⟨Bm, 0, none⟩)] W fun e W' => (∃ v, e = .returned v) ∧
      ((∃ xs : List NameT, (xs.map (·.1)).Perm (namesOf L) ∧ J xs W') ∨ (∃ pre, True ∧ Jx pre W')) := by
  obtain ⟨clk, hit, hrun⟩ := hmap.iter
  have hrun := hrun 116 _ _ Tryd.underlying116
  have hJ0 : J [] (W.alloc (.mapIter (some b) clk #[] clk)) := hJ [] W _ none h0 (World.grownBy_alloc W _ none) (fun r e => by cases e)
  obtain ⟨r, hr⟩ : ∃ r, r = W.heap.size := ⟨_, rfl⟩
  have hzi := zeroName_info
  have hzs : zeroName.size = 33 := by kernel_rfl
  have Hr := Lib.hid hr
  have HJ := Lib.hid hJ
  have HY := Lib.hid hY
  have HJ0 := Lib.hid hJ0
  have Hit := Lib.hid hit
  have Hgood := Lib.hid hmap.good
  clear hJ hY h0 hJ0 hit
  refine callsIn_of_wp Tryd.func132 rfl hf ?_ hro
  simp only [Tryd.ntmps132, List.size_toArray, List.length_cons, List.length_nil, Nat.reduceAdd, Nat.reduceSub, Array.replicate_succ, Array.replicate_zero, List.push_toArray, List.append_toArray, List.nil_append, List.cons_append]
  gi_wp2_with (refine wpListIn_rangeR rfl _ _ rfl _ hrun ?_)
  rw [← hr] at Hit ⊢
  clear hr hrun hm hmap
  go_frame
  gi_loopw [3] (fun _ wr => ∃ (left : List HEnt) (xs : List NameT), IterAt nameV (fun n => n.2.length = 32) wr b r (keysOf L) (keysOf left) ∧ KeysStep L xs left ∧ J xs wr) (fun _ wr => wr.rangeLeft b r)
  case atStart => exact ⟨L, [], Hit.out, by unfold KeysStep; simp, HJ0.out⟩
  case round =>
    obtain ⟨left, xs, hit, hst, hj⟩ := hrel
    have hst' := hst
    rcases hit.next 0 with ⟨hl0, hrun⟩ | ⟨i, p, w2, hli, hrun, hit2, hO, hen⟩
    · have hl : left = [] := by unfold keysOf at hl0; simpa using hl0
      subst hl
      have Hst := Lib.hid hst
      have Hj := Lib.hid hj
      clear hst hst' hj hit hl0
      gi_wp2_with (refine wpListIn_nextR rfl _ rfl (.tuple #[.bool false]) hrun ?_)
      go_end0
      exact ⟨⟨_, rfl⟩, .inl ⟨xs, by have h := Hst.out; unfold KeysStep namesOf at h; simpa [namesOf] using h, Hj.out⟩⟩
    · unfold keysOf at hli
      rw [List.getElem?_map] at hli
      obtain ⟨e, he, rfl⟩ := Option.map_eq_some_iff.1 hli
      have hek : e.id.length = 32 := by
        obtain ⟨⟨n1, n2⟩, h1, h2⟩ := List.mem_map.1 (hit_mem' hst he)
        obtain ⟨e2, h3, h4⟩ := List.mem_map.1 h1
        have h5 := Hgood.out _ (List.mem_map.2 ⟨e2, h3, rfl⟩)
        simp only [Prod.mk.injEq] at h2 h4
        rw [← h2.1.2, ← h4.2]; exact h5
      obtain ⟨x, hx⟩ : ∃ x : NameT, x = ⟨(e.isB, e.id), hek⟩ := ⟨_, rfl⟩
      have hxa : nameV (e.isB, e.id) = .agg (nameA x) := by rw [hx]; rfl
      simp only at hrun hen
      rw [hxa] at hrun hen
      have hit2' : IterAt nameV (fun n => n.2.length = 32) w2 b r (keysOf L) (keysOf (left.eraseIdx i)) := by
        have h := hit2
        unfold keysOf at h ⊢
        rw [Go.ChangeMaps.map_eraseIdx]; exact h
      have hj2 : J xs w2 := HJ.out xs wr w2 (some r) hj hO.grown (fun r' e' => by cases e'; exact ⟨by rw [Hr.out]; exact Nat.le_refl _, hit.walk⟩)
      have hlen : xs.length < L.length := by
        have h := hst.length_eq
        have h2 := (List.getElem?_eq_some_iff.1 he).1
        simp only [List.length_append, List.length_map, namesOf] at h
        omega
      have hless : ∀ w', IterAt nameV (fun n => n.2.length = 32) w' b r (keysOf L) (keysOf (left.eraseIdx i)) → w'.rangeLeft b r < wr.rangeLeft b r := fun w' h => iter_less hit h (List.getElem?_eq_some_iff.1 he).1
      have hstep := hst.next he x (by rw [hx])
      obtain ⟨pv, hpv⟩ : ∃ v, v = Value.pointer (some ⟨e.blk, 0, none⟩) := ⟨_, rfl⟩
      rw [← hpv] at hrun hen
      have hs0 := heap_alloc_new w2 (.cells zeroName 127)
      have hinf : (Tryd.prog.info? 127).map (·.size) = some (nameA x).size := by rw [nameA_size]; exact name_info2
      have hone := nameA_one x
      have hns := nameA_size x
      obtain ⟨NA, hNA⟩ : ∃ v, v = nameA x := ⟨_, rfl⟩
      rw [← hNA] at hrun hen hinf hone hns
      have HNA := Lib.hid hNA
      have Hit2 := Lib.hid hit2'
      have Hj2 := Lib.hid hj2
      have Hless := Lib.hid hless
      have Hstep := Lib.hid hstep
      clear hit hst hst' hj hli he hx hxa hit2 hit2' hj2 hless hstep hpv hNA hO
      gi_upto_region 3 with (first
        | (refine wpListIn_nextR rfl _ rfl (.tuple #[.bool true, .agg NA, pv]) hrun ?_)
        | (refine wpListIn_entryR rfl _ rfl (.tuple #[.agg NA, pv]) hen ?_)
        | (refine wpListIn_store_rowR rfl 127 _ _ rfl w2.heap.size NA rfl rfl 127 zeroName hs0 hinf (by rw [hns, hzs]) hone ?_))
      show Code.wpIn _ _ _ _ _ _ ((w2.alloc (.cells zeroName 127)).setRow w2.heap.size NA)
      obtain ⟨hq, hB⟩ := put_newH w2 zeroName NA 127
      have hit4 := Hit2.out.keep (hB.block b Hit2.out.lt.1) (hB.block r Hit2.out.lt.2.1)
      have hj4 : J xs _ := HJ.out xs w2 _ none Hj2.out (grown_of_below hB none) (fun r e => by cases e)
      obtain ⟨w4, hw4⟩ : ∃ y, y = (w2.alloc (.cells zeroName 127)).setRow w2.heap.size NA := ⟨_, rfl⟩
      obtain ⟨nb, hnb⟩ : ∃ q, q = w2.heap.size := ⟨_, rfl⟩
      rw [← hw4] at hq hit4 hj4 ⊢
      rw [← hnb] at hq ⊢
      obtain ⟨fn, tmps, assign, body, hy, hR⟩ := HY.out xs x w4 hj4 hlen
      rw [← HNA.out] at hy
      have HQ := Lib.hid hq
      have Hit4 := Lib.hid hit4
      clear hrun hen hs0 hB hw4 hnb hq hit4 hj4 hlen hone hns
      go_frame
      gi_wp2_with (refine wpListIn_load_rowR rfl 127 _ rfl nb rfl 127 NA (0, 0) _ HQ.out Tryd.underlying127 rfl hinf ?_)
      refine hR.mono ?_
      rintro e' W3 (⟨rfl, hJ3, hk3⟩ | ⟨rfl, hJx3⟩)
      · have hit5 := Hit4.out.walks hk3
        have hl5 := Hless.out W3 hit5
        have Hit5 := Lib.hid hit5
        have Hl5 := Lib.hid hl5
        have HJ3 := Lib.hid hJ3
        clear hit5 hl5 hJ3 hk3 hy hR
        gi_wp2
        go_roundw
        case rel => exact ⟨left.eraseIdx i, xs ++ [x], Hit5.out, Hstep.out, HJ3.out⟩
        case measure => exact Hl5.out
      · have HJ3 := Lib.hid hJx3
        clear hJx3 hy hR
        gi_wp2
        refine bodyPost_ret (results_none rfl _ _ _) rfl ?_
        exact ⟨⟨_, rfl⟩, .inr ⟨_, trivial, HJ3.out⟩⟩
set_option maxHeartbeats 1000000 in
theorem mapsKeys_in (F : Fence) (n : Nat) (hf : F.fn 80) (hro : F.round = none) (mb : Option Nat) (w : World) :
    CallsIn F n Tryd.prog 80 #[.map mb] w fun e w' => e = .returned (.func (.func 132) #[] #[.pointer (some ⟨w.heap.size, 0, none⟩)]) ∧ w' = w.alloc (.cells #[.map mb] 116) := by
  refine callsIn_of_wp Tryd.func80 rfl hf ?_ hro
  simp only [Tryd.ntmps80, List.size_toArray, List.length_cons, List.length_nil, Nat.reduceAdd, Nat.reduceSub, Array.replicate_succ, Array.replicate_zero, List.push_toArray, List.append_toArray, List.nil_append, List.cons_append]
  gi_wp2
  go_ret
  exact ⟨rfl, rfl⟩
theorem keys_stops (F : Fence) (n : Nat) (hf : F.fn 132) (hro : F.round = none) (hn : 1 ≤ n) (Bm b : Nat) (L : List HEnt) (w : World) (hBm : Bm < w.heap.size) (hc : w.cell? ⟨Bm, 0, none⟩ = some (.map (some b))) (hm : MapAt nameV (fun n => n.2.length = 32) w b (keysOf L)) :
    SeqStopsK F n Tryd.prog 132 #[.pointer (some ⟨Bm, 0, none⟩)] (fun x : NameT => #[.agg (nameA x)]) KeepsWalks (fun xs => (xs.map (·.1)).Perm (namesOf L)) (fun _ => True) L.length w := fun l J Jx W hW hJ _ hY h0 =>
  keys1_in F n hf hro hn l Bm b L J Jx W hJ hY ((hW.cell (p := ⟨Bm, 0, none⟩) hBm).trans hc) (hm.keep (hW.block b hm.lt)) h0

theorem calls_of_wp_mH {P : Program} {f : FuncId} {fn : Func} {c : Code} {args : Array Value} {w : World} {R : Ending → World → Prop} (n : Nat) (hf : P.funcs[f]? = some fn) (hb : fn.body = some c)
    (h : c.wp P (bodyPostM Fence.wide n P fn R) { tmps := args ++ Array.replicate (fn.ntmps - args.size) undef, defers := [] } w) : Calls P f args w R :=
  callsIn_wide.1 (callsIn_of_wp_marks (F := Fence.wide) (n := n) hf hb trivial (wpIn_wide.2 h) rfl)
theorem bodyPostM_ret1H {P : Program} {n : Nat} {fn : Func} {R : Ending → World → Prop} {a : Act} {w : World} {v : Value} {D : Nat} (hK : w.heap[D]? = some (.deferred (some []))) (hr : (results fn a.tmps).run P (w.putObj D (.deferred none)) = .ok v (w.putObj D (.deferred none))) (hd : a.defers = [{ target := .collected D, args := #[] }]) (hR : R (.returned v) (w.putObj D (.deferred none))) :
    bodyPostM Fence.wide n P fn R .ret a w := by
  show LeavesInM Fence.wide n P fn a.tmps R a.defers .returning w
  rw [hd]
  exact ⟨by simp, .inl ⟨_, _, rfl, run_takeDeferred hK, v, hr, hR⟩⟩
theorem only_putObjH (w : World) (D : Nat) (o : Obj) : Only [D] w (w.putObj D o) :=
  ⟨rfl, rfl, rfl, by rw [World.putObj_size]; exact Nat.le_refl _, fun k _ hk => World.putObj_heap_other (by simpa using hk)⟩

theorem wpListIn_round {P : Program} {ops : Array Oper} {rest : List Oper} {o : Oper} {a : Act} {w : World} {Q : Exit → Act → World → Prop} (n l : Nat) (hg : o.guard = none) (hd : ∀ c, o.op ≠ .defer c)
    (h : ∀ K : Act → World → Prop, (∀ a w, wpListIn (Fence.wide.inRound l) n P ops Q rest a w → K a w) → o.wp P a w K Q) : wpListIn (Fence.wide.inRound l) n P ops Q (o :: rest) a w :=
  wpListIn_plain hg fun K hK => wp_round n l hd (h K hK)
theorem keepsFrom_below {B : Nat} {w w' : World} (h : Below w.heap.size w w') : KeepsFrom B w w' := ⟨h.size, fun k o _ hk _ => (h.block k (heap_lt hk)).trans hk⟩
theorem keepsWalks_below {w w' : World} (h : Below w.heap.size w w') : KeepsWalks w w' := ⟨h.size, fun k o hk _ => (h.block k (heap_lt hk)).trans hk⟩
theorem keepsWalks_others {w w' : World} (h : KeepsOthers w w') : KeepsWalks w w' := ⟨h.size, fun k o hk ho => h.same k o hk (by cases o <;> first | rfl | (cases ho))⟩

/-- the records' keys among names -/
def recKeys (ns : List (Bool × List UInt8)) : List (List UInt8) := (ns.filter (fun n => !n.1)).map (·.2)
def keysSo (pre : List NameT) : List (List UInt8) := recKeys (pre.map (·.1))
theorem keysSo_blob {pre : List NameT} {x : NameT} (h : x.1.1 = true) : keysSo (pre ++ [x]) = keysSo pre := by simp [keysSo, recKeys, h]
theorem keysSo_rec {pre : List NameT} {x : NameT} (h : x.1.1 = false) : keysSo (pre ++ [x]) = keysSo pre ++ [x.1.2] := by simp [keysSo, recKeys, h]
theorem keysSo_len (pre : List NameT) : (keysSo pre).length ≤ pre.length := by
  unfold keysSo recKeys
  rw [List.length_map]
  exact Nat.le_trans (List.length_filter_le _ _) (by rw [List.length_map]; exact Nat.le_refl _)
theorem keysSo_32 (pre : List NameT) : ∀ k ∈ keysSo pre, k.length = 32 := by
  intro k hk
  unfold keysSo recKeys at hk
  obtain ⟨n, h1, rfl⟩ := List.mem_map.1 hk
  obtain ⟨x, -, rfl⟩ := List.mem_map.1 (List.mem_filter.1 h1).1
  exact x.2
/-- between two rounds: the variable's block, and the keys so far -/
def InvK (p : Nat) (w0 : World) (pre : List NameT) (W : World) : Prop :=
  ∃ v, (v = .slice none 0 0 ∨ 0 < (((keysSo pre).map byV).flatten).length) ∧ W.heap[p]? = some (.cells #[v] 29 (0, 0)) ∧ Bag0 W w0.heap.size 32 v (keysSo pre).length (((keysSo pre).map byV).flatten) ∧ Only [p] w0 W
theorem invK_own (p : Nat) (w0 : World) (hp : p < w0.heap.size) : OwnFrom w0.heap.size (InvK p w0) := by
  rintro s W W' row ⟨v, h0, hP, hB, hO⟩ hg hr
  refine ⟨v, h0, ?_, ?_, ?_⟩
  · refine (hg.block p (heap_lt hP) (fun e => ?_)).trans hP
    have := (hr p e.symm).1
    omega
  · rcases hB with ⟨rfl, hl, hc⟩ | ⟨g, cap, rfl, hge, hb⟩
    · exact .inl ⟨rfl, hl, hc⟩
    · refine .inr ⟨g, cap, rfl, hge, hb.keep (hg.block g hb.lt (fun e => ?_))⟩
      obtain ⟨_, o, ho, hc⟩ := hr g e.symm
      rcases h0 with h0 | h0
      · cases h0
      · obtain ⟨cs, t, f, he⟩ := cells_of_cell (hb.holds 0 _ (List.getElem?_eq_getElem h0))
        rw [he] at ho
        cases ho
        cases hc
  · exact ⟨hg.os.trans hO.os, hg.tape.trans hO.tape, hg.output.trans hO.output, Nat.le_trans hO.size hg.size, fun i hi hn => (hg.block i (Nat.lt_of_lt_of_le hi hO.size) (fun e => by have := (hr i e.symm).1; omega)).trans (hO.block i hi hn)⟩
theorem InvK.below {p : Nat} {w0 W W' : World} {pre : List NameT} (h : InvK p w0 pre W) (hb : Below W.heap.size W W') : InvK p w0 pre W' := by
  obtain ⟨v, h0, hP, hB, hO⟩ := h
  exact ⟨v, h0, (hb.block p (heap_lt hP)).trans hP, hB.below hb, hO.belowB (hb.mono hO.size)⟩
def AxK (q p Bm : Nat) (ma : Nat) (w0 : World) (x : NameT) (a' : Act) (W : World) : Prop :=
  ∃ nb, w0.heap.size ≤ nb ∧ W.heap[nb]? = some (.cells (nameA x) 127 (0, 0)) ∧
    a' = { tmps := #[.pointer (some ⟨q, 0, none⟩), undef, .slice none 0 0, .pointer (some ⟨p, 0, none⟩), .pointer (some ⟨nb, 0, none⟩), .pointer (some ⟨q, 0, none⟩), .bool false, .pointer (some ⟨q, 0, none⟩), .pointer (some ⟨q, 0, none⟩), .pointer (some ⟨q, 1, none⟩), .map (some ma), .func (.func 132) #[] #[.pointer (some ⟨Bm, 0, none⟩)], .agg (nameA x), undef, undef, undef, undef, undef, undef, undef, undef, undef, undef, undef], defers := [] }
theorem axK_own (q p Bm ma : Nat) (w0 : World) (x : NameT) (a' : Act) : OwnFrom w0.heap.size (fun (_ : Unit) W => AxK q p Bm ma w0 x a' W) := by
  rintro s W W' row ⟨nb, h1, h2, h3⟩ hg hr
  refine ⟨nb, h1, (hg.block nb (heap_lt h2) (fun e => ?_)).trans h2, h3⟩
  obtain ⟨_, o, ho, hc⟩ := hr nb e.symm
  rw [h2] at ho
  cases ho
  cases hc
def KSorted (ks : List (List UInt8)) : Prop := ks.Pairwise (fun x y => ¬ y < x)
def blkK : Value → List Nat
  | .slice (some a) _ _ => [a.block]
  | _ => []
/-- what slices.SortFunc does to the keys -/
def SortOk (ks : List (List UInt8)) : Prop := ∀ (W : World) (v : Value) (B : Nat), (v = .slice none 0 0 ∨ 0 < ((ks.map byV).flatten).length) → Bag0 W B 32 v ks.length ((ks.map byV).flatten) → (∀ k ∈ ks, k.length = 32) → ks.length ≤ 1000 →
  Calls Tryd.prog 81 #[v, .func (.func 82) #[] #[]] W fun e w' => e = .returned (.tuple #[]) ∧ ∃ ks' : List (List UInt8), ks'.Perm ks ∧ KSorted ks' ∧ Bag0 w' B 32 v ks'.length ((ks'.map byV).flatten) ∧ Only (blkK v) W w'
def KeysPost (w : World) (d : HvD) (e : Ending) (w' : World) : Prop := ∃ v ks, e = .returned v ∧ ks.Perm (recKeys (namesOf d.L)) ∧ KSorted ks ∧ Bag0 w' w.heap.size 32 v ks.length ((ks.map byV).flatten) ∧ (ks = [] → v = .slice none 0 0) ∧ Below w.heap.size w w'
set_option maxRecDepth 100000 in
set_option maxHeartbeats 1000000 in
theorem keys_any (q : HvP) (d : HvD) (w : World) (h : HvAt w q d) (hl : d.L.length ≤ 1000) (hs : ∀ ks, ks.Perm (recKeys (namesOf d.L)) → SortOk ks) :
    Calls Tryd.prog 36 #[.pointer (some ⟨q.p, 0, none⟩)] w (KeysPost w d) := by
  have H := Lib.hid h
  have Hs := Lib.hid hs
  clear h hs
  have hzs : zeroName.size = 33 := by kernel_rfl
  refine calls_of_wp_mH 6 Tryd.func36 rfl ?_
  simp only [Tryd.ntmps36, List.size_toArray, List.length_cons, List.length_nil, Nat.reduceAdd, Nat.reduceSub, Array.replicate_succ, Array.replicate_zero, List.push_toArray, List.append_toArray, List.nil_append, List.cons_append]
  go_upto_region 4 with fail
  have hb1 := (Below.refl w.heap.size w).alloc (Nat.le_refl _) (.cells #[.slice none 0 0] 29)
  have hp := heap_alloc_new w (.cells #[.slice none 0 0] 29)
  have hH1 := H.out.below hb1
  have x1 := (hv_cells hH1).2.1
  obtain ⟨w1, hw1⟩ : ∃ y, y = w.alloc (.cells #[.slice none 0 0] 29) := ⟨_, rfl⟩
  obtain ⟨p, hpp⟩ : ∃ y, y = w.heap.size := ⟨_, rfl⟩
  rw [← hw1] at hb1 hp hH1 x1 ⊢
  rw [← hpp] at hp ⊢
  have HB1 := Lib.hid hb1
  have HP := Lib.hid hp
  have H1 := Lib.hid hH1
  have Hpp := Lib.hid hpp
  clear hb1 hp hH1 hw1 hpp H
  go_wp2_with fail
  refine (callsIn_wide.1 (mapsKeys_in Fence.wide 3 trivial rfl (some q.ma) w1)).mono ?_
  rintro e w2 ⟨rfl, hw2⟩
  go_wp2_with fail
  have hb2 := (Below.refl w1.heap.size w1).alloc (Nat.le_refl _) (.cells #[.map (some q.ma)] 116)
  rw [← hw2] at hb2 ⊢
  have hBm : w1.heap.size < w2.heap.size := by rw [hw2]; simp
  have hcm : w2.cell? ⟨w1.heap.size, 0, none⟩ = some (.map (some q.ma)) := by rw [hw2, Lib.cell_of_heap (heap_alloc_new w1 _)]; rfl
  obtain ⟨Bm, hBmd⟩ : ∃ y, y = w1.heap.size := ⟨_, rfl⟩
  rw [← hBmd] at hBm hcm ⊢
  have H2 := Lib.hid (H1.out.below hb2)
  have HP2 := Lib.hid (below_keep hb2 HP.out)
  have HB2 := Lib.hid (HB1.out.trans (hb2.mono HB1.out.size))
  have hp2 : p < w2.heap.size := heap_lt HP2.out
  have hst := keys_stops Fence.wide 5 trivial rfl (by omega) Bm q.ma d.L w2 hBm hcm H2.out.all
  have hI0 : InvK p w2 [] w2 := ⟨.slice none 0 0, .inl rfl, HP2.out, Bag0.nil _ _ _, Only.refl _ _⟩
  have Hst := Lib.hid hst
  have HI0 := Lib.hid hI0
  clear hw2 hb2 hBm hcm hBmd hst hI0
  refine (wpIn_wide (n := 6)).1 ?_
  refine wpIn_rangeFunc_ownH (F := Fence.wide) (w0 := w2) rfl (by omega) (gf := 132) (lb := #[.pointer (some ⟨Bm, 0, none⟩)]) rfl trivial (enters_of Tryd.func132 (by kernel_rfl) rfl)
    Hst.out walksK_t walksK_b (Below.refl _ _) (fun _ => rfl) (InvK p w2) (fun _ _ _ => False) (invK_own p w2 hp2) (fun _ _ _ _ _ hs _ _ => hs) HI0.out (AxK q.p p Bm q.ma w2) (axK_own q.p p Bm q.ma w2) ?assign ?body ?done ?stop
  case assign =>
    intro l pre x W K hI hK
    rw [show ((#[12] : Array Tmp).zip #[Value.agg (nameA x)]) = #[(12, Value.agg (nameA x))] from by simp]
    simp only [List.size_toArray, List.length_cons, List.length_nil, Nat.zero_add, List.foldl_toArray', List.foldl_toArray, List.foldl_cons, List.foldl_nil, List.setIfInBounds_toArray, List.set_cons_zero, List.set_cons_succ]
    change Code.wpIn _ _ _ _ _ { tmps := #[.pointer (some ⟨q.p, 0, none⟩), undef, .slice none 0 0, .pointer (some ⟨p, 0, none⟩), undef, .pointer (some ⟨q.p, 0, none⟩), .bool false, .pointer (some ⟨q.p, 0, none⟩), .pointer (some ⟨q.p, 0, none⟩), .pointer (some ⟨q.p, 1, none⟩), .map (some q.ma), .func (.func 132) #[] #[.pointer (some ⟨Bm, 0, none⟩)], .agg (nameA x), undef, undef, undef, undef, undef, undef, undef, undef, undef, undef, undef], defers := [] } W
    have hs0 := heap_alloc_new W (.cells zeroName 127)
    have hinf : (Tryd.prog.info? 127).map (·.size) = some (nameA x).size := by rw [nameA_size]; exact name_info2
    have hone := nameA_one x
    have hns := nameA_size x
    obtain ⟨hq, hB⟩ := put_newH W zeroName (nameA x) 127
    have hfin := hK { tmps := #[.pointer (some ⟨q.p, 0, none⟩), undef, .slice none 0 0, .pointer (some ⟨p, 0, none⟩), .pointer (some ⟨W.heap.size, 0, none⟩), .pointer (some ⟨q.p, 0, none⟩), .bool false, .pointer (some ⟨q.p, 0, none⟩), .pointer (some ⟨q.p, 0, none⟩), .pointer (some ⟨q.p, 1, none⟩), .map (some q.ma), .func (.func 132) #[] #[.pointer (some ⟨Bm, 0, none⟩)], .agg (nameA x), undef, undef, undef, undef, undef, undef, undef, undef, undef, undef, undef], defers := [] } _ (keepsFrom_below hB) (keepsWalks_below hB) (hI.below hB) ⟨_, by obtain ⟨v, -, -, -, hO⟩ := hI; exact hO.size, hq, rfl⟩
    obtain ⟨NA, hNA⟩ : ∃ v, v = nameA x := ⟨_, rfl⟩
    rw [← hNA] at hinf hone hns hfin ⊢
    clear hK hI hq hB hNA
    gi_wp2_with (refine wpListIn_store_rowR rfl 127 _ _ rfl W.heap.size NA rfl rfl 127 zeroName hs0 hinf (by rw [hns, hzs]) hone ?_)
    exact hfin
  case body =>
    rintro l pre x a' W hl' hlp hI ⟨nb, hnb, hN, rfl⟩ hlt
    obtain ⟨v, h0, hP, hB, hO⟩ := hI
    obtain ⟨⟨b, id⟩, hid⟩ := x
    have hnr : ∀ j u, (nameA ⟨(b, id), hid⟩)[j]? = some u → W.cell? ⟨nb, j, none⟩ = some u := fun j u hu => by rw [Lib.cell_of_heap hN]; exact hu
    have hn0 : W.cell? ⟨nb, 0, none⟩ = some (.bool b) := hnr 0 _ rfl
    have hn1 : W.rangeAt nb 1 (byV id) := fun j u hu => hnr (1 + j) u (by unfold nameA; rw [List.getElem?_toArray, Nat.add_comm, List.getElem?_cons_succ]; exact hu)
    have hn32 : id.length = 32 := hid
    cases b with
    | true =>
      have hks : keysSo (pre ++ [⟨(true, id), hid⟩]) = keysSo pre := keysSo_blob rfl
      have HI : Hid (InvK p w2 (pre ++ [⟨(true, id), hid⟩]) W) := Lib.hid ⟨v, by rw [hks]; exact h0, hP, by rw [hks]; exact hB, hO⟩
      obtain ⟨NA, hNA⟩ : ∃ v, v = nameA ⟨(true, id), hid⟩ := ⟨_, rfl⟩
      rw [← hNA]
      clear hks h0 hP hB hO hnr hn1 hN hNA
      gi_wp2
      exact ⟨KeepsFrom.refl _ _, KeepsWalks.refl _, HI.out⟩
    | false =>
      have hks : keysSo (pre ++ [⟨(false, id), hid⟩]) = keysSo pre ++ [id] := keysSo_rec rfl
      have hkl := keysSo_len pre
      have c0 : W.cell? ⟨p, 0, none⟩ = some v := by rw [Lib.cell_of_heap hP]; rfl
      have hF := fold_dig id hn32
      have hds : (digV id).size = 32 := by rw [digV_size, hn32]
      have hpw : p < W.heap.size := heap_lt hP
      obtain ⟨i1', hi1, hy0, hy1, hy2⟩ := info_parts dig_info3
      have hinf : (Tryd.prog.info? 23).map (·.size) = some (byV id).length := by rw [dig_info, byV_length, hn32]
      have HKS := Lib.hid hks
      have HP' := Lib.hid hP
      have HBg := Lib.hid hB
      have HO := Lib.hid hO
      have H0 := Lib.hid h0
      have Hn1 := Lib.hid hn1
      obtain ⟨NA, hNA⟩ : ∃ v, v = nameA ⟨(false, id), hid⟩ := ⟨_, rfl⟩
      rw [← hNA]
      clear hks h0 hP hB hO hnr hn1 hN hNA
      have hsA := heap_alloc_new W (.cells (digV id) 23)
      have hBA := (Below.refl W.heap.size W).alloc (Nat.le_refl _) (.cells (digV id) 23)
      have hbag2 := HBg.out.below hBA
      have hsrc := dig_src W.heap.size 1 id 23 (0, 0) hn32 hsA
      have hsz2 : w2.heap.size ≤ (W.alloc (.cells (digV id) 23)).heap.size := Nat.le_trans HO.out.size hBA.size
      have h0' := H0.out
      have HPA := Lib.hid (below_keep hBA HP'.out)
      have HBA := Lib.hid hBA
      clear hBA hsA
      gi_wp2_with (first
        | (gi_at_builtin; refine wpListIn_round _ _ rfl (by intro c e; cases e) (fun K hK => wp_append_bagR (B := w2.heap.size) _ _ _ 29 29 rfl i1' _ 32 Tryd.underlying29 hi1 hy0 hy1 hy2 (by show (digV (List.replicate 32 0)).size = 32; rfl) hsz2 rfl hbag2 h0' _ 1 (byV id) rfl hsrc (by omega) (by unfold maxLen; omega) (by omega) ?_); intro v2 w6 hB6 hb6 hk6; obtain ⟨A5, c5, rfl, -, -⟩ := hB6.shape; refine hK _ _ ?_; have c36 : w6.cell? ⟨p, 0, none⟩ = some v := (hb6.cell (p := ⟨p, 0, none⟩) hp2).trans (by rw [Lib.cell_of_heap HPA.out]; rfl); have z36 : w6.frozen? ⟨p, 0, none⟩ = false := by rw [World.frozen?_of_block (a := ⟨p, 0, none⟩) (hb6.block p hp2)]; exact Lib.frozen_of_heap HPA.out _)
        | (refine wpListIn_round _ _ rfl (by intro c e; cases e) (fun K hK => wp_load_digR _ rfl nb 1 rfl id hn32 Hn1.out (hK _ _ ?_))))
      have H6 : w6.heap[p]? = some (.cells #[v] 29 (0, 0)) := (hb6.block p hp2).trans HPA.out
      have hk7 : KeepsOthers W (w6.setCell ⟨p, 0, none⟩ (.slice A5 ((keysSo pre).length + 1) c5)) := (KeepsOthers.alloc W _).trans (hk6.trans (keepsOthers_only (g := p) ((Only.refl [p] w6).setCell (by simp) _) c36))
      have hO7 : Only [p] w2 (w6.setCell ⟨p, 0, none⟩ (.slice A5 ((keysSo pre).length + 1) c5)) := ((HO.out.belowB (HBA.out.mono HO.out.size)).belowB hb6).setCell (by simp) _
      refine ⟨hk7.from _, keepsWalks_others hk7, .slice A5 ((keysSo pre).length + 1) c5, .inr ?_, heap_setCell_same _ p 0 _ _ _ H6, ?_, hO7⟩
      · rw [HKS.out, List.map_append, List.flatten_append, List.length_append]
        simp only [List.map_cons, List.map_nil, List.flatten_cons, List.flatten_nil, List.append_nil, byV_length, hn32]
        omega
      · rw [HKS.out, List.length_append, List.map_append, List.flatten_append]
        simp only [List.map_cons, List.map_nil, List.flatten_cons, List.flatten_nil, List.append_nil, List.length_cons, List.length_nil]
        exact hB6.only ((Only.refl [p] w6).setCell (by simp) _) (by simp; exact hp2)
  case done =>
    rintro D ys W hD hys ⟨v, h0, hP, hB, hO⟩ hK
    have hks : (keysSo ys).Perm (recKeys (namesOf d.L)) := by
      unfold keysSo recKeys
      exact (hys.filter _).map _
    have hsort := Hs.out (keysSo ys) hks W v w2.heap.size h0 hB (keysSo_32 ys) (by have := keysSo_len ys; have h1 := hys.length_eq; simp [namesOf] at h1; omega)
    have c0 : W.cell? ⟨p, 0, none⟩ = some v := by rw [Lib.cell_of_heap hP]; rfl
    have Hks := Lib.hid hks
    have HP' := Lib.hid hP
    have HK := Lib.hid hK
    have HO := Lib.hid hO
    have HBv := Lib.hid hB
    have H0 := Lib.hid h0
    have Hsort := Lib.hid hsort
    clear hks hP hB hO h0 hK hys hsort
    go_wp2_with fail
    refine Hsort.out.mono ?_
    rintro e w9 ⟨rfl, ks', hp', hs', hB', hO'⟩
    have hge : ∀ g ∈ blkK v, w2.heap.size ≤ g ∧ g ≠ D := by
      intro g hg
      rcases HBv.out with ⟨h1, -, -⟩ | ⟨g', cap, h1, h2, hb⟩
      · rw [h1] at hg; cases hg
      · rw [h1] at hg
        have e : g = g' := by simpa [blkK] using hg
        subst e
        refine ⟨h2, fun e => ?_⟩
        rcases H0.out with h0 | h0
        · rw [h1] at h0; cases h0
        · obtain ⟨cs, t, f, he⟩ := cells_of_cell (hb.holds 0 _ (List.getElem?_eq_getElem h0))
          rw [e, HK.out] at he
          cases he
    have hpk : p ∉ blkK v := fun hx => by have := (hge p hx).1; omega
    have hDk : D ∉ blkK v := fun hx => (hge D hx).2 rfl
    have c9 : w9.cell? ⟨p, 0, none⟩ = some v := (hO'.cell (p := ⟨p, 0, none⟩) (heap_lt HP'.out) hpk).trans c0
    have K9 : w9.heap[D]? = some (.deferred (some [])) := (hO'.block D (heap_lt HK.out) hDk).trans HK.out
    have hbl : Below w.heap.size w (w9.putObj D (.deferred none)) := by
      have b1 := HB2.out
      have b2 : Below w.heap.size w2 W := HO.out.below b1.size (by intro x hx; simp only [List.mem_singleton] at hx; rw [hx, Hpp.out]; exact Nat.le_refl _)
      have b3 : Below w.heap.size W w9 := hO'.below (Nat.le_trans b1.size b2.size) (fun x hx => Nat.le_trans b1.size (hge x hx).1)
      have b4 : Below w.heap.size w9 (w9.putObj D (.deferred none)) := (only_putObjH w9 D (.deferred none)).below (Nat.le_trans (Nat.le_trans b1.size b2.size) b3.size) (by intro x hx; simp only [List.mem_singleton] at hx; rw [hx]; exact Nat.le_trans b1.size hD)
      exact ((b1.trans b2).trans b3).trans b4
    have hbg : Bag0 (w9.putObj D (.deferred none)) w.heap.size 32 v ks'.length ((ks'.map byV).flatten) := by
      rcases hB' with h | ⟨g, cap, h1, h2, hb⟩
      · exact .inl h
      · refine .inr ⟨g, cap, h1, Nat.le_trans HB2.out.size h2, hb.keep (World.putObj_heap_other ?_)⟩
        exact (hge g (by rw [h1]; simp [blkK])).2
    have hnil : ks' = [] → v = .slice none 0 0 := fun e => by
      rcases H0.out with h | h
      · exact h
      · have hle := hp'.length_eq
        rw [e] at hle
        rw [List.eq_nil_of_length_eq_zero hle.symm] at h
        simp at h
    have Hnil := Lib.hid hnil
    have Hbl := Lib.hid hbl
    have Hbg := Lib.hid hbg
    have Hfin : Hid (ks'.Perm (recKeys (namesOf d.L)) ∧ KSorted ks') := Lib.hid ⟨hp'.trans Hks.out, hs'⟩
    have HK9 := Lib.hid K9
    clear hge hpk hDk hbl hbg hnil hp' hs' hB' hO' c0 K9
    go_wp2_with fail
    (try simp only [Exit.inBlock, Exit.then])
    refine bodyPostM_ret1H (D := D) HK9.out (results_tmp rfl _ _ _) rfl ?_
    exact ⟨v, ks', rfl, Hfin.out.1, Hfin.out.2, Hbg.out, Hnil.out, Hbl.out⟩
  case stop =>
    rintro D c pre W _ _ h _
    exact h.elim
end Go.Proofs.YteihfoacdocgkaaDoor
