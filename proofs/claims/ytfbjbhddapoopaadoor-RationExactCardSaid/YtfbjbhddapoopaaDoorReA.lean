/-
  Layer 18: the reference: what New, Serve and Same of apiaryref18 answer.
-/
import Derived.Test.YtfbjbhddapoopaaDoorHvN
import Derived.Test.YtfbjbhddapoopaaDoorRcAC
set_option linter.unusedVariables false
set_option linter.unusedSimpArgs false
namespace Go.Proofs.YtfbjbhddapoopaaDoor
open Go.RowKit
attribute [local go_sem] Lb.ba_get Lb.ba_cut Lb.ba_add Lb.ba_size Lb.take_rest

/-- a ration of the reference -/
def RtAt (w : World) (r : Nat) (B n : Int) : Prop := w.heap[r]? = some (.cells #[.int .i64 B, .int .i64 n] 70 (0, 0))
theorem RtAt.keep {w w' : World} {r : Nat} {B n : Int} (h : RtAt w r B n) (hk : w'.heap[r]? = w.heap[r]?) : RtAt w' r B n := hk.trans h
theorem RtAt.below {w w' : World} {r : Nat} {B n : Int} (h : RtAt w r B n) (hb : Below w.heap.size w w') : RtAt w' r B n := below_keep hb h
theorem RtAt.lt {w : World} {r : Nat} {B n : Int} (h : RtAt w r B n) : r < w.heap.size := heap_lt h
theorem RtAt.cells {w : World} {r : Nat} {B n : Int} (h : RtAt w r B n) : w.cell? ⟨r, 0, none⟩ = some (.int .i64 B) ∧ w.cell? ⟨r, 1, none⟩ = some (.int .i64 n) ∧ ∀ j, w.frozen? ⟨r, j, none⟩ = false :=
  ⟨by rw [Lib.cell_of_heap h]; rfl, by rw [Lib.cell_of_heap h]; rfl, fun j => Lib.frozen_of_heap h j⟩
theorem RtAt.set {w : World} {r : Nat} {B n : Int} (h : RtAt w r B n) (m : Int) : RtAt (w.setCell ⟨r, 1, none⟩ (.int .i64 m)) r B m := heap_setCell_same _ r 1 _ _ (.int .i64 m) h

theorem rtnew_any (b : Int) (w : World) : Calls Tryd.prog 27 #[.int .i64 b] w fun e w' => e = .returned (.pointer (some ⟨w.heap.size, 0, none⟩)) ∧ RtAt w' w.heap.size (clampB b) (clampB b) ∧ Below w.heap.size w w' := by
  go_enter Tryd.func27, Tryd.ntmps27
  by_cases h0 : b < 0
  · have hc : clampB b = 0 := by unfold clampB; omega
    go_wp2_with fail
    go_ret
    exact ⟨rfl, by first | exact heap_alloc_new w _ | (rw [hc]; exact heap_alloc_new w _), (Below.refl _ w).alloc (Nat.le_refl _) _⟩
  · by_cases h1 : 1000 < b
    · have hc : clampB b = 1000 := by unfold clampB; omega
      go_wp2_with fail
      go_ret
      exact ⟨rfl, by first | exact heap_alloc_new w _ | (rw [hc]; exact heap_alloc_new w _), (Below.refl _ w).alloc (Nat.le_refl _) _⟩
    · have hc : clampB b = b := by unfold clampB; omega
      go_wp2_with fail
      go_ret
      exact ⟨rfl, by first | exact heap_alloc_new w _ | (rw [hc]; exact heap_alloc_new w _), (Below.refl _ w).alloc (Nat.le_refl _) _⟩

theorem wpList_build1 {P : Program} {ops : Array Oper} {rest : List Oper} {o : Oper} {a : Act} {w : World} {Q : Exit → Act → World → Prop} (hg : o.guard = none) (t : TypeId) (i : Nat) (x : Operand) (ho : o.op = .build t #[(i, x)])
    (vx : Value) (hx : a.eval x = vx) (C : Array Value) (hB : P.built t [(i, vx)] = some C)
    (h : wpList P ops Q rest (a.put o.dst (.agg C)) w) : wpList P ops Q (o :: rest) a w := by
  have e : ((#[(i, x)] : Array (Nat × Operand)).map fun (i, x) => (i, a.eval x)).toList = [(i, vx)] := by simp [hx]
  refine wpList_build hg t _ ho ?_ ?_
  · rw [e, hB]; rfl
  · rw [e, hB]; exact h
theorem built_sentTo (tt : Int) : Tryd.prog.built 50 [(0, .int .i64 tt)] = some (sentRow tt zeroFr) := by
  obtain ⟨it, hit, hz⟩ := Option.map_eq_some_iff.1 sent_zero
  have hp : ∀ fs, Tryd.prog.underlying 50 = some (.struct fs) → fs.toList.mapM (fun f => (Tryd.prog.info? f.type).map fun i => (f.offset, i.size)) = some [(0, 1), (1, 237)] := by
    intro fs h
    obtain rfl := (TypeDesc.struct.inj (Option.some.inj (Tryd.underlying50.symm.trans h)))
    kernel_rfl
  unfold Program.built
  rw [hit]
  simp only [Tryd.underlying50]
  rw [hz, hp _ Tryd.underlying50]
  have h1 := fill_seg (place := ([(0, 1), (1, 237)].toArray[·]?)) (i := 0) (v := .int .i64 tt) (rest := []) (pre := []) (old := [Value.int .i64 0]) (vs := [Value.int .i64 tt]) (off := 0) (size := 1) (post := zeroFr.cells) rfl (cells_int _ _) rfl rfl rfl
  exact h1.trans (fill_nil _ _)

/-! ### fields of a frame that is sent are set -/
theorem sn_set_kind {x : Int} {f : FrD} (k : Int) : (sentRow x f).setIfInBounds 1 (.int .i64 k) = sentRow x { f with kind := k } := rfl
theorem sn_set {x : Int} {f g : FrD} {i : Nat} {v : Value} (h : f.row.setIfInBounds i v = g.row) : (sentRow x f).setIfInBounds (i + 1) v = sentRow x g := by
  unfold FrD.row at h
  rw [List.setIfInBounds_toArray] at h
  unfold sentRow sentCells
  rw [List.setIfInBounds_toArray, List.set_cons_succ]
  have := congrArg Array.toList h
  simp only at this
  rw [this]
theorem fr_set_data {f : FrD} (hf : f.Fit) (t : List UInt8) : f.row.setIfInBounds 135 (.string ⟨t.toArray⟩) = ({ f with data := t } : FrD).row := by
  have ho : (byV f.out).length = 32 := by rw [byV_length, hf.lo]
  have e1 : f.cells = ((([Value.int .i64 f.kind, Value.int .i64 f.from_] ++ f.x1) ++ byV f.out) ++ [Value.int .i64 f.at_]) ++ (Value.string ⟨f.data.toArray⟩ :: (f.x2 ++ (f.mani.cells ++ f.x3))) := by simp [FrD.cells]
  have e2 : ({ f with data := t } : FrD).cells = ((([Value.int .i64 f.kind, Value.int .i64 f.from_] ++ f.x1) ++ byV f.out) ++ [Value.int .i64 f.at_]) ++ (Value.string ⟨t.toArray⟩ :: (f.x2 ++ (f.mani.cells ++ f.x3))) := by simp [FrD.cells]
  have hl : ((([Value.int .i64 f.kind, Value.int .i64 f.from_] ++ f.x1) ++ byV f.out) ++ [Value.int .i64 f.at_]).length = 135 := by simp [hf.l1, ho]
  unfold FrD.row
  rw [e1, e2, List.setIfInBounds_toArray, List.set_append_right _ _ (by omega), hl]
  rfl
theorem sn_put_kind {w : World} {b : Nat} {x : Int} {f : FrD} (k : Int) (h : w.heap[b]? = some (.cells (sentRow x f) 50 (0, 0))) :
    (w.setCell ⟨b, 1, none⟩ (.int .i64 k)).heap[b]? = some (.cells (sentRow x { f with kind := k }) 50 (0, 0)) := heap_setCell_same _ b 1 _ _ (.int .i64 k) h
theorem sn_put_at {w : World} {b : Nat} {x : Int} {f : FrD} (hf : f.Fit) (k : Int) (h : w.heap[b]? = some (.cells (sentRow x f) 50 (0, 0))) :
    (w.setCell ⟨b, 135, none⟩ (.int .i64 k)).heap[b]? = some (.cells (sentRow x { f with at_ := k }) 50 (0, 0)) := by
  have := heap_setCell_same _ b 135 _ _ (.int .i64 k) h
  rwa [sn_set (fr_set_at hf k)] at this
theorem sn_put_data {w : World} {b : Nat} {x : Int} {f : FrD} (hf : f.Fit) (t : List UInt8) (h : w.heap[b]? = some (.cells (sentRow x f) 50 (0, 0))) :
    (w.setCell ⟨b, 136, none⟩ (.string ⟨t.toArray⟩)).heap[b]? = some (.cells (sentRow x { f with data := t }) 50 (0, 0)) := by
  have := heap_setCell_same _ b 136 _ _ (.string ⟨t.toArray⟩) h
  rwa [sn_set (fr_set_data hf t)] at this
theorem sn_put_out {w : World} {b : Nat} {x : Int} {f : FrD} (hf : f.Fit) (o : List UInt8) (ho : o.length = 32) (h : w.heap[b]? = some (.cells (sentRow x f) 50 (0, 0))) :
    (w.setCells b 103 (byV o)).heap[b]? = some (.cells (sentRow x { f with out := o }) 50 (0, 0)) := by
  have hl : (byV f.out).length = 32 := by rw [byV_length, hf.lo]
  have h1 := seg_setCells b 50 (byV o) (Value.int .i64 x :: ([Value.int .i64 f.kind, Value.int .i64 f.from_] ++ f.x1)) (byV f.out) ([Value.int .i64 f.at_, Value.string ⟨f.data.toArray⟩] ++ (f.x2 ++ (f.mani.cells ++ f.x3))) w (by rw [h]; unfold sentRow sentCells FrD.cells; simp only [List.append_assoc, List.cons_append]) (by rw [hl, byV_length, ho])
  have hp : (Value.int .i64 x :: ([Value.int .i64 f.kind, Value.int .i64 f.from_] ++ f.x1)).length = 103 := by simp [hf.l1]
  rw [hp] at h1
  rw [h1]
  unfold sentRow sentCells FrD.cells
  simp only [List.append_assoc, List.cons_append]
theorem sn_put_mani {w : World} {b : Nat} {x : Int} {f : FrD} (hf : f.Fit) (m : ManiD) (hm : m.whole.length = 32) (h : w.heap[b]? = some (.cells (sentRow x f) 50 (0, 0))) :
    (w.setCells b 201 m.cells).heap[b]? = some (.cells (sentRow x { f with mani := m }) 50 (0, 0)) := by
  have hl : (byV f.out).length = 32 := by rw [byV_length, hf.lo]
  have h1 := seg_setCells b 50 m.cells (Value.int .i64 x :: (([Value.int .i64 f.kind, Value.int .i64 f.from_] ++ f.x1) ++ (byV f.out ++ ([Value.int .i64 f.at_, Value.string ⟨f.data.toArray⟩] ++ f.x2)))) f.mani.cells f.x3 w (by rw [h]; unfold sentRow sentCells FrD.cells; simp only [List.append_assoc, List.cons_append, List.nil_append]) (by rw [mani_cells_len _ hf.lm, mani_cells_len _ hm])
  have hp : (Value.int .i64 x :: (([Value.int .i64 f.kind, Value.int .i64 f.from_] ++ f.x1) ++ (byV f.out ++ ([Value.int .i64 f.at_, Value.string ⟨f.data.toArray⟩] ++ f.x2)))).length = 201 := by simp [hf.l1, hl, hf.l2]
  rw [hp] at h1
  rw [h1]
  unfold sentRow sentCells FrD.cells
  simp only [List.append_assoc, List.cons_append, List.nil_append]

/-- what the reference answers -/
inductive RefIs (K : List Int) (B0 : Nat) (b : List UInt8) (has : Bool) (n : Int) (f : FrD) (w' : World) : Int → FrD → Bool → Prop
  | no (h : ¬ (AskOk n f ∧ has = true ∧ PlaceOk b f.at_)) : RefIs K B0 b has n f w' 0 zeroFr false
  | yes (g : FrD) (h : AskOk n f) (hh : has = true) (hp : PlaceOk b f.at_) (hg : FoundIs K B0 b f w' g true) : RefIs K B0 b has n f w' f.from_ g true
theorem RefIs.fit {K : List Int} {B0 : Nat} {b : List UInt8} {has : Bool} {n : Int} {f g : FrD} {w : World} {tt : Int} {is : Bool} (h : RefIs K B0 b has n f w tt g is) (hf : f.Fit) : g.Fit := by
  cases h with
  | no h => exact zeroFr_fit
  | yes g h hh hp hg => exact hg.fit hf
def RefPost (b : List UInt8) (has : Bool) (r : Nat) (B n : Int) (f : FrD) (w : World) (e : Ending) (w' : World) : Prop :=
  ∃ tt g is, e = .returned (.tuple #[.agg (sentRow tt g), .bool is]) ∧ RefIs KK w.heap.size b has n f w' tt g is ∧ RtAt w' r B (left' n is) ∧ Only [r] w w'
set_option maxHeartbeats 4000000 in
set_option maxRecDepth 100000 in
theorem rserve_no (b : List UInt8) (has : Bool) (r : Nat) (B n : Int) (f : FrD) (w : World) (hr : RtAt w r B n) (hf : f.Fit) (hb : b.length ≤ 140737488351232) (n0 : 0 ≤ n) (hno : ¬ (AskOk n f ∧ has = true ∧ PlaceOk b f.at_)) :
    Calls Tryd.prog 30 #[.pointer (some ⟨r, 0, none⟩), .string ⟨b.toArray⟩, .bool has, .agg f.row] w (RefPost b has r B n f w) := by
  obtain ⟨wf, hwf⟩ : ∃ y, y = w.alloc (.cells f.row 44) := ⟨_, rfl⟩
  obtain ⟨fb, hfb⟩ : ∃ y, y = w.heap.size := ⟨_, rfl⟩
  have hfr := heap_alloc_new w (.cells f.row 44)
  have hb1 := (Below.refl w.heap.size w).alloc (Nat.le_refl _) (.cells f.row 44)
  rw [← hwf] at hfr hb1
  rw [← hfb] at hfr
  have hz : (wf.alloc (.cells Tryd.zeroCells50 50)).heap[wf.heap.size]? = some (.cells Tryd.zeroCells50 50 (0, 0)) := heap_alloc_new wf _
  have hbz : Below wf.heap.size wf (wf.alloc (.cells Tryd.zeroCells50 50)) := (Below.refl _ wf).alloc (Nat.le_refl _) _
  have hzs : Tryd.zeroCells50.size = 238 := by rw [zero_sent, sentRow_size 0 zeroFr_fit]
  obtain ⟨g, hg⟩ : ∃ g, g = wf.heap.size := ⟨_, rfl⟩
  obtain ⟨w1, hw1⟩ : ∃ y, y = wf.alloc (.cells Tryd.zeroCells50 50) := ⟨_, rfl⟩
  have hsf : wf.heap.size = fb + 1 := by rw [hwf, hfb]; simp
  rw [← hw1] at hz hbz
  rw [← hg] at hz
  have hfr1 := below_keep hbz hfr
  have hb01 : Below w.heap.size w w1 := hb1.trans (hbz.mono hb1.size)
  have Hwf := Lib.hid hwf
  have Hfb := Lib.hid hfb
  have Hw1 := Lib.hid hw1
  have Hg := Lib.hid hg
  have hg1 : Hid (g = fb + 1) := Lib.hid (by rw [hg, hsf])
  have HB01 := Lib.hid hb01
  have Hfr1 := Lib.hid hfr1
  have Hz := Lib.hid hz
  have Hf := Lib.hid hf
  have Hr1 := Lib.hid (hr.below hb01)
  have Hrl := Lib.hid hr.lt
  have Hgw : Hid (w.heap.size ≤ g) := Lib.hid (by rw [hg]; exact hb1.size)
  have hfs0 := sentRow_size 0 zeroFr_fit
  have hfo0 := sent_one 0 zeroFr_fit
  have hfi0 : (Tryd.prog.info? 50).map (·.size) = some (sentRow 0 zeroFr).size := by rw [hfs0]; exact sent_info
  have hbm0 := built_zeroSent
  obtain ⟨F0, hF0⟩ : ∃ F, F = sentRow 0 zeroFr := ⟨_, rfl⟩
  rw [← hF0] at hbm0 hfs0 hfo0 hfi0
  have HF0 := Lib.hid hF0
  clear hr hwf hfb hw1 hg hsf hb01 hfr1 hz hbz hb1 hfr hf hF0
  go_enter Tryd.func30, Tryd.ntmps30
  go_upto_region 1 with fail
  rw [← Hwf.out, ← Hfb.out, ← Hw1.out]
  rw [← hg1.out]
  go_upto_region 2 with (first | (refine wpList_build0 rfl 50 rfl F0 hbm0 ?_) | (refine wpList_store_row rfl 50 _ _ rfl w1.heap.size F0 rfl rfl 50 _ (heap_alloc_new w1 _) hfi0 (by rw [hfs0, hzs]) hfo0 ?_))
  show Code.wp _ _ _ _ ((w1.alloc (.cells Tryd.zeroCells50 50)).setRow w1.heap.size F0)
  obtain ⟨hq_w2, hB_w2⟩ := put_new w1 Tryd.zeroCells50 F0 50
  obtain ⟨nb, hp_w2⟩ : ∃ q, q = w1.heap.size := ⟨_, rfl⟩
  obtain ⟨w2, hw_w2⟩ : ∃ y, y = ((w1.alloc (.cells Tryd.zeroCells50 50)).setRow w1.heap.size F0) := ⟨_, rfl⟩
  rw [← hw_w2] at hq_w2 hB_w2 ⊢
  rw [← hp_w2] at hq_w2 ⊢
  have HQ_w2 := Lib.hid hq_w2
  have HB_w2 := Lib.hid hB_w2
  have Hp_w2 := Lib.hid hp_w2
  clear hq_w2 hB_w2 hp_w2 hw_w2
  have HB02 := Lib.hid (HB01.out.trans (HB_w2.out.mono HB01.out.size))
  have hsp := Lib.hid (rsplit_any b w2 hb)
  go_wp2_with fail
  refine hsp.out.mono ?_
  rintro e w3 ⟨v, rfl, hT, hB3⟩
  obtain ⟨A, cap, rfl, hcap, hncap⟩ := Bag0.shape hT
  obtain ⟨m, hm⟩ : ∃ m, m = (chunks b).length := ⟨_, rfl⟩
  rw [← hm]
  have hm63 : (m : Int) ≤ 9223372036854775807 := by have := chunks_length b; omega
  have HT := Lib.hid hT
  have Hm := Lib.hid hm
  have HB03 := Lib.hid (HB02.out.trans (hB3.mono HB02.out.size))
  have Hz3 := Lib.hid (below_keep hB3 (below_keep HB_w2.out Hz.out))
  have HN3 := Lib.hid (below_keep hB3 HQ_w2.out)
  have Hr3 := Lib.hid ((Hr1.out.below HB_w2.out).below hB3)
  have Hfr3 := Lib.hid (below_keep hB3 (below_keep HB_w2.out Hfr1.out))
  have fa := fr_mem Hf.out Hfr3.out
  have fk := fa.kind
  have ff := fa.from_
  have fat := fa.at_
  have Hfa := Lib.hid fa
  obtain ⟨-, c1, -⟩ := Hr3.out.cells
  have Hnr : Hid (nb ≠ r) := Lib.hid (fun e => by have := Hrl.out; have := Hp_w2.out; have := HB01.out.size; omega)
  have Hng : Hid (nb ≠ g) := Lib.hid (fun e => by have := heap_lt Hz.out; have := Hp_w2.out; omega)
  have Hgr : Hid (g ≠ r) := Lib.hid (fun e => by have := Hrl.out; have := Hgw.out; omega)
  clear hT hB3 hm hncap fa hsp hcap
  obtain ⟨kd, hkd⟩ : ∃ x, x = f.kind := ⟨_, rfl⟩
  obtain ⟨fm, hfm⟩ : ∃ x, x = f.from_ := ⟨_, rfl⟩
  obtain ⟨i, hi⟩ : ∃ x, x = f.at_ := ⟨_, rfl⟩
  rw [← hkd] at fk
  rw [← hfm] at ff
  rw [← hi] at fat
  have Hkd := Lib.hid hkd
  have Hfm := Lib.hid hfm
  have Hi := Lib.hid hi
  clear hkd hfm hi
  have fin2 : ∀ w', w' = w3.setRow g F0 → RefPost b has r B n f w (.returned (.tuple #[.agg F0, .bool false])) w' := by
    intro w' hw'
    subst hw'
    have hO : Only [g] w3 (w3.setRow g F0) := (Only.refl [g] w3).setRow (by simp) F0
    refine ⟨0, zeroFr, false, by rw [HF0.out], .no hno, Hr3.out.keep (hO.block r Hr3.out.lt (by simp; exact fun e => Hgr.out e.symm)), Only.of_below (HB03.out.trans (hO.below HB03.out.size (by simp; exact Hgw.out)))⟩
  have Fin2 := Lib.hid fin2
  clear fin2
  have h6 : ¬ (kd = 6 ∧ 1 ≤ fm ∧ fm ≤ 6 ∧ 1 ≤ n ∧ has = true ∧ -1 ≤ i ∧ i < (m : Int)) := by
    rintro ⟨a1, a2, a3, a4, a5, a6, a7⟩
    refine hno ⟨⟨by omega, by rw [← Hkd.out]; exact a1, by rw [← Hfm.out]; exact a2, by rw [← Hfm.out]; exact a3⟩, a5, ?_⟩
    unfold PlaceOk
    rw [← Hi.out, ← Hm.out]
    omega
  clear hno
  have key : kd ≠ 6 ∨ kd = 6 ∧ fm < 1 ∨ kd = 6 ∧ ¬ fm < 1 ∧ 6 < fm ∨ kd = 6 ∧ ¬ fm < 1 ∧ ¬ 6 < fm ∧ n < 1 ∨ kd = 6 ∧ ¬ fm < 1 ∧ ¬ 6 < fm ∧ ¬ n < 1 ∧ has = false ∨ kd = 6 ∧ ¬ fm < 1 ∧ ¬ 6 < fm ∧ ¬ n < 1 ∧ has = true ∧ i < -1 ∨ kd = 6 ∧ ¬ fm < 1 ∧ ¬ 6 < fm ∧ ¬ n < 1 ∧ has = true ∧ ¬ i < -1 ∧ (m : Int) ≤ i := by
    cases has <;> simp at h6 ⊢ <;> omega
  clear h6
  rcases key with h1 | ⟨h1, h2⟩ | ⟨h1, h2, h3⟩ | ⟨h1, h2, h3, h4⟩ | ⟨h1, h2, h3, h4, h5⟩ | ⟨h1, h2, h3, h4, h5, h6⟩ | ⟨h1, h2, h3, h4, h5, h6, h7⟩
  · skip
    go_wp2_with (first
      | (refine wpList_load_row rfl 50 _ rfl nb rfl 50 F0 (0, 0) _ HN3.out Tryd.underlying50 rfl hfi0 ?_)
      | (refine wpList_store_row rfl 50 _ _ rfl g F0 rfl rfl 50 _ Hz3.out hfi0 (by rw [hfs0, hzs]) hfo0 ?_))
    (try simp only [Exit.inBlock, Exit.then])
    refine bodyPost_ret (results_cell_row2 rfl _ _ g 50 F0 (0, 0) _ rfl (setRow_heap _ _ _ _ _ _ Hz3.out) Tryd.underlying50 rfl hfi0) rfl ?_
    exact Fin2.out _ rfl
  · subst h1
    go_wp2_with (first
      | (refine wpList_load_row rfl 50 _ rfl nb rfl 50 F0 (0, 0) _ HN3.out Tryd.underlying50 rfl hfi0 ?_)
      | (refine wpList_store_row rfl 50 _ _ rfl g F0 rfl rfl 50 _ Hz3.out hfi0 (by rw [hfs0, hzs]) hfo0 ?_))
    (try simp only [Exit.inBlock, Exit.then])
    refine bodyPost_ret (results_cell_row2 rfl _ _ g 50 F0 (0, 0) _ rfl (setRow_heap _ _ _ _ _ _ Hz3.out) Tryd.underlying50 rfl hfi0) rfl ?_
    exact Fin2.out _ rfl
  · subst h1
    go_wp2_with (first
      | (refine wpList_load_row rfl 50 _ rfl nb rfl 50 F0 (0, 0) _ HN3.out Tryd.underlying50 rfl hfi0 ?_)
      | (refine wpList_store_row rfl 50 _ _ rfl g F0 rfl rfl 50 _ Hz3.out hfi0 (by rw [hfs0, hzs]) hfo0 ?_))
    (try simp only [Exit.inBlock, Exit.then])
    refine bodyPost_ret (results_cell_row2 rfl _ _ g 50 F0 (0, 0) _ rfl (setRow_heap _ _ _ _ _ _ Hz3.out) Tryd.underlying50 rfl hfi0) rfl ?_
    exact Fin2.out _ rfl
  · subst h1
    go_wp2_with (first
      | (refine wpList_load_row rfl 50 _ rfl nb rfl 50 F0 (0, 0) _ HN3.out Tryd.underlying50 rfl hfi0 ?_)
      | (refine wpList_store_row rfl 50 _ _ rfl g F0 rfl rfl 50 _ Hz3.out hfi0 (by rw [hfs0, hzs]) hfo0 ?_))
    (try simp only [Exit.inBlock, Exit.then])
    refine bodyPost_ret (results_cell_row2 rfl _ _ g 50 F0 (0, 0) _ rfl (setRow_heap _ _ _ _ _ _ Hz3.out) Tryd.underlying50 rfl hfi0) rfl ?_
    exact Fin2.out _ rfl
  · subst h1
    subst h5
    go_wp2_with (first
      | (refine wpList_load_row rfl 50 _ rfl nb rfl 50 F0 (0, 0) _ HN3.out Tryd.underlying50 rfl hfi0 ?_)
      | (refine wpList_store_row rfl 50 _ _ rfl g F0 rfl rfl 50 _ Hz3.out hfi0 (by rw [hfs0, hzs]) hfo0 ?_))
    (try simp only [Exit.inBlock, Exit.then])
    refine bodyPost_ret (results_cell_row2 rfl _ _ g 50 F0 (0, 0) _ rfl (setRow_heap _ _ _ _ _ _ Hz3.out) Tryd.underlying50 rfl hfi0) rfl ?_
    exact Fin2.out _ rfl
  · subst h1
    subst h5
    go_wp2_with (first
      | (refine wpList_load_row rfl 50 _ rfl nb rfl 50 F0 (0, 0) _ HN3.out Tryd.underlying50 rfl hfi0 ?_)
      | (refine wpList_store_row rfl 50 _ _ rfl g F0 rfl rfl 50 _ Hz3.out hfi0 (by rw [hfs0, hzs]) hfo0 ?_))
    (try simp only [Exit.inBlock, Exit.then])
    refine bodyPost_ret (results_cell_row2 rfl _ _ g 50 F0 (0, 0) _ rfl (setRow_heap _ _ _ _ _ _ Hz3.out) Tryd.underlying50 rfl hfi0) rfl ?_
    exact Fin2.out _ rfl
  · subst h1
    subst h5
    go_wp2_with (first
      | (refine wpList_load_row rfl 50 _ rfl nb rfl 50 F0 (0, 0) _ HN3.out Tryd.underlying50 rfl hfi0 ?_)
      | (refine wpList_store_row rfl 50 _ _ rfl g F0 rfl rfl 50 _ Hz3.out hfi0 (by rw [hfs0, hzs]) hfo0 ?_))
    (try simp only [Exit.inBlock, Exit.then])
    refine bodyPost_ret (results_cell_row2 rfl _ _ g 50 F0 (0, 0) _ rfl (setRow_heap _ _ _ _ _ _ Hz3.out) Tryd.underlying50 rfl hfi0) rfl ?_
    exact Fin2.out _ rfl

set_option maxHeartbeats 4000000 in
set_option maxRecDepth 100000 in
theorem rserve_mani (b : List UInt8) (r : Nat) (B n : Int) (f : FrD) (w : World) (hr : RtAt w r B n) (hf : f.Fit) (hb5 : b.length ≤ 512) (n0 : 0 ≤ n) (n1 : n ≤ 1000) (hok : AskOk n f) (hpl : PlaceOk b f.at_) (ha : f.at_ = -1) :
    Calls Tryd.prog 30 #[.pointer (some ⟨r, 0, none⟩), .string ⟨b.toArray⟩, .bool true, .agg f.row] w (RefPost b true r B n f w) := by
  have hb : b.length ≤ 140737488351232 := by omega
  obtain ⟨wf, hwf⟩ : ∃ y, y = w.alloc (.cells f.row 44) := ⟨_, rfl⟩
  obtain ⟨fb, hfb⟩ : ∃ y, y = w.heap.size := ⟨_, rfl⟩
  have hfr := heap_alloc_new w (.cells f.row 44)
  have hb1 := (Below.refl w.heap.size w).alloc (Nat.le_refl _) (.cells f.row 44)
  rw [← hwf] at hfr hb1
  rw [← hfb] at hfr
  have hz : (wf.alloc (.cells Tryd.zeroCells50 50)).heap[wf.heap.size]? = some (.cells Tryd.zeroCells50 50 (0, 0)) := heap_alloc_new wf _
  have hbz : Below wf.heap.size wf (wf.alloc (.cells Tryd.zeroCells50 50)) := (Below.refl _ wf).alloc (Nat.le_refl _) _
  have hzs : Tryd.zeroCells50.size = 238 := by rw [zero_sent, sentRow_size 0 zeroFr_fit]
  obtain ⟨g, hg⟩ : ∃ g, g = wf.heap.size := ⟨_, rfl⟩
  obtain ⟨w1, hw1⟩ : ∃ y, y = wf.alloc (.cells Tryd.zeroCells50 50) := ⟨_, rfl⟩
  have hsf : wf.heap.size = fb + 1 := by rw [hwf, hfb]; simp
  rw [← hw1] at hz hbz
  rw [← hg] at hz
  have hfr1 := below_keep hbz hfr
  have hb01 : Below w.heap.size w w1 := hb1.trans (hbz.mono hb1.size)
  have Hwf := Lib.hid hwf
  have Hfb := Lib.hid hfb
  have Hw1 := Lib.hid hw1
  have Hg := Lib.hid hg
  have hg1 : Hid (g = fb + 1) := Lib.hid (by rw [hg, hsf])
  have HB01 := Lib.hid hb01
  have Hfr1 := Lib.hid hfr1
  have Hz := Lib.hid hz
  have Hf := Lib.hid hf
  have Hr1 := Lib.hid (hr.below hb01)
  have Hrl := Lib.hid hr.lt
  have Hgw : Hid (w.heap.size ≤ g) := Lib.hid (by rw [hg]; exact hb1.size)
  have hfs0 := sentRow_size 0 zeroFr_fit
  have hfo0 := sent_one 0 zeroFr_fit
  have hfi0 : (Tryd.prog.info? 50).map (·.size) = some (sentRow 0 zeroFr).size := by rw [hfs0]; exact sent_info
  have hbm0 := built_zeroSent
  obtain ⟨F0, hF0⟩ : ∃ F, F = sentRow 0 zeroFr := ⟨_, rfl⟩
  rw [← hF0] at hbm0 hfs0 hfo0 hfi0
  have HF0 := Lib.hid hF0
  clear hr hwf hfb hw1 hg hsf hb01 hfr1 hz hbz hb1 hfr hf hF0
  go_enter Tryd.func30, Tryd.ntmps30
  go_upto_region 1 with fail
  rw [← Hwf.out, ← Hfb.out, ← Hw1.out]
  rw [← hg1.out]
  go_upto_region 2 with (first | (refine wpList_build0 rfl 50 rfl F0 hbm0 ?_) | (refine wpList_store_row rfl 50 _ _ rfl w1.heap.size F0 rfl rfl 50 _ (heap_alloc_new w1 _) hfi0 (by rw [hfs0, hzs]) hfo0 ?_))
  show Code.wp _ _ _ _ ((w1.alloc (.cells Tryd.zeroCells50 50)).setRow w1.heap.size F0)
  obtain ⟨hq_w2, hB_w2⟩ := put_new w1 Tryd.zeroCells50 F0 50
  obtain ⟨nb, hp_w2⟩ : ∃ q, q = w1.heap.size := ⟨_, rfl⟩
  obtain ⟨w2, hw_w2⟩ : ∃ y, y = ((w1.alloc (.cells Tryd.zeroCells50 50)).setRow w1.heap.size F0) := ⟨_, rfl⟩
  rw [← hw_w2] at hq_w2 hB_w2 ⊢
  rw [← hp_w2] at hq_w2 ⊢
  have HQ_w2 := Lib.hid hq_w2
  have HB_w2 := Lib.hid hB_w2
  have Hp_w2 := Lib.hid hp_w2
  clear hq_w2 hB_w2 hp_w2 hw_w2
  have HB02 := Lib.hid (HB01.out.trans (HB_w2.out.mono HB01.out.size))
  have hsp := Lib.hid (rsplit_any b w2 hb)
  go_wp2_with fail
  refine hsp.out.mono ?_
  rintro e w3 ⟨v, rfl, hT, hB3⟩
  obtain ⟨A, cap, rfl, hcap, hncap⟩ := Bag0.shape hT
  obtain ⟨m, hm⟩ : ∃ m, m = (chunks b).length := ⟨_, rfl⟩
  rw [← hm]
  have hm63 : (m : Int) ≤ 9223372036854775807 := by have := chunks_length b; omega
  have HT := Lib.hid hT
  have Hm := Lib.hid hm
  have HB03 := Lib.hid (HB02.out.trans (hB3.mono HB02.out.size))
  have Hz3 := Lib.hid (below_keep hB3 (below_keep HB_w2.out Hz.out))
  have HN3 := Lib.hid (below_keep hB3 HQ_w2.out)
  have Hr3 := Lib.hid ((Hr1.out.below HB_w2.out).below hB3)
  have Hfr3 := Lib.hid (below_keep hB3 (below_keep HB_w2.out Hfr1.out))
  have fa := fr_mem Hf.out Hfr3.out
  have fk := fa.kind
  have ff := fa.from_
  have fat := fa.at_
  have Hfa := Lib.hid fa
  obtain ⟨-, c1, -⟩ := Hr3.out.cells
  have Hnr : Hid (nb ≠ r) := Lib.hid (fun e => by have := Hrl.out; have := Hp_w2.out; have := HB01.out.size; omega)
  have Hng : Hid (nb ≠ g) := Lib.hid (fun e => by have := heap_lt Hz.out; have := Hp_w2.out; omega)
  have Hgr : Hid (g ≠ r) := Lib.hid (fun e => by have := Hrl.out; have := Hgw.out; omega)
  clear hT hB3 hm hncap fa hsp hcap
  obtain ⟨kd, hkd⟩ : ∃ x, x = f.kind := ⟨_, rfl⟩
  obtain ⟨fm, hfm⟩ : ∃ x, x = f.from_ := ⟨_, rfl⟩
  obtain ⟨i, hi⟩ : ∃ x, x = f.at_ := ⟨_, rfl⟩
  rw [← hkd] at fk
  rw [← hfm] at ff
  rw [← hi] at fat
  have Hkd := Lib.hid hkd
  have Hfm := Lib.hid hfm
  have Hi := Lib.hid hi
  clear hkd hfm hi
  have hN1 : ¬ n < 1 := by have := hok.1; omega
  obtain ⟨hk6, hf1, hf6⟩ : kd = 6 ∧ ¬ fm < 1 ∧ ¬ 6 < fm := by have h := hok.2; rw [← Hkd.out, ← Hfm.out] at h; omega
  subst hk6
  have hw1 : IntKind.i64.wrap (n - 1) = n - 1 := IntWalk.i64_in _ (by omega)
  obtain ⟨i0, i1⟩ : ¬ i < -1 ∧ ¬ (m : Int) ≤ i := by
    have h := hpl
    unfold PlaceOk at h
    rw [← Hi.out, ← Hm.out] at h
    omega
  have z1 := Hr3.out.cells.2.2 1
  have hset := Hr3.out.set (n - 1)
  have hO4 : Only [r] w3 (w3.setCell ⟨r, 1, none⟩ (.int .i64 (n - 1))) := (Only.refl [r] w3).setCell (p := ⟨r, 1, none⟩) (by simp) _
  have Hok := Lib.hid hok
  have Hpl := Lib.hid hpl
  clear hok hpl
  go_upto_region 6 with fail
  obtain ⟨w4, hw4⟩ : ∃ y, y = w3.setCell ⟨r, 1, none⟩ (.int .i64 (n - 1)) := ⟨_, rfl⟩
  rw [← hw4] at hset hO4 ⊢
  have Hr4 := Lib.hid hset
  have HO4 := Lib.hid hO4
  have Hfr4 := Lib.hid (hO4.keep Hfr3.out (by simp; have := Hg.out; have := hg1.out; have := Hrl.out; have := Hgw.out; have := Hfb.out; omega))
  have Hz4 := Lib.hid (hO4.keep Hz3.out (by simp; exact Hgr.out))
  clear hset hO4 hw4 z1 c1 fk ff fat
  have fa := fr_mem Hf.out Hfr4.out
  have ff := fa.from_
  have fat := fa.at_
  rw [← Hfm.out] at ff
  rw [← Hi.out] at fat
  clear fa
  have hfs1 := sentRow_size fm zeroFr_fit
  have hfo1 := sent_one fm zeroFr_fit
  have hfi1 : (Tryd.prog.info? 50).map (·.size) = some (sentRow fm zeroFr).size := by rw [hfs1]; exact sent_info
  have hbm1 := built_sentTo fm
  obtain ⟨F1, hF1⟩ : ∃ F, F = sentRow fm zeroFr := ⟨_, rfl⟩
  rw [← hF1] at hbm1 hfs1 hfo1 hfi1
  have HF1 := Lib.hid hF1
  clear hF1
  go_upto_region 7 with (first | (refine wpList_build1 rfl 50 _ _ rfl _ rfl F1 hbm1 ?_) | (refine wpList_store_row rfl 50 _ _ rfl w4.heap.size F1 rfl rfl 50 _ (heap_alloc_new w4 _) hfi1 (by rw [hfs1, hzs]) hfo1 ?_))
  show Code.wp _ _ _ _ ((w4.alloc (.cells Tryd.zeroCells50 50)).setRow w4.heap.size F1)
  obtain ⟨hq_w5, hB_w5⟩ := put_new w4 Tryd.zeroCells50 F1 50
  obtain ⟨sb, hp_w5⟩ : ∃ q, q = w4.heap.size := ⟨_, rfl⟩
  obtain ⟨w5, hw_w5⟩ : ∃ y, y = ((w4.alloc (.cells Tryd.zeroCells50 50)).setRow w4.heap.size F1) := ⟨_, rfl⟩
  rw [← hw_w5] at hq_w5 hB_w5 ⊢
  rw [← hp_w5] at hq_w5 ⊢
  have HQ_w5 := Lib.hid hq_w5
  have HB_w5 := Lib.hid hB_w5
  have Hp_w5 := Lib.hid hp_w5
  clear hq_w5 hB_w5 hp_w5 hw_w5
  have fat := (HB_w5.out.cell (p := ⟨fb, 134, none⟩) (heap_lt Hfr4.out)).trans fat
  have HS5 : Hid (w5.heap[sb]? = some (.cells (sentRow fm zeroFr) 50 (0, 0))) := Lib.hid (by have h := HQ_w5.out; rw [HF1.out] at h; exact h)
  have Hr5 := Lib.hid (Hr4.out.below HB_w5.out)
  have Hz5 := Lib.hid (below_keep HB_w5.out Hz4.out)
  have HO05 : Hid (Only [r] w w5) := Lib.hid (((Only.of_below HB03.out).trans HO4.out).trans (Only.of_below HB_w5.out))
  have Hsw : Hid (w.heap.size ≤ sb) := Lib.hid (by have := Hp_w5.out; have := HO4.out.size; have := HB03.out.size; omega)
  have Hsg : Hid (sb ≠ g) := Lib.hid (fun e => by have := Hp_w5.out; have := heap_lt Hz4.out; omega)
  clear hfi0 hfs0 hfo0 hbm0
  have him : i = -1 := by rw [Hi.out]; exact ha
  subst him
  have hma := Lib.hid (rmani_any2 b w5 hb5)
  go_wp2_with fail
  refine hma.out.mono ?_
  rintro e w6 ⟨m2, rfl, hm2, k1, k2, k3, hB6, hup⟩
  have HOwn : Hid (OwnM KK m2 b) := Lib.hid ⟨k1, k2, k3⟩
  have hmw := hm2.whole
  have hms : m2.row.size = 34 := m2.row_size hmw
  have mone := m2.row_one
  have minf : (Tryd.prog.info? 39).map (·.size) = some m2.row.size := by rw [hms]; exact mani_info
  have hr2 : m2.row = m2.cells.toArray := rfl
  have Hm2 := Lib.hid hm2
  have Hup := Lib.hid hup
  have HB6 := Lib.hid hB6
  obtain ⟨MR, hMR⟩ : ∃ R, R = m2.row := ⟨_, rfl⟩
  rw [← hMR] at hms mone minf ⊢
  have HMR := Lib.hid hMR
  have HMC : Hid (MR.toList = m2.cells) := Lib.hid (by rw [hMR, hr2])
  have Hmw := Lib.hid hmw
  clear hm2 k1 k2 k3 hB6 hup hMR hmw hma hr2
  go_upto_region 9 with (first | (refine wpList_store_row rfl 39 _ _ rfl w6.heap.size MR rfl rfl 39 _ (heap_alloc_new w6 _) minf (by rw [hms]; rfl) mone ?_))
  show Code.wp _ _ _ _ ((w6.alloc (.cells zeroMani.row 39)).setRow w6.heap.size MR)
  obtain ⟨hq_w7, hB_w7⟩ := put_new w6 zeroMani.row MR 39
  obtain ⟨mb, hp_w7⟩ : ∃ q, q = w6.heap.size := ⟨_, rfl⟩
  obtain ⟨w7, hw_w7⟩ : ∃ y, y = ((w6.alloc (.cells zeroMani.row 39)).setRow w6.heap.size MR) := ⟨_, rfl⟩
  rw [← hw_w7] at hq_w7 hB_w7 ⊢
  rw [← hp_w7] at hq_w7 ⊢
  have HQ_w7 := Lib.hid hq_w7
  have HB_w7 := Lib.hid hB_w7
  have Hp_w7 := Lib.hid hp_w7
  clear hq_w7 hB_w7 hp_w7 hw_w7
  have HB57 := Lib.hid (HB6.out.trans (HB_w7.out.mono HB6.out.size))
  have HS7 := Lib.hid (below_keep HB57.out HS5.out)
  have Hr7 := Lib.hid (Hr5.out.below HB57.out)
  have Hz7 := Lib.hid (below_keep HB57.out Hz5.out)
  have s1 := (sn_mem zeroFr_fit HS7.out).kind
  have zf1 := Lib.frozen_of_heap HS7.out 1
  have hk := sn_put_kind 7 HS7.out
  have hO8 : Only [sb] w7 (w7.setCell ⟨sb, 1, none⟩ (.int .i64 7)) := (Only.refl [sb] w7).setCell (p := ⟨sb, 1, none⟩) (by simp) _
  rw [show zeroFr.kind = 0 from rfl] at s1
  go_upto_region 10 with fail
  obtain ⟨w8, hw8⟩ : ∃ y, y = w7.setCell ⟨sb, 1, none⟩ (.int .i64 7) := ⟨_, rfl⟩
  rw [← hw8] at hk hO8 ⊢
  have HO8 := Lib.hid hO8
  have HS8 := Lib.hid hk
  have Hmbs : Hid (mb ≠ sb ∧ mb ≠ g ∧ mb ≠ r) := Lib.hid ⟨fun e => by have := Hp_w7.out; have := heap_lt HS5.out; have := HB6.out.size; omega, fun e => by have := Hp_w7.out; have := heap_lt Hz5.out; have := HB6.out.size; omega, fun e => by have := Hp_w7.out; have := Hr5.out.lt; have := HB6.out.size; omega⟩
  have HQ8 := Lib.hid (hO8.keep HQ_w7.out (by simp; exact Hmbs.out.1))
  clear hw8 hk hO8 s1 zf1
  have hfit7 : ({ zeroFr with kind := 7 } : FrD).Fit := ⟨rfl, rfl, rfl, rfl, rfl, rfl, rfl, rfl⟩
  have hput := sn_put_mani hfit7 m2 Hmw.out HS8.out
  have hO9 : Only [sb] w8 (w8.setCells sb 201 m2.cells) := seg_only (by simp) _ _ _ (Only.refl _ _)
  have thr : w8.there sb 201 MR.size := fun k hk => by
    have hm := (sn_mem hfit7 HS8.out).mani
    have hl : k < zeroMani.cells.length := by rw [mani_cells_len _ (by rfl)]; omega
    exact ⟨by rw [hm k _ (List.getElem?_eq_getElem hl)]; rfl, Lib.frozen_of_heap HS8.out _⟩
  go_upto_region 11 with (first
    | (refine wpList_load_row rfl 39 _ rfl mb rfl 39 MR (0, 0) _ HQ8.out Tryd.underlying39 rfl minf ?_)
    | (refine wpList_store_mid rfl 39 _ _ rfl sb 201 MR rfl rfl thr minf mone ?_))
  rw [HMC.out]
  obtain ⟨w9, hw9⟩ : ∃ y, y = w8.setCells sb 201 m2.cells := ⟨_, rfl⟩
  rw [← hw9] at hput hO9 ⊢
  have HO9 := Lib.hid hO9
  have hft := maniFr_fit 0 m2 Hmw.out
  have hfs2 := sentRow_size fm hft
  have hfo2 := sent_one fm hft
  have hfi2 : (Tryd.prog.info? 50).map (·.size) = some (sentRow fm (maniFr 0 m2)).size := by rw [hfs2]; exact sent_info
  have hput' : w9.heap[sb]? = some (.cells (sentRow fm (maniFr 0 m2)) 50 (0, 0)) := hput
  obtain ⟨F2, hF2⟩ : ∃ F, F = sentRow fm (maniFr 0 m2) := ⟨_, rfl⟩
  rw [← hF2] at hfs2 hfo2 hfi2 hput'
  have HF2 := Lib.hid hF2
  have HS9 := Lib.hid hput'
  have HO79 := Lib.hid (HO8.out.trans hO9)
  have Hz9 := Lib.hid (HO79.out.keep Hz7.out (by simp; exact fun e => Hsg.out e.symm))
  have Hr9 := Lib.hid (Hr7.out.keep (HO79.out.block r Hr7.out.lt (by simp; have := Hrl.out; have := Hsw.out; omega)))
  clear hw9 hput hput' hO9 thr hF2 hft hfit7
  go_wp2_with (first
    | (refine wpList_load_row rfl 50 _ rfl sb rfl 50 F2 (0, 0) _ HS9.out Tryd.underlying50 rfl hfi2 ?_)
    | (refine wpList_store_row rfl 50 _ _ rfl g F2 rfl rfl 50 _ Hz9.out hfi2 (by rw [hfs2, hzs]) hfo2 ?_))
  (try simp only [Exit.inBlock, Exit.then])
  refine bodyPost_ret (results_cell_row2 rfl _ _ g 50 F2 (0, 0) _ rfl (setRow_heap _ _ _ _ _ _ Hz9.out) Tryd.underlying50 rfl hfi2) rfl ?_
  have hO : Only [g] w9 (w9.setRow g F2) := (Only.refl [g] w9).setRow (by simp) F2
  have hO2 : Only [sb, g] w7 (w9.setRow g F2) := (HO79.out.mono (by simp)).trans (hO.mono (by simp))
  have mok7 := (Hm2.out.below HB_w7.out (Nat.le_refl _)).more HB_w7.out.size
  refine ⟨fm, maniFr 0 m2, true, by rw [HF2.out]; rfl, ?_, ?_, ?_⟩
  · rw [Hfm.out]
    refine .yes _ Hok.out rfl Hpl.out (.mani m2 Hi.out.symm HOwn.out { mok7 with digs := (mok7.digs.only hO2 (fun a ha => ?_)).more hO2.size } ?_)
    · have := Hup.out a ha; have := heap_lt HS5.out; have := heap_lt Hz5.out; simp; omega
    · intro a ha; exact Nat.le_trans HO05.out.size (Hup.out a ha)
  · exact Hr9.out.keep (hO.block r Hr9.out.lt (by simp; exact fun e => Hgr.out e.symm))
  · exact (HO05.out.trans (Only.of_below HB57.out)).above hO2 (by intro x hx; simp at hx; rcases hx with rfl | rfl; exact Hsw.out; exact Hgw.out)

set_option maxHeartbeats 4000000 in
set_option maxRecDepth 100000 in
theorem rserve_part (b : List UInt8) (r : Nat) (B n : Int) (f : FrD) (w : World) (hr : RtAt w r B n) (hf : f.Fit) (hb5 : b.length ≤ 512) (n0 : 0 ≤ n) (n1 : n ≤ 1000) (hok : AskOk n f) (hpl : PlaceOk b f.at_) (ha : f.at_ ≠ -1) :
    Calls Tryd.prog 30 #[.pointer (some ⟨r, 0, none⟩), .string ⟨b.toArray⟩, .bool true, .agg f.row] w (RefPost b true r B n f w) := by
  have hb : b.length ≤ 140737488351232 := by omega
  obtain ⟨wf, hwf⟩ : ∃ y, y = w.alloc (.cells f.row 44) := ⟨_, rfl⟩
  obtain ⟨fb, hfb⟩ : ∃ y, y = w.heap.size := ⟨_, rfl⟩
  have hfr := heap_alloc_new w (.cells f.row 44)
  have hb1 := (Below.refl w.heap.size w).alloc (Nat.le_refl _) (.cells f.row 44)
  rw [← hwf] at hfr hb1
  rw [← hfb] at hfr
  have hz : (wf.alloc (.cells Tryd.zeroCells50 50)).heap[wf.heap.size]? = some (.cells Tryd.zeroCells50 50 (0, 0)) := heap_alloc_new wf _
  have hbz : Below wf.heap.size wf (wf.alloc (.cells Tryd.zeroCells50 50)) := (Below.refl _ wf).alloc (Nat.le_refl _) _
  have hzs : Tryd.zeroCells50.size = 238 := by rw [zero_sent, sentRow_size 0 zeroFr_fit]
  obtain ⟨g, hg⟩ : ∃ g, g = wf.heap.size := ⟨_, rfl⟩
  obtain ⟨w1, hw1⟩ : ∃ y, y = wf.alloc (.cells Tryd.zeroCells50 50) := ⟨_, rfl⟩
  have hsf : wf.heap.size = fb + 1 := by rw [hwf, hfb]; simp
  rw [← hw1] at hz hbz
  rw [← hg] at hz
  have hfr1 := below_keep hbz hfr
  have hb01 : Below w.heap.size w w1 := hb1.trans (hbz.mono hb1.size)
  have Hwf := Lib.hid hwf
  have Hfb := Lib.hid hfb
  have Hw1 := Lib.hid hw1
  have Hg := Lib.hid hg
  have hg1 : Hid (g = fb + 1) := Lib.hid (by rw [hg, hsf])
  have HB01 := Lib.hid hb01
  have Hfr1 := Lib.hid hfr1
  have Hz := Lib.hid hz
  have Hf := Lib.hid hf
  have Hr1 := Lib.hid (hr.below hb01)
  have Hrl := Lib.hid hr.lt
  have Hgw : Hid (w.heap.size ≤ g) := Lib.hid (by rw [hg]; exact hb1.size)
  have hfs0 := sentRow_size 0 zeroFr_fit
  have hfo0 := sent_one 0 zeroFr_fit
  have hfi0 : (Tryd.prog.info? 50).map (·.size) = some (sentRow 0 zeroFr).size := by rw [hfs0]; exact sent_info
  have hbm0 := built_zeroSent
  obtain ⟨F0, hF0⟩ : ∃ F, F = sentRow 0 zeroFr := ⟨_, rfl⟩
  rw [← hF0] at hbm0 hfs0 hfo0 hfi0
  have HF0 := Lib.hid hF0
  clear hr hwf hfb hw1 hg hsf hb01 hfr1 hz hbz hb1 hfr hf hF0
  go_enter Tryd.func30, Tryd.ntmps30
  go_upto_region 1 with fail
  rw [← Hwf.out, ← Hfb.out, ← Hw1.out]
  rw [← hg1.out]
  go_upto_region 2 with (first | (refine wpList_build0 rfl 50 rfl F0 hbm0 ?_) | (refine wpList_store_row rfl 50 _ _ rfl w1.heap.size F0 rfl rfl 50 _ (heap_alloc_new w1 _) hfi0 (by rw [hfs0, hzs]) hfo0 ?_))
  show Code.wp _ _ _ _ ((w1.alloc (.cells Tryd.zeroCells50 50)).setRow w1.heap.size F0)
  obtain ⟨hq_w2, hB_w2⟩ := put_new w1 Tryd.zeroCells50 F0 50
  obtain ⟨nb, hp_w2⟩ : ∃ q, q = w1.heap.size := ⟨_, rfl⟩
  obtain ⟨w2, hw_w2⟩ : ∃ y, y = ((w1.alloc (.cells Tryd.zeroCells50 50)).setRow w1.heap.size F0) := ⟨_, rfl⟩
  rw [← hw_w2] at hq_w2 hB_w2 ⊢
  rw [← hp_w2] at hq_w2 ⊢
  have HQ_w2 := Lib.hid hq_w2
  have HB_w2 := Lib.hid hB_w2
  have Hp_w2 := Lib.hid hp_w2
  clear hq_w2 hB_w2 hp_w2 hw_w2
  have HB02 := Lib.hid (HB01.out.trans (HB_w2.out.mono HB01.out.size))
  have hsp := Lib.hid (rsplit_any b w2 hb)
  go_wp2_with fail
  refine hsp.out.mono ?_
  rintro e w3 ⟨v, rfl, hT, hB3⟩
  obtain ⟨A, cap, rfl, hcap, hncap⟩ := Bag0.shape hT
  obtain ⟨m, hm⟩ : ∃ m, m = (chunks b).length := ⟨_, rfl⟩
  rw [← hm]
  have hm63 : (m : Int) ≤ 9223372036854775807 := by have := chunks_length b; omega
  have HT := Lib.hid hT
  have Hm := Lib.hid hm
  have HB03 := Lib.hid (HB02.out.trans (hB3.mono HB02.out.size))
  have Hz3 := Lib.hid (below_keep hB3 (below_keep HB_w2.out Hz.out))
  have HN3 := Lib.hid (below_keep hB3 HQ_w2.out)
  have Hr3 := Lib.hid ((Hr1.out.below HB_w2.out).below hB3)
  have Hfr3 := Lib.hid (below_keep hB3 (below_keep HB_w2.out Hfr1.out))
  have fa := fr_mem Hf.out Hfr3.out
  have fk := fa.kind
  have ff := fa.from_
  have fat := fa.at_
  have Hfa := Lib.hid fa
  obtain ⟨-, c1, -⟩ := Hr3.out.cells
  have Hnr : Hid (nb ≠ r) := Lib.hid (fun e => by have := Hrl.out; have := Hp_w2.out; have := HB01.out.size; omega)
  have Hng : Hid (nb ≠ g) := Lib.hid (fun e => by have := heap_lt Hz.out; have := Hp_w2.out; omega)
  have Hgr : Hid (g ≠ r) := Lib.hid (fun e => by have := Hrl.out; have := Hgw.out; omega)
  clear hT hB3 hm hncap fa hsp hcap
  obtain ⟨kd, hkd⟩ : ∃ x, x = f.kind := ⟨_, rfl⟩
  obtain ⟨fm, hfm⟩ : ∃ x, x = f.from_ := ⟨_, rfl⟩
  obtain ⟨i, hi⟩ : ∃ x, x = f.at_ := ⟨_, rfl⟩
  rw [← hkd] at fk
  rw [← hfm] at ff
  rw [← hi] at fat
  have Hkd := Lib.hid hkd
  have Hfm := Lib.hid hfm
  have Hi := Lib.hid hi
  clear hkd hfm hi
  have hN1 : ¬ n < 1 := by have := hok.1; omega
  obtain ⟨hk6, hf1, hf6⟩ : kd = 6 ∧ ¬ fm < 1 ∧ ¬ 6 < fm := by have h := hok.2; rw [← Hkd.out, ← Hfm.out] at h; omega
  subst hk6
  have hw1 : IntKind.i64.wrap (n - 1) = n - 1 := IntWalk.i64_in _ (by omega)
  obtain ⟨i0, i1⟩ : ¬ i < -1 ∧ ¬ (m : Int) ≤ i := by
    have h := hpl
    unfold PlaceOk at h
    rw [← Hi.out, ← Hm.out] at h
    omega
  have z1 := Hr3.out.cells.2.2 1
  have hset := Hr3.out.set (n - 1)
  have hO4 : Only [r] w3 (w3.setCell ⟨r, 1, none⟩ (.int .i64 (n - 1))) := (Only.refl [r] w3).setCell (p := ⟨r, 1, none⟩) (by simp) _
  have Hok := Lib.hid hok
  have Hpl := Lib.hid hpl
  clear hok hpl
  go_upto_region 6 with fail
  obtain ⟨w4, hw4⟩ : ∃ y, y = w3.setCell ⟨r, 1, none⟩ (.int .i64 (n - 1)) := ⟨_, rfl⟩
  rw [← hw4] at hset hO4 ⊢
  have Hr4 := Lib.hid hset
  have HO4 := Lib.hid hO4
  have Hfr4 := Lib.hid (hO4.keep Hfr3.out (by simp; have := Hg.out; have := hg1.out; have := Hrl.out; have := Hgw.out; have := Hfb.out; omega))
  have Hz4 := Lib.hid (hO4.keep Hz3.out (by simp; exact Hgr.out))
  clear hset hO4 hw4 z1 c1 fk ff fat
  have fa := fr_mem Hf.out Hfr4.out
  have ff := fa.from_
  have fat := fa.at_
  rw [← Hfm.out] at ff
  rw [← Hi.out] at fat
  clear fa
  have hfs1 := sentRow_size fm zeroFr_fit
  have hfo1 := sent_one fm zeroFr_fit
  have hfi1 : (Tryd.prog.info? 50).map (·.size) = some (sentRow fm zeroFr).size := by rw [hfs1]; exact sent_info
  have hbm1 := built_sentTo fm
  obtain ⟨F1, hF1⟩ : ∃ F, F = sentRow fm zeroFr := ⟨_, rfl⟩
  rw [← hF1] at hbm1 hfs1 hfo1 hfi1
  have HF1 := Lib.hid hF1
  clear hF1
  go_upto_region 7 with (first | (refine wpList_build1 rfl 50 _ _ rfl _ rfl F1 hbm1 ?_) | (refine wpList_store_row rfl 50 _ _ rfl w4.heap.size F1 rfl rfl 50 _ (heap_alloc_new w4 _) hfi1 (by rw [hfs1, hzs]) hfo1 ?_))
  show Code.wp _ _ _ _ ((w4.alloc (.cells Tryd.zeroCells50 50)).setRow w4.heap.size F1)
  obtain ⟨hq_w5, hB_w5⟩ := put_new w4 Tryd.zeroCells50 F1 50
  obtain ⟨sb, hp_w5⟩ : ∃ q, q = w4.heap.size := ⟨_, rfl⟩
  obtain ⟨w5, hw_w5⟩ : ∃ y, y = ((w4.alloc (.cells Tryd.zeroCells50 50)).setRow w4.heap.size F1) := ⟨_, rfl⟩
  rw [← hw_w5] at hq_w5 hB_w5 ⊢
  rw [← hp_w5] at hq_w5 ⊢
  have HQ_w5 := Lib.hid hq_w5
  have HB_w5 := Lib.hid hB_w5
  have Hp_w5 := Lib.hid hp_w5
  clear hq_w5 hB_w5 hp_w5 hw_w5
  have fat := (HB_w5.out.cell (p := ⟨fb, 134, none⟩) (heap_lt Hfr4.out)).trans fat
  have HS5 : Hid (w5.heap[sb]? = some (.cells (sentRow fm zeroFr) 50 (0, 0))) := Lib.hid (by have h := HQ_w5.out; rw [HF1.out] at h; exact h)
  have Hr5 := Lib.hid (Hr4.out.below HB_w5.out)
  have Hz5 := Lib.hid (below_keep HB_w5.out Hz4.out)
  have HO05 : Hid (Only [r] w w5) := Lib.hid (((Only.of_below HB03.out).trans HO4.out).trans (Only.of_below HB_w5.out))
  have Hsw : Hid (w.heap.size ≤ sb) := Lib.hid (by have := Hp_w5.out; have := HO4.out.size; have := HB03.out.size; omega)
  have Hsg : Hid (sb ≠ g) := Lib.hid (fun e => by have := Hp_w5.out; have := heap_lt Hz4.out; omega)
  clear hfi0 hfs0 hfo0 hbm0
  have hne : i ≠ -1 := by rw [Hi.out]; exact ha
  have a1 : (i == -1) = false := by simpa using hne
  obtain ⟨k, hk⟩ : ∃ k : Nat, i = (k : Int) := ⟨i.toNat, by omega⟩
  have kn : k < m := by omega
  have hkt : k < (chunks b).length := by rw [← Hm.out]; exact kn
  obtain ⟨g9, rfl, hg9, hg94, hc9⟩ := HT.out.cell k hkt
  rw [chunks_get] at hc9
  obtain ⟨tx, htx⟩ : ∃ tx, tx = chunk b k := ⟨_, rfl⟩
  rw [← htx] at hc9
  have Htx := Lib.hid htx
  have Hk := Lib.hid hk
  have Hne := Lib.hid hne
  have Hg9r : Hid (g9 ≠ r) := Lib.hid (fun e => by have := Hrl.out; have := HB02.out.size; omega)
  have Hg9s : Hid (g9 < sb ∧ g9 ≠ g) := Lib.hid ⟨by have := Hp_w5.out; have := HO4.out.size; omega, fun e => by have := heap_lt Hz.out; have := HB_w2.out.size; omega⟩
  have C9 : Hid (w5.cell? ⟨g9, k, none⟩ = some (.string ⟨tx.toArray⟩)) := Lib.hid ((HB_w5.out.cell (p := ⟨g9, k, none⟩) (Nat.lt_of_lt_of_le hg94 HO4.out.size)).trans ((HO4.out.cell (p := ⟨g9, k, none⟩) hg94 (by simp; exact Hg9r.out)).trans hc9))
  have Hfr5 := Lib.hid (below_keep HB_w5.out Hfr4.out)
  have Hfs : Hid (fb ≠ sb) := Lib.hid (fun e => by have := Hp_w5.out; have := heap_lt Hfr4.out; omega)
  have s1 := (sn_mem zeroFr_fit HS5.out).kind
  have zf1 := Lib.frozen_of_heap HS5.out 1
  have hk8 := sn_put_kind 8 HS5.out
  have hO6 : Only [sb] w5 (w5.setCell ⟨sb, 1, none⟩ (.int .i64 8)) := (Only.refl [sb] w5).setCell (p := ⟨sb, 1, none⟩) (by simp) _
  rw [show zeroFr.kind = 0 from rfl] at s1
  clear htx hg9 hg94 hc9 hne hk
  have Kn := Lib.hid kn
  go_upto_region 13 with fail
  obtain ⟨w6, hw6⟩ : ∃ y, y = w5.setCell ⟨sb, 1, none⟩ (.int .i64 8) := ⟨_, rfl⟩
  rw [← hw6] at hk8 hO6 ⊢
  have HO6 := Lib.hid hO6
  have HS6 := Lib.hid hk8
  clear hw6 hk8 hO6 s1 zf1
  have hf8 : ({ zeroFr with kind := 8 } : FrD).Fit := ⟨rfl, rfl, rfl, rfl, rfl, rfl, rfl, rfl⟩
  obtain ⟨f8, hf8'⟩ : ∃ x : FrD, x = { zeroFr with kind := 8 } := ⟨_, rfl⟩
  rw [← hf8'] at hf8
  have HS6' : Hid (w6.heap[sb]? = some (.cells (sentRow fm f8) 50 (0, 0))) := Lib.hid (by rw [hf8']; exact HS6.out)
  have Hf8 := Lib.hid hf8
  have Hf8e := Lib.hid hf8'
  clear hf8' HS6
  obtain ⟨ow, how⟩ : ∃ ow, ow = f.out := ⟨_, rfl⟩
  have hol : ow.length = 32 := by rw [how]; exact Hf.out.lo
  have fout := (fr_mem Hf.out (HO6.out.keep Hfr5.out (by simp; exact Hfs.out))).out
  rw [← how] at fout
  have How := Lib.hid how
  have Hol := Lib.hid hol
  have hput := sn_put_out hf8 ow hol HS6'.out
  have hO7 : Only [sb] w6 (w6.setCells sb 103 (byV ow)) := seg_only (by simp) _ _ _ (Only.refl _ _)
  have dix : (Tryd.prog.info? 23).map (·.size) = some (byV ow).length := by rw [dig_info, byV_length, hol]
  have dund := Tryd.underlying23
  have dixA : (Tryd.prog.info? 23).map (·.size) = some (byV ow).toArray.size := by rw [dix]; simp
  have done : (byV ow).toArray.all (·.oneCell') = true := by rw [List.all_toArray]; exact byV_one ow
  have thr : w6.there sb 103 (byV ow).toArray.size := fun k hk => by
    have hm := (sn_mem hf8 HS6'.out).out
    have hl : k < (byV f8.out).length := by rw [byV_length, hf8.lo]; simp [byV_length, hol] at hk; exact hk
    exact ⟨by rw [hm k _ (List.getElem?_eq_getElem hl)]; rfl, Lib.frozen_of_heap HS6'.out _⟩
  obtain ⟨oc, hoc⟩ : ∃ oc, oc = byV ow := ⟨_, rfl⟩
  rw [← hoc] at fout hput hO7 dix dixA done thr
  have Hoc := Lib.hid hoc
  clear hoc how hol hf8
  go_upto_region 14 with (first
    | (refine wpList_load_mid rfl 23 _ rfl fb 102 rfl oc _ fout dund rfl dix ?_)
    | (refine wpList_store_mid rfl 23 _ _ rfl sb 103 oc.toArray rfl rfl thr dixA done ?_))
  obtain ⟨w7, hw7⟩ : ∃ y, y = w6.setCells sb 103 oc := ⟨_, rfl⟩
  rw [← hw7] at hput hO7 ⊢
  obtain ⟨f9, hf9⟩ : ∃ x : FrD, x = { f8 with out := ow } := ⟨_, rfl⟩
  rw [← hf9] at hput
  have Hf9 : Hid f9.Fit := Lib.hid (by rw [hf9]; exact fr_out_fit Hf8.out ow Hol.out)
  have Hf9e := Lib.hid hf9
  have HO7 := Lib.hid (HO6.out.trans hO7)
  have HS7 := Lib.hid hput
  clear hw7 hput hO7 thr done dixA fout hf9
  have fat := (fr_mem Hf.out (HO7.out.keep Hfr5.out (by simp; exact Hfs.out))).at_
  rw [← Hi.out] at fat
  have s135 := (sn_mem Hf9.out HS7.out).at_
  have zf135 := Lib.frozen_of_heap HS7.out 135
  have hput := sn_put_at Hf9.out (k : Int) HS7.out
  have hO8 : Only [sb] w7 (w7.setCell ⟨sb, 135, none⟩ (.int .i64 (k : Int))) := (Only.refl [sb] w7).setCell (p := ⟨sb, 135, none⟩) (by simp) _
  rw [← Hk.out] at hput hO8
  have HSw7 := Lib.hid HS7
  go_upto_region 15 with fail
  obtain ⟨w8, hw8⟩ : ∃ y, y = w7.setCell ⟨sb, 135, none⟩ (.int .i64 i) := ⟨_, rfl⟩
  rw [← hw8] at hput hO8 ⊢
  obtain ⟨f10, hf10⟩ : ∃ x : FrD, x = { f9 with at_ := i } := ⟨_, rfl⟩
  rw [← hf10] at hput
  have Hf10 : Hid f10.Fit := Lib.hid (by rw [hf10]; exact fr_at_fit Hf9.out i)
  have Hf10e := Lib.hid hf10
  have HO8 := Lib.hid (HO7.out.trans hO8)
  have HS8 := Lib.hid hput
  clear hw8 hput hO8 s135 zf135 fat hf10
  have fat := (fr_mem Hf.out (HO8.out.keep Hfr5.out (by simp; exact Hfs.out))).at_
  rw [← Hi.out, Hk.out] at fat
  have c9 := (HO8.out.cell (p := ⟨g9, k, none⟩) (by have := C9.out; have := Hp_w5.out; have := Hg9s.out.1; have := heap_lt HS5.out; show g9 < _; omega) (by simp; have := Hg9s.out.1; omega)).trans C9.out
  have s136 := (sn_mem Hf10.out HS8.out).data
  have zf136 := Lib.frozen_of_heap HS8.out 136
  have hput := sn_put_data Hf10.out tx HS8.out
  have hO9 : Only [sb] w8 (w8.setCell ⟨sb, 136, none⟩ (.string ⟨tx.toArray⟩)) := (Only.refl [sb] w8).setCell (p := ⟨sb, 136, none⟩) (by simp) _
  have kn0 : (0 : Int) ≤ (k : Int) := by omega
  have kn1 : (k : Int) < (m : Int) := by have := Kn.out; omega
  go_upto_region 16 with fail
  obtain ⟨w9, hw9⟩ : ∃ y, y = w8.setCell ⟨sb, 136, none⟩ (.string ⟨tx.toArray⟩) := ⟨_, rfl⟩
  rw [← hw9] at hput hO9 ⊢
  have heq : ({ f10 with data := tx } : FrD) = partFr 0 ow i tx := by rw [Hf10e.out, Hf9e.out, Hf8e.out]; rfl
  rw [heq] at hput
  have hft := partFr_fit 0 ow i tx Hol.out
  have hfs2 := sentRow_size fm hft
  have hfo2 := sent_one fm hft
  have hfi2 : (Tryd.prog.info? 50).map (·.size) = some (sentRow fm (partFr 0 ow i tx)).size := by rw [hfs2]; exact sent_info
  obtain ⟨F2, hF2⟩ : ∃ F, F = sentRow fm (partFr 0 ow i tx) := ⟨_, rfl⟩
  rw [← hF2] at hfs2 hfo2 hfi2 hput
  have HF2 := Lib.hid hF2
  have HS9 := Lib.hid hput
  have HO79 := Lib.hid (HO8.out.trans hO9)
  have Hz9 := Lib.hid (HO79.out.keep Hz5.out (by simp; exact fun e => Hsg.out e.symm))
  have Hr9 := Lib.hid (Hr5.out.keep (HO79.out.block r Hr5.out.lt (by simp; have := Hrl.out; have := Hsw.out; omega)))
  clear hw9 hput hO9 hF2 hft heq s136 zf136 fat c9
  go_wp2_with (first
    | (refine wpList_load_row rfl 50 _ rfl sb rfl 50 F2 (0, 0) _ HS9.out Tryd.underlying50 rfl hfi2 ?_)
    | (refine wpList_store_row rfl 50 _ _ rfl g F2 rfl rfl 50 _ Hz9.out hfi2 (by rw [hfs2, hzs]) hfo2 ?_))
  (try simp only [Exit.inBlock, Exit.then])
  refine bodyPost_ret (results_cell_row2 rfl _ _ g 50 F2 (0, 0) _ rfl (setRow_heap _ _ _ _ _ _ Hz9.out) Tryd.underlying50 rfl hfi2) rfl ?_
  have hO : Only [g] w9 (w9.setRow g F2) := (Only.refl [g] w9).setRow (by simp) F2
  have hO2 : Only [sb, g] w5 (w9.setRow g F2) := (HO79.out.mono (by simp)).trans (hO.mono (by simp))
  refine ⟨fm, partFr 0 ow i tx, true, by rw [HF2.out]; rfl, ?_, ?_, ?_⟩
  · rw [Hfm.out, How.out, Hi.out, Htx.out]
    exact .yes _ Hok.out rfl Hpl.out (.part k (by rw [← Hi.out]; exact Hk.out) (by rw [← Hm.out]; exact Kn.out))
  · exact Hr9.out.keep (hO.block r Hr9.out.lt (by simp; exact fun e => Hgr.out e.symm))
  · exact HO05.out.above hO2 (by intro x hx; simp at hx; rcases hx with rfl | rfl; exact Hsw.out; exact Hgw.out)

theorem rserve_any (b : List UInt8) (has : Bool) (r : Nat) (B n : Int) (f : FrD) (w : World) (hr : RtAt w r B n) (hf : f.Fit) (hb5 : b.length ≤ 512) (n0 : 0 ≤ n) (n1 : n ≤ 1000) :
    Calls Tryd.prog 30 #[.pointer (some ⟨r, 0, none⟩), .string ⟨b.toArray⟩, .bool has, .agg f.row] w (RefPost b has r B n f w) := by
  by_cases h : AskOk n f ∧ has = true ∧ PlaceOk b f.at_
  · obtain ⟨h1, rfl, h2⟩ := h
    by_cases ha : f.at_ = -1
    · exact rserve_mani b r B n f w hr hf hb5 n0 n1 h1 h2 ha
    · exact rserve_part b r B n f w hr hf hb5 n0 n1 h1 h2 ha
  · exact rserve_no b has r B n f w hr hf (by omega) n0 h
end Go.Proofs.YtfbjbhddapoopaaDoor
