/-
  Layer 17 (haul): the walks of fill and again.
-/
import Derived.Test.YtfbjbhddapoopaaDoorHaB
import Derived.IntWalk
set_option linter.unusedVariables false
set_option linter.unusedSimpArgs false
namespace Go.Proofs.YtfbjbhddapoopaaDoor
open Go.RowKit
attribute [local go_sem] Lb.ba_get Lb.ba_cut Lb.ba_add Lb.ba_size Lb.take_rest

/-! ### chunks as cells -/
theorem ckCells_len (cks : List Ck) : (ckCells cks).length = cks.length * 4 := by
  unfold ckCells
  induction cks with
  | nil => rfl
  | cons c cs ih => simp only [List.map_cons, List.flatten_cons, List.length_append, ih, List.length_cons, Nat.add_mul]; simp [Ck.cells]; omega
theorem ckCells_get : ∀ (cks : List Ck) (k : Nat) (c : Ck) (j : Nat), cks[k]? = some c → j < 4 → (ckCells cks)[k * 4 + j]? = c.cells[j]?
  | [], k, c, j, h, _ => by simp at h
  | x :: cs, 0, c, j, h, hj => by
    simp only [List.getElem?_cons_zero, Option.some.injEq] at h
    subst h
    show (x.cells ++ ckCells cs)[0 * 4 + j]? = _
    rw [Nat.zero_mul, Nat.zero_add, List.getElem?_append_left (by simp [Ck.cells]; omega)]
  | x :: cs, k + 1, c, j, h, hj => by
    have ih := ckCells_get cs k c j (by simpa using h) hj
    show (x.cells ++ ckCells cs)[(k + 1) * 4 + j]? = _
    rw [List.getElem?_append_right (by simp [Ck.cells]; omega)]
    have e : (k + 1) * 4 + j - x.cells.length = k * 4 + j := by simp [Ck.cells]; omega
    rw [e]; exact ih
theorem ckCells_set (cks : List Ck) (k : Nat) (c : Ck) (hk : cks[k]? = some c) (c' : Ck) (l : List Value) (hl : l.length = cks.length * 4)
    (h1 : ∀ j, j < 4 → l[k * 4 + j]? = c'.cells[j]?) (h2 : ∀ i, (i < k * 4 ∨ k * 4 + 4 ≤ i) → l[i]? = (ckCells cks)[i]?) : l = ckCells (cks.set k c') := by
  have hkl : k < cks.length := (List.getElem?_eq_some_iff.1 hk).1
  apply List.ext_getElem?
  intro i
  rcases Nat.lt_or_ge i (cks.length * 4) with hi | hi
  · have hi4 : i = (i / 4) * 4 + i % 4 := by omega
    have hq : i / 4 < cks.length := by omega
    by_cases hik : i / 4 = k
    · have e1 := ckCells_get (cks.set k c') k c' (i % 4) (by rw [List.getElem?_set_self hkl]) (by omega)
      rw [hi4, hik, e1]
      exact h1 _ (by omega)
    · have e1 := ckCells_get (cks.set k c') (i / 4) (cks[i / 4]) (i % 4) (by rw [List.getElem?_set_ne (by omega), List.getElem?_eq_getElem hq]) (by omega)
      have e2 := ckCells_get cks (i / 4) (cks[i / 4]) (i % 4) (List.getElem?_eq_getElem hq) (by omega)
      rw [h2 i (by omega), hi4, e1, e2]
  · rw [List.getElem?_eq_none (by omega), List.getElem?_eq_none (by rw [ckCells_len]; simp; omega)]
/-- 'asked' and 'at' of one chunk are written -/
theorem ckCells_ask (cks : List Ck) (k : Nat) (c : Ck) (hk : cks[k]? = some c) (b : Bool) (t : Int) :
    ((ckCells cks).toArray.setIfInBounds (k * 4 + 2) (.bool b)).setIfInBounds (k * 4 + 3) (.int .i64 t) = (ckCells (cks.set k { c with asked := b, at_ := t })).toArray := by
  have hkl : k < cks.length := (List.getElem?_eq_some_iff.1 hk).1
  have hl := ckCells_len cks
  rw [List.setIfInBounds_toArray, List.setIfInBounds_toArray]
  congr 1
  refine ckCells_set cks k c hk _ _ (by simp [hl]) (fun j hj => ?_) (fun i hi => ?_)
  · have e := fun j hj => ckCells_get cks k c j hk hj
    match j, hj with
    | 0, _ => rw [List.getElem?_set_ne (by omega), List.getElem?_set_ne (by omega), e 0 (by omega)]; rfl
    | 1, _ => rw [List.getElem?_set_ne (by omega), List.getElem?_set_ne (by omega), e 1 (by omega)]; rfl
    | 2, _ => rw [List.getElem?_set_ne (by omega), List.getElem?_set_self (by omega)]; rfl
    | 3, _ => rw [List.getElem?_set_self (by simp; omega)]; rfl
  · rw [List.getElem?_set_ne (by omega), List.getElem?_set_ne (by omega)]
/-- 'at' alone -/
theorem ckCells_at (cks : List Ck) (k : Nat) (c : Ck) (hk : cks[k]? = some c) (t : Int) :
    (ckCells cks).toArray.setIfInBounds (k * 4 + 3) (.int .i64 t) = (ckCells (cks.set k { c with at_ := t })).toArray := by
  have hkl : k < cks.length := (List.getElem?_eq_some_iff.1 hk).1
  have hl := ckCells_len cks
  rw [List.setIfInBounds_toArray]
  congr 1
  refine ckCells_set cks k c hk _ _ (by simp [hl]) (fun j hj => ?_) (fun i hi => ?_)
  · have e := fun j hj => ckCells_get cks k c j hk hj
    match j, hj with
    | 0, _ => rw [List.getElem?_set_ne (by omega), e 0 (by omega)]; rfl
    | 1, _ => rw [List.getElem?_set_ne (by omega), e 1 (by omega)]; rfl
    | 2, _ => rw [List.getElem?_set_ne (by omega), e 2 (by omega)]; rfl
    | 3, _ => rw [List.getElem?_set_self (by omega)]; rfl
  · rw [List.getElem?_set_ne (by omega)]
theorem ck_cell {w : World} {c : Nat} {cks : List Ck} (h : w.heap[c]? = some (.cells (ckCells cks).toArray 125 (0, 0))) {k : Nat} {x : Ck} (hk : cks[k]? = some x) :
    w.cell? ⟨c, k * 4, none⟩ = some (.string ⟨x.data.toArray⟩) ∧ w.cell? ⟨c, k * 4 + 1, none⟩ = some (.bool x.come) ∧ w.cell? ⟨c, k * 4 + 2, none⟩ = some (.bool x.asked) ∧ w.cell? ⟨c, k * 4 + 3, none⟩ = some (.int .i64 x.at_) ∧ w.rangeAt c (k * 4) x.cells := by
  have e := fun j hj => ckCells_get cks k x j hk hj
  refine ⟨by rw [Lib.cell_of_heap h]; simpa [Ck.cells] using e 0 (by omega), by rw [Lib.cell_of_heap h]; simpa [Ck.cells] using e 1 (by omega), by rw [Lib.cell_of_heap h]; simpa [Ck.cells] using e 2 (by omega), by rw [Lib.cell_of_heap h]; simpa [Ck.cells] using e 3 (by omega), fun j v hv => ?_⟩
  have hj : j < 4 := by have := (List.getElem?_eq_some_iff.1 hv).1; simpa [Ck.cells] using this
  rw [Lib.cell_of_heap h]
  simpa using (e j hj).trans hv

/-! ### one frame as a slice, appended -/
theorem fill_all {place : Nat → Option (Nat × Nat)} {cells R : Array Value} {n : Nat} (hp : place 0 = some (0, n)) (hc : cells.size = n) (hR : R.size = n) : Instr.fill place cells [(0, .agg R)] = some R := by
  have e := fold_cells_all R.toList cells.toList [] (by simp [hc, hR])
  simp only [List.append_nil] at e
  rw [fill_one hp (by show R.size = n; exact hR) (by omega) (C := R) ?_]
  · rfl
  · show R.zipIdx.foldl _ cells = R
    simpa using e
theorem sent_parts : ∃ i : TypeInfo, Tryd.prog.info? 50 = some i ∧ i.zero = some (.agg (sentRow 0 zeroFr)) ∧ i.size = 238 ∧ i.bytes = 408 := info_parts sent_info3
theorem wpList_sent1 {ops : Array Oper} {rest : List Oper} {o : Oper} {a : Act} {w : World} {Q : Exit → Act → World → Prop} (hg : o.guard = none) (x : Operand) (ho : o.op = .buildSlice 31 1 #[(0, x)]) (R : Array Value) (hx : a.eval x = .agg R) (hR : R.size = 238)
    (h : wpList Tryd.prog ops Q rest (a.put o.dst (.slice (some ⟨w.heap.size, 0, none⟩) 1 1)) (w.alloc (.cells R 50))) : wpList Tryd.prog ops Q (o :: rest) a w := by
  obtain ⟨i, hi, hz, hs, -⟩ := sent_parts
  refine wpList_buildSlice hg 31 50 1 _ ho R i _ Tryd.underlying31 hi hz (by rw [hs]; decide) (by rw [hs]; decide) ?_ h
  have e : ((#[(0, x)] : Array (Nat × Operand)).map fun (i, x) => (i, a.eval x)).toList = [(0, .agg R)] := by simp [hx]
  rw [e, hs]
  exact fill_all rfl (by simp) hR
theorem sent_src {w : World} {g c : Nat} {pe : Int} {f : FrD} {t : Nat × Nat} (hf : f.Fit) (h : w.heap[g]? = some (.cells (sentRow pe f) 50 t)) : Src Tryd.prog 238 31 (.slice (some ⟨g, 0, none⟩) 1 c) 1 (sentCells pe f) w := by
  refine Src.ofSlice w Tryd.underlying31 _ 1 c (sentCells pe f) (by rw [sent_len _ hf]) (fun j u hu => ?_) (fun u hu => ?_)
  · rw [Addr.add_lit, Nat.zero_add, Lib.cell_of_heap h]; simpa [sentRow] using hu
  · have := sent_one pe hf
    unfold sentRow at this
    rw [List.all_toArray, List.all_eq_true] at this
    exact this u hu

theorem asks_succ (pe : Int) (out : List UInt8) (ats : List Int) (i : Int) : asksCells pe out (ats ++ [i]) = asksCells pe out ats ++ sentCells pe (askFr out i) := by simp [asksCells]

/-- what fill and again leave: the list that is sent, the chunks -/
def FillPost (w : World) (c : Nat) (peer : Int) (out : List UInt8) (ats : List Int) (cks : List Ck) (e : Ending) (w' : World) : Prop :=
  ∃ v, e = .returned v ∧ Asks w' w.heap.size v peer out ats ∧ w'.heap[c]? = some (.cells (ckCells cks).toArray 125 (0, 0)) ∧ Only [c] w w'

set_option maxHeartbeats 4000000 in
set_option maxRecDepth 100000 in
theorem fill_raw (p c n : Nat) (d : HlD) (mv : Value) (w : World) (ho : d.out.length = 32) (hm : HlMem w p d mv (.slice (some ⟨c, 0, none⟩) n n)) (hn : n = d.cks.length) (h8 : n ≤ 8)
    (hc : w.heap[c]? = some (.cells (ckCells d.cks).toArray 125 (0, 0))) (hcp : c ≠ p) :
    Calls Tryd.prog 63 #[.pointer (some ⟨p, 0, none⟩)] w (FillPost w c d.peer d.out (Hl.fill d.ticks d.cks).2 (Hl.fill d.ticks d.cks).1) := by
  have hpl : p < w.heap.size := heap_lt hm
  have hcl : c < w.heap.size := heap_lt hc
  obtain ⟨-, -, -, -, c36, -, c38, -⟩ := hl_cells ho hm
  have HM := Lib.hid hm
  have HC := Lib.hid hc
  have Hn := Lib.hid hn
  have HO := Lib.hid ho
  obtain ⟨t, ht⟩ : ∃ t, t = d.ticks := ⟨_, rfl⟩
  obtain ⟨cks, hcks⟩ : ∃ x, x = d.cks := ⟨_, rfl⟩
  rw [← ht] at c36 ⊢
  rw [← hcks] at HC Hn ⊢
  have Hcp := Lib.hid hcp
  have Ht := Lib.hid ht
  have Hcks := Lib.hid hcks
  clear hm hc hn ho ht hcks hcp
  go_enter Tryd.func63, Tryd.ntmps63
  go_wp2_with fail
  go_loopw [3, 13] (fun m i wr => ∃ k : Nat, k ≤ n ∧ i = .int .i64 k ∧ m = .int .i64 (Hl.askN cks k) ∧ Below w.heap.size w wr) (fun _ i _ => n - (intOf i).toNat)
  case atStart => exact ⟨0, by omega, rfl, rfl, Below.refl _ _⟩
  case round =>
    obtain ⟨k, hk, rfl, rfl, hb⟩ := hrel
    by_cases hkn : k < n
    · have hkl : k < cks.length := by rw [← Hn.out]; exact hkn
      obtain ⟨x, hx⟩ : ∃ x, cks[k]? = some x := ⟨_, List.getElem?_eq_getElem hkl⟩
      obtain ⟨-, -, -, -, hr⟩ := ck_cell (w := wr) (below_keep (hb.mono (Nat.le_refl _)) HC.out) hx
      have dix : (Tryd.prog.info? 125).map (·.size) = some x.cells.length := by kernel_rfl
      have hab : Hl.askN cks (k + 1) = Hl.askN cks k + (if x.asked = true then 1 else 0) := by rw [Hl.askN, hx]
      have hx1 : x.cells.toArray.all (·.oneCell') = true := by rw [List.all_toArray]; rfl
      obtain ⟨cs, hcs⟩ : ∃ cs, cs = x.cells := ⟨_, rfl⟩
      have hc2 : cs.toArray[2]? = some (.bool x.asked) := by rw [hcs]; rfl
      have hsz : cs.toArray.size = 4 := by rw [hcs]; rfl
      obtain ⟨b, hb'⟩ : ∃ b, b = x.asked := ⟨_, rfl⟩
      rw [← hb'] at hc2 hab
      rw [← hcs] at hr dix hx1
      have dixA : (Tryd.prog.info? 125).map (·.size) = some cs.toArray.size := by rw [dix]; simp
      have hnew := heap_alloc_new wr (.cells #[Value.string ⟨#[]⟩, Value.bool false, Value.bool false, Value.int .i64 0] 125)
      have hset := setRow_heap _ _ _ cs.toArray _ _ hnew
      have hb2 : Below w.heap.size w ((wr.alloc (.cells #[Value.string ⟨#[]⟩, Value.bool false, Value.bool false, Value.int .i64 0] 125)).setRow wr.heap.size cs.toArray) :=
        hb.trans ((Only.below (((Only.refl [wr.heap.size] wr).alloc _).setRow (by simp) _) (Nat.le_refl _) (by simp)).mono hb.size)
      have hcell : ((wr.alloc (.cells #[Value.string ⟨#[]⟩, Value.bool false, Value.bool false, Value.int .i64 0] 125)).setRow wr.heap.size cs.toArray).cell? ⟨wr.heap.size, 2, none⟩ = some (.bool b) := by rw [Lib.cell_of_heap hset]; exact hc2
      have hz : (#[Value.string ⟨#[]⟩, Value.bool false, Value.bool false, Value.int .i64 0] : Array Value).size = 4 := rfl
      have Hab := Lib.hid hab
      have Hb2 := Lib.hid hb2
      have Hnew := Lib.hid hnew
      have kn : (k : Int) < (n : Int) := by omega
      have kb := Hl.askN_le cks k
      have hr' := hr
      clear hx hab hcs hb' hset hb hb2 hnew hc2
      cases b
      all_goals
        go_wp2_with (first
          | (refine wpList_load_mid rfl 125 _ rfl c (k * 4) rfl cs _ hr Tryd.underlying125 rfl dix ?_)
          | (refine wpList_store_row rfl 125 _ _ rfl wr.heap.size cs.toArray rfl rfl 125 _ Hnew.out dixA (by rw [hsz, hz]) hx1 ?_))
        go_roundw
        case rel => exact ⟨k + 1, by omega, by go_num, by rw [Hab.out]; go_num, Hb2.out⟩
        case measure => simp [intOf]; omega
    · obtain rfl : n = k := by omega
      obtain ⟨m, hm⟩ : ∃ m, m = Hl.askN cks n := ⟨_, rfl⟩
      have hm8 : m ≤ 8 := by have := Hl.askN_le cks n; omega
      rw [← hm]
      have Hm := Lib.hid hm
      have c36r : wr.cell? ⟨p, 36, none⟩ = some (.int .i64 t) := (hb.cell (p := ⟨p, 36, none⟩) hpl).trans c36
      have c38r : wr.cell? ⟨p, 38, none⟩ = some (.slice (some ⟨c, 0, none⟩) n n) := (hb.cell (p := ⟨p, 38, none⟩) hpl).trans c38
      have Hb := Lib.hid hb
      clear hm hb hk hkn
      go_wp2_with fail
      go_loopw [2, 3, 27] (fun v mm i wx => ∃ j : Nat, j ≤ n ∧ i = .int .i64 j ∧ mm = .int .i64 (Hl.fillAt t cks m j).2.1 ∧ Asks wx w.heap.size v d.peer d.out (Hl.fillAt t cks m j).2.2 ∧ wx.heap[c]? = some (.cells (ckCells (Hl.fillAt t cks m j).1).toArray 125 (0, 0)) ∧ Only [c] w wx) (fun _ _ i _ => n - (intOf i).toNat)
      case atStart => exact ⟨0, by omega, rfl, rfl, Bag0.nil _ _ _, below_keep Hb.out HC.out, Only.of_below Hb.out⟩
      case round =>
        obtain ⟨j, hj, rfl, rfl, hA, hC, hO⟩ := hrel
        have hstep : Hl.fillAt t cks m (j + 1) = Hl.fillStep t (Hl.fillAt t cks m j) j := rfl
        have hlen := Hl.fillAt_len t cks m j
        have hbd := Hl.fillAt_bound t cks m j
        have hmemx : HlMem wr p d mv (.slice (some ⟨c, 0, none⟩) n n) := hO.keep HM.out (by simp; exact fun e => Hcp.out e.symm)
        obtain ⟨-, -, -, -, x36, -, x38, -⟩ := hl_cells HO.out hmemx
        rw [← Ht.out] at x36
        obtain ⟨cs, hcs⟩ : ∃ cs, cs = (Hl.fillAt t cks m j).1 := ⟨_, rfl⟩
        obtain ⟨mm, hmm⟩ : ∃ mm, mm = (Hl.fillAt t cks m j).2.1 := ⟨_, rfl⟩
        obtain ⟨ats, hats⟩ : ∃ ats, ats = (Hl.fillAt t cks m j).2.2 := ⟨_, rfl⟩
        have hst3 : Hl.fillAt t cks m j = (cs, mm, ats) := by rw [hcs, hmm, hats]
        rw [hst3] at hstep
        rw [← hcs] at hC hlen
        rw [← hmm] at hbd ⊢
        rw [← hats] at hA hbd
        have HA := Lib.hid hA
        have Hstep := Lib.hid hstep
        have HO' := Lib.hid hO
        have Hmemx := Lib.hid hmemx
        have Hlen := Lib.hid hlen
        obtain ⟨hb1, hb2, -⟩ := hbd
        have Hst := Lib.hid hst3
        clear hcs hmm hats hst3 hA hstep hO hmemx hlen
        by_cases hjn : j < n
        · have hjl : j < cs.length := by rw [Hlen.out, ← Hn.out]; exact hjn
          obtain ⟨x, hx⟩ : ∃ x, cs[j]? = some x := ⟨_, List.getElem?_eq_getElem hjl⟩
          obtain ⟨-, r1, r2, r3, -⟩ := ck_cell hC hx
          have z2 : wr.frozen? ⟨c, j * 4 + 2, none⟩ = false := Lib.frozen_of_heap hC _
          have z3 : wr.frozen? ⟨c, j * 4 + 3, none⟩ = false := Lib.frozen_of_heap hC _
          have HC2 := Lib.hid hC
          have Hx := Lib.hid hx
          have jn : (j : Int) < (n : Int) := by omega
          obtain ⟨b1, hb1'⟩ : ∃ b, b = x.come := ⟨_, rfl⟩
          obtain ⟨b2, hb2'⟩ : ∃ b, b = x.asked := ⟨_, rfl⟩
          rw [← hb1'] at r1
          rw [← hb2'] at r2
          have Hb1 := Lib.hid hb1'
          have Hb2 := Lib.hid hb2'
          have hS := Hstep.out
          unfold Hl.fillStep at hS
          rw [hx] at hS
          simp only [← hb1', ← hb2'] at hS
          clear hb1' hb2' hC hx Hstep
          by_cases hyes : mm < 2 ∧ b1 = false ∧ b2 = false
          · rw [if_pos hyes] at hS
            obtain ⟨hm2, rfl, rfl⟩ := hyes
            have HS := Lib.hid hS
            have m2 : (mm : Int) < 2 := by omega
            clear hS
            go_upto_region 15 with fail
            have hC3 := heap_setCell_same _ c (j * 4 + 3) _ _ (.int .i64 t) (heap_setCell_same _ c (j * 4 + 2) _ _ (.bool true) HC2.out)
            rw [ckCells_ask cs j x Hx.out true t] at hC3
            have hO3 : Only [c] wr ((wr.setCell ⟨c, j * 4 + 2, none⟩ (.bool true)).setCell ⟨c, j * 4 + 3, none⟩ (.int .i64 t)) := ((Only.refl _ _).setCell (by simp) _).setCell (by simp) _
            obtain ⟨w2, hw2⟩ : ∃ y, y = ((wr.setCell ⟨c, j * 4 + 2, none⟩ (.bool true)).setCell ⟨c, j * 4 + 3, none⟩ (.int .i64 t)) := ⟨_, rfl⟩
            rw [← hw2] at hC3 hO3 ⊢
            have hm2' : HlMem w2 p d mv (.slice (some ⟨c, 0, none⟩) n n) := hO3.keep Hmemx.out (by simp; exact fun e => Hcp.out e.symm)
            have hA2 : Asks w2 w.heap.size u2 d.peer d.out ats := Bag0.only HA.out hO3 (by simp; exact hcl)
            have Hask := Lib.hid (fun W h => ask_any p d mv (.slice (some ⟨c, 0, none⟩) n n) (j : Int) W HO.out h)
            have HC3 := Lib.hid hC3
            have HO3 := Lib.hid hO3
            have HM2 := Lib.hid hm2'
            have HA2 := Lib.hid hA2
            clear hw2 hC3 hO3 hm2' hA2 r1 r2 r3 z2 z3 x36 x38 c36 c38 c36r c38r HA HC2
            go_wp2_with fail
            refine (Hask.out w2 HM2.out).mono ?_
            rintro e w3 ⟨rfl, hB3⟩
            have hfit := askFr_fit d.out (j : Int) HO.out
            have hR := sentRow_size d.peer hfit
            have hsrc : Src Tryd.prog 238 31 (.slice (some ⟨w3.heap.size, 0, none⟩) 1 1) 1 (sentCells d.peer (askFr d.out j)) (w3.alloc (.cells (sentRow d.peer (askFr d.out j)) 50)) := sent_src hfit (heap_alloc_new w3 _)
            have hA4 : Asks (w3.alloc (.cells (sentRow d.peer (askFr d.out j)) 50)) w.heap.size u2 d.peer d.out ats := (HA2.out.below hB3).alloc _
            have hC4 : (w3.alloc (.cells (sentRow d.peer (askFr d.out j)) 50)).heap[c]? = _ := below_keep ((Below.refl _ w3).alloc (Nat.le_refl _) _) (below_keep hB3 HC3.out)
            have hO4 : Only [c] w (w3.alloc (.cells (sentRow d.peer (askFr d.out j)) 50)) := (((HO'.out.trans HO3.out).belowB (hB3.mono (HO'.out.trans HO3.out).size))).alloc _
            obtain ⟨i0, hi0, hz0, hz1, hz2⟩ := sent_parts
            have HC4 := Lib.hid hC4
            have HO4 := Lib.hid hO4
            have hws := hO4.size
            obtain ⟨A, cap, rfl, -, -⟩ := Bag0.shape hA4
            have HHA := Lib.hid hA4
            have Hfit := Lib.hid hfit
            clear hC4 hO4 hfit HC3 HO3 HM2 HA2 Hask hA4 hB3
            go_wp2_with (first
              | (refine wpList_sent1 rfl _ rfl _ rfl hR ?_)
              | (at_builtin; refine wpList_append_bag0 _ rfl _ _ 31 31 rfl i0 _ 408 Tryd.underlying31 hi0 hz0 hz1 hz2 (sentRow_size 0 zeroFr_fit) hws rfl HHA.out _ 1 _ rfl hsrc (by omega) (by unfold maxLen; omega) (by omega) ?_))
            intro v' w' hB' hb'
            have hA5 : Asks w' w.heap.size v' d.peer d.out (ats ++ [(j : Int)]) := by
              unfold Asks
              rw [asks_succ, List.length_append]
              exact hB'
            have hC5 : w'.heap[c]? = _ := (hb'.block c hcl).trans HC4.out
            have hO5 : Only [c] w w' := HO4.out.belowB hb'
            rw [← Hb1.out] at hC5
            have HA5 := Lib.hid hA5
            have HC5 := Lib.hid hC5
            have HO5 := Lib.hid hO5
            clear hA5 hC5 hO5 hB' hb' hsrc hws hi0 hz0 hz1 hz2 hR
            go_wp2_with fail
            go_roundw
            case rel => exact ⟨j + 1, by omega, by go_num, by rw [HS.out]; go_num, by rw [HS.out]; exact HA5.out, by rw [HS.out]; exact HC5.out, HO5.out⟩
            case measure => simp [intOf]; omega
          · rw [if_neg hyes] at hS
            have HS := Lib.hid hS
            clear hS
            by_cases hm2 : mm < 2
            · have m2 : (mm : Int) < 2 := by omega
              have hb : b1 = true ∨ b2 = true := by
                cases b1 <;> cases b2 <;> simp_all
              clear hyes
              rcases hb with rfl | rfl
              · go_wp2_with fail
                go_roundw
                case rel => exact ⟨j + 1, by omega, by go_num, by rw [HS.out], by rw [HS.out]; exact HA.out, by rw [HS.out]; exact HC2.out, HO'.out⟩
                case measure => simp [intOf]; omega
              · cases b1
                all_goals
                  go_wp2_with fail
                  go_roundw
                  case rel => exact ⟨j + 1, by omega, by go_num, by rw [HS.out], by rw [HS.out]; exact HA.out, by rw [HS.out]; exact HC2.out, HO'.out⟩
                  case measure => simp [intOf]; omega
            · have m2 : ¬ (mm : Int) < 2 := by omega
              clear hyes
              go_wp2_with fail
              go_roundw
              case rel => exact ⟨j + 1, by omega, by go_num, by rw [HS.out], by rw [HS.out]; exact HA.out, by rw [HS.out]; exact HC2.out, HO'.out⟩
              case measure => simp [intOf]; omega
        · obtain rfl : n = j := by omega
          go_wp2_with fail
          go_ret
          have hfill : Hl.fill t cks = (cs, ats) := by unfold Hl.fill; rw [← Hn.out, ← Hm.out, Hst.out]
          rw [hfill]
          exact ⟨_, rfl, HA.out, hC, HO'.out⟩

set_option maxHeartbeats 4000000 in
set_option maxRecDepth 100000 in
theorem again_raw (p c n : Nat) (d : HlD) (mv : Value) (w : World) (ho : d.out.length = 32) (hm : HlMem w p d mv (.slice (some ⟨c, 0, none⟩) n n)) (hn : n = d.cks.length) (h8 : n ≤ 8)
    (hc : w.heap[c]? = some (.cells (ckCells d.cks).toArray 125 (0, 0))) (hcp : c ≠ p) (tlo : 0 ≤ d.ticks) (thi : d.ticks ≤ 15) (hat : ∀ x ∈ d.cks, 0 ≤ x.at_ ∧ x.at_ ≤ 15) :
    Calls Tryd.prog 62 #[.pointer (some ⟨p, 0, none⟩)] w (FillPost w c d.peer d.out (Hl.again d.ticks d.cks).2 (Hl.again d.ticks d.cks).1) := by
  have hpl : p < w.heap.size := heap_lt hm
  have hcl : c < w.heap.size := heap_lt hc
  obtain ⟨-, -, -, -, c36, -, c38, -⟩ := hl_cells ho hm
  have HM := Lib.hid hm
  have HC := Lib.hid hc
  have Hn := Lib.hid hn
  have HO := Lib.hid ho
  obtain ⟨t, ht⟩ : ∃ t, t = d.ticks := ⟨_, rfl⟩
  obtain ⟨cks, hcks⟩ : ∃ x, x = d.cks := ⟨_, rfl⟩
  rw [← ht] at c36 tlo thi ⊢
  rw [← hcks] at HC Hn hat ⊢
  have Hcp := Lib.hid hcp
  have Ht := Lib.hid ht
  have Hcks := Lib.hid hcks
  have Hat := Lib.hid hat
  clear hm hc hn ho ht hcks hcp hat
  go_enter Tryd.func62, Tryd.ntmps62
  go_wp2_with fail
  go_loopw [2, 10] (fun v i wx => ∃ j : Nat, j ≤ n ∧ i = .int .i64 j ∧ Asks wx w.heap.size v d.peer d.out (Hl.againAt t cks j).2 ∧ wx.heap[c]? = some (.cells (ckCells (Hl.againAt t cks j).1).toArray 125 (0, 0)) ∧ Only [c] w wx) (fun _ i _ => n - (intOf i).toNat)
  case atStart => exact ⟨0, by omega, rfl, Bag0.nil _ _ _, HC.out, Only.refl _ _⟩
  case round =>
    obtain ⟨j, hj, rfl, hA, hC, hO⟩ := hrel
    have hstep : Hl.againAt t cks (j + 1) = Hl.againStep t (Hl.againAt t cks j) j := rfl
    have hlen := Hl.againAt_len t cks j
    have hb2 := Hl.againAt_bound t cks j
    have hget := Hl.againAt_get t cks j j (Nat.le_refl _)
    have hmemx : HlMem wr p d mv (.slice (some ⟨c, 0, none⟩) n n) := hO.keep HM.out (by simp; exact fun e => Hcp.out e.symm)
    obtain ⟨-, -, -, -, x36, -, x38, -⟩ := hl_cells HO.out hmemx
    rw [← Ht.out] at x36
    obtain ⟨cs, hcs⟩ : ∃ cs, cs = (Hl.againAt t cks j).1 := ⟨_, rfl⟩
    obtain ⟨ats, hats⟩ : ∃ ats, ats = (Hl.againAt t cks j).2 := ⟨_, rfl⟩
    have hst3 : Hl.againAt t cks j = (cs, ats) := by rw [hcs, hats]
    rw [hst3] at hstep
    rw [← hcs] at hC hlen hget
    rw [← hats] at hA hb2
    have HA := Lib.hid hA
    have Hstep := Lib.hid hstep
    have HO' := Lib.hid hO
    have Hmemx := Lib.hid hmemx
    have Hlen := Lib.hid hlen
    have Hst := Lib.hid hst3
    clear hcs hats hst3 hA hstep hO hmemx hlen
    by_cases hjn : j < n
    · have hjl : j < cs.length := by rw [Hlen.out, ← Hn.out]; exact hjn
      obtain ⟨x, hx⟩ : ∃ x, cs[j]? = some x := ⟨_, List.getElem?_eq_getElem hjl⟩
      obtain ⟨-, r1, r2, r3, -⟩ := ck_cell hC hx
      have z3 : wr.frozen? ⟨c, j * 4 + 3, none⟩ = false := Lib.frozen_of_heap hC _
      obtain ⟨alo, ahi⟩ := Hat.out x (List.mem_of_getElem? (hget.symm.trans hx))
      have HC2 := Lib.hid hC
      have Hx := Lib.hid hx
      have jn : (j : Int) < (n : Int) := by omega
      obtain ⟨b2, hb2'⟩ : ∃ b, b = x.asked := ⟨_, rfl⟩
      obtain ⟨xa, hxa⟩ : ∃ b, b = x.at_ := ⟨_, rfl⟩
      rw [← hb2'] at r2
      rw [← hxa] at r3 alo ahi
      have Hb2 := Lib.hid hb2'
      have hS := Hstep.out
      unfold Hl.againStep at hS
      rw [hx] at hS
      simp only [← hb2', ← hxa] at hS
      clear hb2' hxa hC hx Hstep hget
      have hw : IntKind.i64.wrap (t - xa) = t - xa := IntWalk.i64_in _ (by omega)
      by_cases hyes : b2 = true ∧ 3 ≤ t - xa
      · rw [if_pos hyes] at hS
        obtain ⟨rfl, h3⟩ := hyes
        have HS := Lib.hid hS
        have hd3 : decide ((3 : Int) ≤ t - xa) = true := by simp; omega
        clear hS
        go_upto_region 5 with fail
        go_quiet (fail)
        go_upto_region 7 with fail
        have hC0 : (wr.drewN nq).heap[c]? = some (.cells (ckCells cs).toArray 125 (0, 0)) := HC2.out
        have hC3 := heap_setCell_same _ c (j * 4 + 3) _ _ (.int .i64 t) hC0
        rw [ckCells_at cs j x Hx.out t] at hC3
        have hO3 : Only [c] wr ((wr.drewN nq).setCell ⟨c, j * 4 + 3, none⟩ (.int .i64 t)) := ((Only.refl _ _).drewN nq).setCell (by simp) _
        obtain ⟨w2, hw2⟩ : ∃ y, y = ((wr.drewN nq).setCell ⟨c, j * 4 + 3, none⟩ (.int .i64 t)) := ⟨_, rfl⟩
        rw [← hw2] at hC3 hO3 ⊢
        have hm2' : HlMem w2 p d mv (.slice (some ⟨c, 0, none⟩) n n) := hO3.keep Hmemx.out (by simp; exact fun e => Hcp.out e.symm)
        have hA2 : Asks w2 w.heap.size u2 d.peer d.out ats := Bag0.only HA.out hO3 (by simp; exact hcl)
        have Hask := Lib.hid (fun W h => ask_any p d mv (.slice (some ⟨c, 0, none⟩) n n) (j : Int) W HO.out h)
        have HC3 := Lib.hid hC3
        have HO3 := Lib.hid hO3
        have HM2 := Lib.hid hm2'
        have HA2 := Lib.hid hA2
        clear hw2 hC0 hC3 hO3 hm2' hA2 r1 r2 r3 z3 x36 x38 c36 c38 HA HC2 hd3 hw
        go_wp2_with fail
        refine (Hask.out w2 HM2.out).mono ?_
        rintro e w3 ⟨rfl, hB3⟩
        have hfit := askFr_fit d.out (j : Int) HO.out
        have hR := sentRow_size d.peer hfit
        have hsrc : Src Tryd.prog 238 31 (.slice (some ⟨w3.heap.size, 0, none⟩) 1 1) 1 (sentCells d.peer (askFr d.out j)) (w3.alloc (.cells (sentRow d.peer (askFr d.out j)) 50)) := sent_src hfit (heap_alloc_new w3 _)
        have hA4 : Asks (w3.alloc (.cells (sentRow d.peer (askFr d.out j)) 50)) w.heap.size u2 d.peer d.out ats := (HA2.out.below hB3).alloc _
        have hC4 : (w3.alloc (.cells (sentRow d.peer (askFr d.out j)) 50)).heap[c]? = _ := below_keep ((Below.refl _ w3).alloc (Nat.le_refl _) _) (below_keep hB3 HC3.out)
        have hO4 : Only [c] w (w3.alloc (.cells (sentRow d.peer (askFr d.out j)) 50)) := (((HO'.out.trans HO3.out).belowB (hB3.mono (HO'.out.trans HO3.out).size))).alloc _
        obtain ⟨i0, hi0, hz0, hz1, hz2⟩ := sent_parts
        have HC4 := Lib.hid hC4
        have HO4 := Lib.hid hO4
        have hws := hO4.size
        obtain ⟨A, cap, rfl, -, -⟩ := Bag0.shape hA4
        have HHA := Lib.hid hA4
        have Hfit := Lib.hid hfit
        clear hC4 hO4 hfit HC3 HO3 HM2 HA2 Hask hA4 hB3
        go_wp2_with (first
          | (refine wpList_sent1 rfl _ rfl _ rfl hR ?_)
          | (at_builtin; refine wpList_append_bag0 _ rfl _ _ 31 31 rfl i0 _ 408 Tryd.underlying31 hi0 hz0 hz1 hz2 (sentRow_size 0 zeroFr_fit) hws rfl HHA.out _ 1 _ rfl hsrc (by omega) (by unfold maxLen; omega) (by omega) ?_))
        intro v' w' hB' hb'
        have hA5 : Asks w' w.heap.size v' d.peer d.out (ats ++ [(j : Int)]) := by
          unfold Asks
          rw [asks_succ, List.length_append]
          exact hB'
        have hC5 : w'.heap[c]? = _ := (hb'.block c hcl).trans HC4.out
        have hO5 : Only [c] w w' := HO4.out.belowB hb'
        rw [← Hb2.out] at hC5
        have HA5 := Lib.hid hA5
        have HC5 := Lib.hid hC5
        have HO5 := Lib.hid hO5
        clear hA5 hC5 hO5 hB' hb' hsrc hws hi0 hz0 hz1 hz2 hR
        go_wp2_with fail
        go_roundw
        case rel => exact ⟨j + 1, by omega, by go_num, by rw [HS.out]; exact HA5.out, by rw [HS.out]; exact HC5.out, HO5.out⟩
        case measure => simp [intOf]; omega
      · rw [if_neg hyes] at hS
        have HS := Lib.hid hS
        clear hS
        cases b2
        · clear hyes
          go_upto_region 5 with fail
          go_quiet (fail)
          go_wp2_with fail
          go_roundw
          case rel => exact ⟨j + 1, by omega, by go_num, by rw [HS.out]; exact HA.out.below (below_drewN'' (Below.refl _ _) _), by rw [HS.out]; exact HC2.out, HO'.out.drewN _⟩
          case measure => simp [intOf]; omega
        · have h3 : ¬ (3 : Int) ≤ t - xa := by intro h; exact hyes ⟨rfl, h⟩
          have hd3 : decide ((3 : Int) ≤ t - xa) = false := by simp; omega
          clear hyes
          go_upto_region 5 with fail
          go_quiet (fail)
          go_wp2_with fail
          go_roundw
          case rel => exact ⟨j + 1, by omega, by go_num, by rw [HS.out]; exact HA.out.below (below_drewN'' (Below.refl _ _) _), by rw [HS.out]; exact HC2.out, HO'.out.drewN _⟩
          case measure => simp [intOf]; omega
    · obtain rfl : n = j := by omega
      go_wp2_with fail
      go_ret
      have hfill : Hl.again t cks = (cs, ats) := by unfold Hl.again; rw [← Hn.out, Hst.out]
      rw [hfill]
      exact ⟨_, rfl, HA.out, hC, HO'.out⟩
end Go.Proofs.YtfbjbhddapoopaaDoor
