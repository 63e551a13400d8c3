/-
  Layer 19 (wing): members, ranges, records in memory; the small walks. Layer 19 (wing): the walks of isRecord, hedge.Good and of the texts of records, ranges, members. Layer 19 (wing): rows of members, records, ranges in memory; whether all are good. Layer 19 (wing): frames in memory.
-/
import Derived.Test.YthcmlbbbbcinkaaDoorWiC
import Derived.Test.YthcmlbbbbcinkaaDoorFmH
set_option linter.unusedVariables false
set_option linter.unusedSimpArgs false
namespace Go.Proofs.YthcmlbbbbcinkaaDoor
open Go.RowKit Pl
attribute [local go_sem] Lb.ba_get Lb.ba_cut Lb.ba_add Lb.ba_size Lb.take_rest
namespace Wi

theorem wpList_load_midGR {P : Program} {ops : Array Oper} {rest : List Oper} {op : Oper} {a : Act} {w : World} {Q : Exit → Act → World → Prop} (hw : Region.wanted op (yielded ops a.tmps) = true) (ty : TypeId) (x : Operand) (ho : op.op = .load ty x)
    (b o : Nat) (hx : a.eval x = .pointer (some ⟨b, o, none⟩)) (cs : List Value) (d : TypeDesc) (hc : w.rangeAt b o cs)
    (hu : P.underlying ty = some d) (hd : d.isRow = true) (hi : (P.info? ty).map (·.size) = some cs.length)
    (h : wpList P ops Q rest (a.put op.dst (.agg cs.toArray)) w) : wpList P ops Q (op :: rest) a w :=
  BigFrame.wpList_want hw fun _ hK => wp_load_mid ty x ho b o hx cs d hc hu hd hi (hK _ _ h)
theorem wpList_build0G {P : Program} {ops : Array Oper} {rest : List Oper} {o : Oper} {a : Act} {w : World} {Q : Exit → Act → World → Prop} (hw : Region.wanted o (yielded ops a.tmps) = true) (t : TypeId) (ho : o.op = .build t #[]) (C : Array Value) (hB : P.built t [] = some C)
    (h : wpList P ops Q rest (a.put o.dst (.agg C)) w) : wpList P ops Q (o :: rest) a w := by
  refine BigFrame.wpList_want hw fun _ hK => ?_
  refine wp_build t _ ho ?_ ?_
  · simp only [List.map_toArray, List.map_nil, hB]; rfl
  · simp only [List.map_toArray, List.map_nil, hB]; exact hK _ _ h
theorem built_dig0 : Tryd.prog.built 23 [] = some (digV (List.replicate 32 0)) := by kernel_rfl
theorem conv_rng {w : World} {q o : Nat} {d : List UInt8} (hd : d.length = 32) (h : w.rangeAt q o (byV d)) (hq : q < w.heap.size) (W : World) (hW : Below w.heap.size w W) : (convert 45 9 (.slice (some ⟨q, o, none⟩) 32 32)).run Tryd.prog W = .ok (.string ⟨d.toArray⟩) W := by
  have := run_convert_bytes_back W 45 9 5 ⟨q, o, none⟩ 32 d Tryd.underlying45 Tryd.underlying5 Tryd.underlying9 (fun i hi => by
    rw [Addr.add_lit]
    exact range_below h hW hq i _ (by simp [byV, hi]))
  rwa [hd] at this

/-! ### cells -/
def Mb.cells (m : Mb) : List Value := [.int .i64 m.node, .int .i64 m.inc, .int .i64 m.state]
def Rg.cells (r : Rg) : List Value := [.int .i64 r.depth, .int .i64 r.pre, .int .i64 r.count] ++ byV r.sum
def Rc.cells (r : Rc) : List Value := byV r.key ++ (.int .i64 r.code :: byV r.out)
theorem Rc.len {r : Rc} (h : r.Wf) : r.cells.length = 65 := by simp [Rc.cells, byV_length, h.k, h.o]
theorem Rg.len {r : Rg} (h : r.Wf) : r.cells.length = 35 := by simp [Rg.cells, byV_length, h.s]
theorem Mb.len (m : Mb) : m.cells.length = 3 := rfl
theorem rc_mem {w : World} {b : Nat} {r : Rc} {T : TypeId} (hf : r.Wf) (h : w.heap[b]? = some (.cells r.cells.toArray T (0, 0))) :
    w.rangeAt b 0 (byV r.key) ∧ w.cell? ⟨b, 32, none⟩ = some (.int .i64 r.code) ∧ w.rangeAt b 33 (byV r.out) := by
  have hk := hf.k
  have hc : ∀ j, w.cell? ⟨b, j, none⟩ = r.cells[j]? := fun j => by rw [Lib.cell_of_heap h, List.getElem?_toArray]
  refine ⟨fun j v hv => ?_, ?_, fun j v hv => ?_⟩
  · rw [Nat.zero_add, hc]
    unfold Rc.cells
    rw [List.getElem?_append_left (List.getElem?_eq_some_iff.1 hv).1]; exact hv
  · rw [hc]
    unfold Rc.cells
    rw [List.getElem?_append_right (by rw [byV_length, hk]; omega), byV_length, hk]; rfl
  · rw [hc]
    unfold Rc.cells
    rw [List.getElem?_append_right (by rw [byV_length, hk]; omega), byV_length, hk, show 33 + j - 32 = j + 1 by omega, List.getElem?_cons_succ]; exact hv
theorem rg_mem {w : World} {b : Nat} {r : Rg} {T : TypeId} (h : w.heap[b]? = some (.cells r.cells.toArray T (0, 0))) :
    w.cell? ⟨b, 0, none⟩ = some (.int .i64 r.depth) ∧ w.cell? ⟨b, 1, none⟩ = some (.int .i64 r.pre) ∧ w.cell? ⟨b, 2, none⟩ = some (.int .i64 r.count) ∧ w.rangeAt b 3 (byV r.sum) := by
  have hc : ∀ j, w.cell? ⟨b, j, none⟩ = r.cells[j]? := fun j => by rw [Lib.cell_of_heap h, List.getElem?_toArray]
  refine ⟨by rw [hc]; rfl, by rw [hc]; rfl, by rw [hc]; rfl, fun j v hv => ?_⟩
  rw [hc, Nat.add_comm]
  exact hv
theorem mb_mem {w : World} {b : Nat} {m : Mb} {T : TypeId} (h : w.heap[b]? = some (.cells m.cells.toArray T (0, 0))) :
    w.cell? ⟨b, 0, none⟩ = some (.int .i64 m.node) ∧ w.cell? ⟨b, 1, none⟩ = some (.int .i64 m.inc) ∧ w.cell? ⟨b, 2, none⟩ = some (.int .i64 m.state) := by
  have hc : ∀ j, w.cell? ⟨b, j, none⟩ = m.cells[j]? := fun j => by rw [Lib.cell_of_heap h, List.getElem?_toArray]
  exact ⟨by rw [hc]; rfl, by rw [hc]; rfl, by rw [hc]; rfl⟩

/-! ### small walks -/
theorem within_any (n lo hi : Int) (w : World) : Calls Tryd.prog 45 #[.int .i64 n, .int .i64 lo, .int .i64 hi] w fun e w' => e = .returned (.bool (inB n lo hi)) ∧ w = w' := by
  obtain ⟨r, hr⟩ : ∃ r, r = inB n lo hi := ⟨_, rfl⟩
  rw [← hr]
  unfold inB at hr
  have Hr := Lib.hid hr
  clear hr
  go_enter Tryd.func45, Tryd.ntmps45
  by_cases h0 : lo ≤ n
  · by_cases h1 : n ≤ hi
    · have e : r = true := by rw [Hr.out]; simp [h0, h1]
      subst e
      clear Hr
      go_wp2_with fail
      go_ret
      exact ⟨rfl, rfl⟩
    · have e : r = false := by rw [Hr.out]; simp [h1]
      subst e
      clear Hr
      go_wp2_with fail
      go_ret
      exact ⟨rfl, rfl⟩
  · have e : r = false := by rw [Hr.out]; simp [h0]
    subst e
    clear Hr
    go_wp2_with fail
    go_ret
    exact ⟨rfl, rfl⟩
theorem rwithin_any (n lo hi : Int) (w : World) : Calls Tryd.prog 48 #[.int .i64 n, .int .i64 lo, .int .i64 hi] w fun e w' => e = .returned (.bool (inB n lo hi)) ∧ w = w' := by
  obtain ⟨r, hr⟩ : ∃ r, r = inB n lo hi := ⟨_, rfl⟩
  rw [← hr]
  unfold inB at hr
  have Hr := Lib.hid hr
  clear hr
  go_enter Tryd.func48, Tryd.ntmps48
  by_cases h0 : lo ≤ n
  · by_cases h1 : n ≤ hi
    · have e : r = true := by rw [Hr.out]; simp [h0, h1]
      subst e
      clear Hr
      go_wp2_with fail
      go_ret
      exact ⟨rfl, rfl⟩
    · have e : r = false := by rw [Hr.out]; simp [h1]
      subst e
      clear Hr
      go_wp2_with fail
      go_ret
      exact ⟨rfl, rfl⟩
  · have e : r = false := by rw [Hr.out]; simp [h0]
    subst e
    clear Hr
    go_wp2_with fail
    go_ret
    exact ⟨rfl, rfl⟩
theorem isNode_any (n : Int) (w : World) : Calls Tryd.prog 19 #[.int .i64 n] w fun e w' => e = .returned (.bool (isNode n)) ∧ w = w' := by
  have h := Lib.hid (within_any n 1 6 w)
  unfold isNode
  obtain ⟨b, hb⟩ : ∃ b, b = inB n 1 6 := ⟨_, rfl⟩
  rw [← hb] at h ⊢
  clear hb
  go_enter Tryd.func19, Tryd.ntmps19
  go_wp2_with fail
  refine h.out.mono ?_
  rintro e w2 ⟨rfl, rfl⟩
  go_wp2_with fail
  go_ret
  exact ⟨rfl, rfl⟩
theorem rankGood_any (m : Mb) (w : World) : Calls Tryd.prog 21 #[.agg m.cells.toArray] w fun e w' => e = .returned (.bool (goodMb m)) ∧ Below w.heap.size w w' := by
  have hn := heap_alloc_new w (.cells m.cells.toArray 52)
  obtain ⟨c0, c1, c2⟩ := mb_mem hn
  have hb := Lib.hid ((Below.refl w.heap.size w).alloc (Nat.le_refl _) (.cells m.cells.toArray 52))
  have h1 := Lib.hid (fun W => rwithin_any m.node 1 6 W)
  have h2 := Lib.hid (fun W => rwithin_any m.inc 0 1073741824 W)
  have h3 := Lib.hid (fun W => rwithin_any m.state 0 3 W)
  unfold goodMb
  obtain ⟨b1, hb1⟩ : ∃ b, b = inB m.node 1 6 := ⟨_, rfl⟩
  obtain ⟨b2, hb2⟩ : ∃ b, b = inB m.inc 0 1073741824 := ⟨_, rfl⟩
  obtain ⟨b3, hb3⟩ : ∃ b, b = inB m.state 0 3 := ⟨_, rfl⟩
  rw [← hb1] at h1 ⊢
  rw [← hb2] at h2 ⊢
  rw [← hb3] at h3 ⊢
  obtain ⟨n1, hn1⟩ : ∃ n, n = m.node := ⟨_, rfl⟩
  obtain ⟨n2, hn2⟩ : ∃ n, n = m.inc := ⟨_, rfl⟩
  obtain ⟨n3, hn3⟩ : ∃ n, n = m.state := ⟨_, rfl⟩
  rw [← hn1] at h1 c0
  rw [← hn2] at h2 c1
  rw [← hn3] at h3 c2
  obtain ⟨R, hR⟩ : ∃ R, R = m.cells.toArray := ⟨_, rfl⟩
  rw [← hR] at c0 c1 c2 hb ⊢
  clear hn hb1 hb2 hb3 hn1 hn2 hn3 hR
  go_enter Tryd.func21, Tryd.ntmps21
  go_wp2_with fail
  refine (h1.out _).mono ?_
  rintro e w2 ⟨rfl, rfl⟩
  cases b1 with
  | false =>
    go_wp2_with fail
    go_ret
    exact ⟨rfl, hb.out⟩
  | true =>
    go_wp2_with fail
    refine (h2.out _).mono ?_
    rintro e w2 ⟨rfl, rfl⟩
    cases b2 with
    | false =>
      go_wp2_with fail
      go_ret
      exact ⟨rfl, hb.out⟩
    | true =>
      go_wp2_with fail
      refine (h3.out _).mono ?_
      rintro e w2 ⟨rfl, rfl⟩
      go_wp2_with fail
      go_ret
      exact ⟨by cases b3 <;> rfl, hb.out⟩
theorem place_num (p : Int) : isPlace 0 p = (decide (0 ≤ p) && decide (p < 1)) ∧ isPlace 1 p = (decide (0 ≤ p) && decide (p < 4)) ∧ isPlace 2 p = (decide (0 ≤ p) && decide (p < 16)) ∧ isPlace 3 p = (decide (0 ≤ p) && decide (p < 64)) ∧ isPlace 4 p = (decide (0 ≤ p) && decide (p < 256)) ∧ isPlace 5 p = (decide (0 ≤ p) && decide (p < 1024)) ∧ isPlace 6 p = (decide (0 ≤ p) && decide (p < 4096)) ∧ isPlace 7 p = (decide (0 ≤ p) && decide (p < 16384)) ∧ isPlace 8 p = (decide (0 ≤ p) && decide (p < 65536)) := by
  refine ⟨?_, ?_, ?_, ?_, ?_, ?_, ?_, ?_, ?_⟩ <;> simp [isPlace, inB]
theorem place_no (d p : Int) (h : ¬ (0 ≤ d ∧ d ≤ 8 ∧ 0 ≤ p)) : isPlace d p = false := by
  unfold isPlace inB
  by_cases h0 : 0 ≤ d
  · by_cases h1 : d ≤ 8
    · have : ¬ 0 ≤ p := fun e => h ⟨h0, h1, e⟩
      simp [this]
    · simp [h1]
  · simp [h0]
set_option maxHeartbeats 2000000 in
theorem isPlace_any (d p : Int) (w : World) : Calls Tryd.prog 78 #[.int .i64 d, .int .i64 p] w fun e w' => e = .returned (.bool (isPlace d p)) ∧ w = w' := by
  obtain ⟨r, hr⟩ : ∃ r, r = isPlace d p := ⟨_, rfl⟩
  rw [← hr]
  have Hr := Lib.hid hr
  clear hr
  go_enter Tryd.func78, Tryd.ntmps78
  by_cases h0 : 0 ≤ d
  · by_cases h1 : d ≤ 8
    · by_cases h2 : 0 ≤ p
      · obtain ⟨e0, e1, e2, e3, e4, e5, e6, e7, e8⟩ := place_num p
        have key : d = 0 ∨ d = 1 ∨ d = 2 ∨ d = 3 ∨ d = 4 ∨ d = 5 ∨ d = 6 ∨ d = 7 ∨ d = 8 := by omega
        have HE := Lib.hid (⟨e0, e1, e2, e3, e4, e5, e6, e7, e8⟩ : _ ∧ _ ∧ _ ∧ _ ∧ _ ∧ _ ∧ _ ∧ _ ∧ _)
        clear e0 e1 e2 e3 e4 e5 e6 e7 e8
        rcases key with rfl | key
        · clear h0 h1
          have hv : r = (decide (0 ≤ p) && decide (p < 1)) := Hr.out.trans HE.out.1
          by_cases hp : p < 1
          · have e : r = true := by rw [hv]; simp [h2, hp]
            subst e
            clear hv Hr HE
            go_wp2_with fail
            go_ret
            exact ⟨rfl, rfl⟩
          · have e : r = false := by rw [hv]; simp [hp]
            subst e
            clear hv Hr HE
            go_wp2_with fail
            go_ret
            exact ⟨rfl, rfl⟩
        rcases key with rfl | key
        · clear h0 h1
          have hv : r = (decide (0 ≤ p) && decide (p < 4)) := Hr.out.trans HE.out.2.1
          by_cases hp : p < 4
          · have e : r = true := by rw [hv]; simp [h2, hp]
            subst e
            clear hv Hr HE
            go_wp2_with fail
            go_ret
            exact ⟨rfl, rfl⟩
          · have e : r = false := by rw [hv]; simp [hp]
            subst e
            clear hv Hr HE
            go_wp2_with fail
            go_ret
            exact ⟨rfl, rfl⟩
        rcases key with rfl | key
        · clear h0 h1
          have hv : r = (decide (0 ≤ p) && decide (p < 16)) := Hr.out.trans HE.out.2.2.1
          by_cases hp : p < 16
          · have e : r = true := by rw [hv]; simp [h2, hp]
            subst e
            clear hv Hr HE
            go_wp2_with fail
            go_ret
            exact ⟨rfl, rfl⟩
          · have e : r = false := by rw [hv]; simp [hp]
            subst e
            clear hv Hr HE
            go_wp2_with fail
            go_ret
            exact ⟨rfl, rfl⟩
        rcases key with rfl | key
        · clear h0 h1
          have hv : r = (decide (0 ≤ p) && decide (p < 64)) := Hr.out.trans HE.out.2.2.2.1
          by_cases hp : p < 64
          · have e : r = true := by rw [hv]; simp [h2, hp]
            subst e
            clear hv Hr HE
            go_wp2_with fail
            go_ret
            exact ⟨rfl, rfl⟩
          · have e : r = false := by rw [hv]; simp [hp]
            subst e
            clear hv Hr HE
            go_wp2_with fail
            go_ret
            exact ⟨rfl, rfl⟩
        rcases key with rfl | key
        · clear h0 h1
          have hv : r = (decide (0 ≤ p) && decide (p < 256)) := Hr.out.trans HE.out.2.2.2.2.1
          by_cases hp : p < 256
          · have e : r = true := by rw [hv]; simp [h2, hp]
            subst e
            clear hv Hr HE
            go_wp2_with fail
            go_ret
            exact ⟨rfl, rfl⟩
          · have e : r = false := by rw [hv]; simp [hp]
            subst e
            clear hv Hr HE
            go_wp2_with fail
            go_ret
            exact ⟨rfl, rfl⟩
        rcases key with rfl | key
        · clear h0 h1
          have hv : r = (decide (0 ≤ p) && decide (p < 1024)) := Hr.out.trans HE.out.2.2.2.2.2.1
          by_cases hp : p < 1024
          · have e : r = true := by rw [hv]; simp [h2, hp]
            subst e
            clear hv Hr HE
            go_wp2_with fail
            go_ret
            exact ⟨rfl, rfl⟩
          · have e : r = false := by rw [hv]; simp [hp]
            subst e
            clear hv Hr HE
            go_wp2_with fail
            go_ret
            exact ⟨rfl, rfl⟩
        rcases key with rfl | key
        · clear h0 h1
          have hv : r = (decide (0 ≤ p) && decide (p < 4096)) := Hr.out.trans HE.out.2.2.2.2.2.2.1
          by_cases hp : p < 4096
          · have e : r = true := by rw [hv]; simp [h2, hp]
            subst e
            clear hv Hr HE
            go_wp2_with fail
            go_ret
            exact ⟨rfl, rfl⟩
          · have e : r = false := by rw [hv]; simp [hp]
            subst e
            clear hv Hr HE
            go_wp2_with fail
            go_ret
            exact ⟨rfl, rfl⟩
        rcases key with rfl | key
        · clear h0 h1
          have hv : r = (decide (0 ≤ p) && decide (p < 16384)) := Hr.out.trans HE.out.2.2.2.2.2.2.2.1
          by_cases hp : p < 16384
          · have e : r = true := by rw [hv]; simp [h2, hp]
            subst e
            clear hv Hr HE
            go_wp2_with fail
            go_ret
            exact ⟨rfl, rfl⟩
          · have e : r = false := by rw [hv]; simp [hp]
            subst e
            clear hv Hr HE
            go_wp2_with fail
            go_ret
            exact ⟨rfl, rfl⟩
        · subst key
          clear h0 h1
          have hv : r = (decide (0 ≤ p) && decide (p < 65536)) := Hr.out.trans HE.out.2.2.2.2.2.2.2.2
          by_cases hp : p < 65536
          · have e : r = true := by rw [hv]; simp [h2, hp]
            subst e
            clear hv Hr HE
            go_wp2_with fail
            go_ret
            exact ⟨rfl, rfl⟩
          · have e : r = false := by rw [hv]; simp [hp]
            subst e
            clear hv Hr HE
            go_wp2_with fail
            go_ret
            exact ⟨rfl, rfl⟩
      · have e : r = false := by rw [Hr.out]; exact place_no d p (fun h => h2 h.2.2)
        subst e
        clear Hr
        go_wp2_with fail
        go_ret
        exact ⟨rfl, rfl⟩
    · have e : r = false := by rw [Hr.out]; exact place_no d p (fun h => h1 h.2.1)
      subst e
      clear Hr
      go_wp2_with fail
      go_ret
      exact ⟨rfl, rfl⟩
  · have e : r = false := by rw [Hr.out]; exact place_no d p (fun h => h0 h.1)
    subst e
    clear Hr
    go_wp2_with fail
    go_ret
    exact ⟨rfl, rfl⟩
end Wi
end Go.Proofs.YthcmlbbbbcinkaaDoor

set_option linter.unusedVariables false
set_option linter.unusedSimpArgs false
namespace Go.Proofs.YthcmlbbbbcinkaaDoor
open Go.RowKit Pl
attribute [local go_sem] Lb.ba_get Lb.ba_cut Lb.ba_add Lb.ba_size Lb.take_rest
namespace Wi

set_option maxHeartbeats 2000000 in
set_option maxRecDepth 100000 in
theorem isRecord_any (r : Rc) (w : World) (hf : r.Wf) : Calls Tryd.prog 49 #[.agg r.cells.toArray] w fun e w' => e = .returned (.bool (isRc r)) ∧ Below w.heap.size w w' := by
  have hn := heap_alloc_new w (.cells r.cells.toArray 26)
  obtain ⟨-, c32, c33⟩ := rc_mem hf hn
  have hb := Lib.hid ((Below.refl w.heap.size w).alloc (Nat.le_refl _) (.cells r.cells.toArray 26))
  have h1 := Lib.hid (fun W => within_any r.code 0 99 W)
  unfold isRc
  obtain ⟨b1, hb1⟩ : ∃ b, b = inB r.code 0 99 := ⟨_, rfl⟩
  rw [← hb1] at h1 ⊢
  obtain ⟨c, hc⟩ : ∃ x, x = r.code := ⟨_, rfl⟩
  rw [← hc] at c32 h1 ⊢
  obtain ⟨o, ho⟩ : ∃ x, x = r.out := ⟨_, rfl⟩
  have hol : o.length = 32 := by rw [ho]; exact hf.o
  rw [← ho] at c33 ⊢
  have hdix : (Tryd.prog.info? 23).map (·.size) = some (byV o).length := by rw [dig_info, byV_length, hol]
  have heq : ∀ W : World, (Op.equalIn 10000 23 (.agg (byV o).toArray) (.agg (digV (List.replicate 32 0)))).run Tryd.prog W = .ok (o == List.replicate 32 0) W := fun W => eqIn_dig W o _ hol (by simp)
  have hbd := built_dig0
  obtain ⟨Z, hZ⟩ : ∃ Z, Z = digV (List.replicate 32 0) := ⟨_, rfl⟩
  rw [← hZ] at heq hbd
  have C33 := Lib.hid c33
  have Hdix := Lib.hid hdix
  have Hbd := Lib.hid hbd
  obtain ⟨R, hR⟩ : ∃ R, R = r.cells.toArray := ⟨_, rfl⟩
  rw [← hR] at hn hb c32 C33 ⊢
  obtain ⟨y, hy⟩ : ∃ y, y = (o == List.replicate 32 0) := ⟨_, rfl⟩
  have hz : (o == z32) = y := by rw [hy]; rfl
  rw [← hy] at heq
  rw [hz]
  obtain ⟨res, hres⟩ : ∃ x, x = (b1 && (decide (c = 0) || y)) := ⟨_, rfl⟩
  rw [← hres]
  have Hres := Lib.hid hres
  clear hn c33 hc ho hol hdix hbd hZ hR hy hres hf hb1 hz
  go_enter Tryd.func49, Tryd.ntmps49
  go_wp2_with fail
  refine (h1.out _).mono ?_
  rintro e w2 ⟨rfl, rfl⟩
  cases b1 with
  | false =>
    have hr : Hid (res = false) := Lib.hid (by rw [Hres.out]; rfl)
    clear Hres heq
    go_wp2_with fail
    go_ret
    rw [hr.out]
    exact ⟨rfl, hb.out⟩
  | true =>
    by_cases h2 : c = 0
    · subst h2
      have hr : Hid (res = true) := Lib.hid (by rw [Hres.out]; rfl)
      clear Hres heq
      go_wp2_with fail
      go_ret
      rw [hr.out]
      exact ⟨rfl, hb.out⟩
    · have e2 : (c == 0) = false := by simp [h2]
      have hr : Hid (res = y) := Lib.hid (by rw [Hres.out]; simp [h2])
      clear Hres
      go_wp2_with (with_reducible first
        | (refine wpList_load_midGR (by kernel_rfl) 23 _ rfl _ 33 rfl (byV o) _ C33.out Tryd.underlying23 rfl Hdix.out ?_)
        | (refine wpList_build0G (by kernel_rfl) 23 rfl Z Hbd.out ?_))
      go_ret
      rw [hr.out]
      exact ⟨rfl, hb.out⟩
theorem hedgeGood_any (r : Rg) (w : World) : Calls Tryd.prog 53 #[.agg r.cells.toArray] w fun e w' => e = .returned (.bool (goodRg r)) ∧ Below w.heap.size w w' := by
  have hn := heap_alloc_new w (.cells r.cells.toArray 65)
  obtain ⟨c0, c1, c2, -⟩ := rg_mem hn
  have hb := Lib.hid ((Below.refl w.heap.size w).alloc (Nat.le_refl _) (.cells r.cells.toArray 65))
  have h1 := Lib.hid (fun W => isPlace_any r.depth r.pre W)
  unfold goodRg inB
  obtain ⟨b1, hb1⟩ : ∃ b, b = isPlace r.depth r.pre := ⟨_, rfl⟩
  rw [← hb1] at h1 ⊢
  obtain ⟨n1, hn1⟩ : ∃ n, n = r.depth := ⟨_, rfl⟩
  obtain ⟨n2, hn2⟩ : ∃ n, n = r.pre := ⟨_, rfl⟩
  obtain ⟨n3, hn3⟩ : ∃ n, n = r.count := ⟨_, rfl⟩
  rw [← hn1] at h1 c0
  rw [← hn2] at h1 c1
  rw [← hn3] at c2 ⊢
  obtain ⟨R, hR⟩ : ∃ R, R = r.cells.toArray := ⟨_, rfl⟩
  rw [← hR] at c0 c1 c2 hb ⊢
  obtain ⟨res, hres⟩ : ∃ x, x = (b1 && (decide (0 ≤ n3) && decide (n3 ≤ 1048576))) := ⟨_, rfl⟩
  rw [← hres]
  have Hres := Lib.hid hres
  clear hn hb1 hn1 hn2 hn3 hR hres
  go_enter Tryd.func53, Tryd.ntmps53
  go_wp2_with fail
  refine (h1.out _).mono ?_
  rintro e w2 ⟨rfl, rfl⟩
  cases b1 with
  | false =>
    have hr : Hid (res = false) := Lib.hid (by rw [Hres.out]; rfl)
    clear Hres
    go_wp2_with fail
    go_ret
    rw [hr.out]
    exact ⟨rfl, hb.out⟩
  | true =>
    by_cases h0 : 0 ≤ n3
    · by_cases h9 : n3 ≤ 1048576
      · have hr : Hid (res = true) := Lib.hid (by rw [Hres.out]; simp [h0, h9])
        clear Hres
        go_wp2_with fail
        go_ret
        rw [hr.out]
        exact ⟨rfl, hb.out⟩
      · have hr : Hid (res = false) := Lib.hid (by rw [Hres.out]; simp [h9])
        have e9 : decide (n3 ≤ 1048576) = false := decide_eq_false h9
        clear Hres h9
        go_wp2_with fail
        go_ret
        rw [hr.out]
        exact ⟨rfl, hb.out⟩
    · have hr : Hid (res = false) := Lib.hid (by rw [Hres.out]; simp [h0])
      clear Hres
      go_wp2_with fail
      go_ret
      rw [hr.out]
      exact ⟨rfl, hb.out⟩
set_option maxHeartbeats 4000000 in
set_option maxRecDepth 100000 in
theorem recordText_any (r : Rc) (w : World) (hf : r.Wf) : Calls Tryd.prog 40 #[.agg r.cells.toArray] w fun e w' => e = .returned (.string ⟨(recT r).toArray⟩) ∧ Below w.heap.size w w' := by
  have hn := heap_alloc_new w (.cells r.cells.toArray 26)
  obtain ⟨c0, c32, c33⟩ := rc_mem hf hn
  have hb := Lib.hid ((Below.refl w.heap.size w).alloc (Nat.le_refl _) (.cells r.cells.toArray 26))
  have hql := heap_lt hn
  have k1 := conv_rng hf.k c0 hql
  have k2 := conv_rng hf.o c33 hql
  unfold recT
  obtain ⟨t0, ht0⟩ : ∃ t, t = r.key := ⟨_, rfl⟩
  obtain ⟨t1, ht1⟩ : ∃ t, t = num r.code := ⟨_, rfl⟩
  obtain ⟨t2, ht2⟩ : ∃ t, t = r.out := ⟨_, rfl⟩
  have HN : Hid (∀ W : World, Calls Tryd.prog 13 #[.int .i64 r.code] W fun e w' => e = .returned (.string ⟨t1.toArray⟩) ∧ Below W.heap.size W w') := Lib.hid (fun W => by rw [ht1]; exact num_any r.code W hf.c.1 hf.c.2)
  rw [← ht0, ← ht1, ← ht2, List.append_assoc]
  obtain ⟨c, hc⟩ : ∃ x, x = r.code := ⟨_, rfl⟩
  rw [← hc] at c32 HN
  rw [← ht0] at k1
  rw [← ht2] at k2
  have hl0 : t0.length = 32 := by rw [ht0]; exact hf.k
  have hl1 : t1.length ≤ 9 := by rw [ht1]; exact num9 hf.c
  have hl2 : t2.length = 32 := by rw [ht2]; exact hf.o
  have hs1 : ¬ 9223372036854775807 < 32 + t1.length := by omega
  have hs2 : ¬ 9223372036854775807 < 32 + t1.length + 32 := by omega
  have hs3 : ¬ 9223372036854775807 < 32 + (t1.length + 32) := by omega
  obtain ⟨R, hRd⟩ : ∃ R, R = r.cells.toArray := ⟨_, rfl⟩
  rw [← hRd] at c32 hb k1 k2 hql ⊢
  obtain ⟨q, hq⟩ : ∃ q, q = w.heap.size := ⟨_, rfl⟩
  have K1 := Lib.hid k1
  have K2 := Lib.hid k2
  have dund := Tryd.underlying23
  clear hn c0 c33 k1 k2 ht0 ht1 ht2 hc hRd hf
  go_enter Tryd.func40, Tryd.ntmps40
  go_upto_region 1 with fail
  show Code.wp _ _ _ _ (w.alloc (.cells R 26))
  obtain ⟨w1, hw1⟩ : ∃ y, y = w.alloc (.cells R 26) := ⟨_, rfl⟩
  rw [← hw1] at c32 hb K1 K2 hql ⊢
  rw [← hq] at c32 K1 K2 hql ⊢
  clear hw1 hq
  refine wp_region_held_drew (S := fun w' => Below w1.heap.size w1 w') (by kernel_rfl) ((Below.refl _ _).drew) (fun hH0 => ?_)
  obtain ⟨W0, hW0⟩ : ∃ W, W = w1.drew := ⟨_, rfl⟩
  rw [← hW0] at hH0 ⊢
  clear hW0
  refine wpAnyH_take (i := 0) (v := ?_) rfl (by kernel_rfl) (by kernel_rfl) (by kernel_rfl) (fun _ _ _ h => h) (Or.inl ⟨by kernel_rfl, ?_⟩) hH0 ?_
  rotate_left 1
  · intro w hSw
    go_simp
    try with_reducible rfl
  try simp only [Act.put, List.getElem_toArray, List.getElem_cons_zero, List.getElem_cons_succ, List.setIfInBounds_toArray, List.set_cons_zero, List.set_cons_succ]
  refine wpAnyH_take (i := 1) (v := ?_) rfl (by kernel_rfl) (by kernel_rfl) (by kernel_rfl) (fun _ _ _ h => h) (Or.inl ⟨by kernel_rfl, ?_⟩) hH0 ?_
  rotate_left 1
  · intro w hSw
    go_simp
    try with_reducible rfl
  try simp only [Act.put, List.getElem_toArray, List.getElem_cons_zero, List.getElem_cons_succ, List.setIfInBounds_toArray, List.set_cons_zero, List.set_cons_succ]
  refine wpAnyH_take (i := 2) (v := ?_) rfl (by kernel_rfl) (by kernel_rfl) (by kernel_rfl) (fun _ _ _ h => h) (Or.inl ⟨by kernel_rfl, ?_⟩) hH0 ?_
  rotate_left 1
  · intro w hSw
    go_simp
    rw [K1.out w hSw]
    rfl
    try with_reducible rfl
  try simp only [Act.put, List.getElem_toArray, List.getElem_cons_zero, List.getElem_cons_succ, List.setIfInBounds_toArray, List.set_cons_zero, List.set_cons_succ]
  refine wpAnyH_take (i := 3) (v := ?_) rfl (by kernel_rfl) (by kernel_rfl) (by kernel_rfl) (fun _ _ _ h => h) (Or.inl ⟨by kernel_rfl, ?_⟩) hH0 ?_
  rotate_left 1
  · intro w hSw
    go_simp
    try with_reducible rfl
  try simp only [Act.put, List.getElem_toArray, List.getElem_cons_zero, List.getElem_cons_succ, List.setIfInBounds_toArray, List.set_cons_zero, List.set_cons_succ]
  refine wpAnyH_take (i := 4) (v := ?_) rfl (by kernel_rfl) (by kernel_rfl) (by kernel_rfl) (fun _ _ _ h => h) (Or.inl ⟨by kernel_rfl, ?_⟩) hH0 ?_
  rotate_left 1
  · intro w hSw
    have f0 := (hSw.cell (p := ⟨q, 32, none⟩) hql).trans c32
    go_simp
    try with_reducible rfl
  try simp only [Act.put, List.getElem_toArray, List.getElem_cons_zero, List.getElem_cons_succ, List.setIfInBounds_toArray, List.set_cons_zero, List.set_cons_succ]
  refine wpAnyH_take (i := 7) (v := ?_) rfl (by kernel_rfl) (by kernel_rfl) (by kernel_rfl) (fun _ _ _ h => h) (Or.inl ⟨by kernel_rfl, ?_⟩) hH0 ?_
  rotate_left 1
  · intro w hSw
    go_simp
    try with_reducible rfl
  try simp only [Act.put, List.getElem_toArray, List.getElem_cons_zero, List.getElem_cons_succ, List.setIfInBounds_toArray, List.set_cons_zero, List.set_cons_succ]
  refine wpAnyH_take (i := 8) (v := ?_) rfl (by kernel_rfl) (by kernel_rfl) (by kernel_rfl) (fun _ _ _ h => h) (Or.inl ⟨by kernel_rfl, ?_⟩) hH0 ?_
  rotate_left 1
  · intro w hSw
    go_simp
    try with_reducible rfl
  try simp only [Act.put, List.getElem_toArray, List.getElem_cons_zero, List.getElem_cons_succ, List.setIfInBounds_toArray, List.set_cons_zero, List.set_cons_succ]
  refine wpAnyH_take (i := 9) (v := ?_) rfl (by kernel_rfl) (by kernel_rfl) (by kernel_rfl) (fun _ _ _ h => h) (Or.inl ⟨by kernel_rfl, ?_⟩) hH0 ?_
  rotate_left 1
  · intro w hSw
    go_simp
    rw [K2.out w hSw]
    rfl
    try with_reducible rfl
  try simp only [Act.put, List.getElem_toArray, List.getElem_cons_zero, List.getElem_cons_succ, List.setIfInBounds_toArray, List.set_cons_zero, List.set_cons_succ]
  refine wpAnyH_ready (rs := [5]) (by kernel_rfl) (by simp) ?_
  refine AllReadyH.cons rfl (fun K_ hK => ?_) ?_
  · go_simp
    refine (HN.out _).mono ?_
    rintro e W1 ⟨rfl, hb1⟩
    refine hK.out _ _ ((hH0).trans (hb1.mono (hH0).size)) (fun hH1 => ?_)
    clear hK K_
    try simp only [Act.put, List.getElem_toArray, List.getElem_cons_zero, List.getElem_cons_succ, List.setIfInBounds_toArray, List.set_cons_zero, List.set_cons_succ]
    refine wpAnyH_take (i := 6) (v := ?_) rfl (by kernel_rfl) (by kernel_rfl) (by kernel_rfl) (fun _ _ _ h => h) (Or.inl ⟨by kernel_rfl, ?_⟩) hH1 ?_
    rotate_left 1
    · intro w hSw
      go_simp
      try with_reducible rfl
    try simp only [Act.put, List.getElem_toArray, List.getElem_cons_zero, List.getElem_cons_succ, List.setIfInBounds_toArray, List.set_cons_zero, List.set_cons_succ]
    refine wpAnyH_take (i := 10) (v := ?_) rfl (by kernel_rfl) (by kernel_rfl) (by kernel_rfl) (fun _ _ _ h => h) (Or.inl ⟨by kernel_rfl, ?_⟩) hH1 ?_
    rotate_left 1
    · intro w hSw
      go_simp
      try with_reducible rfl
    try simp only [Act.put, List.getElem_toArray, List.getElem_cons_zero, List.getElem_cons_succ, List.setIfInBounds_toArray, List.set_cons_zero, List.set_cons_succ]
    refine wpAnyH_take (i := 11) (v := ?_) rfl (by kernel_rfl) (by kernel_rfl) (by kernel_rfl) (fun _ _ _ h => h) (Or.inl ⟨by kernel_rfl, ?_⟩) hH1 ?_
    rotate_left 1
    · intro w hSw
      go_simp
      try with_reducible rfl
    try simp only [Act.put, List.getElem_toArray, List.getElem_cons_zero, List.getElem_cons_succ, List.setIfInBounds_toArray, List.set_cons_zero, List.set_cons_succ]
    refine wpAnyH_done (by kernel_rfl) ?_ _
    have HH := Lib.hid hH1
    clear hH1
    go_wp2_with fail
    go_ret
    exact ⟨rfl, hb.out.trans (HH.out.mono hb.out.size)⟩
  exact AllReadyH.nil
set_option maxHeartbeats 4000000 in
set_option maxRecDepth 100000 in
theorem rangeText_any (r : Rg) (w : World) (hf : r.Wf) : Calls Tryd.prog 43 #[.agg r.cells.toArray] w fun e w' => e = .returned (.string ⟨(rngT r).toArray⟩) ∧ Below w.heap.size w w' := by
  have hn := heap_alloc_new w (.cells r.cells.toArray 65)
  obtain ⟨c0, c1, c2, c3⟩ := rg_mem hn
  have hb := Lib.hid ((Below.refl w.heap.size w).alloc (Nat.le_refl _) (.cells r.cells.toArray 65))
  have hql := heap_lt hn
  have k1 := conv_rng hf.s c3 hql
  unfold rngT
  obtain ⟨t0, ht0⟩ : ∃ t, t = num r.depth := ⟨_, rfl⟩
  have HN0 : Hid (∀ W : World, Calls Tryd.prog 13 #[.int .i64 r.depth] W fun e w' => e = .returned (.string ⟨t0.toArray⟩) ∧ Below W.heap.size W w') := Lib.hid (fun W => by rw [ht0]; exact num_any r.depth W hf.d.1 hf.d.2)
  have hl0 : t0.length ≤ 9 := by rw [ht0]; exact num9 hf.d
  rw [← ht0]
  obtain ⟨n0, hn0⟩ : ∃ x, x = r.depth := ⟨_, rfl⟩
  rw [← hn0] at c0 HN0
  clear ht0 hn0
  obtain ⟨t1, ht1⟩ : ∃ t, t = num r.pre := ⟨_, rfl⟩
  have HN1 : Hid (∀ W : World, Calls Tryd.prog 13 #[.int .i64 r.pre] W fun e w' => e = .returned (.string ⟨t1.toArray⟩) ∧ Below W.heap.size W w') := Lib.hid (fun W => by rw [ht1]; exact num_any r.pre W hf.p.1 hf.p.2)
  have hl1 : t1.length ≤ 9 := by rw [ht1]; exact num9 hf.p
  rw [← ht1]
  obtain ⟨n1, hn1⟩ : ∃ x, x = r.pre := ⟨_, rfl⟩
  rw [← hn1] at c1 HN1
  clear ht1 hn1
  obtain ⟨t2, ht2⟩ : ∃ t, t = num r.count := ⟨_, rfl⟩
  have HN2 : Hid (∀ W : World, Calls Tryd.prog 13 #[.int .i64 r.count] W fun e w' => e = .returned (.string ⟨t2.toArray⟩) ∧ Below W.heap.size W w') := Lib.hid (fun W => by rw [ht2]; exact num_any r.count W hf.c.1 hf.c.2)
  have hl2 : t2.length ≤ 9 := by rw [ht2]; exact num9 hf.c
  rw [← ht2]
  obtain ⟨n2, hn2⟩ : ∃ x, x = r.count := ⟨_, rfl⟩
  rw [← hn2] at c2 HN2
  clear ht2 hn2
  obtain ⟨t3, ht3⟩ : ∃ t, t = r.sum := ⟨_, rfl⟩
  have hl3 : t3.length = 32 := by rw [ht3]; exact hf.s
  rw [← ht3] at k1 ⊢
  have hs1 : ¬ 9223372036854775807 < t0.length + t1.length := by omega
  have hs2 : ¬ 9223372036854775807 < t0.length + t1.length + t2.length := by omega
  have hs3 : ¬ 9223372036854775807 < t0.length + t1.length + t2.length + 32 := by omega
  have hs4 : ¬ 9223372036854775807 < t0.length + (t1.length + t2.length) := by omega
  have hs5 : ¬ 9223372036854775807 < t0.length + (t1.length + (t2.length + 32)) := by omega
  have hs6 : ¬ 9223372036854775807 < t0.length + (t1.length + t2.length) + 32 := by omega
  rw [List.append_assoc, List.append_assoc]
  obtain ⟨R, hRd⟩ : ∃ R, R = r.cells.toArray := ⟨_, rfl⟩
  rw [← hRd] at c0 c1 c2 hb k1 hql ⊢
  obtain ⟨q, hq⟩ : ∃ q, q = w.heap.size := ⟨_, rfl⟩
  have K1 := Lib.hid k1
  have dund := Tryd.underlying23
  clear hn c3 k1 ht3 hRd hf
  go_enter Tryd.func43, Tryd.ntmps43
  go_upto_region 1 with fail
  show Code.wp _ _ _ _ (w.alloc (.cells R 65))
  obtain ⟨w1, hw1⟩ : ∃ y, y = w.alloc (.cells R 65) := ⟨_, rfl⟩
  rw [← hw1] at c0 c1 c2 hb K1 hql ⊢
  rw [← hq] at c0 c1 c2 K1 hql ⊢
  clear hw1 hq
  refine wp_region_held_drew (S := fun w' => Below w1.heap.size w1 w') (by kernel_rfl) ((Below.refl _ _).drew) (fun hH0 => ?_)
  obtain ⟨W0, hW0⟩ : ∃ W, W = w1.drew := ⟨_, rfl⟩
  rw [← hW0] at hH0 ⊢
  clear hW0
  refine wpAnyH_take (i := 0) (v := ?_) rfl (by kernel_rfl) (by kernel_rfl) (by kernel_rfl) (fun _ _ _ h => h) (Or.inl ⟨by kernel_rfl, ?_⟩) hH0 ?_
  rotate_left 1
  · intro w hSw
    go_simp
    try with_reducible rfl
  try simp only [Act.put, List.getElem_toArray, List.getElem_cons_zero, List.getElem_cons_succ, List.setIfInBounds_toArray, List.set_cons_zero, List.set_cons_succ]
  refine wpAnyH_take (i := 1) (v := ?_) rfl (by kernel_rfl) (by kernel_rfl) (by kernel_rfl) (fun _ _ _ h => h) (Or.inl ⟨by kernel_rfl, ?_⟩) hH0 ?_
  rotate_left 1
  · intro w hSw
    have f0 := (hSw.cell (p := ⟨q, 0, none⟩) hql).trans c0
    have f1 := (hSw.cell (p := ⟨q, 1, none⟩) hql).trans c1
    have f2 := (hSw.cell (p := ⟨q, 2, none⟩) hql).trans c2
    go_simp
    try with_reducible rfl
  try simp only [Act.put, List.getElem_toArray, List.getElem_cons_zero, List.getElem_cons_succ, List.setIfInBounds_toArray, List.set_cons_zero, List.set_cons_succ]
  refine wpAnyH_take (i := 3) (v := ?_) rfl (by kernel_rfl) (by kernel_rfl) (by kernel_rfl) (fun _ _ _ h => h) (Or.inl ⟨by kernel_rfl, ?_⟩) hH0 ?_
  rotate_left 1
  · intro w hSw
    go_simp
    try with_reducible rfl
  try simp only [Act.put, List.getElem_toArray, List.getElem_cons_zero, List.getElem_cons_succ, List.setIfInBounds_toArray, List.set_cons_zero, List.set_cons_succ]
  refine wpAnyH_take (i := 4) (v := ?_) rfl (by kernel_rfl) (by kernel_rfl) (by kernel_rfl) (fun _ _ _ h => h) (Or.inl ⟨by kernel_rfl, ?_⟩) hH0 ?_
  rotate_left 1
  · intro w hSw
    have f0 := (hSw.cell (p := ⟨q, 0, none⟩) hql).trans c0
    have f1 := (hSw.cell (p := ⟨q, 1, none⟩) hql).trans c1
    have f2 := (hSw.cell (p := ⟨q, 2, none⟩) hql).trans c2
    go_simp
    try with_reducible rfl
  try simp only [Act.put, List.getElem_toArray, List.getElem_cons_zero, List.getElem_cons_succ, List.setIfInBounds_toArray, List.set_cons_zero, List.set_cons_succ]
  refine wpAnyH_take (i := 7) (v := ?_) rfl (by kernel_rfl) (by kernel_rfl) (by kernel_rfl) (fun _ _ _ h => h) (Or.inl ⟨by kernel_rfl, ?_⟩) hH0 ?_
  rotate_left 1
  · intro w hSw
    go_simp
    try with_reducible rfl
  try simp only [Act.put, List.getElem_toArray, List.getElem_cons_zero, List.getElem_cons_succ, List.setIfInBounds_toArray, List.set_cons_zero, List.set_cons_succ]
  refine wpAnyH_take (i := 8) (v := ?_) rfl (by kernel_rfl) (by kernel_rfl) (by kernel_rfl) (fun _ _ _ h => h) (Or.inl ⟨by kernel_rfl, ?_⟩) hH0 ?_
  rotate_left 1
  · intro w hSw
    have f0 := (hSw.cell (p := ⟨q, 0, none⟩) hql).trans c0
    have f1 := (hSw.cell (p := ⟨q, 1, none⟩) hql).trans c1
    have f2 := (hSw.cell (p := ⟨q, 2, none⟩) hql).trans c2
    go_simp
    try with_reducible rfl
  try simp only [Act.put, List.getElem_toArray, List.getElem_cons_zero, List.getElem_cons_succ, List.setIfInBounds_toArray, List.set_cons_zero, List.set_cons_succ]
  refine wpAnyH_take (i := 11) (v := ?_) rfl (by kernel_rfl) (by kernel_rfl) (by kernel_rfl) (fun _ _ _ h => h) (Or.inl ⟨by kernel_rfl, ?_⟩) hH0 ?_
  rotate_left 1
  · intro w hSw
    go_simp
    try with_reducible rfl
  try simp only [Act.put, List.getElem_toArray, List.getElem_cons_zero, List.getElem_cons_succ, List.setIfInBounds_toArray, List.set_cons_zero, List.set_cons_succ]
  refine wpAnyH_take (i := 12) (v := ?_) rfl (by kernel_rfl) (by kernel_rfl) (by kernel_rfl) (fun _ _ _ h => h) (Or.inl ⟨by kernel_rfl, ?_⟩) hH0 ?_
  rotate_left 1
  · intro w hSw
    go_simp
    try with_reducible rfl
  try simp only [Act.put, List.getElem_toArray, List.getElem_cons_zero, List.getElem_cons_succ, List.setIfInBounds_toArray, List.set_cons_zero, List.set_cons_succ]
  refine wpAnyH_take (i := 13) (v := ?_) rfl (by kernel_rfl) (by kernel_rfl) (by kernel_rfl) (fun _ _ _ h => h) (Or.inl ⟨by kernel_rfl, ?_⟩) hH0 ?_
  rotate_left 1
  · intro w hSw
    go_simp
    rw [K1.out w hSw]
    rfl
    try with_reducible rfl
  try simp only [Act.put, List.getElem_toArray, List.getElem_cons_zero, List.getElem_cons_succ, List.setIfInBounds_toArray, List.set_cons_zero, List.set_cons_succ]
  refine wpAnyH_ready (rs := [2]) (by kernel_rfl) (by simp) ?_
  refine AllReadyH.cons rfl (fun K_ hK => ?_) ?_
  · go_simp
    refine (HN0.out _).mono ?_
    rintro e W1 ⟨rfl, hb1⟩
    refine hK.out _ _ ((hH0).trans (hb1.mono (hH0).size)) (fun hH1 => ?_)
    clear hK K_
    try simp only [Act.put, List.getElem_toArray, List.getElem_cons_zero, List.getElem_cons_succ, List.setIfInBounds_toArray, List.set_cons_zero, List.set_cons_succ]
    refine wpAnyH_ready (rs := [5]) (by kernel_rfl) (by simp) ?_
    refine AllReadyH.cons rfl (fun K_ hK => ?_) ?_
    · go_simp
      refine (HN1.out _).mono ?_
      rintro e W2 ⟨rfl, hb2⟩
      refine hK.out _ _ ((hH1).trans (hb2.mono (hH1).size)) (fun hH2 => ?_)
      clear hK K_
      try simp only [Act.put, List.getElem_toArray, List.getElem_cons_zero, List.getElem_cons_succ, List.setIfInBounds_toArray, List.set_cons_zero, List.set_cons_succ]
      refine wpAnyH_take (i := 6) (v := ?_) rfl (by kernel_rfl) (by kernel_rfl) (by kernel_rfl) (fun _ _ _ h => h) (Or.inl ⟨by kernel_rfl, ?_⟩) hH2 ?_
      rotate_left 1
      · intro w hSw
        go_simp
        try with_reducible rfl
      try simp only [Act.put, List.getElem_toArray, List.getElem_cons_zero, List.getElem_cons_succ, List.setIfInBounds_toArray, List.set_cons_zero, List.set_cons_succ]
      refine wpAnyH_ready (rs := [9]) (by kernel_rfl) (by simp) ?_
      refine AllReadyH.cons rfl (fun K_ hK => ?_) ?_
      · go_simp
        refine (HN2.out _).mono ?_
        rintro e W3 ⟨rfl, hb3⟩
        refine hK.out _ _ ((hH2).trans (hb3.mono (hH2).size)) (fun hH3 => ?_)
        clear hK K_
        try simp only [Act.put, List.getElem_toArray, List.getElem_cons_zero, List.getElem_cons_succ, List.setIfInBounds_toArray, List.set_cons_zero, List.set_cons_succ]
        refine wpAnyH_take (i := 10) (v := ?_) rfl (by kernel_rfl) (by kernel_rfl) (by kernel_rfl) (fun _ _ _ h => h) (Or.inl ⟨by kernel_rfl, ?_⟩) hH3 ?_
        rotate_left 1
        · intro w hSw
          go_simp
          try with_reducible rfl
        try simp only [Act.put, List.getElem_toArray, List.getElem_cons_zero, List.getElem_cons_succ, List.setIfInBounds_toArray, List.set_cons_zero, List.set_cons_succ]
        refine wpAnyH_take (i := 14) (v := ?_) rfl (by kernel_rfl) (by kernel_rfl) (by kernel_rfl) (fun _ _ _ h => h) (Or.inl ⟨by kernel_rfl, ?_⟩) hH3 ?_
        rotate_left 1
        · intro w hSw
          go_simp
          try with_reducible rfl
        try simp only [Act.put, List.getElem_toArray, List.getElem_cons_zero, List.getElem_cons_succ, List.setIfInBounds_toArray, List.set_cons_zero, List.set_cons_succ]
        refine wpAnyH_take (i := 15) (v := ?_) rfl (by kernel_rfl) (by kernel_rfl) (by kernel_rfl) (fun _ _ _ h => h) (Or.inl ⟨by kernel_rfl, ?_⟩) hH3 ?_
        rotate_left 1
        · intro w hSw
          go_simp
          try with_reducible rfl
        try simp only [Act.put, List.getElem_toArray, List.getElem_cons_zero, List.getElem_cons_succ, List.setIfInBounds_toArray, List.set_cons_zero, List.set_cons_succ]
        refine wpAnyH_done (by kernel_rfl) ?_ _
        have HH := Lib.hid hH3
        clear hH3
        go_wp2_with fail
        go_ret
        exact ⟨rfl, hb.out.trans (HH.out.mono hb.out.size)⟩
      exact AllReadyH.nil
    exact AllReadyH.nil
  exact AllReadyH.nil
set_option maxHeartbeats 4000000 in
set_option maxRecDepth 100000 in
theorem memberText_any (m : Mb) (w : World) (hf : m.Wf) : Calls Tryd.prog 15 #[.agg m.cells.toArray] w fun e w' => e = .returned (.string ⟨(memT m).toArray⟩) ∧ Below w.heap.size w w' := by
  have hn := heap_alloc_new w (.cells m.cells.toArray 52)
  obtain ⟨c0, c1, c2⟩ := mb_mem hn
  have hb := Lib.hid ((Below.refl w.heap.size w).alloc (Nat.le_refl _) (.cells m.cells.toArray 52))
  have hql := heap_lt hn
  unfold memT
  obtain ⟨t0, ht0⟩ : ∃ t, t = num m.node := ⟨_, rfl⟩
  have HN0 : Hid (∀ W : World, Calls Tryd.prog 13 #[.int .i64 m.node] W fun e w' => e = .returned (.string ⟨t0.toArray⟩) ∧ Below W.heap.size W w') := Lib.hid (fun W => by rw [ht0]; exact num_any m.node W hf.n.1 hf.n.2)
  have hl0 : t0.length ≤ 9 := by rw [ht0]; exact num9 hf.n
  rw [← ht0]
  obtain ⟨n0, hn0⟩ : ∃ x, x = m.node := ⟨_, rfl⟩
  rw [← hn0] at c0 HN0
  clear ht0 hn0
  obtain ⟨t1, ht1⟩ : ∃ t, t = num m.inc := ⟨_, rfl⟩
  have HN1 : Hid (∀ W : World, Calls Tryd.prog 13 #[.int .i64 m.inc] W fun e w' => e = .returned (.string ⟨t1.toArray⟩) ∧ Below W.heap.size W w') := Lib.hid (fun W => by rw [ht1]; exact num_any m.inc W hf.i.1 hf.i.2)
  have hl1 : t1.length ≤ 9 := by rw [ht1]; exact num9 hf.i
  rw [← ht1]
  obtain ⟨n1, hn1⟩ : ∃ x, x = m.inc := ⟨_, rfl⟩
  rw [← hn1] at c1 HN1
  clear ht1 hn1
  obtain ⟨t2, ht2⟩ : ∃ t, t = num m.state := ⟨_, rfl⟩
  have HN2 : Hid (∀ W : World, Calls Tryd.prog 13 #[.int .i64 m.state] W fun e w' => e = .returned (.string ⟨t2.toArray⟩) ∧ Below W.heap.size W w') := Lib.hid (fun W => by rw [ht2]; exact num_any m.state W hf.s.1 hf.s.2)
  have hl2 : t2.length ≤ 9 := by rw [ht2]; exact num9 hf.s
  rw [← ht2]
  obtain ⟨n2, hn2⟩ : ∃ x, x = m.state := ⟨_, rfl⟩
  rw [← hn2] at c2 HN2
  clear ht2 hn2
  have hs1 : ¬ 9223372036854775807 < t0.length + t1.length := by omega
  have hs2 : ¬ 9223372036854775807 < t0.length + t1.length + t2.length := by omega
  have hs3 : ¬ 9223372036854775807 < t0.length + (t1.length + t2.length) := by omega
  rw [List.append_assoc]
  obtain ⟨R, hRd⟩ : ∃ R, R = m.cells.toArray := ⟨_, rfl⟩
  rw [← hRd] at c0 c1 c2 hb hql ⊢
  obtain ⟨q, hq⟩ : ∃ q, q = w.heap.size := ⟨_, rfl⟩
  clear hn hRd hf
  go_enter Tryd.func15, Tryd.ntmps15
  go_upto_region 1 with fail
  show Code.wp _ _ _ _ (w.alloc (.cells R 52))
  obtain ⟨w1, hw1⟩ : ∃ y, y = w.alloc (.cells R 52) := ⟨_, rfl⟩
  rw [← hw1] at c0 c1 c2 hb hql ⊢
  rw [← hq] at c0 c1 c2 hql ⊢
  clear hw1 hq
  refine wp_region_held_drew (S := fun w' => Below w1.heap.size w1 w') (by kernel_rfl) ((Below.refl _ _).drew) (fun hH0 => ?_)
  obtain ⟨W0, hW0⟩ : ∃ W, W = w1.drew := ⟨_, rfl⟩
  rw [← hW0] at hH0 ⊢
  clear hW0
  refine wpAnyH_take (i := 0) (v := ?_) rfl (by kernel_rfl) (by kernel_rfl) (by kernel_rfl) (fun _ _ _ h => h) (Or.inl ⟨by kernel_rfl, ?_⟩) hH0 ?_
  rotate_left 1
  · intro w hSw
    go_simp
    try with_reducible rfl
  try simp only [Act.put, List.getElem_toArray, List.getElem_cons_zero, List.getElem_cons_succ, List.setIfInBounds_toArray, List.set_cons_zero, List.set_cons_succ]
  refine wpAnyH_take (i := 1) (v := ?_) rfl (by kernel_rfl) (by kernel_rfl) (by kernel_rfl) (fun _ _ _ h => h) (Or.inl ⟨by kernel_rfl, ?_⟩) hH0 ?_
  rotate_left 1
  · intro w hSw
    have f0 := (hSw.cell (p := ⟨q, 0, none⟩) hql).trans c0
    have f1 := (hSw.cell (p := ⟨q, 1, none⟩) hql).trans c1
    have f2 := (hSw.cell (p := ⟨q, 2, none⟩) hql).trans c2
    go_simp
    try with_reducible rfl
  try simp only [Act.put, List.getElem_toArray, List.getElem_cons_zero, List.getElem_cons_succ, List.setIfInBounds_toArray, List.set_cons_zero, List.set_cons_succ]
  refine wpAnyH_take (i := 3) (v := ?_) rfl (by kernel_rfl) (by kernel_rfl) (by kernel_rfl) (fun _ _ _ h => h) (Or.inl ⟨by kernel_rfl, ?_⟩) hH0 ?_
  rotate_left 1
  · intro w hSw
    go_simp
    try with_reducible rfl
  try simp only [Act.put, List.getElem_toArray, List.getElem_cons_zero, List.getElem_cons_succ, List.setIfInBounds_toArray, List.set_cons_zero, List.set_cons_succ]
  refine wpAnyH_take (i := 4) (v := ?_) rfl (by kernel_rfl) (by kernel_rfl) (by kernel_rfl) (fun _ _ _ h => h) (Or.inl ⟨by kernel_rfl, ?_⟩) hH0 ?_
  rotate_left 1
  · intro w hSw
    have f0 := (hSw.cell (p := ⟨q, 0, none⟩) hql).trans c0
    have f1 := (hSw.cell (p := ⟨q, 1, none⟩) hql).trans c1
    have f2 := (hSw.cell (p := ⟨q, 2, none⟩) hql).trans c2
    go_simp
    try with_reducible rfl
  try simp only [Act.put, List.getElem_toArray, List.getElem_cons_zero, List.getElem_cons_succ, List.setIfInBounds_toArray, List.set_cons_zero, List.set_cons_succ]
  refine wpAnyH_take (i := 7) (v := ?_) rfl (by kernel_rfl) (by kernel_rfl) (by kernel_rfl) (fun _ _ _ h => h) (Or.inl ⟨by kernel_rfl, ?_⟩) hH0 ?_
  rotate_left 1
  · intro w hSw
    go_simp
    try with_reducible rfl
  try simp only [Act.put, List.getElem_toArray, List.getElem_cons_zero, List.getElem_cons_succ, List.setIfInBounds_toArray, List.set_cons_zero, List.set_cons_succ]
  refine wpAnyH_take (i := 8) (v := ?_) rfl (by kernel_rfl) (by kernel_rfl) (by kernel_rfl) (fun _ _ _ h => h) (Or.inl ⟨by kernel_rfl, ?_⟩) hH0 ?_
  rotate_left 1
  · intro w hSw
    have f0 := (hSw.cell (p := ⟨q, 0, none⟩) hql).trans c0
    have f1 := (hSw.cell (p := ⟨q, 1, none⟩) hql).trans c1
    have f2 := (hSw.cell (p := ⟨q, 2, none⟩) hql).trans c2
    go_simp
    try with_reducible rfl
  try simp only [Act.put, List.getElem_toArray, List.getElem_cons_zero, List.getElem_cons_succ, List.setIfInBounds_toArray, List.set_cons_zero, List.set_cons_succ]
  refine wpAnyH_ready (rs := [2]) (by kernel_rfl) (by simp) ?_
  refine AllReadyH.cons rfl (fun K_ hK => ?_) ?_
  · go_simp
    refine (HN0.out _).mono ?_
    rintro e W1 ⟨rfl, hb1⟩
    refine hK.out _ _ ((hH0).trans (hb1.mono (hH0).size)) (fun hH1 => ?_)
    clear hK K_
    try simp only [Act.put, List.getElem_toArray, List.getElem_cons_zero, List.getElem_cons_succ, List.setIfInBounds_toArray, List.set_cons_zero, List.set_cons_succ]
    refine wpAnyH_ready (rs := [5]) (by kernel_rfl) (by simp) ?_
    refine AllReadyH.cons rfl (fun K_ hK => ?_) ?_
    · go_simp
      refine (HN1.out _).mono ?_
      rintro e W2 ⟨rfl, hb2⟩
      refine hK.out _ _ ((hH1).trans (hb2.mono (hH1).size)) (fun hH2 => ?_)
      clear hK K_
      try simp only [Act.put, List.getElem_toArray, List.getElem_cons_zero, List.getElem_cons_succ, List.setIfInBounds_toArray, List.set_cons_zero, List.set_cons_succ]
      refine wpAnyH_take (i := 6) (v := ?_) rfl (by kernel_rfl) (by kernel_rfl) (by kernel_rfl) (fun _ _ _ h => h) (Or.inl ⟨by kernel_rfl, ?_⟩) hH2 ?_
      rotate_left 1
      · intro w hSw
        go_simp
        try with_reducible rfl
      try simp only [Act.put, List.getElem_toArray, List.getElem_cons_zero, List.getElem_cons_succ, List.setIfInBounds_toArray, List.set_cons_zero, List.set_cons_succ]
      refine wpAnyH_ready (rs := [9]) (by kernel_rfl) (by simp) ?_
      refine AllReadyH.cons rfl (fun K_ hK => ?_) ?_
      · go_simp
        refine (HN2.out _).mono ?_
        rintro e W3 ⟨rfl, hb3⟩
        refine hK.out _ _ ((hH2).trans (hb3.mono (hH2).size)) (fun hH3 => ?_)
        clear hK K_
        try simp only [Act.put, List.getElem_toArray, List.getElem_cons_zero, List.getElem_cons_succ, List.setIfInBounds_toArray, List.set_cons_zero, List.set_cons_succ]
        refine wpAnyH_take (i := 10) (v := ?_) rfl (by kernel_rfl) (by kernel_rfl) (by kernel_rfl) (fun _ _ _ h => h) (Or.inl ⟨by kernel_rfl, ?_⟩) hH3 ?_
        rotate_left 1
        · intro w hSw
          go_simp
          try with_reducible rfl
        try simp only [Act.put, List.getElem_toArray, List.getElem_cons_zero, List.getElem_cons_succ, List.setIfInBounds_toArray, List.set_cons_zero, List.set_cons_succ]
        refine wpAnyH_take (i := 11) (v := ?_) rfl (by kernel_rfl) (by kernel_rfl) (by kernel_rfl) (fun _ _ _ h => h) (Or.inl ⟨by kernel_rfl, ?_⟩) hH3 ?_
        rotate_left 1
        · intro w hSw
          go_simp
          try with_reducible rfl
        try simp only [Act.put, List.getElem_toArray, List.getElem_cons_zero, List.getElem_cons_succ, List.setIfInBounds_toArray, List.set_cons_zero, List.set_cons_succ]
        refine wpAnyH_done (by kernel_rfl) ?_ _
        have HH := Lib.hid hH3
        clear hH3
        go_wp2_with fail
        go_ret
        exact ⟨rfl, hb.out.trans (HH.out.mono hb.out.size)⟩
      exact AllReadyH.nil
    exact AllReadyH.nil
  exact AllReadyH.nil
end Wi
end Go.Proofs.YthcmlbbbbcinkaaDoor

set_option linter.unusedVariables false
set_option linter.unusedSimpArgs false
namespace Go.Proofs.YthcmlbbbbcinkaaDoor
open Go.RowKit Pl
attribute [local go_sem] Lb.ba_get Lb.ba_cut Lb.ba_add Lb.ba_size Lb.take_rest
namespace Wi

/-- the slice value '.slice A L.length _' holds the rows L of n cells each; all of it lies below block B -/
def RowsAt {α : Type} (n : Nat) (c : α → List Value) (w : World) (B : Nat) (A : Option Addr) (L : List α) : Prop :=
  ∀ (i : Nat) (h : i < L.length), ∃ b o, A = some ⟨b, o, none⟩ ∧ b < B ∧ w.rangeAt b (o + i * n) (c L[i])
theorem RowsAt.below {α : Type} {n : Nat} {c : α → List Value} {w w' : World} {B B' : Nat} {A : Option Addr} {L : List α} (h : RowsAt n c w B A L) (hb : Below B' w w') (hB : B ≤ B') : RowsAt n c w' B A L := fun i hi => by
  obtain ⟨b, o, e, hl, hr⟩ := h i hi
  exact ⟨b, o, e, hl, range_below hr hb (by omega)⟩
theorem RowsAt.more {α : Type} {n : Nat} {c : α → List Value} {w : World} {B B' : Nat} {A : Option Addr} {L : List α} (h : RowsAt n c w B A L) (hB : B ≤ B') : RowsAt n c w B' A L := fun i hi => by
  obtain ⟨b, o, e, hl, hr⟩ := h i hi
  exact ⟨b, o, e, by omega, hr⟩
theorem mb_info : (Tryd.prog.info? 52).map (·.size) = some 3 := by kernel_rfl
theorem rc_info : (Tryd.prog.info? 26).map (·.size) = some 65 := by kernel_rfl
theorem rg_info : (Tryd.prog.info? 65).map (·.size) = some 35 := by kernel_rfl
theorem all_bad {α : Type} {L : List α} {most : Nat} {g : α → Bool} (h : ¬ L.length ≤ most) : all L most g = false := by
  unfold all
  rw [decide_eq_false h]; rfl
theorem all_good {α : Type} {L : List α} {most : Nat} {g : α → Bool} (h : L.length ≤ most) : all L most g = L.all g := by
  unfold all
  rw [decide_eq_true h]; rfl
/-- the closure: not good -/
theorem notMb_any (x : Mb) (fb : Nat) (w : World) (hx : Mb.Wf x) (hl : fb < w.heap.size) (hf : w.cell? ⟨fb, 0, none⟩ = some (.func (.func 21) #[] #[])) :
    Calls Tryd.prog 47 #[.agg x.cells.toArray, .pointer (some ⟨fb, 0, none⟩)] w fun e w' => e = .returned (.bool (!goodMb x)) ∧ Below w.heap.size w w' := by
  have hn := heap_alloc_new w (.cells x.cells.toArray 52)
  have hb0 := (Below.refl w.heap.size w).alloc (Nat.le_refl _) (.cells x.cells.toArray 52)
  have cf : (w.alloc (.cells x.cells.toArray 52)).cell? ⟨fb, 0, none⟩ = some (.func (.func 21) #[] #[]) := (hb0.cell (p := ⟨fb, 0, none⟩) hl).trans hf
  have hb := Lib.hid hb0
  have hg := Lib.hid (fun W => (show Calls Tryd.prog 21 #[.agg x.cells.toArray] W fun e w' => e = .returned (.bool (goodMb x)) ∧ Below W.heap.size W w' from rankGood_any x W))
  have xdix : (Tryd.prog.info? 52).map (·.size) = some x.cells.toArray.size := by rw [mb_info]; simp [Mb.len x]
  obtain ⟨g, hgq⟩ : ∃ g, g = goodMb x := ⟨_, rfl⟩
  rw [← hgq] at hg ⊢
  obtain ⟨R, hR⟩ : ∃ R, R = x.cells.toArray := ⟨_, rfl⟩
  rw [← hR] at hn hb cf hg xdix ⊢
  have Hn := Lib.hid hn
  have xund := Tryd.underlying52
  clear hb0 hgq hR hn hx hf
  go_enter Tryd.func47, Tryd.ntmps47
  go_wp2_with (refine wpList_load_row rfl 52 _ rfl w.heap.size rfl 52 R (0, 0) _ Hn.out xund rfl xdix ?_)
  refine (hg.out _).mono ?_
  rintro e w2 ⟨rfl, hB⟩
  have HB := Lib.hid hB
  clear hB
  go_wp2_with fail
  go_ret
  exact ⟨rfl, hb.out.trans (HB.out.mono hb.out.size)⟩
def IdxMbPost (L : List Mb) (w : World) (e : Ending) (w' : World) : Prop := ∃ i : Int, e = .returned (.int .i64 i) ∧ (0 ≤ i ↔ L.all goodMb = false) ∧ Below w.heap.size w w'
set_option maxHeartbeats 1000000 in
theorem indexMb_any (A : Option Addr) (cap : Nat) (L : List Mb) (fb : Nat) (w : World) (hS : RowsAt 3 Mb.cells w w.heap.size A L) (hL : L.length ≤ maxLen) (hw : ∀ x ∈ L, Mb.Wf x) (hl : fb < w.heap.size) (hf : w.cell? ⟨fb, 0, none⟩ = some (.func (.func 21) #[] #[])) :
    Calls Tryd.prog 73 #[.slice A L.length cap, .func (.func 47) #[] #[.pointer (some ⟨fb, 0, none⟩)]] w (IdxMbPost L w) := by
  have HS := Lib.hid hS
  have Hw := Lib.hid hw
  have Hf := Lib.hid hf
  obtain ⟨n, hn⟩ : ∃ n, n = L.length := ⟨_, rfl⟩
  rw [← hn] at hL ⊢
  unfold maxLen at hL
  have n63 : (n : Int) ≤ 9223372036854775807 := by omega
  have Hn := Lib.hid hn
  clear hS hw hf hn
  go_enter Tryd.func73, Tryd.ntmps73
  go_wp2_with fail
  go_loopw [8] (fun i wr => ∃ k : Nat, k ≤ n ∧ i = .int .i64 k ∧ (∀ (j : Nat) (hj : j < L.length), j < k → goodMb L[j] = true) ∧ Below w.heap.size w wr) (fun i _ => n - (intOf i).toNat)
  case atStart => exact ⟨0, by omega, rfl, (fun j hj h => by omega), Below.refl _ _⟩
  case round =>
    obtain ⟨k, hk, rfl, hall, hb⟩ := hrel
    have Hall := Lib.hid hall
    have Hb := Lib.hid hb
    clear hall hb
    by_cases hkn : k < n
    · have j1 : (k : Int) < (n : Int) := by omega
      have hkl : k < L.length := by rw [← Hn.out]; exact hkn
      obtain ⟨b, o, rfl, hbl, hr⟩ := (HS.out.below Hb.out (Nat.le_refl _)) k hkl
      obtain ⟨x, hx⟩ : ∃ x, x = L[k] := ⟨_, rfl⟩
      rw [← hx] at hr
      have hxw := Hw.out x (by rw [hx]; exact List.getElem_mem hkl)
      have hcl := Lib.hid (notMb_any x fb wr hxw (Nat.lt_of_lt_of_le hl Hb.out.size) ((Hb.out.cell (p := ⟨fb, 0, none⟩) hl).trans Hf.out))
      have xdix : (Tryd.prog.info? 52).map (·.size) = some x.cells.length := by rw [mb_info, Mb.len x]
      have xund := Tryd.underlying52
      have hxg : goodMb L[k] = goodMb x := by rw [hx]
      have Hxg := Lib.hid hxg
      obtain ⟨g, hgq⟩ : ∃ g, g = goodMb x := ⟨_, rfl⟩
      rw [← hgq] at hcl Hxg
      obtain ⟨xc, hxc⟩ : ∃ c, c = x.cells := ⟨_, rfl⟩
      rw [← hxc] at hr xdix hcl
      clear hx hxw hgq hxc hxg hbl
      go_wp2_with (refine wpList_load_mid rfl 52 _ rfl b (o + k * 3) rfl xc _ hr xund rfl xdix ?_)
      refine hcl.out.mono ?_
      rintro e w2 ⟨rfl, hB⟩
      have HB := Lib.hid (Hb.out.trans (hB.mono Hb.out.size))
      clear hB hcl hr xdix
      cases g with
      | true =>
        go_wp2_with fail
        go_roundw
        case rel => exact ⟨k + 1, by omega, by go_num, (fun j hj hjk => by
          by_cases e : j = k
          · subst e; exact Hxg.out
          · exact Hall.out j hj (by omega)), HB.out⟩
        case measure => simp [intOf]; omega
      | false =>
        have hno : L.all goodMb = false := by
          cases ha : L.all goodMb with
          | false => rfl
          | true =>
            have := (List.all_eq_true.1 ha) L[k] (List.getElem_mem hkl)
            rw [Hxg.out] at this; cases this
        have Hno := Lib.hid hno
        clear hno
        go_wp2_with fail
        go_ret
        exact ⟨k, rfl, ⟨fun _ => Hno.out, fun _ => by omega⟩, HB.out⟩
    · obtain rfl : k = n := by omega
      have j1 : ¬ (k : Int) < (k : Int) := by omega
      have hyes : L.all goodMb = true := List.all_eq_true.2 (fun x hx => by
        obtain ⟨j, hj, e⟩ := List.getElem_of_mem hx
        rw [← e]; exact Hall.out j hj (by rw [Hn.out]; exact hj))
      have Hyes := Lib.hid hyes
      clear hyes
      go_wp2_with fail
      go_ret
      exact ⟨-1, rfl, ⟨fun h => by omega, fun h => by rw [Hyes.out] at h; cases h⟩, Hb.out⟩
theorem containsMb_any (A : Option Addr) (cap : Nat) (L : List Mb) (fb : Nat) (w : World) (hS : RowsAt 3 Mb.cells w w.heap.size A L) (hL : L.length ≤ maxLen) (hw : ∀ x ∈ L, Mb.Wf x) (hl : fb < w.heap.size) (hf : w.cell? ⟨fb, 0, none⟩ = some (.func (.func 21) #[] #[])) :
    Calls Tryd.prog 46 #[.slice A L.length cap, .func (.func 47) #[] #[.pointer (some ⟨fb, 0, none⟩)]] w fun e w' => e = .returned (.bool (!L.all goodMb)) ∧ Below w.heap.size w w' := by
  have h := Lib.hid (indexMb_any A cap L fb w hS hL hw hl hf)
  obtain ⟨r, hr⟩ : ∃ r, r = L.all goodMb := ⟨_, rfl⟩
  have Hr := Lib.hid hr
  rw [← hr]
  obtain ⟨n, hn⟩ : ∃ n, n = L.length := ⟨_, rfl⟩
  rw [← hn] at h ⊢
  clear hS hL hw hl hf hr hn
  go_enter Tryd.func46, Tryd.ntmps46
  go_wp2_with fail
  refine h.out.mono ?_
  rintro e w2 ⟨i, rfl, hi, hB⟩
  have HB := Lib.hid hB
  rw [← Hr.out] at hi
  have Hi := Lib.hid hi
  clear hB hi h
  by_cases h0 : 0 ≤ i
  · have e : r = false := Hi.out.1 h0
    subst e
    go_wp2_with fail
    go_ret
    exact ⟨rfl, HB.out⟩
  · have e : r = true := by
      cases r with
      | true => rfl
      | false => exact absurd (Hi.out.2 rfl) h0
    have e9 : decide (0 ≤ i) = false := decide_eq_false h0
    clear h0
    subst e
    go_wp2_with fail
    go_ret
    exact ⟨rfl, HB.out⟩
theorem allMb_any (A : Option Addr) (cap : Nat) (L : List Mb) (most : Nat) (w : World) (hS : RowsAt 3 Mb.cells w w.heap.size A L) (hL : L.length ≤ maxLen) (hw : ∀ x ∈ L, Mb.Wf x) (hm : most ≤ 1000) :
    Calls Tryd.prog 20 #[.slice A L.length cap, .int .i64 most, .func (.func 21) #[] #[]] w fun e w' => e = .returned (.bool (all L most goodMb)) ∧ Below w.heap.size w w' := by
  have hn := heap_alloc_new w (.cells #[.func (.func 21) #[] #[]] 60)
  have hb0 := (Below.refl w.heap.size w).alloc (Nat.le_refl _) (.cells #[.func (.func 21) #[] #[]] 60)
  have hc := Lib.hid (containsMb_any A cap L w.heap.size (w.alloc (.cells #[.func (.func 21) #[] #[]] 60)) ((hS.below hb0 (Nat.le_refl _)).more hb0.size) hL hw (heap_lt hn) (by rw [Lib.cell_of_heap hn]; rfl))
  have hb := Lib.hid hb0
  have hy := Lib.hid (fun h => all_good (L := L) (most := most) (g := goodMb) h)
  have hz := Lib.hid (fun h => all_bad (L := L) (most := most) (g := goodMb) h)
  obtain ⟨res, hres⟩ : ∃ r, r = all L most goodMb := ⟨_, rfl⟩
  rw [← hres] at hy hz ⊢
  obtain ⟨r, hr⟩ : ∃ r, r = L.all goodMb := ⟨_, rfl⟩
  rw [← hr] at hc hy
  obtain ⟨n, hnn⟩ : ∃ n, n = L.length := ⟨_, rfl⟩
  rw [← hnn] at hc hL hy hz ⊢
  unfold maxLen at hL
  clear hn hb0 hS hw hres hr hnn
  go_enter Tryd.func20, Tryd.ntmps20
  by_cases hle : n ≤ most
  · have j1 : (n : Int) ≤ (most : Int) := by omega
    have e : res = r := hy.out hle
    subst e
    go_wp2_with fail
    refine hc.out.mono ?_
    rintro e w2 ⟨rfl, hB⟩
    have HB := Lib.hid (hb.out.trans (hB.mono hb.out.size))
    clear hB
    go_wp2_with fail
    go_ret
    exact ⟨by simp, HB.out⟩
  · have j1 : ¬ (n : Int) ≤ (most : Int) := by omega
    have e : res = false := hz.out hle
    subst e
    go_wp2_with fail
    go_ret
    exact ⟨rfl, hb.out⟩
/-- the closure: not good -/
theorem notRc_any (x : Rc) (fb : Nat) (w : World) (hx : Rc.Wf x) (hl : fb < w.heap.size) (hf : w.cell? ⟨fb, 0, none⟩ = some (.func (.func 49) #[] #[])) :
    Calls Tryd.prog 75 #[.agg x.cells.toArray, .pointer (some ⟨fb, 0, none⟩)] w fun e w' => e = .returned (.bool (!isRc x)) ∧ Below w.heap.size w w' := by
  have hn := heap_alloc_new w (.cells x.cells.toArray 26)
  have hb0 := (Below.refl w.heap.size w).alloc (Nat.le_refl _) (.cells x.cells.toArray 26)
  have cf : (w.alloc (.cells x.cells.toArray 26)).cell? ⟨fb, 0, none⟩ = some (.func (.func 49) #[] #[]) := (hb0.cell (p := ⟨fb, 0, none⟩) hl).trans hf
  have hb := Lib.hid hb0
  have hg := Lib.hid (fun W => (show Calls Tryd.prog 49 #[.agg x.cells.toArray] W fun e w' => e = .returned (.bool (isRc x)) ∧ Below W.heap.size W w' from isRecord_any x W hx))
  have xdix : (Tryd.prog.info? 26).map (·.size) = some x.cells.toArray.size := by rw [rc_info]; simp [Rc.len hx]
  obtain ⟨g, hgq⟩ : ∃ g, g = isRc x := ⟨_, rfl⟩
  rw [← hgq] at hg ⊢
  obtain ⟨R, hR⟩ : ∃ R, R = x.cells.toArray := ⟨_, rfl⟩
  rw [← hR] at hn hb cf hg xdix ⊢
  have Hn := Lib.hid hn
  have xund := Tryd.underlying26
  clear hb0 hgq hR hn hx hf
  go_enter Tryd.func75, Tryd.ntmps75
  go_wp2_with (refine wpList_load_row rfl 26 _ rfl w.heap.size rfl 26 R (0, 0) _ Hn.out xund rfl xdix ?_)
  refine (hg.out _).mono ?_
  rintro e w2 ⟨rfl, hB⟩
  have HB := Lib.hid hB
  clear hB
  go_wp2_with fail
  go_ret
  exact ⟨rfl, hb.out.trans (HB.out.mono hb.out.size)⟩
def IdxRcPost (L : List Rc) (w : World) (e : Ending) (w' : World) : Prop := ∃ i : Int, e = .returned (.int .i64 i) ∧ (0 ≤ i ↔ L.all isRc = false) ∧ Below w.heap.size w w'
set_option maxHeartbeats 1000000 in
theorem indexRc_any (A : Option Addr) (cap : Nat) (L : List Rc) (fb : Nat) (w : World) (hS : RowsAt 65 Rc.cells w w.heap.size A L) (hL : L.length ≤ maxLen) (hw : ∀ x ∈ L, Rc.Wf x) (hl : fb < w.heap.size) (hf : w.cell? ⟨fb, 0, none⟩ = some (.func (.func 49) #[] #[])) :
    Calls Tryd.prog 85 #[.slice A L.length cap, .func (.func 75) #[] #[.pointer (some ⟨fb, 0, none⟩)]] w (IdxRcPost L w) := by
  have HS := Lib.hid hS
  have Hw := Lib.hid hw
  have Hf := Lib.hid hf
  obtain ⟨n, hn⟩ : ∃ n, n = L.length := ⟨_, rfl⟩
  rw [← hn] at hL ⊢
  unfold maxLen at hL
  have n63 : (n : Int) ≤ 9223372036854775807 := by omega
  have Hn := Lib.hid hn
  clear hS hw hf hn
  go_enter Tryd.func85, Tryd.ntmps85
  go_wp2_with fail
  go_loopw [8] (fun i wr => ∃ k : Nat, k ≤ n ∧ i = .int .i64 k ∧ (∀ (j : Nat) (hj : j < L.length), j < k → isRc L[j] = true) ∧ Below w.heap.size w wr) (fun i _ => n - (intOf i).toNat)
  case atStart => exact ⟨0, by omega, rfl, (fun j hj h => by omega), Below.refl _ _⟩
  case round =>
    obtain ⟨k, hk, rfl, hall, hb⟩ := hrel
    have Hall := Lib.hid hall
    have Hb := Lib.hid hb
    clear hall hb
    by_cases hkn : k < n
    · have j1 : (k : Int) < (n : Int) := by omega
      have hkl : k < L.length := by rw [← Hn.out]; exact hkn
      obtain ⟨b, o, rfl, hbl, hr⟩ := (HS.out.below Hb.out (Nat.le_refl _)) k hkl
      obtain ⟨x, hx⟩ : ∃ x, x = L[k] := ⟨_, rfl⟩
      rw [← hx] at hr
      have hxw := Hw.out x (by rw [hx]; exact List.getElem_mem hkl)
      have hcl := Lib.hid (notRc_any x fb wr hxw (Nat.lt_of_lt_of_le hl Hb.out.size) ((Hb.out.cell (p := ⟨fb, 0, none⟩) hl).trans Hf.out))
      have xdix : (Tryd.prog.info? 26).map (·.size) = some x.cells.length := by rw [rc_info, Rc.len hxw]
      have xund := Tryd.underlying26
      have hxg : isRc L[k] = isRc x := by rw [hx]
      have Hxg := Lib.hid hxg
      obtain ⟨g, hgq⟩ : ∃ g, g = isRc x := ⟨_, rfl⟩
      rw [← hgq] at hcl Hxg
      obtain ⟨xc, hxc⟩ : ∃ c, c = x.cells := ⟨_, rfl⟩
      rw [← hxc] at hr xdix hcl
      clear hx hxw hgq hxc hxg hbl
      go_wp2_with (refine wpList_load_mid rfl 26 _ rfl b (o + k * 65) rfl xc _ hr xund rfl xdix ?_)
      refine hcl.out.mono ?_
      rintro e w2 ⟨rfl, hB⟩
      have HB := Lib.hid (Hb.out.trans (hB.mono Hb.out.size))
      clear hB hcl hr xdix
      cases g with
      | true =>
        go_wp2_with fail
        go_roundw
        case rel => exact ⟨k + 1, by omega, by go_num, (fun j hj hjk => by
          by_cases e : j = k
          · subst e; exact Hxg.out
          · exact Hall.out j hj (by omega)), HB.out⟩
        case measure => simp [intOf]; omega
      | false =>
        have hno : L.all isRc = false := by
          cases ha : L.all isRc with
          | false => rfl
          | true =>
            have := (List.all_eq_true.1 ha) L[k] (List.getElem_mem hkl)
            rw [Hxg.out] at this; cases this
        have Hno := Lib.hid hno
        clear hno
        go_wp2_with fail
        go_ret
        exact ⟨k, rfl, ⟨fun _ => Hno.out, fun _ => by omega⟩, HB.out⟩
    · obtain rfl : k = n := by omega
      have j1 : ¬ (k : Int) < (k : Int) := by omega
      have hyes : L.all isRc = true := List.all_eq_true.2 (fun x hx => by
        obtain ⟨j, hj, e⟩ := List.getElem_of_mem hx
        rw [← e]; exact Hall.out j hj (by rw [Hn.out]; exact hj))
      have Hyes := Lib.hid hyes
      clear hyes
      go_wp2_with fail
      go_ret
      exact ⟨-1, rfl, ⟨fun h => by omega, fun h => by rw [Hyes.out] at h; cases h⟩, Hb.out⟩
theorem containsRc_any (A : Option Addr) (cap : Nat) (L : List Rc) (fb : Nat) (w : World) (hS : RowsAt 65 Rc.cells w w.heap.size A L) (hL : L.length ≤ maxLen) (hw : ∀ x ∈ L, Rc.Wf x) (hl : fb < w.heap.size) (hf : w.cell? ⟨fb, 0, none⟩ = some (.func (.func 49) #[] #[])) :
    Calls Tryd.prog 74 #[.slice A L.length cap, .func (.func 75) #[] #[.pointer (some ⟨fb, 0, none⟩)]] w fun e w' => e = .returned (.bool (!L.all isRc)) ∧ Below w.heap.size w w' := by
  have h := Lib.hid (indexRc_any A cap L fb w hS hL hw hl hf)
  obtain ⟨r, hr⟩ : ∃ r, r = L.all isRc := ⟨_, rfl⟩
  have Hr := Lib.hid hr
  rw [← hr]
  obtain ⟨n, hn⟩ : ∃ n, n = L.length := ⟨_, rfl⟩
  rw [← hn] at h ⊢
  clear hS hL hw hl hf hr hn
  go_enter Tryd.func74, Tryd.ntmps74
  go_wp2_with fail
  refine h.out.mono ?_
  rintro e w2 ⟨i, rfl, hi, hB⟩
  have HB := Lib.hid hB
  rw [← Hr.out] at hi
  have Hi := Lib.hid hi
  clear hB hi h
  by_cases h0 : 0 ≤ i
  · have e : r = false := Hi.out.1 h0
    subst e
    go_wp2_with fail
    go_ret
    exact ⟨rfl, HB.out⟩
  · have e : r = true := by
      cases r with
      | true => rfl
      | false => exact absurd (Hi.out.2 rfl) h0
    have e9 : decide (0 ≤ i) = false := decide_eq_false h0
    clear h0
    subst e
    go_wp2_with fail
    go_ret
    exact ⟨rfl, HB.out⟩
theorem allRc_any (A : Option Addr) (cap : Nat) (L : List Rc) (most : Nat) (w : World) (hS : RowsAt 65 Rc.cells w w.heap.size A L) (hL : L.length ≤ maxLen) (hw : ∀ x ∈ L, Rc.Wf x) (hm : most ≤ 1000) :
    Calls Tryd.prog 51 #[.slice A L.length cap, .int .i64 most, .func (.func 49) #[] #[]] w fun e w' => e = .returned (.bool (all L most isRc)) ∧ Below w.heap.size w w' := by
  have hn := heap_alloc_new w (.cells #[.func (.func 49) #[] #[]] 103)
  have hb0 := (Below.refl w.heap.size w).alloc (Nat.le_refl _) (.cells #[.func (.func 49) #[] #[]] 103)
  have hc := Lib.hid (containsRc_any A cap L w.heap.size (w.alloc (.cells #[.func (.func 49) #[] #[]] 103)) ((hS.below hb0 (Nat.le_refl _)).more hb0.size) hL hw (heap_lt hn) (by rw [Lib.cell_of_heap hn]; rfl))
  have hb := Lib.hid hb0
  have hy := Lib.hid (fun h => all_good (L := L) (most := most) (g := isRc) h)
  have hz := Lib.hid (fun h => all_bad (L := L) (most := most) (g := isRc) h)
  obtain ⟨res, hres⟩ : ∃ r, r = all L most isRc := ⟨_, rfl⟩
  rw [← hres] at hy hz ⊢
  obtain ⟨r, hr⟩ : ∃ r, r = L.all isRc := ⟨_, rfl⟩
  rw [← hr] at hc hy
  obtain ⟨n, hnn⟩ : ∃ n, n = L.length := ⟨_, rfl⟩
  rw [← hnn] at hc hL hy hz ⊢
  unfold maxLen at hL
  clear hn hb0 hS hw hres hr hnn
  go_enter Tryd.func51, Tryd.ntmps51
  by_cases hle : n ≤ most
  · have j1 : (n : Int) ≤ (most : Int) := by omega
    have e : res = r := hy.out hle
    subst e
    go_wp2_with fail
    refine hc.out.mono ?_
    rintro e w2 ⟨rfl, hB⟩
    have HB := Lib.hid (hb.out.trans (hB.mono hb.out.size))
    clear hB
    go_wp2_with fail
    go_ret
    exact ⟨by simp, HB.out⟩
  · have j1 : ¬ (n : Int) ≤ (most : Int) := by omega
    have e : res = false := hz.out hle
    subst e
    go_wp2_with fail
    go_ret
    exact ⟨rfl, hb.out⟩
/-- the closure: not good -/
theorem notRg_any (x : Rg) (fb : Nat) (w : World) (hx : Rg.Wf x) (hl : fb < w.heap.size) (hf : w.cell? ⟨fb, 0, none⟩ = some (.func (.func 53) #[] #[])) :
    Calls Tryd.prog 77 #[.agg x.cells.toArray, .pointer (some ⟨fb, 0, none⟩)] w fun e w' => e = .returned (.bool (!goodRg x)) ∧ Below w.heap.size w w' := by
  have hn := heap_alloc_new w (.cells x.cells.toArray 65)
  have hb0 := (Below.refl w.heap.size w).alloc (Nat.le_refl _) (.cells x.cells.toArray 65)
  have cf : (w.alloc (.cells x.cells.toArray 65)).cell? ⟨fb, 0, none⟩ = some (.func (.func 53) #[] #[]) := (hb0.cell (p := ⟨fb, 0, none⟩) hl).trans hf
  have hb := Lib.hid hb0
  have hg := Lib.hid (fun W => (show Calls Tryd.prog 53 #[.agg x.cells.toArray] W fun e w' => e = .returned (.bool (goodRg x)) ∧ Below W.heap.size W w' from hedgeGood_any x W))
  have xdix : (Tryd.prog.info? 65).map (·.size) = some x.cells.toArray.size := by rw [rg_info]; simp [Rg.len hx]
  obtain ⟨g, hgq⟩ : ∃ g, g = goodRg x := ⟨_, rfl⟩
  rw [← hgq] at hg ⊢
  obtain ⟨R, hR⟩ : ∃ R, R = x.cells.toArray := ⟨_, rfl⟩
  rw [← hR] at hn hb cf hg xdix ⊢
  have Hn := Lib.hid hn
  have xund := Tryd.underlying65
  clear hb0 hgq hR hn hx hf
  go_enter Tryd.func77, Tryd.ntmps77
  go_wp2_with (refine wpList_load_row rfl 65 _ rfl w.heap.size rfl 65 R (0, 0) _ Hn.out xund rfl xdix ?_)
  refine (hg.out _).mono ?_
  rintro e w2 ⟨rfl, hB⟩
  have HB := Lib.hid hB
  clear hB
  go_wp2_with fail
  go_ret
  exact ⟨rfl, hb.out.trans (HB.out.mono hb.out.size)⟩
def IdxRgPost (L : List Rg) (w : World) (e : Ending) (w' : World) : Prop := ∃ i : Int, e = .returned (.int .i64 i) ∧ (0 ≤ i ↔ L.all goodRg = false) ∧ Below w.heap.size w w'
set_option maxHeartbeats 1000000 in
theorem indexRg_any (A : Option Addr) (cap : Nat) (L : List Rg) (fb : Nat) (w : World) (hS : RowsAt 35 Rg.cells w w.heap.size A L) (hL : L.length ≤ maxLen) (hw : ∀ x ∈ L, Rg.Wf x) (hl : fb < w.heap.size) (hf : w.cell? ⟨fb, 0, none⟩ = some (.func (.func 53) #[] #[])) :
    Calls Tryd.prog 86 #[.slice A L.length cap, .func (.func 77) #[] #[.pointer (some ⟨fb, 0, none⟩)]] w (IdxRgPost L w) := by
  have HS := Lib.hid hS
  have Hw := Lib.hid hw
  have Hf := Lib.hid hf
  obtain ⟨n, hn⟩ : ∃ n, n = L.length := ⟨_, rfl⟩
  rw [← hn] at hL ⊢
  unfold maxLen at hL
  have n63 : (n : Int) ≤ 9223372036854775807 := by omega
  have Hn := Lib.hid hn
  clear hS hw hf hn
  go_enter Tryd.func86, Tryd.ntmps86
  go_wp2_with fail
  go_loopw [8] (fun i wr => ∃ k : Nat, k ≤ n ∧ i = .int .i64 k ∧ (∀ (j : Nat) (hj : j < L.length), j < k → goodRg L[j] = true) ∧ Below w.heap.size w wr) (fun i _ => n - (intOf i).toNat)
  case atStart => exact ⟨0, by omega, rfl, (fun j hj h => by omega), Below.refl _ _⟩
  case round =>
    obtain ⟨k, hk, rfl, hall, hb⟩ := hrel
    have Hall := Lib.hid hall
    have Hb := Lib.hid hb
    clear hall hb
    by_cases hkn : k < n
    · have j1 : (k : Int) < (n : Int) := by omega
      have hkl : k < L.length := by rw [← Hn.out]; exact hkn
      obtain ⟨b, o, rfl, hbl, hr⟩ := (HS.out.below Hb.out (Nat.le_refl _)) k hkl
      obtain ⟨x, hx⟩ : ∃ x, x = L[k] := ⟨_, rfl⟩
      rw [← hx] at hr
      have hxw := Hw.out x (by rw [hx]; exact List.getElem_mem hkl)
      have hcl := Lib.hid (notRg_any x fb wr hxw (Nat.lt_of_lt_of_le hl Hb.out.size) ((Hb.out.cell (p := ⟨fb, 0, none⟩) hl).trans Hf.out))
      have xdix : (Tryd.prog.info? 65).map (·.size) = some x.cells.length := by rw [rg_info, Rg.len hxw]
      have xund := Tryd.underlying65
      have hxg : goodRg L[k] = goodRg x := by rw [hx]
      have Hxg := Lib.hid hxg
      obtain ⟨g, hgq⟩ : ∃ g, g = goodRg x := ⟨_, rfl⟩
      rw [← hgq] at hcl Hxg
      obtain ⟨xc, hxc⟩ : ∃ c, c = x.cells := ⟨_, rfl⟩
      rw [← hxc] at hr xdix hcl
      clear hx hxw hgq hxc hxg hbl
      go_wp2_with (refine wpList_load_mid rfl 65 _ rfl b (o + k * 35) rfl xc _ hr xund rfl xdix ?_)
      refine hcl.out.mono ?_
      rintro e w2 ⟨rfl, hB⟩
      have HB := Lib.hid (Hb.out.trans (hB.mono Hb.out.size))
      clear hB hcl hr xdix
      cases g with
      | true =>
        go_wp2_with fail
        go_roundw
        case rel => exact ⟨k + 1, by omega, by go_num, (fun j hj hjk => by
          by_cases e : j = k
          · subst e; exact Hxg.out
          · exact Hall.out j hj (by omega)), HB.out⟩
        case measure => simp [intOf]; omega
      | false =>
        have hno : L.all goodRg = false := by
          cases ha : L.all goodRg with
          | false => rfl
          | true =>
            have := (List.all_eq_true.1 ha) L[k] (List.getElem_mem hkl)
            rw [Hxg.out] at this; cases this
        have Hno := Lib.hid hno
        clear hno
        go_wp2_with fail
        go_ret
        exact ⟨k, rfl, ⟨fun _ => Hno.out, fun _ => by omega⟩, HB.out⟩
    · obtain rfl : k = n := by omega
      have j1 : ¬ (k : Int) < (k : Int) := by omega
      have hyes : L.all goodRg = true := List.all_eq_true.2 (fun x hx => by
        obtain ⟨j, hj, e⟩ := List.getElem_of_mem hx
        rw [← e]; exact Hall.out j hj (by rw [Hn.out]; exact hj))
      have Hyes := Lib.hid hyes
      clear hyes
      go_wp2_with fail
      go_ret
      exact ⟨-1, rfl, ⟨fun h => by omega, fun h => by rw [Hyes.out] at h; cases h⟩, Hb.out⟩
theorem containsRg_any (A : Option Addr) (cap : Nat) (L : List Rg) (fb : Nat) (w : World) (hS : RowsAt 35 Rg.cells w w.heap.size A L) (hL : L.length ≤ maxLen) (hw : ∀ x ∈ L, Rg.Wf x) (hl : fb < w.heap.size) (hf : w.cell? ⟨fb, 0, none⟩ = some (.func (.func 53) #[] #[])) :
    Calls Tryd.prog 76 #[.slice A L.length cap, .func (.func 77) #[] #[.pointer (some ⟨fb, 0, none⟩)]] w fun e w' => e = .returned (.bool (!L.all goodRg)) ∧ Below w.heap.size w w' := by
  have h := Lib.hid (indexRg_any A cap L fb w hS hL hw hl hf)
  obtain ⟨r, hr⟩ : ∃ r, r = L.all goodRg := ⟨_, rfl⟩
  have Hr := Lib.hid hr
  rw [← hr]
  obtain ⟨n, hn⟩ : ∃ n, n = L.length := ⟨_, rfl⟩
  rw [← hn] at h ⊢
  clear hS hL hw hl hf hr hn
  go_enter Tryd.func76, Tryd.ntmps76
  go_wp2_with fail
  refine h.out.mono ?_
  rintro e w2 ⟨i, rfl, hi, hB⟩
  have HB := Lib.hid hB
  rw [← Hr.out] at hi
  have Hi := Lib.hid hi
  clear hB hi h
  by_cases h0 : 0 ≤ i
  · have e : r = false := Hi.out.1 h0
    subst e
    go_wp2_with fail
    go_ret
    exact ⟨rfl, HB.out⟩
  · have e : r = true := by
      cases r with
      | true => rfl
      | false => exact absurd (Hi.out.2 rfl) h0
    have e9 : decide (0 ≤ i) = false := decide_eq_false h0
    clear h0
    subst e
    go_wp2_with fail
    go_ret
    exact ⟨rfl, HB.out⟩
theorem allRg_any (A : Option Addr) (cap : Nat) (L : List Rg) (most : Nat) (w : World) (hS : RowsAt 35 Rg.cells w w.heap.size A L) (hL : L.length ≤ maxLen) (hw : ∀ x ∈ L, Rg.Wf x) (hm : most ≤ 1000) :
    Calls Tryd.prog 52 #[.slice A L.length cap, .int .i64 most, .func (.func 53) #[] #[]] w fun e w' => e = .returned (.bool (all L most goodRg)) ∧ Below w.heap.size w w' := by
  have hn := heap_alloc_new w (.cells #[.func (.func 53) #[] #[]] 107)
  have hb0 := (Below.refl w.heap.size w).alloc (Nat.le_refl _) (.cells #[.func (.func 53) #[] #[]] 107)
  have hc := Lib.hid (containsRg_any A cap L w.heap.size (w.alloc (.cells #[.func (.func 53) #[] #[]] 107)) ((hS.below hb0 (Nat.le_refl _)).more hb0.size) hL hw (heap_lt hn) (by rw [Lib.cell_of_heap hn]; rfl))
  have hb := Lib.hid hb0
  have hy := Lib.hid (fun h => all_good (L := L) (most := most) (g := goodRg) h)
  have hz := Lib.hid (fun h => all_bad (L := L) (most := most) (g := goodRg) h)
  obtain ⟨res, hres⟩ : ∃ r, r = all L most goodRg := ⟨_, rfl⟩
  rw [← hres] at hy hz ⊢
  obtain ⟨r, hr⟩ : ∃ r, r = L.all goodRg := ⟨_, rfl⟩
  rw [← hr] at hc hy
  obtain ⟨n, hnn⟩ : ∃ n, n = L.length := ⟨_, rfl⟩
  rw [← hnn] at hc hL hy hz ⊢
  unfold maxLen at hL
  clear hn hb0 hS hw hres hr hnn
  go_enter Tryd.func52, Tryd.ntmps52
  by_cases hle : n ≤ most
  · have j1 : (n : Int) ≤ (most : Int) := by omega
    have e : res = r := hy.out hle
    subst e
    go_wp2_with fail
    refine hc.out.mono ?_
    rintro e w2 ⟨rfl, hB⟩
    have HB := Lib.hid (hb.out.trans (hB.mono hb.out.size))
    clear hB
    go_wp2_with fail
    go_ret
    exact ⟨by simp, HB.out⟩
  · have j1 : ¬ (n : Int) ≤ (most : Int) := by omega
    have e : res = false := hz.out hle
    subst e
    go_wp2_with fail
    go_ret
    exact ⟨rfl, hb.out⟩
end Wi
end Go.Proofs.YthcmlbbbbcinkaaDoor

set_option linter.unusedVariables false
set_option linter.unusedSimpArgs false
namespace Go.Proofs.YthcmlbbbbcinkaaDoor
open Go.RowKit Pl
namespace Wi

/-- where a frame's lists lie -/
structure Adr where
  PA : Option Addr
  pc : Nat
  RA : Option Addr
  rc : Nat
  IA : Option Addr
  ic : Nat
  MA : Option Addr
  mc : Nat
def Adr.zero : Adr := ⟨none, 0, none, 0, none, 0, none, 0⟩
def Fm.mani (f : Fm) (x : Adr) : ManiD := ⟨f.whole, f.size, x.PA, x.pc, f.parts⟩
def Fm.cells (f : Fm) (x : Adr) : List Value :=
  [.int .i64 f.kind] ++ ([.int .i64 f.from_] ++ ([.int .i64 f.seq] ++ ([.int .i64 f.node] ++ (byV f.key ++ ([.bool f.found] ++ (f.rcd.cells ++ (byV f.out ++ ([.int .i64 f.at_] ++ ([.string ⟨f.data.toArray⟩] ++ (byV f.haze ++ ((f.mani x).cells ++ ([.slice x.RA f.rngs.length x.rc] ++ ([.slice x.IA f.items.length x.ic] ++ [.slice x.MA f.mems.length x.mc])))))))))))))
structure FmOk (w : World) (B : Nat) (f : Fm) (x : Adr) : Prop where
  wf : f.Wf
  digs : Digs w B x.PA f.parts
  rngs : RowsAt 35 Rg.cells w B x.RA f.rngs
  items : RowsAt 65 Rc.cells w B x.IA f.items
  mems : RowsAt 3 Mb.cells w B x.MA f.mems
theorem FmOk.below {w w' : World} {B B' : Nat} {f : Fm} {x : Adr} (h : FmOk w B f x) (hb : Below B' w w') (hB : B ≤ B') : FmOk w' B f x := ⟨h.wf, h.digs.below hb hB, h.rngs.below hb hB, h.items.below hb hB, h.mems.below hb hB⟩
theorem FmOk.more {w : World} {B B' : Nat} {f : Fm} {x : Adr} (h : FmOk w B f x) (hB : B ≤ B') : FmOk w B' f x := ⟨h.wf, h.digs.more hB, h.rngs.more hB, h.items.more hB, h.mems.more hB⟩
theorem FmOk.mani {w : World} {B : Nat} {f : Fm} {x : Adr} (h : FmOk w B f x) : (f.mani x).Ok w B := ⟨h.wf.whole, h.wf.parts, h.wf.size.1, h.wf.size.2, h.wf.np, h.digs⟩
theorem mani_len (f : Fm) (x : Adr) (h : f.whole.length = 32) : (f.mani x).cells.length = 34 := by simp [ManiD.cells, Fm.mani, byV_length, h]
theorem Fm.len {f : Fm} (h : f.Wf) (x : Adr) : (f.cells x).length = 237 := by
  have h1 := mani_len f x h.whole
  have h2 := Rc.len h.rcd
  simp only [Fm.cells, List.length_append, List.length_cons, List.length_nil, byV_length, h.key, h2, h.out, h.haze, h1]
theorem byV_all (l : List UInt8) : (byV l).all (·.oneCell') = true := by
  rw [List.all_eq_true]
  intro v hv
  simp only [byV, List.mem_map] at hv
  obtain ⟨x, _, rfl⟩ := hv
  rfl
theorem Fm.one (f : Fm) (x : Adr) : (f.cells x).all (·.oneCell') = true := by
  simp only [Fm.cells, Rc.cells, ManiD.cells, List.all_append, List.all_cons, List.all_nil, byV_all, Bool.and_true, Bool.true_and]
  rfl
theorem fm_info : (Tryd.prog.info? 36).map (·.size) = some 237 := by kernel_rfl
theorem seg_at {w : World} {b o : Nat} {pre seg post : List Value} {T : TypeId} {z : Nat × Nat} (h : w.heap[b]? = some (.cells (pre ++ (seg ++ post)).toArray T z)) (ho : pre.length = o) : w.rangeAt b o seg := fun j v hv => by
  have hj : j < seg.length := (List.getElem?_eq_some_iff.1 hv).1
  rw [Lib.cell_of_heap h, List.getElem?_toArray, List.getElem?_append_right (by omega), show o + j - pre.length = j by omega, List.getElem?_append_left hj]
  exact hv
theorem cell_seg {w : World} {b o : Nat} {v : Value} (h : w.rangeAt b o [v]) : w.cell? ⟨b, o, none⟩ = some v := by have := h 0 v rfl; rwa [Nat.add_zero] at this
/-- a frame's parts in a block, from an offset on -/
structure FmMem (w : World) (b : Nat) (f : Fm) (x : Adr) : Prop where
  kind : w.cell? ⟨b, 0, none⟩ = some (.int .i64 f.kind)
  from_ : w.cell? ⟨b, 1, none⟩ = some (.int .i64 f.from_)
  seq : w.cell? ⟨b, 2, none⟩ = some (.int .i64 f.seq)
  node : w.cell? ⟨b, 3, none⟩ = some (.int .i64 f.node)
  key : w.rangeAt b 4 (byV f.key)
  found : w.cell? ⟨b, 36, none⟩ = some (.bool f.found)
  rcd : w.rangeAt b 37 f.rcd.cells
  out : w.rangeAt b 102 (byV f.out)
  at_ : w.cell? ⟨b, 134, none⟩ = some (.int .i64 f.at_)
  data : w.cell? ⟨b, 135, none⟩ = some (.string ⟨f.data.toArray⟩)
  haze : w.rangeAt b 136 (byV f.haze)
  mani : w.rangeAt b 200 (f.mani x).cells
  rngs : w.cell? ⟨b, 234, none⟩ = some (.slice x.RA f.rngs.length x.rc)
  items : w.cell? ⟨b, 235, none⟩ = some (.slice x.IA f.items.length x.ic)
  mems : w.cell? ⟨b, 236, none⟩ = some (.slice x.MA f.mems.length x.mc)
theorem fm_mem {w : World} {b : Nat} {f : Fm} {x : Adr} {T : TypeId} {z : Nat × Nat} (hw : f.Wf) (h : w.heap[b]? = some (.cells (f.cells x).toArray T z)) : FmMem w b f x := by
  have h1 := mani_len f x hw.whole
  have h2 := Rc.len hw.rcd
  have h3 : (byV f.key).length = 32 := by rw [byV_length]; exact hw.key
  have h4 : (byV f.out).length = 32 := by rw [byV_length]; exact hw.out
  have h5 : (byV f.haze).length = 64 := by rw [byV_length]; exact hw.haze
  unfold Fm.cells at h
  obtain ⟨s4, e4⟩ : ∃ s, s = byV f.key := ⟨_, rfl⟩
  obtain ⟨s6, e6⟩ : ∃ s, s = f.rcd.cells := ⟨_, rfl⟩
  obtain ⟨s7, e7⟩ : ∃ s, s = byV f.out := ⟨_, rfl⟩
  obtain ⟨s10, e10⟩ : ∃ s, s = byV f.haze := ⟨_, rfl⟩
  obtain ⟨s11, e11⟩ : ∃ s, s = (f.mani x).cells := ⟨_, rfl⟩
  rw [← e4] at h h3
  rw [← e6] at h h2
  rw [← e7] at h h4
  rw [← e10] at h h5
  rw [← e11] at h h1
  have g0 : w.rangeAt b 0 [.int .i64 f.kind] := seg_at (pre := []) (post := [.int .i64 f.from_] ++ [.int .i64 f.seq] ++ [.int .i64 f.node] ++ s4 ++ [.bool f.found] ++ s6 ++ s7 ++ [.int .i64 f.at_] ++ [.string ⟨f.data.toArray⟩] ++ s10 ++ s11 ++ [.slice x.RA f.rngs.length x.rc] ++ [.slice x.IA f.items.length x.ic] ++ [.slice x.MA f.mems.length x.mc]) (by simpa only [List.append_assoc, List.nil_append, List.append_nil, List.singleton_append, List.cons_append] using h) (by simp [h1, h2, h3, h4, h5])
  have g1 : w.rangeAt b 1 [.int .i64 f.from_] := seg_at (pre := [.int .i64 f.kind]) (post := [.int .i64 f.seq] ++ [.int .i64 f.node] ++ s4 ++ [.bool f.found] ++ s6 ++ s7 ++ [.int .i64 f.at_] ++ [.string ⟨f.data.toArray⟩] ++ s10 ++ s11 ++ [.slice x.RA f.rngs.length x.rc] ++ [.slice x.IA f.items.length x.ic] ++ [.slice x.MA f.mems.length x.mc]) (by simpa only [List.append_assoc, List.nil_append, List.append_nil, List.singleton_append, List.cons_append] using h) (by simp [h1, h2, h3, h4, h5])
  have g2 : w.rangeAt b 2 [.int .i64 f.seq] := seg_at (pre := [.int .i64 f.kind] ++ [.int .i64 f.from_]) (post := [.int .i64 f.node] ++ s4 ++ [.bool f.found] ++ s6 ++ s7 ++ [.int .i64 f.at_] ++ [.string ⟨f.data.toArray⟩] ++ s10 ++ s11 ++ [.slice x.RA f.rngs.length x.rc] ++ [.slice x.IA f.items.length x.ic] ++ [.slice x.MA f.mems.length x.mc]) (by simpa only [List.append_assoc, List.nil_append, List.append_nil, List.singleton_append, List.cons_append] using h) (by simp [h1, h2, h3, h4, h5])
  have g3 : w.rangeAt b 3 [.int .i64 f.node] := seg_at (pre := [.int .i64 f.kind] ++ [.int .i64 f.from_] ++ [.int .i64 f.seq]) (post := s4 ++ [.bool f.found] ++ s6 ++ s7 ++ [.int .i64 f.at_] ++ [.string ⟨f.data.toArray⟩] ++ s10 ++ s11 ++ [.slice x.RA f.rngs.length x.rc] ++ [.slice x.IA f.items.length x.ic] ++ [.slice x.MA f.mems.length x.mc]) (by simpa only [List.append_assoc, List.nil_append, List.append_nil, List.singleton_append, List.cons_append] using h) (by simp [h1, h2, h3, h4, h5])
  have g4 : w.rangeAt b 4 s4 := seg_at (pre := [.int .i64 f.kind] ++ [.int .i64 f.from_] ++ [.int .i64 f.seq] ++ [.int .i64 f.node]) (post := [.bool f.found] ++ s6 ++ s7 ++ [.int .i64 f.at_] ++ [.string ⟨f.data.toArray⟩] ++ s10 ++ s11 ++ [.slice x.RA f.rngs.length x.rc] ++ [.slice x.IA f.items.length x.ic] ++ [.slice x.MA f.mems.length x.mc]) (by simpa only [List.append_assoc, List.nil_append, List.append_nil, List.singleton_append, List.cons_append] using h) (by simp [h1, h2, h3, h4, h5])
  have g5 : w.rangeAt b 36 [.bool f.found] := seg_at (pre := [.int .i64 f.kind] ++ [.int .i64 f.from_] ++ [.int .i64 f.seq] ++ [.int .i64 f.node] ++ s4) (post := s6 ++ s7 ++ [.int .i64 f.at_] ++ [.string ⟨f.data.toArray⟩] ++ s10 ++ s11 ++ [.slice x.RA f.rngs.length x.rc] ++ [.slice x.IA f.items.length x.ic] ++ [.slice x.MA f.mems.length x.mc]) (by simpa only [List.append_assoc, List.nil_append, List.append_nil, List.singleton_append, List.cons_append] using h) (by simp [h1, h2, h3, h4, h5])
  have g6 : w.rangeAt b 37 s6 := seg_at (pre := [.int .i64 f.kind] ++ [.int .i64 f.from_] ++ [.int .i64 f.seq] ++ [.int .i64 f.node] ++ s4 ++ [.bool f.found]) (post := s7 ++ [.int .i64 f.at_] ++ [.string ⟨f.data.toArray⟩] ++ s10 ++ s11 ++ [.slice x.RA f.rngs.length x.rc] ++ [.slice x.IA f.items.length x.ic] ++ [.slice x.MA f.mems.length x.mc]) (by simpa only [List.append_assoc, List.nil_append, List.append_nil, List.singleton_append, List.cons_append] using h) (by simp [h1, h2, h3, h4, h5])
  have g7 : w.rangeAt b 102 s7 := seg_at (pre := [.int .i64 f.kind] ++ [.int .i64 f.from_] ++ [.int .i64 f.seq] ++ [.int .i64 f.node] ++ s4 ++ [.bool f.found] ++ s6) (post := [.int .i64 f.at_] ++ [.string ⟨f.data.toArray⟩] ++ s10 ++ s11 ++ [.slice x.RA f.rngs.length x.rc] ++ [.slice x.IA f.items.length x.ic] ++ [.slice x.MA f.mems.length x.mc]) (by simpa only [List.append_assoc, List.nil_append, List.append_nil, List.singleton_append, List.cons_append] using h) (by simp [h1, h2, h3, h4, h5])
  have g8 : w.rangeAt b 134 [.int .i64 f.at_] := seg_at (pre := [.int .i64 f.kind] ++ [.int .i64 f.from_] ++ [.int .i64 f.seq] ++ [.int .i64 f.node] ++ s4 ++ [.bool f.found] ++ s6 ++ s7) (post := [.string ⟨f.data.toArray⟩] ++ s10 ++ s11 ++ [.slice x.RA f.rngs.length x.rc] ++ [.slice x.IA f.items.length x.ic] ++ [.slice x.MA f.mems.length x.mc]) (by simpa only [List.append_assoc, List.nil_append, List.append_nil, List.singleton_append, List.cons_append] using h) (by simp [h1, h2, h3, h4, h5])
  have g9 : w.rangeAt b 135 [.string ⟨f.data.toArray⟩] := seg_at (pre := [.int .i64 f.kind] ++ [.int .i64 f.from_] ++ [.int .i64 f.seq] ++ [.int .i64 f.node] ++ s4 ++ [.bool f.found] ++ s6 ++ s7 ++ [.int .i64 f.at_]) (post := s10 ++ s11 ++ [.slice x.RA f.rngs.length x.rc] ++ [.slice x.IA f.items.length x.ic] ++ [.slice x.MA f.mems.length x.mc]) (by simpa only [List.append_assoc, List.nil_append, List.append_nil, List.singleton_append, List.cons_append] using h) (by simp [h1, h2, h3, h4, h5])
  have g10 : w.rangeAt b 136 s10 := seg_at (pre := [.int .i64 f.kind] ++ [.int .i64 f.from_] ++ [.int .i64 f.seq] ++ [.int .i64 f.node] ++ s4 ++ [.bool f.found] ++ s6 ++ s7 ++ [.int .i64 f.at_] ++ [.string ⟨f.data.toArray⟩]) (post := s11 ++ [.slice x.RA f.rngs.length x.rc] ++ [.slice x.IA f.items.length x.ic] ++ [.slice x.MA f.mems.length x.mc]) (by simpa only [List.append_assoc, List.nil_append, List.append_nil, List.singleton_append, List.cons_append] using h) (by simp [h1, h2, h3, h4, h5])
  have g11 : w.rangeAt b 200 s11 := seg_at (pre := [.int .i64 f.kind] ++ [.int .i64 f.from_] ++ [.int .i64 f.seq] ++ [.int .i64 f.node] ++ s4 ++ [.bool f.found] ++ s6 ++ s7 ++ [.int .i64 f.at_] ++ [.string ⟨f.data.toArray⟩] ++ s10) (post := [.slice x.RA f.rngs.length x.rc] ++ [.slice x.IA f.items.length x.ic] ++ [.slice x.MA f.mems.length x.mc]) (by simpa only [List.append_assoc, List.nil_append, List.append_nil, List.singleton_append, List.cons_append] using h) (by simp [h1, h2, h3, h4, h5])
  have g12 : w.rangeAt b 234 [.slice x.RA f.rngs.length x.rc] := seg_at (pre := [.int .i64 f.kind] ++ [.int .i64 f.from_] ++ [.int .i64 f.seq] ++ [.int .i64 f.node] ++ s4 ++ [.bool f.found] ++ s6 ++ s7 ++ [.int .i64 f.at_] ++ [.string ⟨f.data.toArray⟩] ++ s10 ++ s11) (post := [.slice x.IA f.items.length x.ic] ++ [.slice x.MA f.mems.length x.mc]) (by simpa only [List.append_assoc, List.nil_append, List.append_nil, List.singleton_append, List.cons_append] using h) (by simp [h1, h2, h3, h4, h5])
  have g13 : w.rangeAt b 235 [.slice x.IA f.items.length x.ic] := seg_at (pre := [.int .i64 f.kind] ++ [.int .i64 f.from_] ++ [.int .i64 f.seq] ++ [.int .i64 f.node] ++ s4 ++ [.bool f.found] ++ s6 ++ s7 ++ [.int .i64 f.at_] ++ [.string ⟨f.data.toArray⟩] ++ s10 ++ s11 ++ [.slice x.RA f.rngs.length x.rc]) (post := [.slice x.MA f.mems.length x.mc]) (by simpa only [List.append_assoc, List.nil_append, List.append_nil, List.singleton_append, List.cons_append] using h) (by simp [h1, h2, h3, h4, h5])
  have g14 : w.rangeAt b 236 [.slice x.MA f.mems.length x.mc] := seg_at (pre := [.int .i64 f.kind] ++ [.int .i64 f.from_] ++ [.int .i64 f.seq] ++ [.int .i64 f.node] ++ s4 ++ [.bool f.found] ++ s6 ++ s7 ++ [.int .i64 f.at_] ++ [.string ⟨f.data.toArray⟩] ++ s10 ++ s11 ++ [.slice x.RA f.rngs.length x.rc] ++ [.slice x.IA f.items.length x.ic]) (post := []) (by simpa only [List.append_assoc, List.nil_append, List.append_nil, List.singleton_append, List.cons_append] using h) (by simp [h1, h2, h3, h4, h5])
  rw [e4] at g4
  rw [e6] at g6
  rw [e7] at g7
  rw [e10] at g10
  rw [e11] at g11
  exact ⟨cell_seg g0, cell_seg g1, cell_seg g2, cell_seg g3, g4, cell_seg g5, g6, g7, cell_seg g8, cell_seg g9, g10, g11, cell_seg g12, cell_seg g13, cell_seg g14⟩
end Wi
end Go.Proofs.YthcmlbbbbcinkaaDoor
