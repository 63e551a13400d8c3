/-
  Layer 5 (hive): records as rows of cells and of texts; the walks of isRecord, recordRow, asRecord.
-/
import Derived.Test.YteihfoacdocgkaaDoorHvCJ
set_option linter.unusedVariables false
set_option linter.unusedSimpArgs false
namespace Go.Proofs.YteihfoacdocgkaaDoor
open Go.RowKit Pl Sh
attribute [local go_sem] Lb.ba_get Lb.ba_cut Lb.ba_add Lb.ba_size Lb.take_rest

theorem wpList_load_midGR {P : Program} {ops : Array Oper} {rest : List Oper} {op : Oper} {a : Act} {w : World} {Q : Exit → Act → World → Prop} (hw : Region.wanted op (yielded ops a.tmps) = true) (ty : TypeId) (x : Operand) (ho : op.op = .load ty x)
    (b o : Nat) (hx : a.eval x = .pointer (some ⟨b, o, none⟩)) (cs : List Value) (d : TypeDesc) (hc : w.rangeAt b o cs)
    (hu : P.underlying ty = some d) (hd : d.isRow = true) (hi : (P.info? ty).map (·.size) = some cs.length)
    (h : wpList P ops Q rest (a.put op.dst (.agg cs.toArray)) w) : wpList P ops Q (op :: rest) a w :=
  BigFrame.wpList_want hw fun _ hK => wp_load_mid ty x ho b o hx cs d hc hu hd hi (hK _ _ h)
theorem wpList_build0G {P : Program} {ops : Array Oper} {rest : List Oper} {o : Oper} {a : Act} {w : World} {Q : Exit → Act → World → Prop} (hw : Region.wanted o (yielded ops a.tmps) = true) (t : TypeId) (ho : o.op = .build t #[]) (C : Array Value) (hB : P.built t [] = some C)
    (h : wpList P ops Q rest (a.put o.dst (.agg C)) w) : wpList P ops Q (o :: rest) a w := by
  refine BigFrame.wpList_want hw fun _ hK => ?_
  refine wp_build t _ ho ?_ ?_
  · simp only [List.map_toArray, List.map_nil, hB]; rfl
  · simp only [List.map_toArray, List.map_nil, hB]; exact hK _ _ h

/-! ### records -/
structure RecD where
  key : List UInt8
  code : Int
  out : List UInt8
def RecD.cells (r : RecD) : List Value := byV r.key ++ (Value.int .i64 r.code :: byV r.out)
def RecD.row (r : RecD) : Array Value := r.cells.toArray
structure RecD.Fit (r : RecD) : Prop where
  k : r.key.length = 32
  o : r.out.length = 32
  lo : -9223372036854775808 ≤ r.code
  hi : r.code ≤ 9223372036854775807
def zeroRec : RecD := ⟨List.replicate 32 0, 0, List.replicate 32 0⟩
theorem zeroRec_fit : zeroRec.Fit := ⟨rfl, rfl, by decide, by decide⟩
theorem RecD.len {r : RecD} (h : r.Fit) : r.cells.length = 65 := by simp [RecD.cells, byV_length, h.k, h.o]
theorem RecD.row_size {r : RecD} (h : r.Fit) : r.row.size = 65 := by simp [RecD.row, r.len h]
theorem RecD.row_one (r : RecD) : r.row.all (·.oneCell') = true := by
  unfold RecD.row RecD.cells
  rw [List.all_toArray, List.all_append, List.all_cons, byV_one, byV_one]
  rfl
theorem rec_info : (Tryd.prog.info? 26).map (·.size) = some 65 := by kernel_rfl
set_option maxRecDepth 100000 in
theorem rec_zero : (Tryd.prog.info? 26).map (·.zero) = some (some (.agg zeroRec.row)) := by kernel_rfl
set_option maxRecDepth 100000 in
theorem built_rec0 : Tryd.prog.built 26 [] = some zeroRec.row := by kernel_rfl
theorem zero_rec : Tryd.zeroCells26 = zeroRec.row := by kernel_rfl
/-- a record's cells in a block -/
theorem rec_mem {w : World} {b : Nat} {r : RecD} {T : TypeId} (hf : r.Fit) (h : w.heap[b]? = some (.cells r.row T (0, 0))) :
    w.rangeAt b 0 (byV r.key) ∧ w.cell? ⟨b, 32, none⟩ = some (.int .i64 r.code) ∧ w.rangeAt b 33 (byV r.out) ∧ ∀ j, w.frozen? ⟨b, j, none⟩ = false := by
  have hk := hf.k
  have hc : ∀ j, w.cell? ⟨b, j, none⟩ = r.cells[j]? := fun j => by rw [Lib.cell_of_heap h]; unfold RecD.row; rw [List.getElem?_toArray]
  refine ⟨fun j v hv => ?_, ?_, fun j v hv => ?_, fun j => Lib.frozen_of_heap h j⟩
  · rw [Nat.zero_add, hc]
    unfold RecD.cells
    rw [List.getElem?_append_left (List.getElem?_eq_some_iff.1 hv).1]; exact hv
  · rw [hc]
    unfold RecD.cells
    rw [List.getElem?_append_right (by rw [byV_length, hk]; omega), byV_length, hk]; rfl
  · rw [hc]
    unfold RecD.cells
    rw [List.getElem?_append_right (by rw [byV_length, hk]; omega), byV_length, hk, show 33 + j - 32 = j + 1 by omega, List.getElem?_cons_succ]; exact hv

/-- whether a record can be -/
def isRecS (r : RecD) : Bool := decide (0 ≤ r.code) && decide (r.code ≤ 99) && (decide (r.code = 0) || r.out == List.replicate 32 0)
set_option maxHeartbeats 2000000 in
set_option maxRecDepth 100000 in
theorem isRecord_any (r : RecD) (w : World) (hf : r.Fit) : Calls Tryd.prog 73 #[.agg r.row] w fun e w' => e = .returned (.bool (isRecS r)) ∧ Below w.heap.size w w' := by
  have hn := heap_alloc_new w (.cells r.row 26)
  obtain ⟨-, c32, c33, -⟩ := rec_mem hf hn
  have hb := Lib.hid ((Below.refl w.heap.size w).alloc (Nat.le_refl _) (.cells r.row 26))
  obtain ⟨res, hres⟩ : ∃ x, x = isRecS r := ⟨_, rfl⟩
  rw [← hres]
  unfold isRecS at hres
  obtain ⟨c, hc⟩ : ∃ x, x = r.code := ⟨_, rfl⟩
  rw [← hc] at c32 hres
  obtain ⟨o, ho⟩ : ∃ x, x = r.out := ⟨_, rfl⟩
  have hol : o.length = 32 := by rw [ho]; exact hf.o
  rw [← ho] at c33 hres
  have hdix : (Tryd.prog.info? 23).map (·.size) = some (byV o).length := by rw [dig_info, byV_length, hol]
  have heq : ∀ W : World, (Op.equalIn 10000 23 (.agg (byV o).toArray) (.agg (digV (List.replicate 32 0)))).run Tryd.prog W = .ok (o == List.replicate 32 0) W := fun W => eqIn_dig W o _ hol (by simp)
  have hbd := built_dig0
  obtain ⟨Z, hZ⟩ : ∃ Z, Z = digV (List.replicate 32 0) := ⟨_, rfl⟩
  rw [← hZ] at heq hbd
  have C33 := Lib.hid c33
  have Hdix := Lib.hid hdix
  have Hbd := Lib.hid hbd
  obtain ⟨R, hR⟩ : ∃ R, R = r.row := ⟨_, rfl⟩
  rw [← hR] at hn hb c32 C33 ⊢
  obtain ⟨y, hy⟩ : ∃ y, y = (o == List.replicate 32 0) := ⟨_, rfl⟩
  rw [← hy] at heq hres
  have Hres := Lib.hid hres
  clear hn c33 hc ho hol hdix hbd hZ hR hy hres hf
  go_enter Tryd.func73, Tryd.ntmps73
  go_upto_region 1 with fail
  by_cases h0 : 0 ≤ c
  · by_cases h1 : c ≤ 99
    · by_cases h2 : c = 0
      · subst h2
        have hr : Hid (res = true) := Lib.hid (by rw [Hres.out]; rfl)
        clear Hres heq
        go_wp2_with fail
        go_ret
        rw [hr.out]
        exact ⟨rfl, hb.out⟩
      · have e2 : (c == 0) = false := by simp [h2]
        have hr : Hid (res = y) := Lib.hid (by rw [Hres.out]; simp [h0, h1, h2])
        clear Hres
        go_wp2_with (with_reducible first
          | (refine wpList_load_midGR (by kernel_rfl) 23 _ rfl _ 33 rfl (byV o) _ C33.out Tryd.underlying23 rfl Hdix.out ?_)
          | (refine wpList_build0G (by kernel_rfl) 23 rfl Z Hbd.out ?_))
        go_ret
        rw [hr.out]
        exact ⟨rfl, hb.out⟩
    · have hr : Hid (res = false) := Lib.hid (by rw [Hres.out]; simp [h1])
      clear Hres heq
      go_wp2_with fail
      go_ret
      rw [hr.out]
      exact ⟨rfl, hb.out⟩
  · have hr : Hid (res = false) := Lib.hid (by rw [Hres.out]; simp [h0])
    clear Hres heq
    go_wp2_with fail
    go_ret
    rw [hr.out]
    exact ⟨rfl, hb.out⟩

/-- a record's row -/
def recRowS (r : RecD) : List UInt8 := srow [[114], r.key, num r.code, r.out]
def asRec : List (List UInt8) → Option RecD
  | [a, k, c, o] => if a = [114] ∧ k.length = 32 ∧ o.length = 32 then
      (match rdNum c with
        | some (n, []) => if isRecS ⟨k, n, o⟩ = true then some ⟨k, n, o⟩ else none
        | _ => none) else none
  | _ => none
def asRecS (row : List UInt8) : Option RecD := asRec (partsS row)
theorem strs_four (w : World) (a b c d : List UInt8) : Strs (w.alloc (.cells #[.string ⟨a.toArray⟩, .string ⟨b.toArray⟩, .string ⟨c.toArray⟩, .string ⟨d.toArray⟩] 9)) (w.alloc (.cells #[.string ⟨a.toArray⟩, .string ⟨b.toArray⟩, .string ⟨c.toArray⟩, .string ⟨d.toArray⟩] 9)).heap.size (some ⟨w.heap.size, 0, none⟩) [a, b, c, d] := by
  intro i hi
  have hg := heap_alloc_new w (.cells #[.string ⟨a.toArray⟩, .string ⟨b.toArray⟩, .string ⟨c.toArray⟩, .string ⟨d.toArray⟩] 9)
  refine ⟨_, rfl, heap_lt hg, ?_⟩
  rw [Addr.add_lit, Nat.zero_add, Lib.cell_of_heap hg]
  match i, hi with
  | 0, _ => rfl
  | 1, _ => rfl
  | 2, _ => rfl
  | 3, _ => rfl
/-- a block's bytes from an offset on, as a text -/
theorem conv_rng {w : World} {q o : Nat} {d : List UInt8} (hd : d.length = 32) (h : w.rangeAt q o (byV d)) (hq : q < w.heap.size) (W : World) (hW : Below w.heap.size w W) : (convert 45 9 (.slice (some ⟨q, o, none⟩) 32 32)).run Tryd.prog W = .ok (.string ⟨d.toArray⟩) W := by
  have := run_convert_bytes_back W 45 9 5 ⟨q, o, none⟩ 32 d Tryd.underlying45 Tryd.underlying5 Tryd.underlying9 (fun i hi => by
    rw [Addr.add_lit]
    exact range_below h hW hq i _ (by simp [byV, hi]))
  rwa [hd] at this
theorem recRow_len {r : RecD} (hf : r.Fit) : (recRowS r).length ≤ 130 := by
  have h1 := num_length_le r.code hf.lo hf.hi
  have hk := hf.k
  have ho := hf.o
  unfold recRowS
  obtain ⟨c, hc⟩ : ∃ c, c = num r.code := ⟨_, rfl⟩
  rw [← hc] at h1 ⊢
  have e0 := num_length_le (4 : Nat) (by omega) (by omega)
  have e1 := num_length_le (1 : Nat) (by omega) (by omega)
  have e2 := num_length_le (32 : Nat) (by omega) (by omega)
  have e3 := num_length_le (c.length : Nat) (by omega) (by omega)
  simp only [srow, textsB, textB, List.map_cons, List.map_nil, List.flatten_cons, List.flatten_nil, List.length_append, List.length_nil, List.length_cons, Nat.add_zero, Nat.zero_add, Nat.reduceAdd, hk, ho]
  omega
set_option maxHeartbeats 4000000 in
set_option maxRecDepth 100000 in
theorem recordRow_any (r : RecD) (w : World) (hf : r.Fit) : Calls Tryd.prog 74 #[.agg r.row] w fun e w' => e = .returned (.string ⟨(recRowS r).toArray⟩) ∧ Below w.heap.size w w' := by
  have hn := heap_alloc_new w (.cells r.row 26)
  obtain ⟨c0, c32, c33, -⟩ := rec_mem hf hn
  have hb := Lib.hid ((Below.refl w.heap.size w).alloc (Nat.le_refl _) (.cells r.row 26))
  have hql := heap_lt hn
  have k1 := conv_rng hf.k c0 hql
  have k2 := conv_rng hf.o c33 hql
  obtain ⟨t0, ht0⟩ : ∃ t, t = r.key := ⟨_, rfl⟩
  obtain ⟨t1, ht1⟩ : ∃ t, t = num r.code := ⟨_, rfl⟩
  obtain ⟨t2, ht2⟩ : ∃ t, t = r.out := ⟨_, rfl⟩
  have HR : Hid (srow [[114], t0, t1, t2] = recRowS r) := Lib.hid (by rw [ht0, ht1, ht2]; rfl)
  have HL : Hid ((srow [[114], t0, t1, t2]).length ≤ 140737488355328) := Lib.hid (by rw [HR.out]; have := recRow_len hf; omega)
  have HN : Hid (∀ W : World, Calls Tryd.prog 40 #[.int .i64 r.code] W fun e w' => e = .returned (.string ⟨t1.toArray⟩) ∧ Below W.heap.size W w') := Lib.hid (fun W => by rw [ht1]; exact num_any r.code W hf.lo hf.hi)
  obtain ⟨c, hc⟩ : ∃ x, x = r.code := ⟨_, rfl⟩
  rw [← hc] at c32 HN
  rw [← ht0] at k1
  rw [← ht2] at k2
  obtain ⟨R, hRd⟩ : ∃ R, R = r.row := ⟨_, rfl⟩
  rw [← hRd] at c32 hb k1 k2 hql ⊢
  obtain ⟨q, hq⟩ : ∃ q, q = w.heap.size := ⟨_, rfl⟩
  have K1 := Lib.hid k1
  have K2 := Lib.hid k2
  have dund := Tryd.underlying23
  clear hn c0 c33 k1 k2 ht0 ht1 ht2 hc hRd hf
  go_enter Tryd.func74, Tryd.ntmps74
  go_upto_region 1 with fail
  show Code.wp _ _ _ _ (w.alloc (.cells R 26))
  obtain ⟨w1, hw1⟩ : ∃ y, y = w.alloc (.cells R 26) := ⟨_, rfl⟩
  rw [← hw1] at c32 hb K1 K2 hql ⊢
  rw [← hq] at c32 K1 K2 hql ⊢
  clear hw1 hq
  refine wp_region_held_drew (S := fun w' => Below w1.heap.size w1 w') (by kernel_rfl) ((Below.refl _ _).drew) (fun hH0 => ?_)
  obtain ⟨W0, hW0⟩ : ∃ W, W = w1.drew := ⟨_, rfl⟩
  rw [← hW0] at hH0 ⊢
  clear hW0
  refine wpAnyH_take (i := 0) (v := ?_) rfl (by kernel_rfl) (by kernel_rfl) (by kernel_rfl) (fun _ _ _ h => h) (Or.inl ⟨by kernel_rfl, ?_⟩) hH0 ?_
  rotate_left 1
  · intro w hSw
    go_simp
    try with_reducible rfl
  try simp only [Act.put, List.getElem_toArray, List.getElem_cons_zero, List.getElem_cons_succ, List.setIfInBounds_toArray, List.set_cons_zero, List.set_cons_succ]
  refine wpAnyH_take (i := 1) (v := ?_) rfl (by kernel_rfl) (by kernel_rfl) (by kernel_rfl) (fun _ _ _ h => h) (Or.inl ⟨by kernel_rfl, ?_⟩) hH0 ?_
  rotate_left 1
  · intro w hSw
    go_simp
    try with_reducible rfl
  try simp only [Act.put, List.getElem_toArray, List.getElem_cons_zero, List.getElem_cons_succ, List.setIfInBounds_toArray, List.set_cons_zero, List.set_cons_succ]
  refine wpAnyH_take (i := 2) (v := ?_) rfl (by kernel_rfl) (by kernel_rfl) (by kernel_rfl) (fun _ _ _ h => h) (Or.inl ⟨by kernel_rfl, ?_⟩) hH0 ?_
  rotate_left 1
  · intro w hSw
    go_simp
    rw [K1.out w hSw]
    rfl
    try with_reducible rfl
  try simp only [Act.put, List.getElem_toArray, List.getElem_cons_zero, List.getElem_cons_succ, List.setIfInBounds_toArray, List.set_cons_zero, List.set_cons_succ]
  refine wpAnyH_take (i := 3) (v := ?_) rfl (by kernel_rfl) (by kernel_rfl) (by kernel_rfl) (fun _ _ _ h => h) (Or.inl ⟨by kernel_rfl, ?_⟩) hH0 ?_
  rotate_left 1
  · intro w hSw
    go_simp
    try with_reducible rfl
  try simp only [Act.put, List.getElem_toArray, List.getElem_cons_zero, List.getElem_cons_succ, List.setIfInBounds_toArray, List.set_cons_zero, List.set_cons_succ]
  refine wpAnyH_take (i := 4) (v := ?_) rfl (by kernel_rfl) (by kernel_rfl) (by kernel_rfl) (fun _ _ _ h => h) (Or.inl ⟨by kernel_rfl, ?_⟩) hH0 ?_
  rotate_left 1
  · intro w hSw
    have f0 := (hSw.cell (p := ⟨q, 32, none⟩) hql).trans c32
    go_simp
    try with_reducible rfl
  try simp only [Act.put, List.getElem_toArray, List.getElem_cons_zero, List.getElem_cons_succ, List.setIfInBounds_toArray, List.set_cons_zero, List.set_cons_succ]
  refine wpAnyH_take (i := 6) (v := ?_) rfl (by kernel_rfl) (by kernel_rfl) (by kernel_rfl) (fun _ _ _ h => h) (Or.inl ⟨by kernel_rfl, ?_⟩) hH0 ?_
  rotate_left 1
  · intro w hSw
    go_simp
    try with_reducible rfl
  try simp only [Act.put, List.getElem_toArray, List.getElem_cons_zero, List.getElem_cons_succ, List.setIfInBounds_toArray, List.set_cons_zero, List.set_cons_succ]
  refine wpAnyH_take (i := 7) (v := ?_) rfl (by kernel_rfl) (by kernel_rfl) (by kernel_rfl) (fun _ _ _ h => h) (Or.inl ⟨by kernel_rfl, ?_⟩) hH0 ?_
  rotate_left 1
  · intro w hSw
    go_simp
    try with_reducible rfl
  try simp only [Act.put, List.getElem_toArray, List.getElem_cons_zero, List.getElem_cons_succ, List.setIfInBounds_toArray, List.set_cons_zero, List.set_cons_succ]
  refine wpAnyH_take (i := 8) (v := ?_) rfl (by kernel_rfl) (by kernel_rfl) (by kernel_rfl) (fun _ _ _ h => h) (Or.inl ⟨by kernel_rfl, ?_⟩) hH0 ?_
  rotate_left 1
  · intro w hSw
    go_simp
    rw [K2.out w hSw]
    rfl
    try with_reducible rfl
  try simp only [Act.put, List.getElem_toArray, List.getElem_cons_zero, List.getElem_cons_succ, List.setIfInBounds_toArray, List.set_cons_zero, List.set_cons_succ]
  refine wpAnyH_ready (rs := [5]) (by kernel_rfl) (by simp) ?_
  refine AllReadyH.cons rfl (fun K_ hK => ?_) ?_
  · go_simp
    refine (HN.out _).mono ?_
    rintro e W1 ⟨rfl, hb1⟩
    refine hK.out _ _ ((hH0).trans (hb1.mono (hH0).size)) (fun hH1 => ?_)
    clear hK K_
    try simp only [Act.put, List.getElem_toArray, List.getElem_cons_zero, List.getElem_cons_succ, List.setIfInBounds_toArray, List.set_cons_zero, List.set_cons_succ]
    refine wpAnyH_ready (rs := [9]) (by kernel_rfl) (by simp) ?_
    refine AllReadyH.cons rfl (fun K_ hK => ?_) ?_
    · go_simp
      have hb2 := (Below.refl W1.heap.size W1).alloc (Nat.le_refl _) (.cells #[.string ⟨#[114]⟩, .string ⟨t0.toArray⟩, .string ⟨t1.toArray⟩, .string ⟨t2.toArray⟩] 9)
      have hS2 := strs_four W1 [114] t0 t1 t2
      obtain ⟨W2, hW2⟩ : ∃ W, W = W1.alloc (.cells #[.string ⟨#[114]⟩, .string ⟨t0.toArray⟩, .string ⟨t1.toArray⟩, .string ⟨t2.toArray⟩] 9) := ⟨_, rfl⟩
      rw [← hW2] at hb2 hS2 ⊢
      clear hW2
      have hS := Lib.hid hS2
      refine hK.out _ _ ((hH1).trans (hb2.mono (hH1).size)) (fun hH2 => ?_)
      clear hK K_
      try simp only [Act.put, List.getElem_toArray, List.getElem_cons_zero, List.getElem_cons_succ, List.setIfInBounds_toArray, List.set_cons_zero, List.set_cons_succ]
      refine wpAnyH_ready (rs := [10]) (by kernel_rfl) (by simp) ?_
      refine AllReadyH.cons rfl (fun K_ hK => ?_) ?_
      · go_simp
        refine (row_any _ _ [[114], t0, t1, t2] _ hS.out HL.out).mono ?_
        rintro e W3 ⟨rfl, hb3⟩
        rw [HR.out]
        refine hK.out _ _ ((hH2).trans (hb3.mono (hH2).size)) (fun hH3 => ?_)
        clear hK K_
        try simp only [Act.put, List.getElem_toArray, List.getElem_cons_zero, List.getElem_cons_succ, List.setIfInBounds_toArray, List.set_cons_zero, List.set_cons_succ]
        refine wpAnyH_take (i := 11) (v := ?_) rfl (by kernel_rfl) (by kernel_rfl) (by kernel_rfl) (fun _ _ _ h => h) (Or.inl ⟨by kernel_rfl, ?_⟩) hH3 ?_
        rotate_left 1
        · intro w hSw
          go_simp
          try with_reducible rfl
        try simp only [Act.put, List.getElem_toArray, List.getElem_cons_zero, List.getElem_cons_succ, List.setIfInBounds_toArray, List.set_cons_zero, List.set_cons_succ]
        refine wpAnyH_done (by kernel_rfl) ?_ _
        have HH := Lib.hid hH3
        clear hH3
        go_wp2_with fail
        go_ret
        exact ⟨rfl, hb.out.trans (HH.out.mono hb.out.size)⟩
      exact AllReadyH.nil
    exact AllReadyH.nil
  exact AllReadyH.nil

/-! ### asRecord -/
theorem bag_rangeR {w : World} {g cap n : Nat} {cs : List Value} (h : Bag w 1 g cap n cs) : w.rangeAt g 0 cs := fun k v hv => by
  rw [Nat.zero_add]; exact h.holds k v hv
theorem wp_load_digR {op : Oper} {a : Act} {w : World} {K : Act → World → Prop} {Q : Exit → Act → World → Prop} (x : Operand) (ho : op.op = .load 23 x)
    (b o : Nat) (hx : a.eval x = .pointer (some ⟨b, o, none⟩)) (d : List UInt8) (hd : d.length = 32) (hc : w.rangeAt b o (byV d))
    (h : K (a.put op.dst (.agg (digV d))) w) : op.wp Tryd.prog a w K Q :=
  wp_load_mid 23 x ho b o hx (byV d) _ hc Tryd.underlying23 rfl (by rw [byV_length, hd]; exact dig_info) h
theorem arr_atR (A : Option Addr) (cap : Nat) (W : World) : (Instr.arrayAt 23 (.slice A 32 cap)).run Tryd.prog W = .ok (.pointer A) W := run_arrayAt (P := Tryd.prog) (w := W) 23 5 32 A 32 cap Tryd.underlying23 (Nat.le_refl _)
def recPlaces : List (Nat × Nat) := [(0, 32), (32, 1), (33, 32)]
set_option maxRecDepth 100000 in
theorem built_rec (k o : List UInt8) (c : Int) (hk : k.length = 32) (ho : o.length = 32) : Tryd.prog.built 26 [(0, .agg (digV k)), (1, .int .i64 c), (2, .agg (digV o))] = some (RecD.mk k c o).row := by
  obtain ⟨it, hit, hz⟩ := Option.map_eq_some_iff.1 rec_zero
  have hp : ∀ fs, Tryd.prog.underlying 26 = some (.struct fs) → fs.toList.mapM (fun f => (Tryd.prog.info? f.type).map fun i => (f.offset, i.size)) = some recPlaces := by
    intro fs h
    obtain rfl := (TypeDesc.struct.inj (Option.some.inj (Tryd.underlying26.symm.trans h)))
    kernel_rfl
  unfold Program.built
  rw [hit]
  simp only [Tryd.underlying26]
  rw [hz, hp _ Tryd.underlying26]
  have h1 := fill_seg (place := (recPlaces.toArray[·]?)) (i := 0) (v := .agg (digV k)) (rest := [(1, .int .i64 c), (2, .agg (digV o))]) (pre := []) (old := byV (List.replicate 32 0)) (vs := byV k) (off := 0) (size := 32)
    (post := Value.int .i64 0 :: byV (List.replicate 32 0)) rfl (cells_agg _) (by rw [byV_length, hk]) rfl (by simp [byV_length])
  have h2 := fill_seg (place := (recPlaces.toArray[·]?)) (i := 1) (v := .int .i64 c) (rest := [(2, .agg (digV o))]) (pre := byV k) (old := [Value.int .i64 0]) (vs := [Value.int .i64 c]) (off := 32) (size := 1)
    (post := byV (List.replicate 32 0)) rfl (cells_int _ _) rfl (by rw [byV_length, hk]) rfl
  have h3 := fill_seg (place := (recPlaces.toArray[·]?)) (i := 2) (v := .agg (digV o)) (rest := []) (pre := byV k ++ [Value.int .i64 c]) (old := byV (List.replicate 32 0)) (vs := byV o) (off := 33) (size := 32)
    (post := []) rfl (cells_agg _) (by rw [byV_length, ho]) (by simp [byV_length, hk]) (by simp [byV_length])
  simp only [List.append_assoc, List.singleton_append, List.cons_append, List.nil_append, List.append_nil] at h1 h2 h3
  exact ((h1.trans h2).trans h3).trans (fill_nil _ _)
end Go.Proofs.YteihfoacdocgkaaDoor
