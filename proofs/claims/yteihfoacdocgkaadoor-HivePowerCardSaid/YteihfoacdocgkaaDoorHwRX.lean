/-
  Layer 5 (hive): the walk of find where the slot has another text; the entry goes.
-/
import Derived.Test.YteihfoacdocgkaaDoorHvCJ
import Derived.Test.YteihfoacdocgkaaDoorHvOY
set_option linter.unusedVariables false
set_option linter.unusedSimpArgs false
namespace Go.Proofs.YteihfoacdocgkaaDoor
open Go.RowKit Pl Sh
attribute [local go_sem] Lb.ba_get Lb.ba_cut Lb.ba_add Lb.ba_size Lb.take_rest

theorem wpList_load_midGR {P : Program} {ops : Array Oper} {rest : List Oper} {op : Oper} {a : Act} {w : World} {Q : Exit → Act → World → Prop} (hw : Region.wanted op (yielded ops a.tmps) = true) (ty : TypeId) (x : Operand) (ho : op.op = .load ty x)
    (b o : Nat) (hx : a.eval x = .pointer (some ⟨b, o, none⟩)) (cs : List Value) (d : TypeDesc) (hc : w.rangeAt b o cs)
    (hu : P.underlying ty = some d) (hd : d.isRow = true) (hi : (P.info? ty).map (·.size) = some cs.length)
    (h : wpList P ops Q rest (a.put op.dst (.agg cs.toArray)) w) : wpList P ops Q (op :: rest) a w :=
  BigFrame.wpList_want hw fun _ hK => wp_load_mid ty x ho b o hx cs d hc hu hd hi (hK _ _ h)
theorem wpList_build0G {P : Program} {ops : Array Oper} {rest : List Oper} {o : Oper} {a : Act} {w : World} {Q : Exit → Act → World → Prop} (hw : Region.wanted o (yielded ops a.tmps) = true) (t : TypeId) (ho : o.op = .build t #[]) (C : Array Value) (hB : P.built t [] = some C)
    (h : wpList P ops Q rest (a.put o.dst (.agg C)) w) : wpList P ops Q (o :: rest) a w := by
  refine BigFrame.wpList_want hw fun _ hK => ?_
  refine wp_build t _ ho ?_ ?_
  · simp only [List.map_toArray, List.map_nil, hB]; rfl
  · simp only [List.map_toArray, List.map_nil, hB]; exact hK _ _ h

/-! ### records -/
structure RecD where
  key : List UInt8
  code : Int
  out : List UInt8
def RecD.cells (r : RecD) : List Value := byV r.key ++ (Value.int .i64 r.code :: byV r.out)
def RecD.row (r : RecD) : Array Value := r.cells.toArray
structure RecD.Fit (r : RecD) : Prop where
  k : r.key.length = 32
  o : r.out.length = 32
  lo : -9223372036854775808 ≤ r.code
  hi : r.code ≤ 9223372036854775807
def zeroRec : RecD := ⟨List.replicate 32 0, 0, List.replicate 32 0⟩
theorem zeroRec_fit : zeroRec.Fit := ⟨rfl, rfl, by decide, by decide⟩
theorem RecD.len {r : RecD} (h : r.Fit) : r.cells.length = 65 := by simp [RecD.cells, byV_length, h.k, h.o]
theorem RecD.row_size {r : RecD} (h : r.Fit) : r.row.size = 65 := by simp [RecD.row, r.len h]
theorem RecD.row_one (r : RecD) : r.row.all (·.oneCell') = true := by
  unfold RecD.row RecD.cells
  rw [List.all_toArray, List.all_append, List.all_cons, byV_one, byV_one]
  rfl
theorem rec_info : (Tryd.prog.info? 26).map (·.size) = some 65 := by kernel_rfl
set_option maxRecDepth 100000 in
theorem rec_zero : (Tryd.prog.info? 26).map (·.zero) = some (some (.agg zeroRec.row)) := by kernel_rfl
set_option maxRecDepth 100000 in
theorem built_rec0 : Tryd.prog.built 26 [] = some zeroRec.row := by kernel_rfl
theorem zero_rec : Tryd.zeroCells26 = zeroRec.row := by kernel_rfl
/-- a record's cells in a block -/
theorem rec_mem {w : World} {b : Nat} {r : RecD} {T : TypeId} (hf : r.Fit) (h : w.heap[b]? = some (.cells r.row T (0, 0))) :
    w.rangeAt b 0 (byV r.key) ∧ w.cell? ⟨b, 32, none⟩ = some (.int .i64 r.code) ∧ w.rangeAt b 33 (byV r.out) ∧ ∀ j, w.frozen? ⟨b, j, none⟩ = false := by
  have hk := hf.k
  have hc : ∀ j, w.cell? ⟨b, j, none⟩ = r.cells[j]? := fun j => by rw [Lib.cell_of_heap h]; unfold RecD.row; rw [List.getElem?_toArray]
  refine ⟨fun j v hv => ?_, ?_, fun j v hv => ?_, fun j => Lib.frozen_of_heap h j⟩
  · rw [Nat.zero_add, hc]
    unfold RecD.cells
    rw [List.getElem?_append_left (List.getElem?_eq_some_iff.1 hv).1]; exact hv
  · rw [hc]
    unfold RecD.cells
    rw [List.getElem?_append_right (by rw [byV_length, hk]; omega), byV_length, hk]; rfl
  · rw [hc]
    unfold RecD.cells
    rw [List.getElem?_append_right (by rw [byV_length, hk]; omega), byV_length, hk, show 33 + j - 32 = j + 1 by omega, List.getElem?_cons_succ]; exact hv

/-- whether a record can be -/
def isRecS (r : RecD) : Bool := decide (0 ≤ r.code) && decide (r.code ≤ 99) && (decide (r.code = 0) || r.out == List.replicate 32 0)
set_option maxHeartbeats 2000000 in
set_option maxRecDepth 100000 in
theorem isRecord_any (r : RecD) (w : World) (hf : r.Fit) : Calls Tryd.prog 73 #[.agg r.row] w fun e w' => e = .returned (.bool (isRecS r)) ∧ Below w.heap.size w w' := by
  have hn := heap_alloc_new w (.cells r.row 26)
  obtain ⟨-, c32, c33, -⟩ := rec_mem hf hn
  have hb := Lib.hid ((Below.refl w.heap.size w).alloc (Nat.le_refl _) (.cells r.row 26))
  obtain ⟨res, hres⟩ : ∃ x, x = isRecS r := ⟨_, rfl⟩
  rw [← hres]
  unfold isRecS at hres
  obtain ⟨c, hc⟩ : ∃ x, x = r.code := ⟨_, rfl⟩
  rw [← hc] at c32 hres
  obtain ⟨o, ho⟩ : ∃ x, x = r.out := ⟨_, rfl⟩
  have hol : o.length = 32 := by rw [ho]; exact hf.o
  rw [← ho] at c33 hres
  have hdix : (Tryd.prog.info? 23).map (·.size) = some (byV o).length := by rw [dig_info, byV_length, hol]
  have heq : ∀ W : World, (Op.equalIn 10000 23 (.agg (byV o).toArray) (.agg (digV (List.replicate 32 0)))).run Tryd.prog W = .ok (o == List.replicate 32 0) W := fun W => eqIn_dig W o _ hol (by simp)
  have hbd := built_dig0
  obtain ⟨Z, hZ⟩ : ∃ Z, Z = digV (List.replicate 32 0) := ⟨_, rfl⟩
  rw [← hZ] at heq hbd
  have C33 := Lib.hid c33
  have Hdix := Lib.hid hdix
  have Hbd := Lib.hid hbd
  obtain ⟨R, hR⟩ : ∃ R, R = r.row := ⟨_, rfl⟩
  rw [← hR] at hn hb c32 C33 ⊢
  obtain ⟨y, hy⟩ : ∃ y, y = (o == List.replicate 32 0) := ⟨_, rfl⟩
  rw [← hy] at heq hres
  have Hres := Lib.hid hres
  clear hn c33 hc ho hol hdix hbd hZ hR hy hres hf
  go_enter Tryd.func73, Tryd.ntmps73
  go_upto_region 1 with fail
  by_cases h0 : 0 ≤ c
  · by_cases h1 : c ≤ 99
    · by_cases h2 : c = 0
      · subst h2
        have hr : Hid (res = true) := Lib.hid (by rw [Hres.out]; rfl)
        clear Hres heq
        go_wp2_with fail
        go_ret
        rw [hr.out]
        exact ⟨rfl, hb.out⟩
      · have e2 : (c == 0) = false := by simp [h2]
        have hr : Hid (res = y) := Lib.hid (by rw [Hres.out]; simp [h0, h1, h2])
        clear Hres
        go_wp2_with (with_reducible first
          | (refine wpList_load_midGR (by kernel_rfl) 23 _ rfl _ 33 rfl (byV o) _ C33.out Tryd.underlying23 rfl Hdix.out ?_)
          | (refine wpList_build0G (by kernel_rfl) 23 rfl Z Hbd.out ?_))
        go_ret
        rw [hr.out]
        exact ⟨rfl, hb.out⟩
    · have hr : Hid (res = false) := Lib.hid (by rw [Hres.out]; simp [h1])
      clear Hres heq
      go_wp2_with fail
      go_ret
      rw [hr.out]
      exact ⟨rfl, hb.out⟩
  · have hr : Hid (res = false) := Lib.hid (by rw [Hres.out]; simp [h0])
    clear Hres heq
    go_wp2_with fail
    go_ret
    rw [hr.out]
    exact ⟨rfl, hb.out⟩

/-- a record's row -/
def recRowS (r : RecD) : List UInt8 := srow [[114], r.key, num r.code, r.out]
def asRec : List (List UInt8) → Option RecD
  | [a, k, c, o] => if a = [114] ∧ k.length = 32 ∧ o.length = 32 then
      (match rdNum c with
        | some (n, []) => if isRecS ⟨k, n, o⟩ = true then some ⟨k, n, o⟩ else none
        | _ => none) else none
  | _ => none
def asRecS (row : List UInt8) : Option RecD := asRec (partsS row)
theorem strs_four (w : World) (a b c d : List UInt8) : Strs (w.alloc (.cells #[.string ⟨a.toArray⟩, .string ⟨b.toArray⟩, .string ⟨c.toArray⟩, .string ⟨d.toArray⟩] 9)) (w.alloc (.cells #[.string ⟨a.toArray⟩, .string ⟨b.toArray⟩, .string ⟨c.toArray⟩, .string ⟨d.toArray⟩] 9)).heap.size (some ⟨w.heap.size, 0, none⟩) [a, b, c, d] := by
  intro i hi
  have hg := heap_alloc_new w (.cells #[.string ⟨a.toArray⟩, .string ⟨b.toArray⟩, .string ⟨c.toArray⟩, .string ⟨d.toArray⟩] 9)
  refine ⟨_, rfl, heap_lt hg, ?_⟩
  rw [Addr.add_lit, Nat.zero_add, Lib.cell_of_heap hg]
  match i, hi with
  | 0, _ => rfl
  | 1, _ => rfl
  | 2, _ => rfl
  | 3, _ => rfl
/-- a block's bytes from an offset on, as a text -/
theorem conv_rng {w : World} {q o : Nat} {d : List UInt8} (hd : d.length = 32) (h : w.rangeAt q o (byV d)) (hq : q < w.heap.size) (W : World) (hW : Below w.heap.size w W) : (convert 45 9 (.slice (some ⟨q, o, none⟩) 32 32)).run Tryd.prog W = .ok (.string ⟨d.toArray⟩) W := by
  have := run_convert_bytes_back W 45 9 5 ⟨q, o, none⟩ 32 d Tryd.underlying45 Tryd.underlying5 Tryd.underlying9 (fun i hi => by
    rw [Addr.add_lit]
    exact range_below h hW hq i _ (by simp [byV, hi]))
  rwa [hd] at this
theorem recRow_len {r : RecD} (hf : r.Fit) : (recRowS r).length ≤ 130 := by
  have h1 := num_length_le r.code hf.lo hf.hi
  have hk := hf.k
  have ho := hf.o
  unfold recRowS
  obtain ⟨c, hc⟩ : ∃ c, c = num r.code := ⟨_, rfl⟩
  rw [← hc] at h1 ⊢
  have e0 := num_length_le (4 : Nat) (by omega) (by omega)
  have e1 := num_length_le (1 : Nat) (by omega) (by omega)
  have e2 := num_length_le (32 : Nat) (by omega) (by omega)
  have e3 := num_length_le (c.length : Nat) (by omega) (by omega)
  simp only [srow, textsB, textB, List.map_cons, List.map_nil, List.flatten_cons, List.flatten_nil, List.length_append, List.length_nil, List.length_cons, Nat.add_zero, Nat.zero_add, Nat.reduceAdd, hk, ho]
  omega
set_option maxHeartbeats 4000000 in
set_option maxRecDepth 100000 in
theorem recordRow_any (r : RecD) (w : World) (hf : r.Fit) : Calls Tryd.prog 74 #[.agg r.row] w fun e w' => e = .returned (.string ⟨(recRowS r).toArray⟩) ∧ Below w.heap.size w w' := by
  have hn := heap_alloc_new w (.cells r.row 26)
  obtain ⟨c0, c32, c33, -⟩ := rec_mem hf hn
  have hb := Lib.hid ((Below.refl w.heap.size w).alloc (Nat.le_refl _) (.cells r.row 26))
  have hql := heap_lt hn
  have k1 := conv_rng hf.k c0 hql
  have k2 := conv_rng hf.o c33 hql
  obtain ⟨t0, ht0⟩ : ∃ t, t = r.key := ⟨_, rfl⟩
  obtain ⟨t1, ht1⟩ : ∃ t, t = num r.code := ⟨_, rfl⟩
  obtain ⟨t2, ht2⟩ : ∃ t, t = r.out := ⟨_, rfl⟩
  have HR : Hid (srow [[114], t0, t1, t2] = recRowS r) := Lib.hid (by rw [ht0, ht1, ht2]; rfl)
  have HL : Hid ((srow [[114], t0, t1, t2]).length ≤ 140737488355328) := Lib.hid (by rw [HR.out]; have := recRow_len hf; omega)
  have HN : Hid (∀ W : World, Calls Tryd.prog 40 #[.int .i64 r.code] W fun e w' => e = .returned (.string ⟨t1.toArray⟩) ∧ Below W.heap.size W w') := Lib.hid (fun W => by rw [ht1]; exact num_any r.code W hf.lo hf.hi)
  obtain ⟨c, hc⟩ : ∃ x, x = r.code := ⟨_, rfl⟩
  rw [← hc] at c32 HN
  rw [← ht0] at k1
  rw [← ht2] at k2
  obtain ⟨R, hRd⟩ : ∃ R, R = r.row := ⟨_, rfl⟩
  rw [← hRd] at c32 hb k1 k2 hql ⊢
  obtain ⟨q, hq⟩ : ∃ q, q = w.heap.size := ⟨_, rfl⟩
  have K1 := Lib.hid k1
  have K2 := Lib.hid k2
  have dund := Tryd.underlying23
  clear hn c0 c33 k1 k2 ht0 ht1 ht2 hc hRd hf
  go_enter Tryd.func74, Tryd.ntmps74
  go_upto_region 1 with fail
  show Code.wp _ _ _ _ (w.alloc (.cells R 26))
  obtain ⟨w1, hw1⟩ : ∃ y, y = w.alloc (.cells R 26) := ⟨_, rfl⟩
  rw [← hw1] at c32 hb K1 K2 hql ⊢
  rw [← hq] at c32 K1 K2 hql ⊢
  clear hw1 hq
  refine wp_region_held_drew (S := fun w' => Below w1.heap.size w1 w') (by kernel_rfl) ((Below.refl _ _).drew) (fun hH0 => ?_)
  obtain ⟨W0, hW0⟩ : ∃ W, W = w1.drew := ⟨_, rfl⟩
  rw [← hW0] at hH0 ⊢
  clear hW0
  refine wpAnyH_take (i := 0) (v := ?_) rfl (by kernel_rfl) (by kernel_rfl) (by kernel_rfl) (fun _ _ _ h => h) (Or.inl ⟨by kernel_rfl, ?_⟩) hH0 ?_
  rotate_left 1
  · intro w hSw
    go_simp
    try with_reducible rfl
  try simp only [Act.put, List.getElem_toArray, List.getElem_cons_zero, List.getElem_cons_succ, List.setIfInBounds_toArray, List.set_cons_zero, List.set_cons_succ]
  refine wpAnyH_take (i := 1) (v := ?_) rfl (by kernel_rfl) (by kernel_rfl) (by kernel_rfl) (fun _ _ _ h => h) (Or.inl ⟨by kernel_rfl, ?_⟩) hH0 ?_
  rotate_left 1
  · intro w hSw
    go_simp
    try with_reducible rfl
  try simp only [Act.put, List.getElem_toArray, List.getElem_cons_zero, List.getElem_cons_succ, List.setIfInBounds_toArray, List.set_cons_zero, List.set_cons_succ]
  refine wpAnyH_take (i := 2) (v := ?_) rfl (by kernel_rfl) (by kernel_rfl) (by kernel_rfl) (fun _ _ _ h => h) (Or.inl ⟨by kernel_rfl, ?_⟩) hH0 ?_
  rotate_left 1
  · intro w hSw
    go_simp
    rw [K1.out w hSw]
    rfl
    try with_reducible rfl
  try simp only [Act.put, List.getElem_toArray, List.getElem_cons_zero, List.getElem_cons_succ, List.setIfInBounds_toArray, List.set_cons_zero, List.set_cons_succ]
  refine wpAnyH_take (i := 3) (v := ?_) rfl (by kernel_rfl) (by kernel_rfl) (by kernel_rfl) (fun _ _ _ h => h) (Or.inl ⟨by kernel_rfl, ?_⟩) hH0 ?_
  rotate_left 1
  · intro w hSw
    go_simp
    try with_reducible rfl
  try simp only [Act.put, List.getElem_toArray, List.getElem_cons_zero, List.getElem_cons_succ, List.setIfInBounds_toArray, List.set_cons_zero, List.set_cons_succ]
  refine wpAnyH_take (i := 4) (v := ?_) rfl (by kernel_rfl) (by kernel_rfl) (by kernel_rfl) (fun _ _ _ h => h) (Or.inl ⟨by kernel_rfl, ?_⟩) hH0 ?_
  rotate_left 1
  · intro w hSw
    have f0 := (hSw.cell (p := ⟨q, 32, none⟩) hql).trans c32
    go_simp
    try with_reducible rfl
  try simp only [Act.put, List.getElem_toArray, List.getElem_cons_zero, List.getElem_cons_succ, List.setIfInBounds_toArray, List.set_cons_zero, List.set_cons_succ]
  refine wpAnyH_take (i := 6) (v := ?_) rfl (by kernel_rfl) (by kernel_rfl) (by kernel_rfl) (fun _ _ _ h => h) (Or.inl ⟨by kernel_rfl, ?_⟩) hH0 ?_
  rotate_left 1
  · intro w hSw
    go_simp
    try with_reducible rfl
  try simp only [Act.put, List.getElem_toArray, List.getElem_cons_zero, List.getElem_cons_succ, List.setIfInBounds_toArray, List.set_cons_zero, List.set_cons_succ]
  refine wpAnyH_take (i := 7) (v := ?_) rfl (by kernel_rfl) (by kernel_rfl) (by kernel_rfl) (fun _ _ _ h => h) (Or.inl ⟨by kernel_rfl, ?_⟩) hH0 ?_
  rotate_left 1
  · intro w hSw
    go_simp
    try with_reducible rfl
  try simp only [Act.put, List.getElem_toArray, List.getElem_cons_zero, List.getElem_cons_succ, List.setIfInBounds_toArray, List.set_cons_zero, List.set_cons_succ]
  refine wpAnyH_take (i := 8) (v := ?_) rfl (by kernel_rfl) (by kernel_rfl) (by kernel_rfl) (fun _ _ _ h => h) (Or.inl ⟨by kernel_rfl, ?_⟩) hH0 ?_
  rotate_left 1
  · intro w hSw
    go_simp
    rw [K2.out w hSw]
    rfl
    try with_reducible rfl
  try simp only [Act.put, List.getElem_toArray, List.getElem_cons_zero, List.getElem_cons_succ, List.setIfInBounds_toArray, List.set_cons_zero, List.set_cons_succ]
  refine wpAnyH_ready (rs := [5]) (by kernel_rfl) (by simp) ?_
  refine AllReadyH.cons rfl (fun K_ hK => ?_) ?_
  · go_simp
    refine (HN.out _).mono ?_
    rintro e W1 ⟨rfl, hb1⟩
    refine hK.out _ _ ((hH0).trans (hb1.mono (hH0).size)) (fun hH1 => ?_)
    clear hK K_
    try simp only [Act.put, List.getElem_toArray, List.getElem_cons_zero, List.getElem_cons_succ, List.setIfInBounds_toArray, List.set_cons_zero, List.set_cons_succ]
    refine wpAnyH_ready (rs := [9]) (by kernel_rfl) (by simp) ?_
    refine AllReadyH.cons rfl (fun K_ hK => ?_) ?_
    · go_simp
      have hb2 := (Below.refl W1.heap.size W1).alloc (Nat.le_refl _) (.cells #[.string ⟨#[114]⟩, .string ⟨t0.toArray⟩, .string ⟨t1.toArray⟩, .string ⟨t2.toArray⟩] 9)
      have hS2 := strs_four W1 [114] t0 t1 t2
      obtain ⟨W2, hW2⟩ : ∃ W, W = W1.alloc (.cells #[.string ⟨#[114]⟩, .string ⟨t0.toArray⟩, .string ⟨t1.toArray⟩, .string ⟨t2.toArray⟩] 9) := ⟨_, rfl⟩
      rw [← hW2] at hb2 hS2 ⊢
      clear hW2
      have hS := Lib.hid hS2
      refine hK.out _ _ ((hH1).trans (hb2.mono (hH1).size)) (fun hH2 => ?_)
      clear hK K_
      try simp only [Act.put, List.getElem_toArray, List.getElem_cons_zero, List.getElem_cons_succ, List.setIfInBounds_toArray, List.set_cons_zero, List.set_cons_succ]
      refine wpAnyH_ready (rs := [10]) (by kernel_rfl) (by simp) ?_
      refine AllReadyH.cons rfl (fun K_ hK => ?_) ?_
      · go_simp
        refine (row_any _ _ [[114], t0, t1, t2] _ hS.out HL.out).mono ?_
        rintro e W3 ⟨rfl, hb3⟩
        rw [HR.out]
        refine hK.out _ _ ((hH2).trans (hb3.mono (hH2).size)) (fun hH3 => ?_)
        clear hK K_
        try simp only [Act.put, List.getElem_toArray, List.getElem_cons_zero, List.getElem_cons_succ, List.setIfInBounds_toArray, List.set_cons_zero, List.set_cons_succ]
        refine wpAnyH_take (i := 11) (v := ?_) rfl (by kernel_rfl) (by kernel_rfl) (by kernel_rfl) (fun _ _ _ h => h) (Or.inl ⟨by kernel_rfl, ?_⟩) hH3 ?_
        rotate_left 1
        · intro w hSw
          go_simp
          try with_reducible rfl
        try simp only [Act.put, List.getElem_toArray, List.getElem_cons_zero, List.getElem_cons_succ, List.setIfInBounds_toArray, List.set_cons_zero, List.set_cons_succ]
        refine wpAnyH_done (by kernel_rfl) ?_ _
        have HH := Lib.hid hH3
        clear hH3
        go_wp2_with fail
        go_ret
        exact ⟨rfl, hb.out.trans (HH.out.mono hb.out.size)⟩
      exact AllReadyH.nil
    exact AllReadyH.nil
  exact AllReadyH.nil

/-! ### asRecord -/
theorem bag_rangeR {w : World} {g cap n : Nat} {cs : List Value} (h : Bag w 1 g cap n cs) : w.rangeAt g 0 cs := fun k v hv => by
  rw [Nat.zero_add]; exact h.holds k v hv
theorem wp_load_digR {op : Oper} {a : Act} {w : World} {K : Act → World → Prop} {Q : Exit → Act → World → Prop} (x : Operand) (ho : op.op = .load 23 x)
    (b o : Nat) (hx : a.eval x = .pointer (some ⟨b, o, none⟩)) (d : List UInt8) (hd : d.length = 32) (hc : w.rangeAt b o (byV d))
    (h : K (a.put op.dst (.agg (digV d))) w) : op.wp Tryd.prog a w K Q :=
  wp_load_mid 23 x ho b o hx (byV d) _ hc Tryd.underlying23 rfl (by rw [byV_length, hd]; exact dig_info) h
theorem arr_atR (A : Option Addr) (cap : Nat) (W : World) : (Instr.arrayAt 23 (.slice A 32 cap)).run Tryd.prog W = .ok (.pointer A) W := run_arrayAt (P := Tryd.prog) (w := W) 23 5 32 A 32 cap Tryd.underlying23 (Nat.le_refl _)
def recPlaces : List (Nat × Nat) := [(0, 32), (32, 1), (33, 32)]
set_option maxRecDepth 100000 in
theorem built_rec (k o : List UInt8) (c : Int) (hk : k.length = 32) (ho : o.length = 32) : Tryd.prog.built 26 [(0, .agg (digV k)), (1, .int .i64 c), (2, .agg (digV o))] = some (RecD.mk k c o).row := by
  obtain ⟨it, hit, hz⟩ := Option.map_eq_some_iff.1 rec_zero
  have hp : ∀ fs, Tryd.prog.underlying 26 = some (.struct fs) → fs.toList.mapM (fun f => (Tryd.prog.info? f.type).map fun i => (f.offset, i.size)) = some recPlaces := by
    intro fs h
    obtain rfl := (TypeDesc.struct.inj (Option.some.inj (Tryd.underlying26.symm.trans h)))
    kernel_rfl
  unfold Program.built
  rw [hit]
  simp only [Tryd.underlying26]
  rw [hz, hp _ Tryd.underlying26]
  have h1 := fill_seg (place := (recPlaces.toArray[·]?)) (i := 0) (v := .agg (digV k)) (rest := [(1, .int .i64 c), (2, .agg (digV o))]) (pre := []) (old := byV (List.replicate 32 0)) (vs := byV k) (off := 0) (size := 32)
    (post := Value.int .i64 0 :: byV (List.replicate 32 0)) rfl (cells_agg _) (by rw [byV_length, hk]) rfl (by simp [byV_length])
  have h2 := fill_seg (place := (recPlaces.toArray[·]?)) (i := 1) (v := .int .i64 c) (rest := [(2, .agg (digV o))]) (pre := byV k) (old := [Value.int .i64 0]) (vs := [Value.int .i64 c]) (off := 32) (size := 1)
    (post := byV (List.replicate 32 0)) rfl (cells_int _ _) rfl (by rw [byV_length, hk]) rfl
  have h3 := fill_seg (place := (recPlaces.toArray[·]?)) (i := 2) (v := .agg (digV o)) (rest := []) (pre := byV k ++ [Value.int .i64 c]) (old := byV (List.replicate 32 0)) (vs := byV o) (off := 33) (size := 32)
    (post := []) rfl (cells_agg _) (by rw [byV_length, ho]) (by simp [byV_length, hk]) (by simp [byV_length])
  simp only [List.append_assoc, List.singleton_append, List.cons_append, List.nil_append, List.append_nil] at h1 h2 h3
  exact ((h1.trans h2).trans h3).trans (fill_nil _ _)
end Go.Proofs.YteihfoacdocgkaaDoor

set_option linter.unusedVariables false
set_option linter.unusedSimpArgs false
namespace Go.Proofs.YteihfoacdocgkaaDoor
open Go.RowKit Pl Sh
attribute [local go_sem] Lb.ba_get Lb.ba_cut Lb.ba_add Lb.ba_size Lb.take_rest

theorem textsB_mem : ∀ (ts : List (List UInt8)) (t : List UInt8), t ∈ ts → t.length ≤ (textsB ts).length
  | [], t, h => by cases h
  | x :: ts, t, h => by
    have e : (textsB (x :: ts)).length = (textB x).length + (textsB ts).length := by simp [textsB]
    rw [e]
    rcases List.mem_cons.1 h with rfl | h
    · have : (textB t).length = (num t.length).length + t.length := by simp [textB]
      omega
    · have := textsB_mem ts t h
      omega
theorem partsS_le (row : List UInt8) : ∀ t ∈ partsS row, t.length ≤ row.length := by
  intro t ht
  unfold partsS at ht
  split at ht
  · rename_i ts h
    have := row_of_rd h
    rw [List.append_nil] at this
    rw [← this]
    have h2 := textsB_mem ts t ht
    unfold srow
    rw [List.length_append]
    omega
  · cases ht
theorem rec_cells_int (r : RecD) : ∀ v ∈ r.cells, ∃ kd n, v = .int kd n := by
  intro v hv
  unfold RecD.cells byV at hv
  simp only [List.mem_append, List.mem_cons, List.mem_map] at hv
  rcases hv with ⟨_, -, rfl⟩ | rfl | ⟨_, -, rfl⟩ <;> exact ⟨_, _, rfl⟩
theorem wpList_load_rowGR {P : Program} {ops : Array Oper} {rest : List Oper} {o : Oper} {a : Act} {w : World} {Q : Exit → Act → World → Prop} (hw : Region.wanted o (yielded ops a.tmps) = true) (ty : TypeId) (x : Operand) (ho : o.op = .load ty x)
    (g : Nat) (hx : a.eval x = .pointer (some ⟨g, 0, none⟩)) (t : TypeId) (cs : Array Value) (fr : Nat × Nat) (d : TypeDesc) (hg : w.heap[g]? = some (.cells cs t fr))
    (hu : P.underlying ty = some d) (hd : (match d with | .struct _ | .array _ _ => true | _ => false) = true) (hi : (P.info? ty).map (·.size) = some cs.size)
    (h : wpList P ops Q rest (a.put o.dst (.agg cs)) w) : wpList P ops Q (o :: rest) a w :=
  BigFrame.wpList_want hw fun _ hK => wp_load_row ty x ho g hx t cs fr d hg hu hd hi (hK _ _ h)
theorem results_cell_row2R {P : Program} {fn : Func} {p u : Tmp} {ty : TypeId} (h : fn.results = #[.cell p ty, .tmp u]) (tmps : Array Value) (w : World) (g : Nat) (t : TypeId) (cs : Array Value) (fr : Nat × Nat) (d : TypeDesc)
    (hp : tmps.getD p undef = .pointer (some ⟨g, 0, none⟩)) (hg : w.heap[g]? = some (.cells cs t fr))
    (hu : P.underlying ty = some d) (hd : (match d with | .struct _ | .array _ _ => true | _ => false) = true) (hi : (P.info? ty).map (·.size) = some cs.size) :
    (results fn tmps).run P w = .ok (.tuple #[.agg cs, tmps.getD u undef]) w := by
  have hp' : tmps[p]?.getD undef = .pointer (some ⟨g, 0, none⟩) := by simpa using hp
  simp [results, h, hp', asAddr, run_loadVar_row w g t ty cs fr d hg hu hd hi]
theorem asRec_yes {k c o : List UInt8} {n : Int} (hk : k.length = 32) (ho : o.length = 32) (h : rdNum c = some (n, [])) : asRec [[114], k, c, o] = if isRecS ⟨k, n, o⟩ = true then some ⟨k, n, o⟩ else none := by
  show (if ([114] : List UInt8) = [114] ∧ k.length = 32 ∧ o.length = 32 then _ else _) = _
  rw [if_pos ⟨rfl, hk, ho⟩, h]
theorem asRec_no {k c o : List UInt8} (h : ∀ n, rdNum c ≠ some (n, [])) : asRec [[114], k, c, o] = none := by
  show (if ([114] : List UInt8) = [114] ∧ k.length = 32 ∧ o.length = 32 then _ else _) = _
  by_cases hc : ([114] : List UInt8) = [114] ∧ k.length = 32 ∧ o.length = 32
  · rw [if_pos hc]
    cases hr : rdNum c with
    | none => rfl
    | some p =>
      obtain ⟨n, r⟩ := p
      cases r with
      | nil => exact absurd hr (h n)
      | cons x l => rfl
  · rw [if_neg hc]
theorem asRec_no4 : ∀ (ts : List (List UInt8)), ¬ ts.length = 4 → asRec ts = none
  | [], _ => rfl
  | [_], _ => rfl
  | [_, _], _ => rfl
  | [_, _, _], _ => rfl
  | [_, _, _, _], h => absurd rfl h
  | _ :: _ :: _ :: _ :: _ :: _, _ => rfl
set_option maxHeartbeats 4000000 in
set_option maxRecDepth 100000 in
theorem asRecord_any (row : List UInt8) (w : World) (hl : row.length ≤ 140737488351232) :
    Calls Tryd.prog 72 #[.string ⟨row.toArray⟩] w fun e w' => e = .returned (.tuple #[.agg ((asRecS row).getD zeroRec).row, .bool (asRecS row).isSome]) ∧ Below w.heap.size w w' := by
  have hpp := Lib.hid (fun W => hparts_any row W hl)
  have htl : ∀ t ∈ partsS row, t.length ≤ row.length := partsS_le row
  obtain ⟨res, hres⟩ : ∃ r, r = asRecS row := ⟨_, rfl⟩
  rw [← hres]
  unfold asRecS at hres
  obtain ⟨ts, hts⟩ : ∃ ts, ts = partsS row := ⟨_, rfl⟩
  unfold PartsPost at hpp
  rw [← hts] at hpp hres htl
  have HR := Lib.hid hres
  have Htl := Lib.hid htl
  have hz0 := heap_alloc_new w (.cells zeroRec.row 26)
  have hb0 := (Below.refl w.heap.size w).alloc (Nat.le_refl _) (.cells zeroRec.row 26)
  have hzs : zeroRec.row.size = 65 := RecD.row_size zeroRec_fit
  have hzi : (Tryd.prog.info? 26).map (·.size) = some zeroRec.row.size := by rw [hzs]; exact rec_info
  have hzo := RecD.row_one zeroRec
  clear hts hres htl
  go_enter Tryd.func72, Tryd.ntmps72
  go_upto_region 1 with fail
  show Code.wp _ _ _ _ (w.alloc (.cells zeroRec.row 26))
  obtain ⟨q, hq⟩ : ∃ q, q = w.heap.size := ⟨_, rfl⟩
  obtain ⟨w1, hw1⟩ : ∃ y, y = w.alloc (.cells zeroRec.row 26) := ⟨_, rfl⟩
  rw [← hw1] at hz0 hb0 ⊢
  rw [← hq] at hz0 ⊢
  obtain ⟨ZR, hZR⟩ : ∃ Z, Z = zeroRec.row := ⟨_, rfl⟩
  rw [← hZR] at hz0 hzs hzi hzo
  have HZR := Lib.hid hZR
  have HQ1 := Lib.hid hz0
  have HB1 := Lib.hid hb0
  have Hq := Lib.hid hq
  clear hw1 hz0 hb0 hq hZR
  go_wp2_with fail
  refine (hpp.out w1).mono ?_
  rintro e w2 ⟨A, cap, rfl, hS, h4, hB⟩
  have HQ2 := Lib.hid (below_keep hB HQ1.out)
  have HB2 := Lib.hid (HB1.out.trans (hB.mono HB1.out.size))
  have HS := Lib.hid hS
  clear hB hpp HQ1 HB1 hS
  have hqw : w.heap.size ≤ q := by rw [Hq.out]; exact Nat.le_refl _
  by_cases h4l : ts.length = 4
  · obtain ⟨a, k, c, o, rfl⟩ : ∃ a k c o, ts = [a, k, c, o] := by
      match ts, h4l with
      | [a, k, c, o], _ => exact ⟨a, k, c, o, rfl⟩
    obtain ⟨x, rfl, hxl, hc0⟩ := HS.out 0 (by simp)
    obtain ⟨y, hy, -, hc1⟩ := HS.out 1 (by simp)
    obtain rfl := Option.some.inj hy
    obtain ⟨y, hy, -, hc2⟩ := HS.out 2 (by simp)
    obtain rfl := Option.some.inj hy
    obtain ⟨y, hy, -, hc3⟩ := HS.out 3 (by simp)
    obtain rfl := Option.some.inj hy
    have hsp := spot_of_cell' hc0
    obtain ⟨b0, o0, s0⟩ := x
    have hsp0 : s0 = none := by
      rw [Addr.add] at hsp
      cases s0 with
      | none => rfl
      | some y => simp at hsp
    subst hsp0
    rw [Addr.add_lit] at hc0 hc1 hc2 hc3
    have c0 : w2.cell? ⟨b0, o0, none⟩ = some (.string ⟨a.toArray⟩) := hc0
    have c1 : w2.cell? ⟨b0, o0 + 1, none⟩ = some (.string ⟨k.toArray⟩) := hc1
    have c2 : w2.cell? ⟨b0, o0 + 2, none⟩ = some (.string ⟨c.toArray⟩) := hc2
    have c3 : w2.cell? ⟨b0, o0 + 3, none⟩ = some (.string ⟨o.toArray⟩) := hc3
    have hcl : c.length ≤ row.length := Htl.out c (by simp)
    clear hc0 hc1 hc2 hc3 h4 h4l hsp HS Htl
    have e4 : ([a, k, c, o] : List (List UInt8)).length = 4 := rfl
    rw [e4]
    have e5 : ((4 : Int) != 4) = false := by decide
    by_cases ha : a = [114]
    · subst ha
      have s1 : ((⟨#[114]⟩ : ByteArray) != ⟨#[114]⟩) = false := ba_bneL [114] [114]
      have s2 : ((⟨#[114]⟩ : ByteArray) == ⟨#[114]⟩) = true := ba_beqL [114] [114]
      by_cases hk : k.length = 32
      · have k1 : ((k.length : Int) != 32) = false := by rw [hk]; decide
        by_cases ho : o.length = 32
        · have k2 : ((o.length : Int) != 32) = false := by rw [ho]; decide
          have hrn := Lib.hid (readNum_c c (by omega) w2)
          have hbq : b0 ≠ q := by
            intro e
            subst e
            rw [Lib.cell_of_heap HQ2.out, HZR.out] at c0
            unfold RecD.row at c0
            rw [List.getElem?_toArray] at c0
            obtain ⟨kd, n, e2⟩ := rec_cells_int zeroRec _ (List.mem_of_getElem? c0)
            cases e2
          clear e4 hy hl
          go_wp2_with fail
          refine hrn.out.mono ?_
          rintro e w3 ⟨n, r, ok, rfl, hgot, hB3⟩
          have hQ3 := below_keep hB3 HQ2.out
          have hb0l : b0 < w3.heap.size := Nat.lt_of_lt_of_le hxl hB3.size
          have d1 : w3.cell? ⟨b0, o0 + 1, none⟩ = some (.string ⟨k.toArray⟩) := (hB3.cell (p := ⟨b0, o0 + 1, none⟩) hxl).trans c1
          have d3 : w3.cell? ⟨b0, o0 + 3, none⟩ = some (.string ⟨o.toArray⟩) := (hB3.cell (p := ⟨b0, o0 + 3, none⟩) hxl).trans c3
          have hnb : -9223372036854775808 ≤ n ∧ n ≤ 9223372036854775807 := by
            rcases hgot with ⟨-, h⟩ | ⟨-, -, h, -⟩
            · have := rdNum_bounds h; exact ⟨this.1, this.2.1⟩
            · rw [h]; omega
          have hbd := built_rec k o n hk ho
          have hfit : (RecD.mk k n o).Fit := ⟨hk, ho, hnb.1, hnb.2⟩
          have hRs : (RecD.mk k n o).row.size = 65 := RecD.row_size hfit
          have hRi : (Tryd.prog.info? 26).map (·.size) = some (RecD.mk k n o).row.size := by rw [hRs]; exact rec_info
          have hRo := RecD.row_one (RecD.mk k n o)
          have hisr := fun W => isRecord_any (RecD.mk k n o) W hfit
          obtain ⟨R, hRd⟩ : ∃ R, R = (RecD.mk k n o).row := ⟨_, rfl⟩
          rw [← hRd] at hbd hRs hRi hRo
          simp only [← hRd] at hisr
          have HRd := Lib.hid hRd
          have Hisr := Lib.hid hisr
          have HQ0 := Lib.hid hQ3
          have Hgot := Lib.hid hgot
          have HB3 := Lib.hid (HB2.out.trans (hB3.mono HB2.out.size))
          have hkl : k.length ≤ 281474976710656 := by omega
          have hol : o.length ≤ 281474976710656 := by omega
          clear hrn hgot hB3 hQ3 hRd hisr c0 c1 c2 c3 hxl hnb hfit k1 k2 s1 s2 e5 hcl
          go_upto_region 5 with fail
          go_cut [3] from 41 (fun v wx => v = .bool ok ∧ wx.heap[q]? = some (.cells R 26 (0, 0)) ∧ Only [q] w3 wx)
          case first =>
            refine wp_region_held_drew (S := fun w' => Only [q] w3 w') (by kernel_rfl) ((Only.refl _ _).drew) (fun hH0 => ?_)
            obtain ⟨W0, hW0⟩ : ∃ W, W = w3.drew := ⟨_, rfl⟩
            have HQ : Hid (W0.heap[q]? = some (.cells ZR 26 (0, 0))) := Lib.hid (by rw [hW0]; exact HQ0.out)
            rw [← hW0] at hH0 ⊢
            clear hW0
            refine wpAnyH_take (i := 0) (v := ?_) rfl (by kernel_rfl) (by kernel_rfl) (by kernel_rfl) (fun _ _ _ h => h) (Or.inl ⟨by kernel_rfl, ?_⟩) hH0 ?_
            rotate_left 1
            · intro w hSw
              go_simp
              try with_reducible rfl
            try simp only [Act.put, List.getElem_toArray, List.getElem_cons_zero, List.getElem_cons_succ, List.setIfInBounds_toArray, List.set_cons_zero, List.set_cons_succ]
            refine wpAnyH_take (i := 1) (v := ?_) rfl (by kernel_rfl) (by kernel_rfl) (by kernel_rfl) (fun _ _ _ h => h) (Or.inl ⟨by kernel_rfl, ?_⟩) hH0 ?_
            rotate_left 1
            · intro w hSw
              go_simp
              try with_reducible rfl
            try simp only [Act.put, List.getElem_toArray, List.getElem_cons_zero, List.getElem_cons_succ, List.setIfInBounds_toArray, List.set_cons_zero, List.set_cons_succ]
            refine wpAnyH_take (i := 2) (v := ?_) rfl (by kernel_rfl) (by kernel_rfl) (by kernel_rfl) (fun _ _ _ h => h) (Or.inl ⟨by kernel_rfl, ?_⟩) hH0 ?_
            rotate_left 1
            · intro w hSw
              have f1 := (hSw.cell (p := ⟨b0, o0 + 1, none⟩) hb0l (by simp; exact hbq)).trans d1
              go_simp
              try with_reducible rfl
            try simp only [Act.put, List.getElem_toArray, List.getElem_cons_zero, List.getElem_cons_succ, List.setIfInBounds_toArray, List.set_cons_zero, List.set_cons_succ]
            refine wpAnyH_take (i := 6) (v := ?_) rfl (by kernel_rfl) (by kernel_rfl) (by kernel_rfl) (fun _ _ _ h => h) (Or.inl ⟨by kernel_rfl, ?_⟩) hH0 ?_
            rotate_left 1
            · intro w hSw
              go_simp
              try with_reducible rfl
            try simp only [Act.put, List.getElem_toArray, List.getElem_cons_zero, List.getElem_cons_succ, List.setIfInBounds_toArray, List.set_cons_zero, List.set_cons_succ]
            refine wpAnyH_take (i := 7) (v := ?_) rfl (by kernel_rfl) (by kernel_rfl) (by kernel_rfl) (fun _ _ _ h => h) (Or.inl ⟨by kernel_rfl, ?_⟩) hH0 ?_
            rotate_left 1
            · intro w hSw
              go_simp
              try with_reducible rfl
            try simp only [Act.put, List.getElem_toArray, List.getElem_cons_zero, List.getElem_cons_succ, List.setIfInBounds_toArray, List.set_cons_zero, List.set_cons_succ]
            refine wpAnyH_take (i := 8) (v := ?_) rfl (by kernel_rfl) (by kernel_rfl) (by kernel_rfl) (fun _ _ _ h => h) (Or.inl ⟨by kernel_rfl, ?_⟩) hH0 ?_
            rotate_left 1
            · intro w hSw
              go_simp
              try with_reducible rfl
            try simp only [Act.put, List.getElem_toArray, List.getElem_cons_zero, List.getElem_cons_succ, List.setIfInBounds_toArray, List.set_cons_zero, List.set_cons_succ]
            refine wpAnyH_take (i := 9) (v := ?_) rfl (by kernel_rfl) (by kernel_rfl) (by kernel_rfl) (fun _ _ _ h => h) (Or.inl ⟨by kernel_rfl, ?_⟩) hH0 ?_
            rotate_left 1
            · intro w hSw
              have f3 := (hSw.cell (p := ⟨b0, o0 + 3, none⟩) hb0l (by simp; exact hbq)).trans d3
              go_simp
              try with_reducible rfl
            try simp only [Act.put, List.getElem_toArray, List.getElem_cons_zero, List.getElem_cons_succ, List.setIfInBounds_toArray, List.set_cons_zero, List.set_cons_succ]
            refine wpAnyH_ready (rs := [3, 10]) (by kernel_rfl) (by simp) ?_
            refine AllReadyH.cons rfl (fun K_ hK => ?_) ?_
            · obtain ⟨W1, cap1, hcv1, ho1, hbg1⟩ := bytes_bag k W0 (by omega)
              have hb1 : Below W0.heap.size W0 W1 := Only.below ho1 (Nat.le_refl _) (by simp)
              have Rk := Lib.hid (bag_rangeR hbg1)
              have Lk := Lib.hid hbg1.lt
              have hcl1 := hbg1.le
              rw [hk] at hcv1 hcl1
              have hat1 := arr_atR (some ⟨W0.heap.size, 0, none⟩) cap1
              clear ho1 hbg1
              go_simp
              obtain ⟨gk, hgk⟩ : ∃ g, g = W0.heap.size := ⟨_, rfl⟩
              rw [← hgk] at Rk Lk hat1 ⊢
              clear hgk hcv1
              have HQ := Lib.hid (below_keep hb1 HQ.out)
              refine hK.out _ _ (hH0.belowB (hb1.mono hH0.size)) (fun hH1 => ?_)
              clear hK K_
              try simp only [Act.put, List.getElem_toArray, List.getElem_cons_zero, List.getElem_cons_succ, List.setIfInBounds_toArray, List.set_cons_zero, List.set_cons_succ]
              refine wpAnyH_take (i := 4) (v := ?_) rfl (by kernel_rfl) (by kernel_rfl) (by kernel_rfl) (fun _ _ _ h => h) (Or.inl ⟨by kernel_rfl, ?_⟩) hH1 ?_
              rotate_left 1
              · intro w hSw
                go_simp
                try with_reducible rfl
              try simp only [Act.put, List.getElem_toArray, List.getElem_cons_zero, List.getElem_cons_succ, List.setIfInBounds_toArray, List.set_cons_zero, List.set_cons_succ]
              refine wpAnyH_ready (rs := [5, 10]) (by kernel_rfl) (by simp) ?_
              refine AllReadyH.cons rfl (fun K_ hK => ?_) ?_
              · rw [if_pos (by rfl)]
                refine wp_load_digR _ rfl gk 0 rfl _ hk Rk.out ?_
                refine hK.out _ _ hH1 (fun hH2 => ?_)
                clear hK K_
                try simp only [Act.put, List.getElem_toArray, List.getElem_cons_zero, List.getElem_cons_succ, List.setIfInBounds_toArray, List.set_cons_zero, List.set_cons_succ]
                refine wpAnyH_ready (rs := [10]) (by kernel_rfl) (by simp) ?_
                refine AllReadyH.cons rfl (fun K_ hK => ?_) ?_
                · obtain ⟨W3, cap3, hcv3, ho3, hbg3⟩ := bytes_bag o W1 (by omega)
                  have hb3 : Below W1.heap.size W1 W3 := Only.below ho3 (Nat.le_refl _) (by simp)
                  have Ro := Lib.hid (bag_rangeR hbg3)
                  have Lo := Lib.hid hbg3.lt
                  have hcl3 := hbg3.le
                  rw [ho] at hcv3 hcl3
                  have hat3 := arr_atR (some ⟨W1.heap.size, 0, none⟩) cap3
                  have Rk := Lib.hid (range_below Rk.out hb3 Lk.out)
                  have Lk := Lib.hid (Nat.lt_of_lt_of_le Lk.out hb3.size)
                  clear ho3 hbg3
                  go_simp
                  obtain ⟨go, hgo⟩ : ∃ g, g = W1.heap.size := ⟨_, rfl⟩
                  rw [← hgo] at Ro Lo hat3 ⊢
                  clear hgo hcv3
                  have HQ := Lib.hid (below_keep hb3 HQ.out)
                  refine hK.out _ _ (hH2.belowB (hb3.mono hH2.size)) (fun hH3 => ?_)
                  clear hK K_
                  try simp only [Act.put, List.getElem_toArray, List.getElem_cons_zero, List.getElem_cons_succ, List.setIfInBounds_toArray, List.set_cons_zero, List.set_cons_succ]
                  refine wpAnyH_take (i := 11) (v := ?_) rfl (by kernel_rfl) (by kernel_rfl) (by kernel_rfl) (fun _ _ _ h => h) (Or.inl ⟨by kernel_rfl, ?_⟩) hH3 ?_
                  rotate_left 1
                  · intro w hSw
                    go_simp
                    try with_reducible rfl
                  try simp only [Act.put, List.getElem_toArray, List.getElem_cons_zero, List.getElem_cons_succ, List.setIfInBounds_toArray, List.set_cons_zero, List.set_cons_succ]
                  refine wpAnyH_ready (rs := [12]) (by kernel_rfl) (by simp) ?_
                  refine AllReadyH.cons rfl (fun K_ hK => ?_) ?_
                  · rw [if_pos (by rfl)]
                    refine wp_load_digR _ rfl go 0 rfl _ ho Ro.out ?_
                    refine hK.out _ _ hH3 (fun hH4 => ?_)
                    clear hK K_
                    try simp only [Act.put, List.getElem_toArray, List.getElem_cons_zero, List.getElem_cons_succ, List.setIfInBounds_toArray, List.set_cons_zero, List.set_cons_succ]
                    refine wpAnyH_take (i := 13) (v := _) rfl (by kernel_rfl) (by kernel_rfl) (by kernel_rfl) (fun _ _ _ h => h) (yieldsIf_build (by kernel_rfl) 26 _ rfl R (by simpa [Act.eval] using hbd)) hH4 ?_
                    try simp only [Act.put, List.getElem_toArray, List.getElem_cons_zero, List.getElem_cons_succ, List.setIfInBounds_toArray, List.set_cons_zero, List.set_cons_succ]
                    refine wpAnyH_ready (rs := [14]) (by kernel_rfl) (by simp) ?_
                    refine AllReadyH.cons rfl (fun K_ hK => ?_) ?_
                    · rw [if_pos (by rfl)]
                      refine wp_store_row 26 _ _ rfl q R rfl rfl 26 ZR HQ.out hRi (by rw [hRs, hzs]) hRo ?_
                      refine hK.out _ _ (hH4.setRow (by simp) _) (fun hH5 => ?_)
                      clear hK K_
                      try simp only [Act.put, List.getElem_toArray, List.getElem_cons_zero, List.getElem_cons_succ, List.setIfInBounds_toArray, List.set_cons_zero, List.set_cons_succ]
                      refine wpAnyH_done (by kernel_rfl) ?_ _
                      have HH := Lib.hid hH5
                      have HQR := Lib.hid (setRow_heap _ _ _ R _ _ HQ.out)
                      clear hH5
                      go_wp2_with fail
                      go_meet
                      case rel => exact ⟨rfl, HQR.out, HH.out⟩
                    exact AllReadyH.nil
                  exact AllReadyH.nil
                exact AllReadyH.nil
              refine AllReadyH.cons rfl (fun K_ hK => ?_) ?_
              · obtain ⟨W6, cap6, hcv6, ho6, hbg6⟩ := bytes_bag o W1 (by omega)
                have hb6 : Below W1.heap.size W1 W6 := Only.below ho6 (Nat.le_refl _) (by simp)
                have Ro := Lib.hid (bag_rangeR hbg6)
                have Lo := Lib.hid hbg6.lt
                have hcl6 := hbg6.le
                rw [ho] at hcv6 hcl6
                have hat6 := arr_atR (some ⟨W1.heap.size, 0, none⟩) cap6
                have Rk := Lib.hid (range_below Rk.out hb6 Lk.out)
                have Lk := Lib.hid (Nat.lt_of_lt_of_le Lk.out hb6.size)
                clear ho6 hbg6
                go_simp
                obtain ⟨go, hgo⟩ : ∃ g, g = W1.heap.size := ⟨_, rfl⟩
                rw [← hgo] at Ro Lo hat6 ⊢
                clear hgo hcv6
                have HQ := Lib.hid (below_keep hb6 HQ.out)
                refine hK.out _ _ (hH1.belowB (hb6.mono hH1.size)) (fun hH6 => ?_)
                clear hK K_
                try simp only [Act.put, List.getElem_toArray, List.getElem_cons_zero, List.getElem_cons_succ, List.setIfInBounds_toArray, List.set_cons_zero, List.set_cons_succ]
                refine wpAnyH_take (i := 11) (v := ?_) rfl (by kernel_rfl) (by kernel_rfl) (by kernel_rfl) (fun _ _ _ h => h) (Or.inl ⟨by kernel_rfl, ?_⟩) hH6 ?_
                rotate_left 1
                · intro w hSw
                  go_simp
                  try with_reducible rfl
                try simp only [Act.put, List.getElem_toArray, List.getElem_cons_zero, List.getElem_cons_succ, List.setIfInBounds_toArray, List.set_cons_zero, List.set_cons_succ]
                refine wpAnyH_ready (rs := [5, 12]) (by kernel_rfl) (by simp) ?_
                refine AllReadyH.cons rfl (fun K_ hK => ?_) ?_
                · rw [if_pos (by rfl)]
                  refine wp_load_digR _ rfl gk 0 rfl _ hk Rk.out ?_
                  refine hK.out _ _ hH6 (fun hH7 => ?_)
                  clear hK K_
                  try simp only [Act.put, List.getElem_toArray, List.getElem_cons_zero, List.getElem_cons_succ, List.setIfInBounds_toArray, List.set_cons_zero, List.set_cons_succ]
                  refine wpAnyH_ready (rs := [12]) (by kernel_rfl) (by simp) ?_
                  refine AllReadyH.cons rfl (fun K_ hK => ?_) ?_
                  · rw [if_pos (by rfl)]
                    refine wp_load_digR _ rfl go 0 rfl _ ho Ro.out ?_
                    refine hK.out _ _ hH7 (fun hH8 => ?_)
                    clear hK K_
                    try simp only [Act.put, List.getElem_toArray, List.getElem_cons_zero, List.getElem_cons_succ, List.setIfInBounds_toArray, List.set_cons_zero, List.set_cons_succ]
                    refine wpAnyH_take (i := 13) (v := _) rfl (by kernel_rfl) (by kernel_rfl) (by kernel_rfl) (fun _ _ _ h => h) (yieldsIf_build (by kernel_rfl) 26 _ rfl R (by simpa [Act.eval] using hbd)) hH8 ?_
                    try simp only [Act.put, List.getElem_toArray, List.getElem_cons_zero, List.getElem_cons_succ, List.setIfInBounds_toArray, List.set_cons_zero, List.set_cons_succ]
                    refine wpAnyH_ready (rs := [14]) (by kernel_rfl) (by simp) ?_
                    refine AllReadyH.cons rfl (fun K_ hK => ?_) ?_
                    · rw [if_pos (by rfl)]
                      refine wp_store_row 26 _ _ rfl q R rfl rfl 26 ZR HQ.out hRi (by rw [hRs, hzs]) hRo ?_
                      refine hK.out _ _ (hH8.setRow (by simp) _) (fun hH9 => ?_)
                      clear hK K_
                      try simp only [Act.put, List.getElem_toArray, List.getElem_cons_zero, List.getElem_cons_succ, List.setIfInBounds_toArray, List.set_cons_zero, List.set_cons_succ]
                      refine wpAnyH_done (by kernel_rfl) ?_ _
                      have HH := Lib.hid hH9
                      have HQR := Lib.hid (setRow_heap _ _ _ R _ _ HQ.out)
                      clear hH9
                      go_wp2_with fail
                      go_meet
                      case rel => exact ⟨rfl, HQR.out, HH.out⟩
                    exact AllReadyH.nil
                  exact AllReadyH.nil
                refine AllReadyH.cons rfl (fun K_ hK => ?_) ?_
                · rw [if_pos (by rfl)]
                  refine wp_load_digR _ rfl go 0 rfl _ ho Ro.out ?_
                  refine hK.out _ _ hH6 (fun hH10 => ?_)
                  clear hK K_
                  try simp only [Act.put, List.getElem_toArray, List.getElem_cons_zero, List.getElem_cons_succ, List.setIfInBounds_toArray, List.set_cons_zero, List.set_cons_succ]
                  refine wpAnyH_ready (rs := [5]) (by kernel_rfl) (by simp) ?_
                  refine AllReadyH.cons rfl (fun K_ hK => ?_) ?_
                  · rw [if_pos (by rfl)]
                    refine wp_load_digR _ rfl gk 0 rfl _ hk Rk.out ?_
                    refine hK.out _ _ hH10 (fun hH11 => ?_)
                    clear hK K_
                    try simp only [Act.put, List.getElem_toArray, List.getElem_cons_zero, List.getElem_cons_succ, List.setIfInBounds_toArray, List.set_cons_zero, List.set_cons_succ]
                    refine wpAnyH_take (i := 13) (v := _) rfl (by kernel_rfl) (by kernel_rfl) (by kernel_rfl) (fun _ _ _ h => h) (yieldsIf_build (by kernel_rfl) 26 _ rfl R (by simpa [Act.eval] using hbd)) hH11 ?_
                    try simp only [Act.put, List.getElem_toArray, List.getElem_cons_zero, List.getElem_cons_succ, List.setIfInBounds_toArray, List.set_cons_zero, List.set_cons_succ]
                    refine wpAnyH_ready (rs := [14]) (by kernel_rfl) (by simp) ?_
                    refine AllReadyH.cons rfl (fun K_ hK => ?_) ?_
                    · rw [if_pos (by rfl)]
                      refine wp_store_row 26 _ _ rfl q R rfl rfl 26 ZR HQ.out hRi (by rw [hRs, hzs]) hRo ?_
                      refine hK.out _ _ (hH11.setRow (by simp) _) (fun hH12 => ?_)
                      clear hK K_
                      try simp only [Act.put, List.getElem_toArray, List.getElem_cons_zero, List.getElem_cons_succ, List.setIfInBounds_toArray, List.set_cons_zero, List.set_cons_succ]
                      refine wpAnyH_done (by kernel_rfl) ?_ _
                      have HH := Lib.hid hH12
                      have HQR := Lib.hid (setRow_heap _ _ _ R _ _ HQ.out)
                      clear hH12
                      go_wp2_with fail
                      go_meet
                      case rel => exact ⟨rfl, HQR.out, HH.out⟩
                    exact AllReadyH.nil
                  exact AllReadyH.nil
                exact AllReadyH.nil
              exact AllReadyH.nil
            refine AllReadyH.cons rfl (fun K_ hK => ?_) ?_
            · obtain ⟨W13, cap13, hcv13, ho13, hbg13⟩ := bytes_bag o W0 (by omega)
              have hb13 : Below W0.heap.size W0 W13 := Only.below ho13 (Nat.le_refl _) (by simp)
              have Ro := Lib.hid (bag_rangeR hbg13)
              have Lo := Lib.hid hbg13.lt
              have hcl13 := hbg13.le
              rw [ho] at hcv13 hcl13
              have hat13 := arr_atR (some ⟨W0.heap.size, 0, none⟩) cap13
              clear ho13 hbg13
              go_simp
              obtain ⟨go, hgo⟩ : ∃ g, g = W0.heap.size := ⟨_, rfl⟩
              rw [← hgo] at Ro Lo hat13 ⊢
              clear hgo hcv13
              have HQ := Lib.hid (below_keep hb13 HQ.out)
              refine hK.out _ _ (hH0.belowB (hb13.mono hH0.size)) (fun hH13 => ?_)
              clear hK K_
              try simp only [Act.put, List.getElem_toArray, List.getElem_cons_zero, List.getElem_cons_succ, List.setIfInBounds_toArray, List.set_cons_zero, List.set_cons_succ]
              refine wpAnyH_take (i := 11) (v := ?_) rfl (by kernel_rfl) (by kernel_rfl) (by kernel_rfl) (fun _ _ _ h => h) (Or.inl ⟨by kernel_rfl, ?_⟩) hH13 ?_
              rotate_left 1
              · intro w hSw
                go_simp
                try with_reducible rfl
              try simp only [Act.put, List.getElem_toArray, List.getElem_cons_zero, List.getElem_cons_succ, List.setIfInBounds_toArray, List.set_cons_zero, List.set_cons_succ]
              refine wpAnyH_ready (rs := [3, 12]) (by kernel_rfl) (by simp) ?_
              refine AllReadyH.cons rfl (fun K_ hK => ?_) ?_
              · obtain ⟨W14, cap14, hcv14, ho14, hbg14⟩ := bytes_bag k W13 (by omega)
                have hb14 : Below W13.heap.size W13 W14 := Only.below ho14 (Nat.le_refl _) (by simp)
                have Rk := Lib.hid (bag_rangeR hbg14)
                have Lk := Lib.hid hbg14.lt
                have hcl14 := hbg14.le
                rw [hk] at hcv14 hcl14
                have hat14 := arr_atR (some ⟨W13.heap.size, 0, none⟩) cap14
                have Ro := Lib.hid (range_below Ro.out hb14 Lo.out)
                have Lo := Lib.hid (Nat.lt_of_lt_of_le Lo.out hb14.size)
                clear ho14 hbg14
                go_simp
                obtain ⟨gk, hgk⟩ : ∃ g, g = W13.heap.size := ⟨_, rfl⟩
                rw [← hgk] at Rk Lk hat14 ⊢
                clear hgk hcv14
                have HQ := Lib.hid (below_keep hb14 HQ.out)
                refine hK.out _ _ (hH13.belowB (hb14.mono hH13.size)) (fun hH14 => ?_)
                clear hK K_
                try simp only [Act.put, List.getElem_toArray, List.getElem_cons_zero, List.getElem_cons_succ, List.setIfInBounds_toArray, List.set_cons_zero, List.set_cons_succ]
                refine wpAnyH_take (i := 4) (v := ?_) rfl (by kernel_rfl) (by kernel_rfl) (by kernel_rfl) (fun _ _ _ h => h) (Or.inl ⟨by kernel_rfl, ?_⟩) hH14 ?_
                rotate_left 1
                · intro w hSw
                  go_simp
                  try with_reducible rfl
                try simp only [Act.put, List.getElem_toArray, List.getElem_cons_zero, List.getElem_cons_succ, List.setIfInBounds_toArray, List.set_cons_zero, List.set_cons_succ]
                refine wpAnyH_ready (rs := [5, 12]) (by kernel_rfl) (by simp) ?_
                refine AllReadyH.cons rfl (fun K_ hK => ?_) ?_
                · rw [if_pos (by rfl)]
                  refine wp_load_digR _ rfl gk 0 rfl _ hk Rk.out ?_
                  refine hK.out _ _ hH14 (fun hH15 => ?_)
                  clear hK K_
                  try simp only [Act.put, List.getElem_toArray, List.getElem_cons_zero, List.getElem_cons_succ, List.setIfInBounds_toArray, List.set_cons_zero, List.set_cons_succ]
                  refine wpAnyH_ready (rs := [12]) (by kernel_rfl) (by simp) ?_
                  refine AllReadyH.cons rfl (fun K_ hK => ?_) ?_
                  · rw [if_pos (by rfl)]
                    refine wp_load_digR _ rfl go 0 rfl _ ho Ro.out ?_
                    refine hK.out _ _ hH15 (fun hH16 => ?_)
                    clear hK K_
                    try simp only [Act.put, List.getElem_toArray, List.getElem_cons_zero, List.getElem_cons_succ, List.setIfInBounds_toArray, List.set_cons_zero, List.set_cons_succ]
                    refine wpAnyH_take (i := 13) (v := _) rfl (by kernel_rfl) (by kernel_rfl) (by kernel_rfl) (fun _ _ _ h => h) (yieldsIf_build (by kernel_rfl) 26 _ rfl R (by simpa [Act.eval] using hbd)) hH16 ?_
                    try simp only [Act.put, List.getElem_toArray, List.getElem_cons_zero, List.getElem_cons_succ, List.setIfInBounds_toArray, List.set_cons_zero, List.set_cons_succ]
                    refine wpAnyH_ready (rs := [14]) (by kernel_rfl) (by simp) ?_
                    refine AllReadyH.cons rfl (fun K_ hK => ?_) ?_
                    · rw [if_pos (by rfl)]
                      refine wp_store_row 26 _ _ rfl q R rfl rfl 26 ZR HQ.out hRi (by rw [hRs, hzs]) hRo ?_
                      refine hK.out _ _ (hH16.setRow (by simp) _) (fun hH17 => ?_)
                      clear hK K_
                      try simp only [Act.put, List.getElem_toArray, List.getElem_cons_zero, List.getElem_cons_succ, List.setIfInBounds_toArray, List.set_cons_zero, List.set_cons_succ]
                      refine wpAnyH_done (by kernel_rfl) ?_ _
                      have HH := Lib.hid hH17
                      have HQR := Lib.hid (setRow_heap _ _ _ R _ _ HQ.out)
                      clear hH17
                      go_wp2_with fail
                      go_meet
                      case rel => exact ⟨rfl, HQR.out, HH.out⟩
                    exact AllReadyH.nil
                  exact AllReadyH.nil
                refine AllReadyH.cons rfl (fun K_ hK => ?_) ?_
                · rw [if_pos (by rfl)]
                  refine wp_load_digR _ rfl go 0 rfl _ ho Ro.out ?_
                  refine hK.out _ _ hH14 (fun hH18 => ?_)
                  clear hK K_
                  try simp only [Act.put, List.getElem_toArray, List.getElem_cons_zero, List.getElem_cons_succ, List.setIfInBounds_toArray, List.set_cons_zero, List.set_cons_succ]
                  refine wpAnyH_ready (rs := [5]) (by kernel_rfl) (by simp) ?_
                  refine AllReadyH.cons rfl (fun K_ hK => ?_) ?_
                  · rw [if_pos (by rfl)]
                    refine wp_load_digR _ rfl gk 0 rfl _ hk Rk.out ?_
                    refine hK.out _ _ hH18 (fun hH19 => ?_)
                    clear hK K_
                    try simp only [Act.put, List.getElem_toArray, List.getElem_cons_zero, List.getElem_cons_succ, List.setIfInBounds_toArray, List.set_cons_zero, List.set_cons_succ]
                    refine wpAnyH_take (i := 13) (v := _) rfl (by kernel_rfl) (by kernel_rfl) (by kernel_rfl) (fun _ _ _ h => h) (yieldsIf_build (by kernel_rfl) 26 _ rfl R (by simpa [Act.eval] using hbd)) hH19 ?_
                    try simp only [Act.put, List.getElem_toArray, List.getElem_cons_zero, List.getElem_cons_succ, List.setIfInBounds_toArray, List.set_cons_zero, List.set_cons_succ]
                    refine wpAnyH_ready (rs := [14]) (by kernel_rfl) (by simp) ?_
                    refine AllReadyH.cons rfl (fun K_ hK => ?_) ?_
                    · rw [if_pos (by rfl)]
                      refine wp_store_row 26 _ _ rfl q R rfl rfl 26 ZR HQ.out hRi (by rw [hRs, hzs]) hRo ?_
                      refine hK.out _ _ (hH19.setRow (by simp) _) (fun hH20 => ?_)
                      clear hK K_
                      try simp only [Act.put, List.getElem_toArray, List.getElem_cons_zero, List.getElem_cons_succ, List.setIfInBounds_toArray, List.set_cons_zero, List.set_cons_succ]
                      refine wpAnyH_done (by kernel_rfl) ?_ _
                      have HH := Lib.hid hH20
                      have HQR := Lib.hid (setRow_heap _ _ _ R _ _ HQ.out)
                      clear hH20
                      go_wp2_with fail
                      go_meet
                      case rel => exact ⟨rfl, HQR.out, HH.out⟩
                    exact AllReadyH.nil
                  exact AllReadyH.nil
                exact AllReadyH.nil
              refine AllReadyH.cons rfl (fun K_ hK => ?_) ?_
              · rw [if_pos (by rfl)]
                refine wp_load_digR _ rfl go 0 rfl _ ho Ro.out ?_
                refine hK.out _ _ hH13 (fun hH21 => ?_)
                clear hK K_
                try simp only [Act.put, List.getElem_toArray, List.getElem_cons_zero, List.getElem_cons_succ, List.setIfInBounds_toArray, List.set_cons_zero, List.set_cons_succ]
                refine wpAnyH_ready (rs := [3]) (by kernel_rfl) (by simp) ?_
                refine AllReadyH.cons rfl (fun K_ hK => ?_) ?_
                · obtain ⟨W22, cap22, hcv22, ho22, hbg22⟩ := bytes_bag k W13 (by omega)
                  have hb22 : Below W13.heap.size W13 W22 := Only.below ho22 (Nat.le_refl _) (by simp)
                  have Rk := Lib.hid (bag_rangeR hbg22)
                  have Lk := Lib.hid hbg22.lt
                  have hcl22 := hbg22.le
                  rw [hk] at hcv22 hcl22
                  have hat22 := arr_atR (some ⟨W13.heap.size, 0, none⟩) cap22
                  have Ro := Lib.hid (range_below Ro.out hb22 Lo.out)
                  have Lo := Lib.hid (Nat.lt_of_lt_of_le Lo.out hb22.size)
                  clear ho22 hbg22
                  go_simp
                  obtain ⟨gk, hgk⟩ : ∃ g, g = W13.heap.size := ⟨_, rfl⟩
                  rw [← hgk] at Rk Lk hat22 ⊢
                  clear hgk hcv22
                  have HQ := Lib.hid (below_keep hb22 HQ.out)
                  refine hK.out _ _ (hH21.belowB (hb22.mono hH21.size)) (fun hH22 => ?_)
                  clear hK K_
                  try simp only [Act.put, List.getElem_toArray, List.getElem_cons_zero, List.getElem_cons_succ, List.setIfInBounds_toArray, List.set_cons_zero, List.set_cons_succ]
                  refine wpAnyH_take (i := 4) (v := ?_) rfl (by kernel_rfl) (by kernel_rfl) (by kernel_rfl) (fun _ _ _ h => h) (Or.inl ⟨by kernel_rfl, ?_⟩) hH22 ?_
                  rotate_left 1
                  · intro w hSw
                    go_simp
                    try with_reducible rfl
                  try simp only [Act.put, List.getElem_toArray, List.getElem_cons_zero, List.getElem_cons_succ, List.setIfInBounds_toArray, List.set_cons_zero, List.set_cons_succ]
                  refine wpAnyH_ready (rs := [5]) (by kernel_rfl) (by simp) ?_
                  refine AllReadyH.cons rfl (fun K_ hK => ?_) ?_
                  · rw [if_pos (by rfl)]
                    refine wp_load_digR _ rfl gk 0 rfl _ hk Rk.out ?_
                    refine hK.out _ _ hH22 (fun hH23 => ?_)
                    clear hK K_
                    try simp only [Act.put, List.getElem_toArray, List.getElem_cons_zero, List.getElem_cons_succ, List.setIfInBounds_toArray, List.set_cons_zero, List.set_cons_succ]
                    refine wpAnyH_take (i := 13) (v := _) rfl (by kernel_rfl) (by kernel_rfl) (by kernel_rfl) (fun _ _ _ h => h) (yieldsIf_build (by kernel_rfl) 26 _ rfl R (by simpa [Act.eval] using hbd)) hH23 ?_
                    try simp only [Act.put, List.getElem_toArray, List.getElem_cons_zero, List.getElem_cons_succ, List.setIfInBounds_toArray, List.set_cons_zero, List.set_cons_succ]
                    refine wpAnyH_ready (rs := [14]) (by kernel_rfl) (by simp) ?_
                    refine AllReadyH.cons rfl (fun K_ hK => ?_) ?_
                    · rw [if_pos (by rfl)]
                      refine wp_store_row 26 _ _ rfl q R rfl rfl 26 ZR HQ.out hRi (by rw [hRs, hzs]) hRo ?_
                      refine hK.out _ _ (hH23.setRow (by simp) _) (fun hH24 => ?_)
                      clear hK K_
                      try simp only [Act.put, List.getElem_toArray, List.getElem_cons_zero, List.getElem_cons_succ, List.setIfInBounds_toArray, List.set_cons_zero, List.set_cons_succ]
                      refine wpAnyH_done (by kernel_rfl) ?_ _
                      have HH := Lib.hid hH24
                      have HQR := Lib.hid (setRow_heap _ _ _ R _ _ HQ.out)
                      clear hH24
                      go_wp2_with fail
                      go_meet
                      case rel => exact ⟨rfl, HQR.out, HH.out⟩
                    exact AllReadyH.nil
                  exact AllReadyH.nil
                exact AllReadyH.nil
              exact AllReadyH.nil
            exact AllReadyH.nil
          obtain ⟨rfl, hQ, hO⟩ := hcut
          have HQc := Lib.hid hQ
          have HBc : Hid (Below w.heap.size w wc) := Lib.hid (HB3.out.trans (hO.below HB3.out.size (by intro x hx; simp at hx; rw [hx]; exact hqw)))
          have hzb := built_rec0
          rw [← HZR.out] at hzb
          have Hzb := Lib.hid hzb
          clear hQ hO hbd hzb hkl hol d1 d3
          rcases Hgot.out with ⟨rfl, hrd⟩ | ⟨rfl, hrd, -, -⟩
          · by_cases hr : r = []
            · subst hr
              have hres : res = if isRecS ⟨k, n, o⟩ = true then some ⟨k, n, o⟩ else none := HR.out.trans (asRec_yes hk ho hrd)
              have Hres := Lib.hid hres
              obtain ⟨y, hy2⟩ : ∃ y, y = isRecS ⟨k, n, o⟩ := ⟨_, rfl⟩
              rw [← hy2] at Hisr
              have Hy := Lib.hid hy2
              clear hrd hres hy2 Hgot HR
              go_wp2_with (with_reducible refine wpList_load_rowGR (by kernel_rfl) 26 _ rfl q rfl 26 R (0, 0) _ HQc.out Tryd.underlying26 rfl hRi ?_)
              refine (Hisr.out wc).mono ?_
              rintro e w5 ⟨rfl, hB5⟩
              have HQ5 := Lib.hid (below_keep hB5 HQc.out)
              have HB5 := Lib.hid (HBc.out.trans (hB5.mono HBc.out.size))
              clear hB5 Hisr
              cases y with
              | true =>
                have HN : Hid (res = some ⟨k, n, o⟩) := Lib.hid (Hres.out.trans (if_pos Hy.out.symm))
                go_wp2_with (first
                  | (refine wpList_load_row rfl 26 _ rfl q rfl 26 R (0, 0) _ HQ5.out Tryd.underlying26 rfl hRi ?_)
                  | (refine wpList_store_row rfl 26 _ _ rfl q R rfl rfl 26 R HQ5.out hRi rfl hRo ?_))
                (try simp only [Exit.inBlock, Exit.then])
                refine bodyPost_ret (results_cell_row2R rfl _ _ q 26 R (0, 0) _ rfl (setRow_heap _ _ _ _ _ _ HQ5.out) Tryd.underlying26 rfl hRi) rfl ?_
                rw [HN.out, HRd.out]
                exact ⟨rfl, HB5.out.trans (((Only.refl [q] w5).setRow (by simp) _).below HB5.out.size (by intro x hx; simp at hx; rw [hx]; exact hqw))⟩
              | false =>
                have HN : Hid (res = none) := Lib.hid (Hres.out.trans (if_neg (by rw [← Hy.out]; decide)))
                go_wp2_with (first
                  | (refine wpList_build0' rfl 26 rfl ZR Hzb.out ?_)
                  | (refine wpList_store_row rfl 26 _ _ rfl q ZR rfl rfl 26 R HQ5.out hzi (by rw [hRs, hzs]) hzo ?_))
                (try simp only [Exit.inBlock, Exit.then])
                refine bodyPost_ret (results_cell_row2R rfl _ _ q 26 ZR (0, 0) _ rfl (setRow_heap _ _ _ _ _ _ HQ5.out) Tryd.underlying26 rfl hzi) rfl ?_
                rw [HN.out, HZR.out]
                exact ⟨rfl, HB5.out.trans (((Only.refl [q] w5).setRow (by simp) _).below HB5.out.size (by intro x hx; simp at hx; rw [hx]; exact hqw))⟩
            · have r1 : (r != []) = true := by simpa using hr
              have r2 : (r == []) = false := by simpa using hr
              have HN : Hid (res = none) := Lib.hid (HR.out.trans (asRec_no (fun m h => by rw [hrd] at h; simp only [Option.some.injEq, Prod.mk.injEq] at h; exact hr h.2)))
              have r3 : r.isEmpty = false := by simpa using hr
              clear hrd hr HR Hgot
              go_wp2_with (first
                | (refine wpList_build0' rfl 26 rfl ZR Hzb.out ?_)
                | (refine wpList_store_row rfl 26 _ _ rfl q ZR rfl rfl 26 R HQc.out hzi (by rw [hRs, hzs]) hzo ?_))
              (try simp only [Exit.inBlock, Exit.then])
              refine bodyPost_ret (results_cell_row2R rfl _ _ q 26 ZR (0, 0) _ rfl (setRow_heap _ _ _ _ _ _ HQc.out) Tryd.underlying26 rfl hzi) rfl ?_
              rw [HN.out, HZR.out]
              exact ⟨rfl, HBc.out.trans (((Only.refl [q] wc).setRow (by simp) _).below HBc.out.size (by intro x hx; simp at hx; rw [hx]; exact hqw))⟩
          · have HN : Hid (res = none) := Lib.hid (HR.out.trans (asRec_no (fun m h => by rw [hrd] at h; cases h)))
            clear hrd HR Hgot
            go_wp2_with (first
              | (refine wpList_build0' rfl 26 rfl ZR Hzb.out ?_)
              | (refine wpList_store_row rfl 26 _ _ rfl q ZR rfl rfl 26 R HQc.out hzi (by rw [hRs, hzs]) hzo ?_))
            (try simp only [Exit.inBlock, Exit.then])
            refine bodyPost_ret (results_cell_row2R rfl _ _ q 26 ZR (0, 0) _ rfl (setRow_heap _ _ _ _ _ _ HQc.out) Tryd.underlying26 rfl hzi) rfl ?_
            rw [HN.out, HZR.out]
            exact ⟨rfl, HBc.out.trans (((Only.refl [q] wc).setRow (by simp) _).below HBc.out.size (by intro x hx; simp at hx; rw [hx]; exact hqw))⟩
        · have k2 : ((o.length : Int) != 32) = true := by rw [bne_iff_ne]; omega
          have HN : Hid (res = none) := Lib.hid (HR.out.trans (if_neg (fun h => ho h.2.2)))
          clear ho HR
          go_wp2_with (first
            | (refine wpList_load_row rfl 26 _ rfl q rfl 26 ZR (0, 0) _ HQ2.out Tryd.underlying26 rfl hzi ?_)
            | (refine wpList_store_row rfl 26 _ _ rfl q ZR rfl rfl 26 ZR HQ2.out hzi rfl hzo ?_))
          (try simp only [Exit.inBlock, Exit.then])
          refine bodyPost_ret (results_cell_row2R rfl _ _ q 26 ZR (0, 0) _ rfl (setRow_heap _ _ _ _ _ _ HQ2.out) Tryd.underlying26 rfl hzi) rfl ?_
          rw [HN.out, HZR.out]
          exact ⟨rfl, HB2.out.trans (((Only.refl [q] w2).setRow (by simp) _).below HB2.out.size (by intro x hx; simp at hx; rw [hx]; exact hqw))⟩
      · have k1 : ((k.length : Int) != 32) = true := by rw [bne_iff_ne]; omega
        have HN : Hid (res = none) := Lib.hid (HR.out.trans (if_neg (fun h => hk h.2.1)))
        clear hk HR
        go_wp2_with (first
          | (refine wpList_load_row rfl 26 _ rfl q rfl 26 ZR (0, 0) _ HQ2.out Tryd.underlying26 rfl hzi ?_)
          | (refine wpList_store_row rfl 26 _ _ rfl q ZR rfl rfl 26 ZR HQ2.out hzi rfl hzo ?_))
        (try simp only [Exit.inBlock, Exit.then])
        refine bodyPost_ret (results_cell_row2R rfl _ _ q 26 ZR (0, 0) _ rfl (setRow_heap _ _ _ _ _ _ HQ2.out) Tryd.underlying26 rfl hzi) rfl ?_
        rw [HN.out, HZR.out]
        exact ⟨rfl, HB2.out.trans (((Only.refl [q] w2).setRow (by simp) _).below HB2.out.size (by intro x hx; simp at hx; rw [hx]; exact hqw))⟩
    · have hne : (a == [114]) = false := by simp [ha]
      have HN : Hid (res = none) := Lib.hid (HR.out.trans (if_neg (fun h => ha h.1)))
      clear ha HR
      go_wp2_with (first
        | (refine wpList_load_row rfl 26 _ rfl q rfl 26 ZR (0, 0) _ HQ2.out Tryd.underlying26 rfl hzi ?_)
        | (refine wpList_store_row rfl 26 _ _ rfl q ZR rfl rfl 26 ZR HQ2.out hzi rfl hzo ?_))
      (try simp only [Exit.inBlock, Exit.then])
      refine bodyPost_ret (results_cell_row2R rfl _ _ q 26 ZR (0, 0) _ rfl (setRow_heap _ _ _ _ _ _ HQ2.out) Tryd.underlying26 rfl hzi) rfl ?_
      rw [HN.out, HZR.out]
      exact ⟨rfl, HB2.out.trans (((Only.refl [q] w2).setRow (by simp) _).below HB2.out.size (by intro x hx; simp at hx; rw [hx]; exact hqw))⟩
  · have HN : Hid (res = none) := Lib.hid (HR.out.trans (asRec_no4 ts h4l))
    obtain ⟨m, hm⟩ : ∃ m, m = ts.length := ⟨_, rfl⟩
    rw [← hm] at h4 h4l ⊢
    have i1 : ((m : Int) != 4) = true := by simp; omega
    clear HR HS hm Htl
    go_wp2_with (first
      | (refine wpList_load_row rfl 26 _ rfl q rfl 26 ZR (0, 0) _ HQ2.out Tryd.underlying26 rfl hzi ?_)
      | (refine wpList_store_row rfl 26 _ _ rfl q ZR rfl rfl 26 ZR HQ2.out hzi rfl hzo ?_))
    (try simp only [Exit.inBlock, Exit.then])
    refine bodyPost_ret (results_cell_row2R rfl _ _ q 26 ZR (0, 0) _ rfl (setRow_heap _ _ _ _ _ _ HQ2.out) Tryd.underlying26 rfl hzi) rfl ?_
    rw [HN.out, HZR.out]
    exact ⟨rfl, HB2.out.trans (((Only.refl [q] w2).setRow (by simp) _).below HB2.out.size (by intro x hx; simp at hx; rw [hx]; exact hqw))⟩
end Go.Proofs.YteihfoacdocgkaaDoor

set_option linter.unusedVariables false
set_option linter.unusedSimpArgs false
namespace Go.Proofs.YteihfoacdocgkaaDoor
open Go.RowKit Pl Sh
attribute [local go_sem] Lb.ba_get Lb.ba_cut Lb.ba_add Lb.ba_size Lb.take_rest

/-- what a row says: an entry's kind and digest -/
def rowS (K : List Int) (row : List UInt8) : Option (Bool × List UInt8 × List UInt8) :=
  if (asBlobS row).2 = true then some (true, hashB K (asBlobS row).1, row) else match asRecS row with
    | some r => some (false, r.key, row)
    | none => none
/-- what a slot's text says -/
def rdS (K : List Int) : RdF := fun t => if 32 ≤ t.length ∧ textS K (t.drop 32) = t then rowS K (t.drop 32) else none
theorem asRec_fit {ts : List (List UInt8)} {r : RecD} (h : asRec ts = some r) : r.Fit ∧ isRecS r = true ∧ ∃ a c, ts = [a, r.key, c, r.out] ∧ a = [114] ∧ rdNum c = some (r.code, []) := by
  match ts, h with
  | [a, k, c, o], h =>
    have h' : (if a = [114] ∧ k.length = 32 ∧ o.length = 32 then
      (match rdNum c with
        | some (n, []) => if isRecS ⟨k, n, o⟩ = true then some ⟨k, n, o⟩ else none
        | _ => none) else none) = some r := h
    by_cases hc : a = [114] ∧ k.length = 32 ∧ o.length = 32
    · rw [if_pos hc] at h'
      split at h'
      · rename_i n hn
        by_cases hi : isRecS ⟨k, n, o⟩ = true
        · rw [if_pos hi] at h'
          obtain rfl := Option.some.inj h'
          have hb := rdNum_bounds hn
          exact ⟨⟨hc.2.1, hc.2.2, hb.1, hb.2.1⟩, hi, a, c, rfl, hc.1, hn⟩
        · rw [if_neg hi] at h'; cases h'
      · cases h'
    · rw [if_neg hc] at h'; cases h'
theorem rdS_short {K : List Int} {t : List UInt8} (h : (t.length : Int) < 32) : rdS K t = none := by
  unfold rdS
  rw [if_neg]
  rintro ⟨h1, -⟩
  omega
theorem rdS_bad {K : List Int} {t : List UInt8} (h : textS K (t.drop 32) ≠ t) : rdS K t = none := by
  unfold rdS
  rw [if_neg]
  rintro ⟨-, h1⟩
  exact h h1
theorem rdS_good {K : List Int} {t : List UInt8} (h : (32 : Int) ≤ (t.length : Int)) (h1 : textS K (t.drop 32) = t) : rdS K t = rowS K (t.drop 32) := by
  unfold rdS
  rw [if_pos]
  exact ⟨by omega, h1⟩
theorem rowS_blob {K : List Int} {row b : List UInt8} (h : asBlobS row = (b, true)) : rowS K row = some (true, hashB K b, row) := by
  unfold rowS
  rw [h, if_pos rfl]
theorem rowS_rec {K : List Int} {row b : List UInt8} (h : asBlobS row = (b, false)) : rowS K row = (asRecS row).map (fun r => (false, r.key, row)) := by
  unfold rowS
  rw [h, if_neg (by simp)]
  cases asRecS row <;> rfl
theorem asBlobS_le (row : List UInt8) : (asBlobS row).1.length ≤ 512 := by
  unfold asBlobS
  match partsS row with
  | [] => exact Nat.zero_le _
  | [_] => exact Nat.zero_le _
  | [a, b] =>
    show (if a = [98] ∧ b.length ≤ 512 then (b, true) else ([], false)).1.length ≤ 512
    split
    · rename_i h; exact h.2
    · exact Nat.zero_le _
  | _ :: _ :: _ :: _ => exact Nat.zero_le _
theorem asRecS_fit (row : List UInt8) : ((asRecS row).getD zeroRec).Fit := by
  cases h : asRecS row with
  | none => exact zeroRec_fit
  | some r => exact (asRec_fit h).1
set_option maxHeartbeats 4000000 in
set_option maxRecDepth 100000 in
theorem hread_any (K : List Int) (t : List UInt8) (w : World) (hL : Laid K w) (htl : t.length ≤ 1000) : ReadC (rdS K) t w := by
  unfold ReadC
  have h0 := heap_alloc_new w (.cells zeroName 127)
  have b0 := (Below.refl w.heap.size w).alloc (Nat.le_refl _) (.cells zeroName 127)
  have hzi := zeroName_info
  have hzo := zeroName_one
  have hzs : zeroName.size = 33 := by kernel_rfl
  have hzb := built_name0
  have HL := Lib.hid hL
  obtain ⟨res, hres⟩ : ∃ r, r = rdS K t := ⟨_, rfl⟩
  rw [← hres]
  have Hres := Lib.hid hres
  obtain ⟨ZN, hZN⟩ : ∃ Z, Z = zeroName := ⟨_, rfl⟩
  rw [← hZN] at h0 b0 hzi hzo hzs hzb
  have HZN := Lib.hid hZN
  clear hL hres
  go_enter Tryd.func124, Tryd.ntmps124
  go_upto_region 1 with fail
  show Code.wp _ _ _ _ (w.alloc (.cells zeroName 127))
  rw [← hZN]
  clear hZN
  obtain ⟨q, hq⟩ : ∃ q, q = w.heap.size := ⟨_, rfl⟩
  obtain ⟨w1, hw1⟩ : ∃ y, y = w.alloc (.cells ZN 127) := ⟨_, rfl⟩
  rw [← hw1] at h0 b0 ⊢
  rw [← hq] at h0 ⊢
  have hqw : w.heap.size ≤ q := by rw [hq]; exact Nat.le_refl _
  have HQ1 := Lib.hid h0
  have HB1 := Lib.hid b0
  have Hzb := Lib.hid hzb
  clear hw1 hq h0 b0 hzb
  by_cases h32 : (t.length : Int) < 32
  · have HN : Hid (res = none) := Lib.hid (Hres.out.trans (rdS_short h32))
    clear Hres
    go_wp2_with (first
      | (refine wpList_build0' rfl 127 rfl ZN Hzb.out ?_)
      | (refine wpList_store_row rfl 127 _ _ rfl q ZN rfl rfl 127 ZN HQ1.out hzi rfl hzo ?_))
    (try simp only [Exit.inBlock, Exit.then])
    refine bodyPost_ret (results_cell_row3 rfl _ _ q 127 ZN (0, 0) _ rfl (setRow_heap _ _ _ _ _ _ HQ1.out) Tryd.underlying127 rfl hzi) rfl ?_
    rw [HN.out, HZN.out]
    exact ⟨rfl, HB1.out.trans (((Only.refl [q] w1).setRow (by simp) _).below HB1.out.size (by intro x hx; simp at hx; rw [hx]; exact hqw))⟩
  have h32b : (32 : Int) ≤ (t.length : Int) := by omega
  have hrl : (t.drop 32).length ≤ 1000 := by rw [List.length_drop]; omega
  have htl2 : t.length = 32 + (t.drop 32).length := by rw [List.length_drop]; omega
  obtain ⟨row, hrow⟩ : ∃ r, r = t.drop 32 := ⟨_, rfl⟩
  rw [← hrow] at hrl htl2
  have Hrow := Lib.hid hrow
  have htx := Lib.hid (htext_any K row w1 (HL.out.below HB1.out) (by omega))
  obtain ⟨t2, ht2⟩ : ∃ x, x = textS K row := ⟨_, rfl⟩
  rw [← ht2] at htx
  have Ht2 := Lib.hid ht2
  have hcut : t.drop 32 = row := hrow.symm
  clear ht2 hrow htl
  go_wp2_with fail
  refine htx.out.mono ?_
  rintro e w2 ⟨rfl, hB2⟩
  have HQ2 := Lib.hid (below_keep hB2 HQ1.out)
  have HB2 := Lib.hid (HB1.out.trans (hB2.mono HB1.out.size))
  clear hB2 htx
  by_cases hte : t2 = t
  case neg =>
    have b1 : (t2 != t) = true := by simpa using hte
    have b2 : (t2 == t) = false := by simpa using hte
    have HN : Hid (res = none) := Lib.hid (Hres.out.trans (rdS_bad (by rw [← Hrow.out, ← Ht2.out]; exact hte)))
    clear hte Hres
    go_wp2_with (first
      | (refine wpList_build0' rfl 127 rfl ZN Hzb.out ?_)
      | (refine wpList_store_row rfl 127 _ _ rfl q ZN rfl rfl 127 ZN HQ2.out hzi rfl hzo ?_))
    (try simp only [Exit.inBlock, Exit.then])
    refine bodyPost_ret (results_cell_row3 rfl _ _ q 127 ZN (0, 0) _ rfl (setRow_heap _ _ _ _ _ _ HQ2.out) Tryd.underlying127 rfl hzi) rfl ?_
    rw [HN.out, HZN.out]
    exact ⟨rfl, HB2.out.trans (((Only.refl [q] w2).setRow (by simp) _).below HB2.out.size (by intro x hx; simp at hx; rw [hx]; exact hqw))⟩
  case pos =>
    have HR : Hid (res = rowS K row) := Lib.hid (Hres.out.trans ((rdS_good h32b (by rw [← Hrow.out, ← Ht2.out]; exact hte)).trans (by rw [← Hrow.out])))
    subst hte
    have hab := Lib.hid (fun W => asBlob_any row W (by omega))
    have hbl : (asBlobS row).1.length ≤ 512 := asBlobS_le row
    obtain ⟨ab, hab2⟩ : ∃ x, x = asBlobS row := ⟨_, rfl⟩
    rw [← hab2] at hab hbl
    have Hab2 := Lib.hid hab2
    obtain ⟨b, okb⟩ := ab
    clear hab2 Hres Ht2
    go_wp2_with fail
    refine (hab.out w2).mono ?_
    rintro e w3 ⟨rfl, hB3⟩
    have HQ3 := Lib.hid (below_keep hB3 HQ2.out)
    have HB3 := Lib.hid (HB2.out.trans (hB3.mono HB2.out.size))
    clear hB3 hab
    cases okb with
    | true =>
      obtain ⟨dg, hdg⟩ : ∃ x, x = hashB K b := ⟨_, rfl⟩
      have hdl : dg.length = 32 := by rw [hdg]; exact hashB_length K b
      have hbn := built_name true dg hdl
      have HN : Hid (res = some (true, dg, row)) := Lib.hid (HR.out.trans (by rw [hdg]; exact rowS_blob Hab2.out.symm))
      obtain ⟨NV, hNV⟩ : ∃ x, x = (Value.bool true :: byV dg).toArray := ⟨_, rfl⟩
      rw [← hNV] at hbn
      have hNs : NV.size = 33 := by rw [hNV]; simp [byV_length, hdl]
      have ndixA : (Tryd.prog.info? 127).map (·.size) = some NV.size := by rw [name_info, hNs]
      have hNone : NV.all (·.oneCell') = true := by rw [hNV, List.all_toArray, List.all_cons, byV_one]; rfl
      have HNV := Lib.hid hNV
      have hb1s := (Below.refl w3.heap.size w3).alloc (Nat.le_refl _) (.cells #[.string ⟨b.toArray⟩] 9)
      have cb : (w3.alloc (.cells #[.string ⟨b.toArray⟩] 9)).cell? ⟨w3.heap.size, 0, none⟩ = some (.string ⟨b.toArray⟩) := by rw [Lib.cell_of_heap (heap_alloc_new w3 _)]; rfl
      have hof := Lib.hid (of_hash K (some ⟨w3.heap.size, 0, none⟩) 1 b _ ((HL.out.below HB3.out).below hb1s) ⟨_, rfl, cb⟩ (by omega))
      have Hb1s := Lib.hid hb1s
      rw [← hdg] at hof
      have hdd : digV dg = (byV dg).toArray := rfl
      rw [hdd] at hof
      clear hb1s cb hdd hdg hNV HR Hab2
      go_wp2_with fail
      refine hof.out.mono ?_
      rintro e w4 ⟨rfl, hB4⟩
      have hb4 : Below w3.heap.size w3 w4 := Hb1s.out.trans (hB4.mono Hb1s.out.size)
      have HQ4 := Lib.hid (below_keep hb4 HQ3.out)
      have HB4 := Lib.hid (HB3.out.trans (hb4.mono HB3.out.size))
      clear hB4 hb4 hof
      go_wp2_with (first
        | (refine wpList_build2 rfl 127 _ _ _ _ rfl _ _ rfl rfl _ hbn ?_)
        | (refine wpList_store_row rfl 127 _ _ rfl q NV rfl rfl 127 ZN HQ4.out ndixA (by rw [hNs, hzs]) hNone ?_))
      (try simp only [Exit.inBlock, Exit.then])
      refine bodyPost_ret (results_cell_row3 rfl _ _ q 127 NV (0, 0) _ rfl (setRow_heap _ _ _ _ _ _ HQ4.out) Tryd.underlying127 rfl ndixA) rfl ?_
      rw [HN.out, HNV.out]
      exact ⟨rfl, HB4.out.trans (((Only.refl [q] w4).setRow (by simp) _).below HB4.out.size (by intro x hx; simp at hx; rw [hx]; exact hqw))⟩
    | false =>
      have har := Lib.hid (fun W => asRecord_any row W (by omega))
      have hrf : ((asRecS row).getD zeroRec).Fit := asRecS_fit row
      obtain ⟨ar, har2⟩ : ∃ x, x = asRecS row := ⟨_, rfl⟩
      rw [← har2] at har hrf
      have HN2 : Hid (res = ar.map (fun r => (false, r.key, row))) := Lib.hid (HR.out.trans (by rw [har2]; exact rowS_rec Hab2.out.symm))
      obtain ⟨rr, hrr⟩ : ∃ x, x = ar.getD zeroRec := ⟨_, rfl⟩
      rw [← hrr] at har hrf
      have hri : (Tryd.prog.info? 26).map (·.size) = some rr.row.size := by rw [RecD.row_size hrf]; exact rec_info
      have hrs : rr.row.size = 65 := RecD.row_size hrf
      have hro := RecD.row_one rr
      obtain ⟨R, hR⟩ : ∃ x, x = rr.row := ⟨_, rfl⟩
      rw [← hR] at har hri hrs hro
      have HR2 := Lib.hid hR
      have Hrr := Lib.hid hrr
      have Hrf := Lib.hid hrf
      obtain ⟨oka, hok⟩ : ∃ x, x = ar.isSome := ⟨_, rfl⟩
      rw [← hok] at har
      have Hok := Lib.hid hok
      clear hR hrr hrf hok har2 HR Hab2
      go_wp2_with fail
      refine (har.out w3).mono ?_
      rintro e w4 ⟨rfl, hB4⟩
      have HQ4 := Lib.hid (below_keep hB4 HQ3.out)
      have HB4 := Lib.hid (HB3.out.trans (hB4.mono HB3.out.size))
      clear hB4 har
      go_upto_region 8 with (first | (refine wpList_store_row rfl 26 _ _ rfl w4.heap.size R rfl rfl 26 _ (heap_alloc_new w4 _) hri (by rw [hrs]; kernel_rfl) hro ?_))
      show Code.wp _ _ _ _ ((w4.alloc (.cells zeroRec.row 26)).setRow w4.heap.size R)
      obtain ⟨hq_w5, hB_w5⟩ := put_newH w4 zeroRec.row R 26
      obtain ⟨rb, hp_w5⟩ : ∃ q, q = w4.heap.size := ⟨_, rfl⟩
      obtain ⟨w5, hw_w5⟩ : ∃ y, y = ((w4.alloc (.cells zeroRec.row 26)).setRow w4.heap.size R) := ⟨_, rfl⟩
      rw [← hw_w5] at hq_w5 hB_w5 ⊢
      rw [← hp_w5] at hq_w5 ⊢
      have HQ_w5 := Lib.hid hq_w5
      have HB_w5 := Lib.hid hB_w5
      have Hp_w5 := Lib.hid hp_w5
      clear hq_w5 hB_w5 hp_w5 hw_w5
      have HQ5 := Lib.hid (below_keep HB_w5.out HQ4.out)
      have HB5 := Lib.hid (HB4.out.trans (HB_w5.out.mono HB4.out.size))
      cases oka with
      | true =>
        obtain ⟨r, hr⟩ : ∃ r, ar = some r := Option.isSome_iff_exists.1 Hok.out.symm
        have hrr : rr = r := by rw [Hrr.out, hr]; rfl
        have HN : Hid (res = some (false, r.key, row)) := Lib.hid (HN2.out.trans (by rw [hr]; rfl))
        have hm := rec_mem Hrf.out (by rw [← HR2.out]; exact HQ_w5.out)
        rw [hrr] at hm
        have hdl : r.key.length = 32 := by have := Hrf.out.k; rw [hrr] at this; exact this
        obtain ⟨dg, hdg⟩ : ∃ x, x = r.key := ⟨_, rfl⟩
        rw [← hdg] at hm hdl HN
        have hbn := built_name false dg hdl
        have Hm0 := Lib.hid hm.1
        obtain ⟨NV, hNV⟩ : ∃ x, x = (Value.bool false :: byV dg).toArray := ⟨_, rfl⟩
        rw [← hNV] at hbn
        have hNs : NV.size = 33 := by rw [hNV]; simp [byV_length, hdl]
        have ndixA : (Tryd.prog.info? 127).map (·.size) = some NV.size := by rw [name_info, hNs]
        have hNone : NV.all (·.oneCell') = true := by rw [hNV, List.all_toArray, List.all_cons, byV_one]; rfl
        have HNV := Lib.hid hNV
        have hdix : (Tryd.prog.info? 23).map (·.size) = some (byV dg).length := by rw [dig_info, byV_length, hdl]
        clear hm hdg hNV hr hrr HN2 Hok
        go_wp2_with (first
          | (refine wpList_load_mid rfl 23 _ rfl rb 0 rfl (byV dg) _ Hm0.out Tryd.underlying23 rfl hdix ?_)
          | (refine wpList_build2 rfl 127 _ _ _ _ rfl _ _ rfl rfl _ hbn ?_)
          | (refine wpList_store_row rfl 127 _ _ rfl q NV rfl rfl 127 ZN HQ5.out ndixA (by rw [hNs, hzs]) hNone ?_))
        (try simp only [Exit.inBlock, Exit.then])
        refine bodyPost_ret (results_cell_row3 rfl _ _ q 127 NV (0, 0) _ rfl (setRow_heap _ _ _ _ _ _ HQ5.out) Tryd.underlying127 rfl ndixA) rfl ?_
        rw [HN.out, HNV.out]
        exact ⟨rfl, HB5.out.trans (((Only.refl [q] w5).setRow (by simp) _).below HB5.out.size (by intro x hx; simp at hx; rw [hx]; exact hqw))⟩
      | false =>
        have hr : ar = none := by
          have := Hok.out
          cases ar with
          | none => rfl
          | some _ => cases this
        have HN : Hid (res = none) := Lib.hid (HN2.out.trans (by rw [hr]; rfl))
        clear HN2 Hok hr
        go_wp2_with (first
          | (refine wpList_build0' rfl 127 rfl ZN Hzb.out ?_)
          | (refine wpList_store_row rfl 127 _ _ rfl q ZN rfl rfl 127 ZN HQ5.out hzi rfl hzo ?_))
        (try simp only [Exit.inBlock, Exit.then])
        refine bodyPost_ret (results_cell_row3 rfl _ _ q 127 ZN (0, 0) _ rfl (setRow_heap _ _ _ _ _ _ HQ5.out) Tryd.underlying127 rfl hzi) rfl ?_
        rw [HN.out, HZN.out]
        exact ⟨rfl, HB5.out.trans (((Only.refl [q] w5).setRow (by simp) _).below HB5.out.size (by intro x hx; simp at hx; rw [hx]; exact hqw))⟩
end Go.Proofs.YteihfoacdocgkaaDoor

set_option linter.unusedVariables false
set_option linter.unusedSimpArgs false
namespace Go.Proofs.YteihfoacdocgkaaDoor
open Go.RowKit Pl Sh
attribute [local go_sem] Lb.ba_get Lb.ba_cut Lb.ba_add Lb.ba_size Lb.take_rest

/-- what Record says -/
def recAns (ok : Bool) (row : List UInt8) : Option RecD := if ok = true then asRecS row else none
theorem recAns_fit (ok : Bool) (row : List UInt8) : ((recAns ok row).getD zeroRec).Fit := by
  unfold recAns
  cases ok with
  | true => exact asRecS_fit row
  | false => exact zeroRec_fit
set_option maxHeartbeats 4000000 in
set_option maxRecDepth 100000 in
theorem hrec_gen (q : HvP) (d d2 : HvD) (dg row : List UInt8) (ok : Bool) (w : World) (hat : HvAt w q d) (hdg : dg.length = 32) (hrl : row.length ≤ 140737488351232) (hown : ∀ x ∈ q.own d2.L, x ∈ q.own d.L)
    (hfi : ∀ W, Below w.heap.size w W → HvAt W q d → Calls Tryd.prog 70 #[.pointer (some ⟨q.p, 0, none⟩), .agg (Value.bool false :: byV dg).toArray] W fun r w' => r = .returned (.tuple #[.string ⟨row.toArray⟩, .bool ok]) ∧ HvAt w' q d2 ∧ Only (q.own d.L) W w') :
    Calls Tryd.prog 30 #[.pointer (some ⟨q.p, 0, none⟩), .agg (byV dg).toArray] w fun r w' => r = .returned (.tuple #[.agg ((recAns ok row).getD zeroRec).row, .bool (recAns ok row).isSome]) ∧ HvAt w' q d2 ∧ Only (q.own d.L) w w' := by
  have hlt := hat.lt
  have hb1 := (Below.refl w.heap.size w).alloc (Nat.le_refl _) (.cells (byV dg).toArray 23)
  have hn0 := heap_alloc_new w (.cells (byV dg).toArray 23)
  have h1 := hat.below hb1
  obtain ⟨w1, hw1⟩ : ∃ y, y = w.alloc (.cells (byV dg).toArray 23) := ⟨_, rfl⟩
  obtain ⟨n0, hn⟩ : ∃ y, y = w.heap.size := ⟨_, rfl⟩
  have hs1 : w1.heap.size = n0 + 1 := by rw [hw1, hn]; simp
  rw [← hw1] at h1 hn0 hb1
  rw [← hn] at hn0
  have hb2 := (Below.refl w1.heap.size w1).alloc (Nat.le_refl _) (.cells zeroRec.row 26)
  have hq0 := heap_alloc_new w1 (.cells zeroRec.row 26)
  have hB := hb1.trans (hb2.mono hb1.size)
  have h2 := h1.below hb2
  have hn1 := below_keep hb2 hn0
  obtain ⟨w2, hw2⟩ : ∃ y, y = w1.alloc (.cells zeroRec.row 26) := ⟨_, rfl⟩
  obtain ⟨qr, hqr⟩ : ∃ y, y = w1.heap.size := ⟨_, rfl⟩
  rw [← hw2] at hn1 hq0 h2 hB
  rw [← hqr] at hq0
  have hqn : qr ∉ q.own d.L := fun hx => by have := hlt _ hx; omega
  have hqw : w.heap.size ≤ qr := by omega
  have hfind := Lib.hid (hfi w2 hB h2)
  have hbu := built_name false dg hdg
  obtain ⟨DV, hDV⟩ : ∃ x, x = (byV dg).toArray := ⟨_, rfl⟩
  have dix : (Tryd.prog.info? 23).map (·.size) = some DV.size := by rw [hDV, dig_info]; simp [byV_length, hdg]
  have dund := Tryd.underlying23
  rw [← hDV] at hbu hn1 ⊢
  obtain ⟨NV, hNV⟩ : ∃ x, x = (Value.bool false :: byV dg).toArray := ⟨_, rfl⟩
  rw [← hNV] at hbu hfind
  obtain ⟨ans, hans⟩ : ∃ x, x = recAns ok row := ⟨_, rfl⟩
  have hrf := recAns_fit ok row
  rw [← hans] at hrf ⊢
  obtain ⟨R, hR⟩ : ∃ x, x = (ans.getD zeroRec).row := ⟨_, rfl⟩
  have hri : (Tryd.prog.info? 26).map (·.size) = some R.size := by rw [hR, RecD.row_size hrf]; exact rec_info
  have hrs : R.size = 65 := by rw [hR]; exact RecD.row_size hrf
  have hro : R.all (·.oneCell') = true := by rw [hR]; exact RecD.row_one _
  rw [← hR]
  obtain ⟨oka, hoka⟩ : ∃ x, x = ans.isSome := ⟨_, rfl⟩
  rw [← hoka]
  have hzs : zeroRec.row.size = 65 := RecD.row_size zeroRec_fit
  have har := Lib.hid (fun W => asRecord_any row W hrl)
  have hzb := built_rec0
  have Hw2 := Lib.hid (show w2 = (w.alloc (.cells DV 23)).alloc (.cells zeroRec.row 26) by rw [hw2, hw1, hDV])
  have Hw1 := Lib.hid (show w1 = w.alloc (.cells DV 23) by rw [hDV]; exact hw1)
  have Hn := Lib.hid hn
  have Hqr := Lib.hid hqr
  have hs0 : n0 + 1 = qr := by rw [hqr, hs1]
  have Hs0 := Lib.hid hs0
  have HN1 := Lib.hid hn1
  have HQ0 := Lib.hid hq0
  have HB := Lib.hid hB
  have HA2 := Lib.hid h2
  have Hqn := Lib.hid hqn
  have Hown := Lib.hid hown
  have Hans := Lib.hid hans
  have HR := Lib.hid hR
  have Hoka := Lib.hid hoka
  clear hat hrl hfi hlt hb1 hn0 h1 hw1 hn hs1 hb2 hq0 hB h2 hn1 hw2 hqr hqn hDV hNV hans hrf hR hoka hs0 hown
  go_enter Tryd.func30, Tryd.ntmps30
  go_upto_region 1 with fail
  show Code.wp _ _ _ _ ((w.alloc (.cells DV 23)).alloc (.cells zeroRec.row 26))
  rw [← Hw2.out, ← Hn.out, Hs0.out]
  go_wp2_with (first
    | (refine wpList_load_row rfl 23 _ rfl n0 rfl 23 DV (0, 0) _ HN1.out dund rfl dix ?_)
    | (refine wpList_build2 rfl 127 _ _ _ _ rfl _ _ rfl rfl _ hbu ?_))
  refine hfind.out.mono ?_
  rintro e w3 ⟨rfl, h3, hO3⟩
  have H3 := Lib.hid h3
  have O3 := Lib.hid hO3
  have HQ3 := Lib.hid ((hO3.block qr (heap_lt HQ0.out) Hqn.out).trans HQ0.out)
  clear h3 hO3 hfind
  cases ok with
  | false =>
    have ha0 : ans = none := Hans.out
    have hr0 : R = zeroRec.row := by rw [HR.out, ha0]; rfl
    have ho0 : oka = false := by rw [Hoka.out, ha0]; rfl
    subst ho0
    rw [← hr0] at hzb
    clear ha0 hr0 Hans HR Hoka har
    go_wp2_with (first
      | (refine wpList_build0' rfl 26 rfl R hzb ?_)
      | (refine wpList_store_row rfl 26 _ _ rfl qr R rfl rfl 26 zeroRec.row HQ3.out hri (by rw [hrs, hzs]) hro ?_))
    (try simp only [Exit.inBlock, Exit.then])
    refine bodyPost_ret (results_cell_row2R rfl _ _ qr 26 R (0, 0) _ rfl (setRow_heap _ _ _ _ _ _ HQ3.out) Tryd.underlying26 rfl hri) rfl ?_
    have hS : Only [qr] w3 (w3.setRow qr R) := (Only.refl [qr] w3).setRow (by simp) _
    exact ⟨rfl, H3.out.keep (fun k hk => hS.block k (H3.out.lt k hk) (by intro hm; simp only [List.mem_singleton] at hm; subst hm; exact Hqn.out (Hown.out _ hk))), ((Only.of_below HB.out).trans O3.out).liftH hS (by intro x hx; simp only [List.mem_singleton] at hx; subst hx; exact Or.inr hqw)⟩
  | true =>
    go_wp2_with fail
    refine (har.out w3).mono ?_
    rintro e w4 ⟨rfl, hB4⟩
    have H4 := Lib.hid (H3.out.below hB4)
    have O4 := Lib.hid (((Only.of_below HB.out).trans O3.out).trans (Only.of_below hB4))
    have HQ4 := Lib.hid (below_keep hB4 HQ3.out)
    have hr0 : ((asRecS row).getD zeroRec).row = R := by rw [HR.out, Hans.out]; rfl
    have ho0 : (asRecS row).isSome = oka := by rw [Hoka.out, Hans.out]; rfl
    rw [hr0, ho0]
    clear hB4 har hr0 ho0 Hans HR Hoka
    go_wp2_with (refine wpList_store_row rfl 26 _ _ rfl qr R rfl rfl 26 zeroRec.row HQ4.out hri (by rw [hrs, hzs]) hro ?_)
    (try simp only [Exit.inBlock, Exit.then])
    refine bodyPost_ret (results_cell_row2R rfl _ _ qr 26 R (0, 0) _ rfl (setRow_heap _ _ _ _ _ _ HQ4.out) Tryd.underlying26 rfl hri) rfl ?_
    have hS : Only [qr] w4 (w4.setRow qr R) := (Only.refl [qr] w4).setRow (by simp) _
    exact ⟨rfl, H4.out.keep (fun k hk => hS.block k (H4.out.lt k hk) (by intro hm; simp only [List.mem_singleton] at hm; subst hm; exact Hqn.out (Hown.out _ hk))), O4.out.liftH hS (by intro x hx; simp only [List.mem_singleton] at hx; subst hx; exact Or.inr hqw)⟩

/-- what Blob says -/
def blobAns (ok : Bool) (row : List UInt8) : List UInt8 × Bool := if ok = true then asBlobS row else ([], false)
set_option maxHeartbeats 4000000 in
set_option maxRecDepth 100000 in
theorem hblob_gen (q : HvP) (d d2 : HvD) (dg row : List UInt8) (ok : Bool) (w : World) (hat : HvAt w q d) (hdg : dg.length = 32) (hrl : row.length ≤ 140737488351232)
    (hfi : ∀ W, Below w.heap.size w W → HvAt W q d → Calls Tryd.prog 70 #[.pointer (some ⟨q.p, 0, none⟩), .agg (Value.bool true :: byV dg).toArray] W fun r w' => r = .returned (.tuple #[.string ⟨row.toArray⟩, .bool ok]) ∧ HvAt w' q d2 ∧ Only (q.own d.L) W w') :
    Calls Tryd.prog 27 #[.pointer (some ⟨q.p, 0, none⟩), .agg (byV dg).toArray] w fun r w' => r = .returned (.tuple #[.string ⟨((blobAns ok row).1).toArray⟩, .bool (blobAns ok row).2]) ∧ HvAt w' q d2 ∧ Only (q.own d.L) w w' := by
  have hb1 := (Below.refl w.heap.size w).alloc (Nat.le_refl _) (.cells (byV dg).toArray 23)
  have hn0 := heap_alloc_new w (.cells (byV dg).toArray 23)
  have h1 := hat.below hb1
  obtain ⟨w1, hw1⟩ : ∃ y, y = w.alloc (.cells (byV dg).toArray 23) := ⟨_, rfl⟩
  obtain ⟨n0, hn⟩ : ∃ y, y = w.heap.size := ⟨_, rfl⟩
  rw [← hw1] at h1 hn0 hb1
  rw [← hn] at hn0
  have hbu := built_name true dg hdg
  obtain ⟨DV, hDV⟩ : ∃ x, x = (byV dg).toArray := ⟨_, rfl⟩
  have dix : (Tryd.prog.info? 23).map (·.size) = some DV.size := by rw [hDV, dig_info]; simp [byV_length, hdg]
  have dund := Tryd.underlying23
  rw [← hDV] at hbu hn0 ⊢
  obtain ⟨NV, hNV⟩ : ∃ x, x = (Value.bool true :: byV dg).toArray := ⟨_, rfl⟩
  rw [← hNV] at hbu
  have Hn0 := Lib.hid hn0
  have Hb1 := Lib.hid hb1
  have Hn := Lib.hid hn
  have Hw1 := Lib.hid (show w1 = w.alloc (.cells DV 23) by rw [hDV]; exact hw1)
  have hfind := Lib.hid (hfi w1 hb1 h1)
  rw [← hNV] at hfind
  have hab := Lib.hid (fun W => asBlob_any row W hrl)
  obtain ⟨ans, hans⟩ : ∃ x, x = blobAns ok row := ⟨_, rfl⟩
  rw [← hans]
  have Hans := Lib.hid hans
  clear hat hfi hrl h1 hb1 hn0 hn hw1 hDV hNV hans
  go_enter Tryd.func27, Tryd.ntmps27
  go_upto_region 1 with fail
  rw [← Hw1.out, ← Hn.out]
  go_wp2_with (first
    | (refine wpList_load_row rfl 23 _ rfl n0 rfl 23 DV (0, 0) _ Hn0.out dund rfl dix ?_)
    | (refine wpList_build2 rfl 127 _ _ _ _ rfl _ _ rfl rfl _ hbu ?_))
  refine hfind.out.mono ?_
  rintro r w2 ⟨rfl, h2, hO2⟩
  have H2 := Lib.hid h2
  have O2 := Lib.hid ((Only.of_below Hb1.out).trans hO2)
  clear h2 hO2 hfind
  cases ok with
  | false =>
    have ha0 : ans = ([], false) := Hans.out
    subst ha0
    clear Hans hab
    go_wp2_with fail
    go_ret2
    exact ⟨rfl, H2.out, O2.out⟩
  | true =>
    have ha0 : asBlobS row = ans := Hans.out.symm
    rw [ha0] at hab
    obtain ⟨ab, okb⟩ := ans
    clear Hans ha0
    go_wp2_with fail
    refine (hab.out _).mono ?_
    rintro r w3 ⟨rfl, hB3⟩
    have B3 := Lib.hid hB3
    clear hB3 hab
    go_wp2_with fail
    go_ret2
    exact ⟨rfl, H2.out.below B3.out, O2.out.trans (Only.of_below B3.out)⟩
end Go.Proofs.YteihfoacdocgkaaDoor

set_option linter.unusedVariables false
set_option linter.unusedSimpArgs false
namespace Go.Proofs.YteihfoacdocgkaaDoor
open Go.RowKit Pl Sh
attribute [local go_sem] Lb.ba_get Lb.ba_cut Lb.ba_add Lb.ba_size Lb.take_rest

set_option maxHeartbeats 4000000 in
set_option maxRecDepth 100000 in
theorem grp_bad (K : List Int) (q : HvP) (d : HvD) (r : RecD) (w : World) (hat : HvAt w q d) (hL : Laid K w) (hr : d.ready) (hf : r.Fit) (hi : isRecS r = false) :
    Calls Tryd.prog 31 #[.pointer (some ⟨q.p, 0, none⟩), .agg r.row] w fun e w' => e = .returned (.int .i64 1) ∧ Below w.heap.size w w' := by
  have hb1 := (Below.refl w.heap.size w).alloc (Nat.le_refl _) (.cells r.row 26)
  have hn0 := heap_alloc_new w (.cells r.row 26)
  have h1 := hat.below hb1
  have hL1 := hL.below hb1
  obtain ⟨w1, hw1⟩ : ∃ y, y = w.alloc (.cells r.row 26) := ⟨_, rfl⟩
  obtain ⟨n0, hn⟩ : ∃ y, y = w.heap.size := ⟨_, rfl⟩
  rw [← hw1] at h1 hn0 hb1 hL1
  rw [← hn] at hn0
  have hrd := Lib.hid (ready_ok q d w1 h1 hr)
  have his := Lib.hid (fun W => isRecord_any r W hf)
  have hrow := Lib.hid (fun W => recordRow_any r W hf)
  have hm := rec_mem hf hn0
  have hlt := hat.lt
  obtain ⟨RC, hRC⟩ : ∃ x, x = r.row := ⟨_, rfl⟩
  have hrs : RC.size = 65 := by rw [hRC]; exact RecD.row_size hf
  have hri : (Tryd.prog.info? 26).map (·.size) = some RC.size := by rw [hrs]; exact rec_info
  rw [← hRC] at hn0 his hrow hw1 ⊢
  have rund := Tryd.underlying26
  have dund := Tryd.underlying23
  have Hn0 := Lib.hid hn0
  have Hb1 := Lib.hid hb1
  have Hn := Lib.hid hn
  have Hw1 := Lib.hid hw1
  have HL1 := Lib.hid hL1
  have H1 := Lib.hid h1
  have Hm := Lib.hid hm.1
  have Hlt := Lib.hid hlt
  rw [hi] at his
  clear hat hL hr hn0 hb1 hn hw1 hL1 h1 hm hlt hRC hi hf
  go_enter Tryd.func31, Tryd.ntmps31
  go_upto_region 1 with fail
  rw [← Hw1.out, ← Hn.out]
  go_wp2_with fail
  refine hrd.out.mono ?_
  rintro e w2 ⟨rfl, hB2⟩
  have B2 := Lib.hid (Hb1.out.trans (hB2.mono Hb1.out.size))
  have Hn2 := Lib.hid (below_keep hB2 Hn0.out)
  have Hm2 := Lib.hid (range_below Hm.out hB2 (heap_lt Hn0.out))
  have H2 := Lib.hid (H1.out.below hB2)
  have HL2 := Lib.hid (HL1.out.below hB2)
  clear hB2 hrd
  go_wp2_with (refine wpList_load_row rfl 26 _ rfl n0 rfl 26 RC (0, 0) _ Hn2.out rund rfl hri ?_)
  refine (his.out w2).mono ?_
  rintro e w3 ⟨rfl, hB3⟩
  have B3 := Lib.hid (B2.out.trans (hB3.mono B2.out.size))
  have Hn3 := Lib.hid (below_keep hB3 Hn2.out)
  have hm3 := range_below Hm2.out hB3 (heap_lt Hn2.out)
  have hl3 := heap_lt Hn3.out
  have H3 := Lib.hid (H2.out.below hB3)
  have HL3 := Lib.hid (HL2.out.below hB3)
  clear hB3 his Hm2
  clear hm3 hl3
  go_wp2_with fail
  go_ret
  exact ⟨rfl, B3.out⟩

def PrR (q : HvP) (d : HvD) (R : Int → HvD → Prop) (W : World) (r : Ending) (w' : World) : Prop :=
  ∃ er d', r = .returned (.int .i64 er) ∧ R er d' ∧ HvAt w' q d' ∧ Only (q.own d.L) W w' ∧ ∀ x ∈ q.own d'.L, x ∈ q.own d.L ∨ W.heap.size ≤ x
set_option maxHeartbeats 4000000 in
set_option maxRecDepth 100000 in
theorem grp_new (K : List Int) (q : HvP) (d : HvD) (r : RecD) (R : Int → HvD → Prop) (w : World) (hat : HvAt w q d) (hL : Laid K w) (h0 : 0 ∉ q.own d.L) (hr : d.ready) (hf : r.Fit) (hi : isRecS r = true) (hne : ∀ e ∈ d.L, (e.isB, e.id) ≠ (false, r.key))
    (hput : ∀ W, HvAt W q d → Laid K W → Calls Tryd.prog 68 #[.pointer (some ⟨q.p, 0, none⟩), .agg (Value.bool false :: byV r.key).toArray, .string ⟨(recRowS r).toArray⟩] W (PutR q d R W)) :
    Calls Tryd.prog 31 #[.pointer (some ⟨q.p, 0, none⟩), .agg r.row] w (PrR q d R w) := by
  have hb1 := (Below.refl w.heap.size w).alloc (Nat.le_refl _) (.cells r.row 26)
  have hn0 := heap_alloc_new w (.cells r.row 26)
  have h1 := hat.below hb1
  have hL1 := hL.below hb1
  obtain ⟨w1, hw1⟩ : ∃ y, y = w.alloc (.cells r.row 26) := ⟨_, rfl⟩
  obtain ⟨n0, hn⟩ : ∃ y, y = w.heap.size := ⟨_, rfl⟩
  rw [← hw1] at h1 hn0 hb1 hL1
  rw [← hn] at hn0
  have hrd := Lib.hid (ready_ok q d w1 h1 hr)
  have his := Lib.hid (fun W => isRecord_any r W hf)
  have hrow := Lib.hid (fun W => recordRow_any r W hf)
  have hm := rec_mem hf hn0
  have hlt := hat.lt
  obtain ⟨RC, hRC⟩ : ∃ x, x = r.row := ⟨_, rfl⟩
  have hrs : RC.size = 65 := by rw [hRC]; exact RecD.row_size hf
  have hri : (Tryd.prog.info? 26).map (·.size) = some RC.size := by rw [hrs]; exact rec_info
  rw [← hRC] at hn0 his hrow hw1 ⊢
  have rund := Tryd.underlying26
  have dund := Tryd.underlying23
  have Hn0 := Lib.hid hn0
  have Hb1 := Lib.hid hb1
  have Hn := Lib.hid hn
  have Hw1 := Lib.hid hw1
  have HL1 := Lib.hid hL1
  have H1 := Lib.hid h1
  have Hm := Lib.hid hm.1
  have Hlt := Lib.hid hlt
  have hkl := hf.k
  have hbn := built_name false r.key hf.k
  obtain ⟨DL, hDL⟩ : ∃ x, x = byV r.key := ⟨_, rfl⟩
  have dixL : (Tryd.prog.info? 23).map (·.size) = some DL.length := by rw [hDL, dig_info, byV_length, hkl]
  rw [← hDL] at hm hbn
  obtain ⟨NV, hNV⟩ : ∃ x, x = (Value.bool false :: DL).toArray := ⟨_, rfl⟩
  rw [← hNV] at hbn
  have hNs : NV.size = 33 := by rw [hNV, hDL]; simp [byV_length, hkl]
  have ndixA : (Tryd.prog.info? 127).map (·.size) = some NV.size := by rw [name_info, hNs]
  have ndix : (Tryd.prog.info? 127).map (·.size) = some NV.toList.length := by rw [ndixA]; simp
  have nund := Tryd.underlying127
  have hNone : NV.all (·.oneCell') = true := by rw [hNV, hDL, List.all_toArray, List.all_cons, byV_one]; rfl
  have hzs : zeroName.size = 33 := by kernel_rfl
  have HNV : Hid (NV = (Value.bool false :: byV r.key).toArray) := Lib.hid (by rw [hNV, hDL])
  have Hm := Lib.hid hm.1
  obtain ⟨row, hrw⟩ : ∃ x, x = recRowS r := ⟨_, rfl⟩
  rw [← hrw] at hrow
  rw [← HNV.out, ← hrw] at hput
  rw [hi] at his
  have Hne := Lib.hid hne
  have Hput := Lib.hid hput
  have Hkl := Lib.hid hkl
  have rdixL : (Tryd.prog.info? 26).map (·.size) = some RC.toList.length := by rw [hri]; simp
  clear hat hL hr hn0 hb1 hn hw1 hL1 h1 hm hlt hRC hi hf hrw hNV hDL hkl hput hne h0
  unfold PrR
  go_enter Tryd.func31, Tryd.ntmps31
  go_upto_region 1 with fail
  rw [← Hw1.out, ← Hn.out]
  go_wp2_with fail
  refine hrd.out.mono ?_
  rintro e w2 ⟨rfl, hB2⟩
  have B2 := Lib.hid (Hb1.out.trans (hB2.mono Hb1.out.size))
  have Hn2 := Lib.hid (below_keep hB2 Hn0.out)
  have Hm2 := Lib.hid (range_below Hm.out hB2 (heap_lt Hn0.out))
  have H2 := Lib.hid (H1.out.below hB2)
  have HL2 := Lib.hid (HL1.out.below hB2)
  clear hB2 hrd
  go_wp2_with (refine wpList_load_row rfl 26 _ rfl n0 rfl 26 RC (0, 0) _ Hn2.out rund rfl hri ?_)
  refine (his.out w2).mono ?_
  rintro e w3 ⟨rfl, hB3⟩
  have B3 := Lib.hid (B2.out.trans (hB3.mono B2.out.size))
  have Hn3 := Lib.hid (below_keep hB3 Hn2.out)
  have hm3 := range_below Hm2.out hB3 (heap_lt Hn2.out)
  have hl3 := heap_lt Hn3.out
  have H3 := Lib.hid (H2.out.below hB3)
  have HL3 := Lib.hid (HL2.out.below hB3)
  clear hB3 his Hm2
  have rr3 : w3.rangeAt n0 0 RC.toList := fun k v hv => by rw [Lib.cell_of_heap Hn3.out, Nat.zero_add]; simpa using hv
  go_upto_region 6 with fail
  refine wp_region_held_drew (S := fun w' => Below w3.heap.size w3 w') (by kernel_rfl) ((Below.refl _ _).drew) (fun hH0 => ?_)
  obtain ⟨W0, hW0⟩ : ∃ W, W = w3.drew := ⟨_, rfl⟩
  rw [← hW0] at hH0 ⊢
  clear hW0
  refine wpAnyH_take (i := 0) (v := ?_) rfl (by kernel_rfl) (by kernel_rfl) (by kernel_rfl) (fun _ _ _ h => h) (Or.inl ⟨by kernel_rfl, ?_⟩) hH0 ?_
  rotate_left 1
  · intro w hSw
    go_simp
    try with_reducible rfl
  try simp only [Act.put, List.getElem_toArray, List.getElem_cons_zero, List.getElem_cons_succ, List.setIfInBounds_toArray, List.set_cons_zero, List.set_cons_succ]
  refine wpAnyH_take (i := 1) (v := _) rfl (by kernel_rfl) (by kernel_rfl) (by kernel_rfl) (fun _ _ _ h => h) (yieldsIf_load_mid (by kernel_rfl) _ _ rfl _ _ rfl DL _ (fun W hW => range_below hm3 hW hl3) dund rfl dixL) hH0 ?_
  try simp only [Act.put, List.getElem_toArray, List.getElem_cons_zero, List.getElem_cons_succ, List.setIfInBounds_toArray, List.set_cons_zero, List.set_cons_succ]
  refine wpAnyH_take (i := 2) (v := _) rfl (by kernel_rfl) (by kernel_rfl) (by kernel_rfl) (fun _ _ _ h => h) (yieldsIf_build (by kernel_rfl) 127 _ rfl NV (by simpa [Act.eval] using hbn)) hH0 ?_
  try simp only [Act.put, List.getElem_toArray, List.getElem_cons_zero, List.getElem_cons_succ, List.setIfInBounds_toArray, List.set_cons_zero, List.set_cons_succ]
  refine wpAnyH_take (i := 3) (v := _) rfl (by kernel_rfl) (by kernel_rfl) (by kernel_rfl) (fun _ _ _ h => h) (yieldsIf_load_mid (by kernel_rfl) _ _ rfl _ _ rfl RC.toList _ (fun W hW => range_below rr3 hW hl3) rund rfl rdixL) hH0 ?_
  try simp only [Act.put, List.getElem_toArray, List.getElem_cons_zero, List.getElem_cons_succ, List.setIfInBounds_toArray, List.set_cons_zero, List.set_cons_succ]
  refine wpAnyH_ready (rs := [4, 5]) (by kernel_rfl) (by simp) ?_
  refine AllReadyH.cons rfl (fun K_ hK => ?_) ?_
  · go_simp
    refine (hrow.out W0).mono ?_
    rintro e W1 ⟨rfl, hb1⟩
    try have HNB := Lib.hid (below_keep hb1 HNB.out)
    have hS1 := (hH0).trans (hb1.mono (hH0).size)
    clear hb1
    refine hK.out _ _ hS1 (fun hH1 => ?_)
    clear hK K_
    try simp only [Act.put, List.getElem_toArray, List.getElem_cons_zero, List.getElem_cons_succ, List.setIfInBounds_toArray, List.set_cons_zero, List.set_cons_succ]
    refine wpAnyH_ready (rs := [5]) (by kernel_rfl) (by simp) ?_
    refine AllReadyH.cons rfl (fun K_ hK => ?_) ?_
    · go_simp
      show K_ _ (W1.alloc (.cells zeroName 127))
      have hnb2 := heap_alloc_new W1 (.cells zeroName 127)
      have hS2 := (hH1).alloc (hH1).size (.cells zeroName 127)
      have hsz2 := (hH1).size
      obtain ⟨W2, hW2⟩ : ∃ y, y = W1.alloc (.cells zeroName 127) := ⟨_, rfl⟩
      obtain ⟨nb, hq2⟩ : ∃ y, y = W1.heap.size := ⟨_, rfl⟩
      rw [← hW2] at hnb2 hS2 ⊢
      rw [← hq2] at hnb2 hsz2 ⊢
      have HNB := Lib.hid hnb2
      have Hnb3 := Lib.hid hsz2
      clear hW2 hq2 hnb2 hsz2
      refine hK.out _ _ hS2 (fun hH2 => ?_)
      clear hK K_
      try simp only [Act.put, List.getElem_toArray, List.getElem_cons_zero, List.getElem_cons_succ, List.setIfInBounds_toArray, List.set_cons_zero, List.set_cons_succ]
      refine wpAnyH_ready (rs := [6]) (by kernel_rfl) (by simp) ?_
      refine AllReadyH.cons rfl (fun K_ hK => ?_) ?_
      · rw [if_pos (by rfl)]
        refine wp_store_row 127 _ _ rfl nb NV rfl rfl 127 zeroName HNB.out ndixA (by rw [hNs, hzs]) hNone ?_
        have hq5 := setRow_heap _ _ _ NV _ _ HNB.out
        have hS3 : Below w3.heap.size w3 (W2.setRow nb NV) := (hH2).trans (((Only.refl [nb] W2).setRow (by simp) NV).below (hH2).size (by intro x hx; simp only [List.mem_singleton] at hx; subst hx; exact Hnb3.out))
        have hq6 := Lib.hid hq5
        obtain ⟨W3, hW3⟩ : ∃ y, y = W2.setRow nb NV := ⟨_, rfl⟩
        rw [← hW3] at hq6 hS3 ⊢
        clear hW3 hq5
        refine hK.out _ _ hS3 (fun hH3 => ?_)
        clear hK K_
        try simp only [Act.put, List.getElem_toArray, List.getElem_cons_zero, List.getElem_cons_succ, List.setIfInBounds_toArray, List.set_cons_zero, List.set_cons_succ]
        refine wpAnyH_take (i := 7) (v := ?_) rfl (by kernel_rfl) (by kernel_rfl) (by kernel_rfl) (fun _ _ _ h => h) (Or.inl ⟨by kernel_rfl, ?_⟩) hH3 ?_
        rotate_left 1
        · intro w hSw
          go_simp
          try with_reducible rfl
        try simp only [Act.put, List.getElem_toArray, List.getElem_cons_zero, List.getElem_cons_succ, List.setIfInBounds_toArray, List.set_cons_zero, List.set_cons_succ]
        refine wpAnyH_done (by kernel_rfl) ?_ _
        have HB5 := Lib.hid hH3
        obtain ⟨w5, hw5⟩ : ∃ y, y = W3 := ⟨_, rfl⟩
        rw [← hw5] at hq6 HB5 ⊢
        clear hH3 hw5
        go_upto_region 7 with fail
        have h5 := H3.out.below HB5.out
        have r5 : w5.rangeAt nb 0 NV.toList := fun k v hv => by rw [Lib.cell_of_heap hq6.out, Nat.zero_add]; simpa using hv
        have l5 : nb < w5.heap.size := heap_lt hq6.out
        have x1 := (hv_cells h5).2.1
        have lp : q.p < w5.heap.size := heap_lt h5.hp
        have hlook := Lib.hid (fun W (hW : Below w5.heap.size w5 W) => look_no (h5.below hW) Hkl.out Hne.out)
        rw [show nameV (false, r.key) = .agg NV from by rw [HNV.out]; rfl] at hlook
        have H5 := Lib.hid h5
        have HL5 := Lib.hid (HL3.out.below HB5.out)
        have hnS : nb ∉ q.own d.L := fun hm => by have := Hlt.out nb hm; have := Hnb3.out; have := B3.out.size; omega
        have HnS := Lib.hid hnS
        have HBx := Lib.hid (B3.out.trans (HB5.out.mono B3.out.size))
        clear h5 hnS
        refine wp_region_held_drew (S := fun w' => Below w5.heap.size w5 w') (by kernel_rfl) ((Below.refl _ _).drew) (fun hH0 => ?_)
        obtain ⟨W0, hW0⟩ : ∃ W, W = w5.drew := ⟨_, rfl⟩
        rw [← hW0] at hH0 ⊢
        clear hW0
        refine wpAnyH_take (i := 0) (v := ?_) rfl (by kernel_rfl) (by kernel_rfl) (by kernel_rfl) (fun _ _ _ h => h) (Or.inl ⟨by kernel_rfl, ?_⟩) hH0 ?_
        rotate_left 1
        · intro w hSw
          go_simp
          try with_reducible rfl
        try simp only [Act.put, List.getElem_toArray, List.getElem_cons_zero, List.getElem_cons_succ, List.setIfInBounds_toArray, List.set_cons_zero, List.set_cons_succ]
        refine wpAnyH_take (i := 1) (v := ?_) rfl (by kernel_rfl) (by kernel_rfl) (by kernel_rfl) (fun _ _ _ h => h) (Or.inl ⟨by kernel_rfl, ?_⟩) hH0 ?_
        rotate_left 1
        · intro w hSw
          go_simp
          try with_reducible rfl
        try simp only [Act.put, List.getElem_toArray, List.getElem_cons_zero, List.getElem_cons_succ, List.setIfInBounds_toArray, List.set_cons_zero, List.set_cons_succ]
        refine wpAnyH_take (i := 2) (v := ?_) rfl (by kernel_rfl) (by kernel_rfl) (by kernel_rfl) (fun _ _ _ h => h) (Or.inl ⟨by kernel_rfl, ?_⟩) hH0 ?_
        rotate_left 1
        · intro w hSw
          go_simp
          try with_reducible rfl
        try simp only [Act.put, List.getElem_toArray, List.getElem_cons_zero, List.getElem_cons_succ, List.setIfInBounds_toArray, List.set_cons_zero, List.set_cons_succ]
        refine wpAnyH_take (i := 3) (v := ?_) rfl (by kernel_rfl) (by kernel_rfl) (by kernel_rfl) (fun _ _ _ h => h) (Or.inl ⟨by kernel_rfl, ?_⟩) hH0 ?_
        rotate_left 1
        · intro w hSw
          have f0 := (hSw.cell (p := ⟨q.p, 1, none⟩) lp).trans x1
          go_simp
          try with_reducible rfl
        try simp only [Act.put, List.getElem_toArray, List.getElem_cons_zero, List.getElem_cons_succ, List.setIfInBounds_toArray, List.set_cons_zero, List.set_cons_succ]
        refine wpAnyH_take (i := 4) (v := _) rfl (by kernel_rfl) (by kernel_rfl) (by kernel_rfl) (fun _ _ _ h => h) (yieldsIf_load_mid (by kernel_rfl) _ _ rfl _ _ rfl NV.toList _ (fun W hW => range_below r5 hW l5) nund rfl ndix) hH0 ?_
        try simp only [Act.put, List.getElem_toArray, List.getElem_cons_zero, List.getElem_cons_succ, List.setIfInBounds_toArray, List.set_cons_zero, List.set_cons_succ]
        refine wpAnyH_take (i := 5) (v := _) rfl (by kernel_rfl) (by kernel_rfl) (by kernel_rfl) (fun _ _ _ h => h) (yieldsIf_lookup (by kernel_rfl) 116 (.tmp 25) (.tmp 26) rfl (.pointer none) (fun W hW => hlook.out W hW)) hH0 ?_
        try simp only [Act.put, List.getElem_toArray, List.getElem_cons_zero, List.getElem_cons_succ, List.setIfInBounds_toArray, List.set_cons_zero, List.set_cons_succ]
        refine wpAnyH_take (i := 6) (v := ?_) rfl (by kernel_rfl) (by kernel_rfl) (by kernel_rfl) (fun _ _ _ h => h) (Or.inl ⟨by kernel_rfl, ?_⟩) hH0 ?_
        rotate_left 1
        · intro w hSw
          go_simp
          try with_reducible rfl
        try simp only [Act.put, List.getElem_toArray, List.getElem_cons_zero, List.getElem_cons_succ, List.setIfInBounds_toArray, List.set_cons_zero, List.set_cons_succ]
        refine wpAnyH_done (by kernel_rfl) ?_ _
        have H6 := Lib.hid hH0
        obtain ⟨w6, hw6⟩ : ∃ y, y = W0 := ⟨_, rfl⟩
        rw [← hw6] at H6 ⊢
        clear hH0 hw6 hlook
        have h6 := H5.out.below H6.out
        have hq7 := Lib.hid (below_keep H6.out hq6.out)
        have hpu := Lib.hid (Hput.out w6 h6 (HL5.out.below H6.out))
        clear h6 r5 l5 x1 lp
        go_wp2_with (refine wpList_load_row rfl 127 _ rfl nb rfl 127 NV (0, 0) _ hq7.out nund rfl ndixA ?_)
        refine hpu.out.mono ?_
        rintro e w7 ⟨er, d9, rfl, hR, h9, hO9, hn9⟩
        have HR := Lib.hid hR
        have H9 := Lib.hid h9
        have O9 := Lib.hid hO9
        have N9 := Lib.hid hn9
        clear hR h9 hO9 hn9 hpu
        go_wp2_with fail
        go_ret
        have hB6 := HBx.out.trans (H6.out.mono HBx.out.size)
        exact ⟨er, d9, rfl, HR.out, H9.out, (Only.of_below hB6).trans O9.out, fun x hx => (N9.out x hx).imp id (fun h => Nat.le_trans hB6.size h)⟩
      exact AllReadyH.nil
    exact AllReadyH.nil
  refine AllReadyH.cons rfl (fun K_ hK => ?_) ?_
  · go_simp
    show K_ _ (W0.alloc (.cells zeroName 127))
    have hnb4 := heap_alloc_new W0 (.cells zeroName 127)
    have hS4 := (hH0).alloc (hH0).size (.cells zeroName 127)
    have hsz4 := (hH0).size
    obtain ⟨W4, hW4⟩ : ∃ y, y = W0.alloc (.cells zeroName 127) := ⟨_, rfl⟩
    obtain ⟨nb, hq4⟩ : ∃ y, y = W0.heap.size := ⟨_, rfl⟩
    rw [← hW4] at hnb4 hS4 ⊢
    rw [← hq4] at hnb4 hsz4 ⊢
    have HNB := Lib.hid hnb4
    have Hnb3 := Lib.hid hsz4
    clear hW4 hq4 hnb4 hsz4
    refine hK.out _ _ hS4 (fun hH4 => ?_)
    clear hK K_
    try simp only [Act.put, List.getElem_toArray, List.getElem_cons_zero, List.getElem_cons_succ, List.setIfInBounds_toArray, List.set_cons_zero, List.set_cons_succ]
    refine wpAnyH_ready (rs := [4]) (by kernel_rfl) (by simp) ?_
    refine AllReadyH.cons rfl (fun K_ hK => ?_) ?_
    · go_simp
      refine (hrow.out W4).mono ?_
      rintro e W5 ⟨rfl, hb5⟩
      try have HNB := Lib.hid (below_keep hb5 HNB.out)
      have hS5 := (hH4).trans (hb5.mono (hH4).size)
      clear hb5
      refine hK.out _ _ hS5 (fun hH5 => ?_)
      clear hK K_
      try simp only [Act.put, List.getElem_toArray, List.getElem_cons_zero, List.getElem_cons_succ, List.setIfInBounds_toArray, List.set_cons_zero, List.set_cons_succ]
      refine wpAnyH_ready (rs := [6]) (by kernel_rfl) (by simp) ?_
      refine AllReadyH.cons rfl (fun K_ hK => ?_) ?_
      · rw [if_pos (by rfl)]
        refine wp_store_row 127 _ _ rfl nb NV rfl rfl 127 zeroName HNB.out ndixA (by rw [hNs, hzs]) hNone ?_
        have hq5 := setRow_heap _ _ _ NV _ _ HNB.out
        have hS6 : Below w3.heap.size w3 (W5.setRow nb NV) := (hH5).trans (((Only.refl [nb] W5).setRow (by simp) NV).below (hH5).size (by intro x hx; simp only [List.mem_singleton] at hx; subst hx; exact Hnb3.out))
        have hq6 := Lib.hid hq5
        obtain ⟨W6, hW6⟩ : ∃ y, y = W5.setRow nb NV := ⟨_, rfl⟩
        rw [← hW6] at hq6 hS6 ⊢
        clear hW6 hq5
        refine hK.out _ _ hS6 (fun hH6 => ?_)
        clear hK K_
        try simp only [Act.put, List.getElem_toArray, List.getElem_cons_zero, List.getElem_cons_succ, List.setIfInBounds_toArray, List.set_cons_zero, List.set_cons_succ]
        refine wpAnyH_take (i := 7) (v := ?_) rfl (by kernel_rfl) (by kernel_rfl) (by kernel_rfl) (fun _ _ _ h => h) (Or.inl ⟨by kernel_rfl, ?_⟩) hH6 ?_
        rotate_left 1
        · intro w hSw
          go_simp
          try with_reducible rfl
        try simp only [Act.put, List.getElem_toArray, List.getElem_cons_zero, List.getElem_cons_succ, List.setIfInBounds_toArray, List.set_cons_zero, List.set_cons_succ]
        refine wpAnyH_done (by kernel_rfl) ?_ _
        have HB5 := Lib.hid hH6
        obtain ⟨w5, hw5⟩ : ∃ y, y = W6 := ⟨_, rfl⟩
        rw [← hw5] at hq6 HB5 ⊢
        clear hH6 hw5
        go_upto_region 7 with fail
        have h5 := H3.out.below HB5.out
        have r5 : w5.rangeAt nb 0 NV.toList := fun k v hv => by rw [Lib.cell_of_heap hq6.out, Nat.zero_add]; simpa using hv
        have l5 : nb < w5.heap.size := heap_lt hq6.out
        have x1 := (hv_cells h5).2.1
        have lp : q.p < w5.heap.size := heap_lt h5.hp
        have hlook := Lib.hid (fun W (hW : Below w5.heap.size w5 W) => look_no (h5.below hW) Hkl.out Hne.out)
        rw [show nameV (false, r.key) = .agg NV from by rw [HNV.out]; rfl] at hlook
        have H5 := Lib.hid h5
        have HL5 := Lib.hid (HL3.out.below HB5.out)
        have hnS : nb ∉ q.own d.L := fun hm => by have := Hlt.out nb hm; have := Hnb3.out; have := B3.out.size; omega
        have HnS := Lib.hid hnS
        have HBx := Lib.hid (B3.out.trans (HB5.out.mono B3.out.size))
        clear h5 hnS
        refine wp_region_held_drew (S := fun w' => Below w5.heap.size w5 w') (by kernel_rfl) ((Below.refl _ _).drew) (fun hH0 => ?_)
        obtain ⟨W0, hW0⟩ : ∃ W, W = w5.drew := ⟨_, rfl⟩
        rw [← hW0] at hH0 ⊢
        clear hW0
        refine wpAnyH_take (i := 0) (v := ?_) rfl (by kernel_rfl) (by kernel_rfl) (by kernel_rfl) (fun _ _ _ h => h) (Or.inl ⟨by kernel_rfl, ?_⟩) hH0 ?_
        rotate_left 1
        · intro w hSw
          go_simp
          try with_reducible rfl
        try simp only [Act.put, List.getElem_toArray, List.getElem_cons_zero, List.getElem_cons_succ, List.setIfInBounds_toArray, List.set_cons_zero, List.set_cons_succ]
        refine wpAnyH_take (i := 1) (v := ?_) rfl (by kernel_rfl) (by kernel_rfl) (by kernel_rfl) (fun _ _ _ h => h) (Or.inl ⟨by kernel_rfl, ?_⟩) hH0 ?_
        rotate_left 1
        · intro w hSw
          go_simp
          try with_reducible rfl
        try simp only [Act.put, List.getElem_toArray, List.getElem_cons_zero, List.getElem_cons_succ, List.setIfInBounds_toArray, List.set_cons_zero, List.set_cons_succ]
        refine wpAnyH_take (i := 2) (v := ?_) rfl (by kernel_rfl) (by kernel_rfl) (by kernel_rfl) (fun _ _ _ h => h) (Or.inl ⟨by kernel_rfl, ?_⟩) hH0 ?_
        rotate_left 1
        · intro w hSw
          go_simp
          try with_reducible rfl
        try simp only [Act.put, List.getElem_toArray, List.getElem_cons_zero, List.getElem_cons_succ, List.setIfInBounds_toArray, List.set_cons_zero, List.set_cons_succ]
        refine wpAnyH_take (i := 3) (v := ?_) rfl (by kernel_rfl) (by kernel_rfl) (by kernel_rfl) (fun _ _ _ h => h) (Or.inl ⟨by kernel_rfl, ?_⟩) hH0 ?_
        rotate_left 1
        · intro w hSw
          have f0 := (hSw.cell (p := ⟨q.p, 1, none⟩) lp).trans x1
          go_simp
          try with_reducible rfl
        try simp only [Act.put, List.getElem_toArray, List.getElem_cons_zero, List.getElem_cons_succ, List.setIfInBounds_toArray, List.set_cons_zero, List.set_cons_succ]
        refine wpAnyH_take (i := 4) (v := _) rfl (by kernel_rfl) (by kernel_rfl) (by kernel_rfl) (fun _ _ _ h => h) (yieldsIf_load_mid (by kernel_rfl) _ _ rfl _ _ rfl NV.toList _ (fun W hW => range_below r5 hW l5) nund rfl ndix) hH0 ?_
        try simp only [Act.put, List.getElem_toArray, List.getElem_cons_zero, List.getElem_cons_succ, List.setIfInBounds_toArray, List.set_cons_zero, List.set_cons_succ]
        refine wpAnyH_take (i := 5) (v := _) rfl (by kernel_rfl) (by kernel_rfl) (by kernel_rfl) (fun _ _ _ h => h) (yieldsIf_lookup (by kernel_rfl) 116 (.tmp 25) (.tmp 26) rfl (.pointer none) (fun W hW => hlook.out W hW)) hH0 ?_
        try simp only [Act.put, List.getElem_toArray, List.getElem_cons_zero, List.getElem_cons_succ, List.setIfInBounds_toArray, List.set_cons_zero, List.set_cons_succ]
        refine wpAnyH_take (i := 6) (v := ?_) rfl (by kernel_rfl) (by kernel_rfl) (by kernel_rfl) (fun _ _ _ h => h) (Or.inl ⟨by kernel_rfl, ?_⟩) hH0 ?_
        rotate_left 1
        · intro w hSw
          go_simp
          try with_reducible rfl
        try simp only [Act.put, List.getElem_toArray, List.getElem_cons_zero, List.getElem_cons_succ, List.setIfInBounds_toArray, List.set_cons_zero, List.set_cons_succ]
        refine wpAnyH_done (by kernel_rfl) ?_ _
        have H6 := Lib.hid hH0
        obtain ⟨w6, hw6⟩ : ∃ y, y = W0 := ⟨_, rfl⟩
        rw [← hw6] at H6 ⊢
        clear hH0 hw6 hlook
        have h6 := H5.out.below H6.out
        have hq7 := Lib.hid (below_keep H6.out hq6.out)
        have hpu := Lib.hid (Hput.out w6 h6 (HL5.out.below H6.out))
        clear h6 r5 l5 x1 lp
        go_wp2_with (refine wpList_load_row rfl 127 _ rfl nb rfl 127 NV (0, 0) _ hq7.out nund rfl ndixA ?_)
        refine hpu.out.mono ?_
        rintro e w7 ⟨er, d9, rfl, hR, h9, hO9, hn9⟩
        have HR := Lib.hid hR
        have H9 := Lib.hid h9
        have O9 := Lib.hid hO9
        have N9 := Lib.hid hn9
        clear hR h9 hO9 hn9 hpu
        go_wp2_with fail
        go_ret
        have hB6 := HBx.out.trans (H6.out.mono HBx.out.size)
        exact ⟨er, d9, rfl, HR.out, H9.out, (Only.of_below hB6).trans O9.out, fun x hx => (N9.out x hx).imp id (fun h => Nat.le_trans hB6.size h)⟩
      exact AllReadyH.nil
    exact AllReadyH.nil
  exact AllReadyH.nil
end Go.Proofs.YteihfoacdocgkaaDoor

set_option linter.unusedVariables false
set_option linter.unusedSimpArgs false
namespace Go.Proofs.YteihfoacdocgkaaDoor
open Go.RowKit Pl Sh
attribute [local go_sem] Lb.ba_get Lb.ba_cut Lb.ba_add Lb.ba_size Lb.take_rest

set_option maxHeartbeats 4000000 in
set_option maxRecDepth 100000 in
theorem grp_other (K : List Int) (q : HvP) (d : HvD) (j : Nat) (e : HEnt) (r : RecD) (w : World) (hat : HvAt w q d) (hL : Laid K w) (hr : d.ready) (hf : r.Fit) (hi : isRecS r = true) (hj : d.L[j]? = some e) (e1 : e.isB = false) (e2 : e.id = r.key) (hrow2 : e.row ≠ recRowS r) :
    Calls Tryd.prog 31 #[.pointer (some ⟨q.p, 0, none⟩), .agg r.row] w fun e w' => e = .returned (.int .i64 21) ∧ Below w.heap.size w w' := by
  have hb1 := (Below.refl w.heap.size w).alloc (Nat.le_refl _) (.cells r.row 26)
  have hn0 := heap_alloc_new w (.cells r.row 26)
  have h1 := hat.below hb1
  have hL1 := hL.below hb1
  obtain ⟨w1, hw1⟩ : ∃ y, y = w.alloc (.cells r.row 26) := ⟨_, rfl⟩
  obtain ⟨n0, hn⟩ : ∃ y, y = w.heap.size := ⟨_, rfl⟩
  rw [← hw1] at h1 hn0 hb1 hL1
  rw [← hn] at hn0
  have hrd := Lib.hid (ready_ok q d w1 h1 hr)
  have his := Lib.hid (fun W => isRecord_any r W hf)
  have hrow := Lib.hid (fun W => recordRow_any r W hf)
  have hm := rec_mem hf hn0
  have hlt := hat.lt
  obtain ⟨RC, hRC⟩ : ∃ x, x = r.row := ⟨_, rfl⟩
  have hrs : RC.size = 65 := by rw [hRC]; exact RecD.row_size hf
  have hri : (Tryd.prog.info? 26).map (·.size) = some RC.size := by rw [hrs]; exact rec_info
  rw [← hRC] at hn0 his hrow hw1 ⊢
  have rund := Tryd.underlying26
  have dund := Tryd.underlying23
  have Hn0 := Lib.hid hn0
  have Hb1 := Lib.hid hb1
  have Hn := Lib.hid hn
  have Hw1 := Lib.hid hw1
  have HL1 := Lib.hid hL1
  have H1 := Lib.hid h1
  have Hm := Lib.hid hm.1
  have Hlt := Lib.hid hlt
  have hkl := hf.k
  have hbn := built_name false r.key hf.k
  obtain ⟨DL, hDL⟩ : ∃ x, x = byV r.key := ⟨_, rfl⟩
  have dixL : (Tryd.prog.info? 23).map (·.size) = some DL.length := by rw [hDL, dig_info, byV_length, hkl]
  rw [← hDL] at hm hbn
  obtain ⟨NV, hNV⟩ : ∃ x, x = (Value.bool false :: DL).toArray := ⟨_, rfl⟩
  rw [← hNV] at hbn
  have hNs : NV.size = 33 := by rw [hNV, hDL]; simp [byV_length, hkl]
  have ndixA : (Tryd.prog.info? 127).map (·.size) = some NV.size := by rw [name_info, hNs]
  have ndix : (Tryd.prog.info? 127).map (·.size) = some NV.toList.length := by rw [ndixA]; simp
  have nund := Tryd.underlying127
  have hNone : NV.all (·.oneCell') = true := by rw [hNV, hDL, List.all_toArray, List.all_cons, byV_one]; rfl
  have hzs : zeroName.size = 33 := by kernel_rfl
  have HNV : Hid (NV = (Value.bool false :: byV r.key).toArray) := Lib.hid (by rw [hNV, hDL])
  have Hm := Lib.hid hm.1
  obtain ⟨row, hrw⟩ : ∃ x, x = recRowS r := ⟨_, rfl⟩
  rw [← hrw] at hrow
  rw [hi] at his
  have Hkl := Lib.hid hkl
  have rdixL : (Tryd.prog.info? 26).map (·.size) = some RC.toList.length := by rw [hri]; simp
  have Hj := Lib.hid hj
  have E1 := Lib.hid e1
  have E2 := Lib.hid e2
  have Hfe := Lib.hid (hat.fit e (List.mem_of_getElem? hj))
  obtain ⟨bk, hbk⟩ : ∃ x, x = e.blk := ⟨_, rfl⟩
  have Hbk := Lib.hid hbk
  obtain ⟨er_, her⟩ : ∃ x, x = e.row := ⟨_, rfl⟩
  have Her := Lib.hid her
  rw [← hrw, ← her] at hrow2
  have b1 : (er_ != row) = true := by simpa using hrow2
  have b2 : (er_ == row) = false := by simpa using hrow2
  clear hat hL hr hn0 hb1 hn hw1 hL1 h1 hm hlt hRC hi hf hrw hNV hDL hkl hj e1 e2 hbk her hrow2
  go_enter Tryd.func31, Tryd.ntmps31
  go_upto_region 1 with fail
  rw [← Hw1.out, ← Hn.out]
  go_wp2_with fail
  refine hrd.out.mono ?_
  rintro e w2 ⟨rfl, hB2⟩
  have B2 := Lib.hid (Hb1.out.trans (hB2.mono Hb1.out.size))
  have Hn2 := Lib.hid (below_keep hB2 Hn0.out)
  have Hm2 := Lib.hid (range_below Hm.out hB2 (heap_lt Hn0.out))
  have H2 := Lib.hid (H1.out.below hB2)
  have HL2 := Lib.hid (HL1.out.below hB2)
  clear hB2 hrd
  go_wp2_with (refine wpList_load_row rfl 26 _ rfl n0 rfl 26 RC (0, 0) _ Hn2.out rund rfl hri ?_)
  refine (his.out w2).mono ?_
  rintro e w3 ⟨rfl, hB3⟩
  have B3 := Lib.hid (B2.out.trans (hB3.mono B2.out.size))
  have Hn3 := Lib.hid (below_keep hB3 Hn2.out)
  have hm3 := range_below Hm2.out hB3 (heap_lt Hn2.out)
  have hl3 := heap_lt Hn3.out
  have H3 := Lib.hid (H2.out.below hB3)
  have HL3 := Lib.hid (HL2.out.below hB3)
  clear hB3 his Hm2
  have rr3 : w3.rangeAt n0 0 RC.toList := fun k v hv => by rw [Lib.cell_of_heap Hn3.out, Nat.zero_add]; simpa using hv
  go_upto_region 6 with fail
  refine wp_region_held_drew (S := fun w' => Below w3.heap.size w3 w') (by kernel_rfl) ((Below.refl _ _).drew) (fun hH0 => ?_)
  obtain ⟨W0, hW0⟩ : ∃ W, W = w3.drew := ⟨_, rfl⟩
  rw [← hW0] at hH0 ⊢
  clear hW0
  refine wpAnyH_take (i := 0) (v := ?_) rfl (by kernel_rfl) (by kernel_rfl) (by kernel_rfl) (fun _ _ _ h => h) (Or.inl ⟨by kernel_rfl, ?_⟩) hH0 ?_
  rotate_left 1
  · intro w hSw
    go_simp
    try with_reducible rfl
  try simp only [Act.put, List.getElem_toArray, List.getElem_cons_zero, List.getElem_cons_succ, List.setIfInBounds_toArray, List.set_cons_zero, List.set_cons_succ]
  refine wpAnyH_take (i := 1) (v := _) rfl (by kernel_rfl) (by kernel_rfl) (by kernel_rfl) (fun _ _ _ h => h) (yieldsIf_load_mid (by kernel_rfl) _ _ rfl _ _ rfl DL _ (fun W hW => range_below hm3 hW hl3) dund rfl dixL) hH0 ?_
  try simp only [Act.put, List.getElem_toArray, List.getElem_cons_zero, List.getElem_cons_succ, List.setIfInBounds_toArray, List.set_cons_zero, List.set_cons_succ]
  refine wpAnyH_take (i := 2) (v := _) rfl (by kernel_rfl) (by kernel_rfl) (by kernel_rfl) (fun _ _ _ h => h) (yieldsIf_build (by kernel_rfl) 127 _ rfl NV (by simpa [Act.eval] using hbn)) hH0 ?_
  try simp only [Act.put, List.getElem_toArray, List.getElem_cons_zero, List.getElem_cons_succ, List.setIfInBounds_toArray, List.set_cons_zero, List.set_cons_succ]
  refine wpAnyH_take (i := 3) (v := _) rfl (by kernel_rfl) (by kernel_rfl) (by kernel_rfl) (fun _ _ _ h => h) (yieldsIf_load_mid (by kernel_rfl) _ _ rfl _ _ rfl RC.toList _ (fun W hW => range_below rr3 hW hl3) rund rfl rdixL) hH0 ?_
  try simp only [Act.put, List.getElem_toArray, List.getElem_cons_zero, List.getElem_cons_succ, List.setIfInBounds_toArray, List.set_cons_zero, List.set_cons_succ]
  refine wpAnyH_ready (rs := [4, 5]) (by kernel_rfl) (by simp) ?_
  refine AllReadyH.cons rfl (fun K_ hK => ?_) ?_
  · go_simp
    refine (hrow.out W0).mono ?_
    rintro e W1 ⟨rfl, hb1⟩
    try have HNB := Lib.hid (below_keep hb1 HNB.out)
    have hS1 := (hH0).trans (hb1.mono (hH0).size)
    clear hb1
    refine hK.out _ _ hS1 (fun hH1 => ?_)
    clear hK K_
    try simp only [Act.put, List.getElem_toArray, List.getElem_cons_zero, List.getElem_cons_succ, List.setIfInBounds_toArray, List.set_cons_zero, List.set_cons_succ]
    refine wpAnyH_ready (rs := [5]) (by kernel_rfl) (by simp) ?_
    refine AllReadyH.cons rfl (fun K_ hK => ?_) ?_
    · go_simp
      show K_ _ (W1.alloc (.cells zeroName 127))
      have hnb2 := heap_alloc_new W1 (.cells zeroName 127)
      have hS2 := (hH1).alloc (hH1).size (.cells zeroName 127)
      have hsz2 := (hH1).size
      obtain ⟨W2, hW2⟩ : ∃ y, y = W1.alloc (.cells zeroName 127) := ⟨_, rfl⟩
      obtain ⟨nb, hq2⟩ : ∃ y, y = W1.heap.size := ⟨_, rfl⟩
      rw [← hW2] at hnb2 hS2 ⊢
      rw [← hq2] at hnb2 hsz2 ⊢
      have HNB := Lib.hid hnb2
      have Hnb3 := Lib.hid hsz2
      clear hW2 hq2 hnb2 hsz2
      refine hK.out _ _ hS2 (fun hH2 => ?_)
      clear hK K_
      try simp only [Act.put, List.getElem_toArray, List.getElem_cons_zero, List.getElem_cons_succ, List.setIfInBounds_toArray, List.set_cons_zero, List.set_cons_succ]
      refine wpAnyH_ready (rs := [6]) (by kernel_rfl) (by simp) ?_
      refine AllReadyH.cons rfl (fun K_ hK => ?_) ?_
      · rw [if_pos (by rfl)]
        refine wp_store_row 127 _ _ rfl nb NV rfl rfl 127 zeroName HNB.out ndixA (by rw [hNs, hzs]) hNone ?_
        have hq5 := setRow_heap _ _ _ NV _ _ HNB.out
        have hS3 : Below w3.heap.size w3 (W2.setRow nb NV) := (hH2).trans (((Only.refl [nb] W2).setRow (by simp) NV).below (hH2).size (by intro x hx; simp only [List.mem_singleton] at hx; subst hx; exact Hnb3.out))
        have hq6 := Lib.hid hq5
        obtain ⟨W3, hW3⟩ : ∃ y, y = W2.setRow nb NV := ⟨_, rfl⟩
        rw [← hW3] at hq6 hS3 ⊢
        clear hW3 hq5
        refine hK.out _ _ hS3 (fun hH3 => ?_)
        clear hK K_
        try simp only [Act.put, List.getElem_toArray, List.getElem_cons_zero, List.getElem_cons_succ, List.setIfInBounds_toArray, List.set_cons_zero, List.set_cons_succ]
        refine wpAnyH_take (i := 7) (v := ?_) rfl (by kernel_rfl) (by kernel_rfl) (by kernel_rfl) (fun _ _ _ h => h) (Or.inl ⟨by kernel_rfl, ?_⟩) hH3 ?_
        rotate_left 1
        · intro w hSw
          go_simp
          try with_reducible rfl
        try simp only [Act.put, List.getElem_toArray, List.getElem_cons_zero, List.getElem_cons_succ, List.setIfInBounds_toArray, List.set_cons_zero, List.set_cons_succ]
        refine wpAnyH_done (by kernel_rfl) ?_ _
        have HB5 := Lib.hid hH3
        obtain ⟨w5, hw5⟩ : ∃ y, y = W3 := ⟨_, rfl⟩
        rw [← hw5] at hq6 HB5 ⊢
        clear hH3 hw5
        go_upto_region 7 with fail
        have h5 := H3.out.below HB5.out
        have r5 : w5.rangeAt nb 0 NV.toList := fun k v hv => by rw [Lib.cell_of_heap hq6.out, Nat.zero_add]; simpa using hv
        have l5 : nb < w5.heap.size := heap_lt hq6.out
        have x1 := (hv_cells h5).2.1
        have lp : q.p < w5.heap.size := heap_lt h5.hp
        have hlook := Lib.hid (fun W (hW : Below w5.heap.size w5 W) => look_yes (h5.below hW) (List.mem_of_getElem? Hj.out))
        rw [show nameV (e.isB, e.id) = .agg NV from by rw [HNV.out, E1.out, E2.out]; rfl, ← Hbk.out] at hlook
        have H5 := Lib.hid h5
        have HL5 := Lib.hid (HL3.out.below HB5.out)
        have hnS : nb ∉ q.own d.L := fun hm => by have := Hlt.out nb hm; have := Hnb3.out; have := B3.out.size; omega
        have HnS := Lib.hid hnS
        have HBx := Lib.hid (B3.out.trans (HB5.out.mono B3.out.size))
        clear h5 hnS
        refine wp_region_held_drew (S := fun w' => Below w5.heap.size w5 w') (by kernel_rfl) ((Below.refl _ _).drew) (fun hH0 => ?_)
        obtain ⟨W0, hW0⟩ : ∃ W, W = w5.drew := ⟨_, rfl⟩
        rw [← hW0] at hH0 ⊢
        clear hW0
        refine wpAnyH_take (i := 0) (v := ?_) rfl (by kernel_rfl) (by kernel_rfl) (by kernel_rfl) (fun _ _ _ h => h) (Or.inl ⟨by kernel_rfl, ?_⟩) hH0 ?_
        rotate_left 1
        · intro w hSw
          go_simp
          try with_reducible rfl
        try simp only [Act.put, List.getElem_toArray, List.getElem_cons_zero, List.getElem_cons_succ, List.setIfInBounds_toArray, List.set_cons_zero, List.set_cons_succ]
        refine wpAnyH_take (i := 1) (v := ?_) rfl (by kernel_rfl) (by kernel_rfl) (by kernel_rfl) (fun _ _ _ h => h) (Or.inl ⟨by kernel_rfl, ?_⟩) hH0 ?_
        rotate_left 1
        · intro w hSw
          go_simp
          try with_reducible rfl
        try simp only [Act.put, List.getElem_toArray, List.getElem_cons_zero, List.getElem_cons_succ, List.setIfInBounds_toArray, List.set_cons_zero, List.set_cons_succ]
        refine wpAnyH_take (i := 2) (v := ?_) rfl (by kernel_rfl) (by kernel_rfl) (by kernel_rfl) (fun _ _ _ h => h) (Or.inl ⟨by kernel_rfl, ?_⟩) hH0 ?_
        rotate_left 1
        · intro w hSw
          go_simp
          try with_reducible rfl
        try simp only [Act.put, List.getElem_toArray, List.getElem_cons_zero, List.getElem_cons_succ, List.setIfInBounds_toArray, List.set_cons_zero, List.set_cons_succ]
        refine wpAnyH_take (i := 3) (v := ?_) rfl (by kernel_rfl) (by kernel_rfl) (by kernel_rfl) (fun _ _ _ h => h) (Or.inl ⟨by kernel_rfl, ?_⟩) hH0 ?_
        rotate_left 1
        · intro w hSw
          have f0 := (hSw.cell (p := ⟨q.p, 1, none⟩) lp).trans x1
          go_simp
          try with_reducible rfl
        try simp only [Act.put, List.getElem_toArray, List.getElem_cons_zero, List.getElem_cons_succ, List.setIfInBounds_toArray, List.set_cons_zero, List.set_cons_succ]
        refine wpAnyH_take (i := 4) (v := _) rfl (by kernel_rfl) (by kernel_rfl) (by kernel_rfl) (fun _ _ _ h => h) (yieldsIf_load_mid (by kernel_rfl) _ _ rfl _ _ rfl NV.toList _ (fun W hW => range_below r5 hW l5) nund rfl ndix) hH0 ?_
        try simp only [Act.put, List.getElem_toArray, List.getElem_cons_zero, List.getElem_cons_succ, List.setIfInBounds_toArray, List.set_cons_zero, List.set_cons_succ]
        refine wpAnyH_take (i := 5) (v := _) rfl (by kernel_rfl) (by kernel_rfl) (by kernel_rfl) (fun _ _ _ h => h) (yieldsIf_lookup (by kernel_rfl) 116 (.tmp 25) (.tmp 26) rfl (.pointer (some ⟨bk, 0, none⟩)) (fun W hW => hlook.out W hW)) hH0 ?_
        try simp only [Act.put, List.getElem_toArray, List.getElem_cons_zero, List.getElem_cons_succ, List.setIfInBounds_toArray, List.set_cons_zero, List.set_cons_succ]
        refine wpAnyH_take (i := 6) (v := ?_) rfl (by kernel_rfl) (by kernel_rfl) (by kernel_rfl) (fun _ _ _ h => h) (Or.inl ⟨by kernel_rfl, ?_⟩) hH0 ?_
        rotate_left 1
        · intro w hSw
          go_simp
          try with_reducible rfl
        try simp only [Act.put, List.getElem_toArray, List.getElem_cons_zero, List.getElem_cons_succ, List.setIfInBounds_toArray, List.set_cons_zero, List.set_cons_succ]
        refine wpAnyH_done (by kernel_rfl) ?_ _
        have H6 := Lib.hid hH0
        obtain ⟨w6, hw6⟩ : ∃ y, y = W0 := ⟨_, rfl⟩
        rw [← hw6] at H6 ⊢
        clear hH0 hw6 hlook
        have h6 := H5.out.below H6.out
        obtain ⟨y33, y34, y35, -⟩ := ent_cells Hfe.out (h6.ents e (List.mem_of_getElem? Hj.out))
        rw [← Hbk.out, ← Her.out] at y35
        have H6h := Lib.hid h6
        have hB6 := Lib.hid (HBx.out.trans (H6.out.mono HBx.out.size))
        clear h6 r5 l5 x1 lp y33 y34
        go_wp2_with fail
        go_ret
        exact ⟨rfl, hB6.out⟩
      exact AllReadyH.nil
    exact AllReadyH.nil
  refine AllReadyH.cons rfl (fun K_ hK => ?_) ?_
  · go_simp
    show K_ _ (W0.alloc (.cells zeroName 127))
    have hnb4 := heap_alloc_new W0 (.cells zeroName 127)
    have hS4 := (hH0).alloc (hH0).size (.cells zeroName 127)
    have hsz4 := (hH0).size
    obtain ⟨W4, hW4⟩ : ∃ y, y = W0.alloc (.cells zeroName 127) := ⟨_, rfl⟩
    obtain ⟨nb, hq4⟩ : ∃ y, y = W0.heap.size := ⟨_, rfl⟩
    rw [← hW4] at hnb4 hS4 ⊢
    rw [← hq4] at hnb4 hsz4 ⊢
    have HNB := Lib.hid hnb4
    have Hnb3 := Lib.hid hsz4
    clear hW4 hq4 hnb4 hsz4
    refine hK.out _ _ hS4 (fun hH4 => ?_)
    clear hK K_
    try simp only [Act.put, List.getElem_toArray, List.getElem_cons_zero, List.getElem_cons_succ, List.setIfInBounds_toArray, List.set_cons_zero, List.set_cons_succ]
    refine wpAnyH_ready (rs := [4]) (by kernel_rfl) (by simp) ?_
    refine AllReadyH.cons rfl (fun K_ hK => ?_) ?_
    · go_simp
      refine (hrow.out W4).mono ?_
      rintro e W5 ⟨rfl, hb5⟩
      try have HNB := Lib.hid (below_keep hb5 HNB.out)
      have hS5 := (hH4).trans (hb5.mono (hH4).size)
      clear hb5
      refine hK.out _ _ hS5 (fun hH5 => ?_)
      clear hK K_
      try simp only [Act.put, List.getElem_toArray, List.getElem_cons_zero, List.getElem_cons_succ, List.setIfInBounds_toArray, List.set_cons_zero, List.set_cons_succ]
      refine wpAnyH_ready (rs := [6]) (by kernel_rfl) (by simp) ?_
      refine AllReadyH.cons rfl (fun K_ hK => ?_) ?_
      · rw [if_pos (by rfl)]
        refine wp_store_row 127 _ _ rfl nb NV rfl rfl 127 zeroName HNB.out ndixA (by rw [hNs, hzs]) hNone ?_
        have hq5 := setRow_heap _ _ _ NV _ _ HNB.out
        have hS6 : Below w3.heap.size w3 (W5.setRow nb NV) := (hH5).trans (((Only.refl [nb] W5).setRow (by simp) NV).below (hH5).size (by intro x hx; simp only [List.mem_singleton] at hx; subst hx; exact Hnb3.out))
        have hq6 := Lib.hid hq5
        obtain ⟨W6, hW6⟩ : ∃ y, y = W5.setRow nb NV := ⟨_, rfl⟩
        rw [← hW6] at hq6 hS6 ⊢
        clear hW6 hq5
        refine hK.out _ _ hS6 (fun hH6 => ?_)
        clear hK K_
        try simp only [Act.put, List.getElem_toArray, List.getElem_cons_zero, List.getElem_cons_succ, List.setIfInBounds_toArray, List.set_cons_zero, List.set_cons_succ]
        refine wpAnyH_take (i := 7) (v := ?_) rfl (by kernel_rfl) (by kernel_rfl) (by kernel_rfl) (fun _ _ _ h => h) (Or.inl ⟨by kernel_rfl, ?_⟩) hH6 ?_
        rotate_left 1
        · intro w hSw
          go_simp
          try with_reducible rfl
        try simp only [Act.put, List.getElem_toArray, List.getElem_cons_zero, List.getElem_cons_succ, List.setIfInBounds_toArray, List.set_cons_zero, List.set_cons_succ]
        refine wpAnyH_done (by kernel_rfl) ?_ _
        have HB5 := Lib.hid hH6
        obtain ⟨w5, hw5⟩ : ∃ y, y = W6 := ⟨_, rfl⟩
        rw [← hw5] at hq6 HB5 ⊢
        clear hH6 hw5
        go_upto_region 7 with fail
        have h5 := H3.out.below HB5.out
        have r5 : w5.rangeAt nb 0 NV.toList := fun k v hv => by rw [Lib.cell_of_heap hq6.out, Nat.zero_add]; simpa using hv
        have l5 : nb < w5.heap.size := heap_lt hq6.out
        have x1 := (hv_cells h5).2.1
        have lp : q.p < w5.heap.size := heap_lt h5.hp
        have hlook := Lib.hid (fun W (hW : Below w5.heap.size w5 W) => look_yes (h5.below hW) (List.mem_of_getElem? Hj.out))
        rw [show nameV (e.isB, e.id) = .agg NV from by rw [HNV.out, E1.out, E2.out]; rfl, ← Hbk.out] at hlook
        have H5 := Lib.hid h5
        have HL5 := Lib.hid (HL3.out.below HB5.out)
        have hnS : nb ∉ q.own d.L := fun hm => by have := Hlt.out nb hm; have := Hnb3.out; have := B3.out.size; omega
        have HnS := Lib.hid hnS
        have HBx := Lib.hid (B3.out.trans (HB5.out.mono B3.out.size))
        clear h5 hnS
        refine wp_region_held_drew (S := fun w' => Below w5.heap.size w5 w') (by kernel_rfl) ((Below.refl _ _).drew) (fun hH0 => ?_)
        obtain ⟨W0, hW0⟩ : ∃ W, W = w5.drew := ⟨_, rfl⟩
        rw [← hW0] at hH0 ⊢
        clear hW0
        refine wpAnyH_take (i := 0) (v := ?_) rfl (by kernel_rfl) (by kernel_rfl) (by kernel_rfl) (fun _ _ _ h => h) (Or.inl ⟨by kernel_rfl, ?_⟩) hH0 ?_
        rotate_left 1
        · intro w hSw
          go_simp
          try with_reducible rfl
        try simp only [Act.put, List.getElem_toArray, List.getElem_cons_zero, List.getElem_cons_succ, List.setIfInBounds_toArray, List.set_cons_zero, List.set_cons_succ]
        refine wpAnyH_take (i := 1) (v := ?_) rfl (by kernel_rfl) (by kernel_rfl) (by kernel_rfl) (fun _ _ _ h => h) (Or.inl ⟨by kernel_rfl, ?_⟩) hH0 ?_
        rotate_left 1
        · intro w hSw
          go_simp
          try with_reducible rfl
        try simp only [Act.put, List.getElem_toArray, List.getElem_cons_zero, List.getElem_cons_succ, List.setIfInBounds_toArray, List.set_cons_zero, List.set_cons_succ]
        refine wpAnyH_take (i := 2) (v := ?_) rfl (by kernel_rfl) (by kernel_rfl) (by kernel_rfl) (fun _ _ _ h => h) (Or.inl ⟨by kernel_rfl, ?_⟩) hH0 ?_
        rotate_left 1
        · intro w hSw
          go_simp
          try with_reducible rfl
        try simp only [Act.put, List.getElem_toArray, List.getElem_cons_zero, List.getElem_cons_succ, List.setIfInBounds_toArray, List.set_cons_zero, List.set_cons_succ]
        refine wpAnyH_take (i := 3) (v := ?_) rfl (by kernel_rfl) (by kernel_rfl) (by kernel_rfl) (fun _ _ _ h => h) (Or.inl ⟨by kernel_rfl, ?_⟩) hH0 ?_
        rotate_left 1
        · intro w hSw
          have f0 := (hSw.cell (p := ⟨q.p, 1, none⟩) lp).trans x1
          go_simp
          try with_reducible rfl
        try simp only [Act.put, List.getElem_toArray, List.getElem_cons_zero, List.getElem_cons_succ, List.setIfInBounds_toArray, List.set_cons_zero, List.set_cons_succ]
        refine wpAnyH_take (i := 4) (v := _) rfl (by kernel_rfl) (by kernel_rfl) (by kernel_rfl) (fun _ _ _ h => h) (yieldsIf_load_mid (by kernel_rfl) _ _ rfl _ _ rfl NV.toList _ (fun W hW => range_below r5 hW l5) nund rfl ndix) hH0 ?_
        try simp only [Act.put, List.getElem_toArray, List.getElem_cons_zero, List.getElem_cons_succ, List.setIfInBounds_toArray, List.set_cons_zero, List.set_cons_succ]
        refine wpAnyH_take (i := 5) (v := _) rfl (by kernel_rfl) (by kernel_rfl) (by kernel_rfl) (fun _ _ _ h => h) (yieldsIf_lookup (by kernel_rfl) 116 (.tmp 25) (.tmp 26) rfl (.pointer (some ⟨bk, 0, none⟩)) (fun W hW => hlook.out W hW)) hH0 ?_
        try simp only [Act.put, List.getElem_toArray, List.getElem_cons_zero, List.getElem_cons_succ, List.setIfInBounds_toArray, List.set_cons_zero, List.set_cons_succ]
        refine wpAnyH_take (i := 6) (v := ?_) rfl (by kernel_rfl) (by kernel_rfl) (by kernel_rfl) (fun _ _ _ h => h) (Or.inl ⟨by kernel_rfl, ?_⟩) hH0 ?_
        rotate_left 1
        · intro w hSw
          go_simp
          try with_reducible rfl
        try simp only [Act.put, List.getElem_toArray, List.getElem_cons_zero, List.getElem_cons_succ, List.setIfInBounds_toArray, List.set_cons_zero, List.set_cons_succ]
        refine wpAnyH_done (by kernel_rfl) ?_ _
        have H6 := Lib.hid hH0
        obtain ⟨w6, hw6⟩ : ∃ y, y = W0 := ⟨_, rfl⟩
        rw [← hw6] at H6 ⊢
        clear hH0 hw6 hlook
        have h6 := H5.out.below H6.out
        obtain ⟨y33, y34, y35, -⟩ := ent_cells Hfe.out (h6.ents e (List.mem_of_getElem? Hj.out))
        rw [← Hbk.out, ← Her.out] at y35
        have H6h := Lib.hid h6
        have hB6 := Lib.hid (HBx.out.trans (H6.out.mono HBx.out.size))
        clear h6 r5 l5 x1 lp y33 y34
        go_wp2_with fail
        go_ret
        exact ⟨rfl, hB6.out⟩
      exact AllReadyH.nil
    exact AllReadyH.nil
  exact AllReadyH.nil
set_option maxHeartbeats 4000000 in
set_option maxRecDepth 100000 in
theorem grp_again (K : List Int) (q : HvP) (d : HvD) (j : Nat) (e : HEnt) (r : RecD) (w : World) (hat : HvAt w q d) (hL : Laid K w) (hr : d.ready) (hf : r.Fit) (hi : isRecS r = true) (hj : d.L[j]? = some e) (e1 : e.isB = false) (e2 : e.id = r.key) (hrow2 : e.row = recRowS r) (hcl : d.clk < 1000000) :
    Calls Tryd.prog 31 #[.pointer (some ⟨q.p, 0, none⟩), .agg r.row] w fun x w' => x = .returned (.int .i64 0) ∧ HvAt w' q { d with L := d.L.set j { e with used := ((d.clk + 1 : Nat) : Int) }, clk := d.clk + 1 } ∧ Only (q.own d.L) w w' := by
  have hb1 := (Below.refl w.heap.size w).alloc (Nat.le_refl _) (.cells r.row 26)
  have hn0 := heap_alloc_new w (.cells r.row 26)
  have h1 := hat.below hb1
  have hL1 := hL.below hb1
  obtain ⟨w1, hw1⟩ : ∃ y, y = w.alloc (.cells r.row 26) := ⟨_, rfl⟩
  obtain ⟨n0, hn⟩ : ∃ y, y = w.heap.size := ⟨_, rfl⟩
  rw [← hw1] at h1 hn0 hb1 hL1
  rw [← hn] at hn0
  have hrd := Lib.hid (ready_ok q d w1 h1 hr)
  have his := Lib.hid (fun W => isRecord_any r W hf)
  have hrow := Lib.hid (fun W => recordRow_any r W hf)
  have hm := rec_mem hf hn0
  have hlt := hat.lt
  obtain ⟨RC, hRC⟩ : ∃ x, x = r.row := ⟨_, rfl⟩
  have hrs : RC.size = 65 := by rw [hRC]; exact RecD.row_size hf
  have hri : (Tryd.prog.info? 26).map (·.size) = some RC.size := by rw [hrs]; exact rec_info
  rw [← hRC] at hn0 his hrow hw1 ⊢
  have rund := Tryd.underlying26
  have dund := Tryd.underlying23
  have Hn0 := Lib.hid hn0
  have Hb1 := Lib.hid hb1
  have Hn := Lib.hid hn
  have Hw1 := Lib.hid hw1
  have HL1 := Lib.hid hL1
  have H1 := Lib.hid h1
  have Hm := Lib.hid hm.1
  have Hlt := Lib.hid hlt
  have hkl := hf.k
  have hbn := built_name false r.key hf.k
  obtain ⟨DL, hDL⟩ : ∃ x, x = byV r.key := ⟨_, rfl⟩
  have dixL : (Tryd.prog.info? 23).map (·.size) = some DL.length := by rw [hDL, dig_info, byV_length, hkl]
  rw [← hDL] at hm hbn
  obtain ⟨NV, hNV⟩ : ∃ x, x = (Value.bool false :: DL).toArray := ⟨_, rfl⟩
  rw [← hNV] at hbn
  have hNs : NV.size = 33 := by rw [hNV, hDL]; simp [byV_length, hkl]
  have ndixA : (Tryd.prog.info? 127).map (·.size) = some NV.size := by rw [name_info, hNs]
  have ndix : (Tryd.prog.info? 127).map (·.size) = some NV.toList.length := by rw [ndixA]; simp
  have nund := Tryd.underlying127
  have hNone : NV.all (·.oneCell') = true := by rw [hNV, hDL, List.all_toArray, List.all_cons, byV_one]; rfl
  have hzs : zeroName.size = 33 := by kernel_rfl
  have HNV : Hid (NV = (Value.bool false :: byV r.key).toArray) := Lib.hid (by rw [hNV, hDL])
  have Hm := Lib.hid hm.1
  obtain ⟨row, hrw⟩ : ∃ x, x = recRowS r := ⟨_, rfl⟩
  rw [← hrw] at hrow
  rw [hi] at his
  have Hkl := Lib.hid hkl
  have rdixL : (Tryd.prog.info? 26).map (·.size) = some RC.toList.length := by rw [hri]; simp
  have Hj := Lib.hid hj
  have E1 := Lib.hid e1
  have E2 := Lib.hid e2
  have Hfe := Lib.hid (hat.fit e (List.mem_of_getElem? hj))
  obtain ⟨bk, hbk⟩ : ∃ x, x = e.blk := ⟨_, rfl⟩
  have Hbk := Lib.hid hbk
  obtain ⟨er_, her⟩ : ∃ x, x = e.row := ⟨_, rfl⟩
  have Her := Lib.hid her
  have hre : er_ = row := by rw [her, hrw, hrow2]
  subst hre
  clear hat hL hr hn0 hb1 hn hw1 hL1 h1 hm hlt hRC hi hf hrw hNV hDL hkl hj e1 e2 hbk her hrow2
  go_enter Tryd.func31, Tryd.ntmps31
  go_upto_region 1 with fail
  rw [← Hw1.out, ← Hn.out]
  go_wp2_with fail
  refine hrd.out.mono ?_
  rintro e w2 ⟨rfl, hB2⟩
  have B2 := Lib.hid (Hb1.out.trans (hB2.mono Hb1.out.size))
  have Hn2 := Lib.hid (below_keep hB2 Hn0.out)
  have Hm2 := Lib.hid (range_below Hm.out hB2 (heap_lt Hn0.out))
  have H2 := Lib.hid (H1.out.below hB2)
  have HL2 := Lib.hid (HL1.out.below hB2)
  clear hB2 hrd
  go_wp2_with (refine wpList_load_row rfl 26 _ rfl n0 rfl 26 RC (0, 0) _ Hn2.out rund rfl hri ?_)
  refine (his.out w2).mono ?_
  rintro e w3 ⟨rfl, hB3⟩
  have B3 := Lib.hid (B2.out.trans (hB3.mono B2.out.size))
  have Hn3 := Lib.hid (below_keep hB3 Hn2.out)
  have hm3 := range_below Hm2.out hB3 (heap_lt Hn2.out)
  have hl3 := heap_lt Hn3.out
  have H3 := Lib.hid (H2.out.below hB3)
  have HL3 := Lib.hid (HL2.out.below hB3)
  clear hB3 his Hm2
  have rr3 : w3.rangeAt n0 0 RC.toList := fun k v hv => by rw [Lib.cell_of_heap Hn3.out, Nat.zero_add]; simpa using hv
  go_upto_region 6 with fail
  refine wp_region_held_drew (S := fun w' => Below w3.heap.size w3 w') (by kernel_rfl) ((Below.refl _ _).drew) (fun hH0 => ?_)
  obtain ⟨W0, hW0⟩ : ∃ W, W = w3.drew := ⟨_, rfl⟩
  rw [← hW0] at hH0 ⊢
  clear hW0
  refine wpAnyH_take (i := 0) (v := ?_) rfl (by kernel_rfl) (by kernel_rfl) (by kernel_rfl) (fun _ _ _ h => h) (Or.inl ⟨by kernel_rfl, ?_⟩) hH0 ?_
  rotate_left 1
  · intro w hSw
    go_simp
    try with_reducible rfl
  try simp only [Act.put, List.getElem_toArray, List.getElem_cons_zero, List.getElem_cons_succ, List.setIfInBounds_toArray, List.set_cons_zero, List.set_cons_succ]
  refine wpAnyH_take (i := 1) (v := _) rfl (by kernel_rfl) (by kernel_rfl) (by kernel_rfl) (fun _ _ _ h => h) (yieldsIf_load_mid (by kernel_rfl) _ _ rfl _ _ rfl DL _ (fun W hW => range_below hm3 hW hl3) dund rfl dixL) hH0 ?_
  try simp only [Act.put, List.getElem_toArray, List.getElem_cons_zero, List.getElem_cons_succ, List.setIfInBounds_toArray, List.set_cons_zero, List.set_cons_succ]
  refine wpAnyH_take (i := 2) (v := _) rfl (by kernel_rfl) (by kernel_rfl) (by kernel_rfl) (fun _ _ _ h => h) (yieldsIf_build (by kernel_rfl) 127 _ rfl NV (by simpa [Act.eval] using hbn)) hH0 ?_
  try simp only [Act.put, List.getElem_toArray, List.getElem_cons_zero, List.getElem_cons_succ, List.setIfInBounds_toArray, List.set_cons_zero, List.set_cons_succ]
  refine wpAnyH_take (i := 3) (v := _) rfl (by kernel_rfl) (by kernel_rfl) (by kernel_rfl) (fun _ _ _ h => h) (yieldsIf_load_mid (by kernel_rfl) _ _ rfl _ _ rfl RC.toList _ (fun W hW => range_below rr3 hW hl3) rund rfl rdixL) hH0 ?_
  try simp only [Act.put, List.getElem_toArray, List.getElem_cons_zero, List.getElem_cons_succ, List.setIfInBounds_toArray, List.set_cons_zero, List.set_cons_succ]
  refine wpAnyH_ready (rs := [4, 5]) (by kernel_rfl) (by simp) ?_
  refine AllReadyH.cons rfl (fun K_ hK => ?_) ?_
  · go_simp
    refine (hrow.out W0).mono ?_
    rintro e W1 ⟨rfl, hb1⟩
    try have HNB := Lib.hid (below_keep hb1 HNB.out)
    have hS1 := (hH0).trans (hb1.mono (hH0).size)
    clear hb1
    refine hK.out _ _ hS1 (fun hH1 => ?_)
    clear hK K_
    try simp only [Act.put, List.getElem_toArray, List.getElem_cons_zero, List.getElem_cons_succ, List.setIfInBounds_toArray, List.set_cons_zero, List.set_cons_succ]
    refine wpAnyH_ready (rs := [5]) (by kernel_rfl) (by simp) ?_
    refine AllReadyH.cons rfl (fun K_ hK => ?_) ?_
    · go_simp
      show K_ _ (W1.alloc (.cells zeroName 127))
      have hnb2 := heap_alloc_new W1 (.cells zeroName 127)
      have hS2 := (hH1).alloc (hH1).size (.cells zeroName 127)
      have hsz2 := (hH1).size
      obtain ⟨W2, hW2⟩ : ∃ y, y = W1.alloc (.cells zeroName 127) := ⟨_, rfl⟩
      obtain ⟨nb, hq2⟩ : ∃ y, y = W1.heap.size := ⟨_, rfl⟩
      rw [← hW2] at hnb2 hS2 ⊢
      rw [← hq2] at hnb2 hsz2 ⊢
      have HNB := Lib.hid hnb2
      have Hnb3 := Lib.hid hsz2
      clear hW2 hq2 hnb2 hsz2
      refine hK.out _ _ hS2 (fun hH2 => ?_)
      clear hK K_
      try simp only [Act.put, List.getElem_toArray, List.getElem_cons_zero, List.getElem_cons_succ, List.setIfInBounds_toArray, List.set_cons_zero, List.set_cons_succ]
      refine wpAnyH_ready (rs := [6]) (by kernel_rfl) (by simp) ?_
      refine AllReadyH.cons rfl (fun K_ hK => ?_) ?_
      · rw [if_pos (by rfl)]
        refine wp_store_row 127 _ _ rfl nb NV rfl rfl 127 zeroName HNB.out ndixA (by rw [hNs, hzs]) hNone ?_
        have hq5 := setRow_heap _ _ _ NV _ _ HNB.out
        have hS3 : Below w3.heap.size w3 (W2.setRow nb NV) := (hH2).trans (((Only.refl [nb] W2).setRow (by simp) NV).below (hH2).size (by intro x hx; simp only [List.mem_singleton] at hx; subst hx; exact Hnb3.out))
        have hq6 := Lib.hid hq5
        obtain ⟨W3, hW3⟩ : ∃ y, y = W2.setRow nb NV := ⟨_, rfl⟩
        rw [← hW3] at hq6 hS3 ⊢
        clear hW3 hq5
        refine hK.out _ _ hS3 (fun hH3 => ?_)
        clear hK K_
        try simp only [Act.put, List.getElem_toArray, List.getElem_cons_zero, List.getElem_cons_succ, List.setIfInBounds_toArray, List.set_cons_zero, List.set_cons_succ]
        refine wpAnyH_take (i := 7) (v := ?_) rfl (by kernel_rfl) (by kernel_rfl) (by kernel_rfl) (fun _ _ _ h => h) (Or.inl ⟨by kernel_rfl, ?_⟩) hH3 ?_
        rotate_left 1
        · intro w hSw
          go_simp
          try with_reducible rfl
        try simp only [Act.put, List.getElem_toArray, List.getElem_cons_zero, List.getElem_cons_succ, List.setIfInBounds_toArray, List.set_cons_zero, List.set_cons_succ]
        refine wpAnyH_done (by kernel_rfl) ?_ _
        have HB5 := Lib.hid hH3
        obtain ⟨w5, hw5⟩ : ∃ y, y = W3 := ⟨_, rfl⟩
        rw [← hw5] at hq6 HB5 ⊢
        clear hH3 hw5
        go_upto_region 7 with fail
        have h5 := H3.out.below HB5.out
        have r5 : w5.rangeAt nb 0 NV.toList := fun k v hv => by rw [Lib.cell_of_heap hq6.out, Nat.zero_add]; simpa using hv
        have l5 : nb < w5.heap.size := heap_lt hq6.out
        have x1 := (hv_cells h5).2.1
        have lp : q.p < w5.heap.size := heap_lt h5.hp
        have hlook := Lib.hid (fun W (hW : Below w5.heap.size w5 W) => look_yes (h5.below hW) (List.mem_of_getElem? Hj.out))
        rw [show nameV (e.isB, e.id) = .agg NV from by rw [HNV.out, E1.out, E2.out]; rfl, ← Hbk.out] at hlook
        have H5 := Lib.hid h5
        have HL5 := Lib.hid (HL3.out.below HB5.out)
        have hnS : nb ∉ q.own d.L := fun hm => by have := Hlt.out nb hm; have := Hnb3.out; have := B3.out.size; omega
        have HnS := Lib.hid hnS
        have HBx := Lib.hid (B3.out.trans (HB5.out.mono B3.out.size))
        clear h5 hnS
        refine wp_region_held_drew (S := fun w' => Below w5.heap.size w5 w') (by kernel_rfl) ((Below.refl _ _).drew) (fun hH0 => ?_)
        obtain ⟨W0, hW0⟩ : ∃ W, W = w5.drew := ⟨_, rfl⟩
        rw [← hW0] at hH0 ⊢
        clear hW0
        refine wpAnyH_take (i := 0) (v := ?_) rfl (by kernel_rfl) (by kernel_rfl) (by kernel_rfl) (fun _ _ _ h => h) (Or.inl ⟨by kernel_rfl, ?_⟩) hH0 ?_
        rotate_left 1
        · intro w hSw
          go_simp
          try with_reducible rfl
        try simp only [Act.put, List.getElem_toArray, List.getElem_cons_zero, List.getElem_cons_succ, List.setIfInBounds_toArray, List.set_cons_zero, List.set_cons_succ]
        refine wpAnyH_take (i := 1) (v := ?_) rfl (by kernel_rfl) (by kernel_rfl) (by kernel_rfl) (fun _ _ _ h => h) (Or.inl ⟨by kernel_rfl, ?_⟩) hH0 ?_
        rotate_left 1
        · intro w hSw
          go_simp
          try with_reducible rfl
        try simp only [Act.put, List.getElem_toArray, List.getElem_cons_zero, List.getElem_cons_succ, List.setIfInBounds_toArray, List.set_cons_zero, List.set_cons_succ]
        refine wpAnyH_take (i := 2) (v := ?_) rfl (by kernel_rfl) (by kernel_rfl) (by kernel_rfl) (fun _ _ _ h => h) (Or.inl ⟨by kernel_rfl, ?_⟩) hH0 ?_
        rotate_left 1
        · intro w hSw
          go_simp
          try with_reducible rfl
        try simp only [Act.put, List.getElem_toArray, List.getElem_cons_zero, List.getElem_cons_succ, List.setIfInBounds_toArray, List.set_cons_zero, List.set_cons_succ]
        refine wpAnyH_take (i := 3) (v := ?_) rfl (by kernel_rfl) (by kernel_rfl) (by kernel_rfl) (fun _ _ _ h => h) (Or.inl ⟨by kernel_rfl, ?_⟩) hH0 ?_
        rotate_left 1
        · intro w hSw
          have f0 := (hSw.cell (p := ⟨q.p, 1, none⟩) lp).trans x1
          go_simp
          try with_reducible rfl
        try simp only [Act.put, List.getElem_toArray, List.getElem_cons_zero, List.getElem_cons_succ, List.setIfInBounds_toArray, List.set_cons_zero, List.set_cons_succ]
        refine wpAnyH_take (i := 4) (v := _) rfl (by kernel_rfl) (by kernel_rfl) (by kernel_rfl) (fun _ _ _ h => h) (yieldsIf_load_mid (by kernel_rfl) _ _ rfl _ _ rfl NV.toList _ (fun W hW => range_below r5 hW l5) nund rfl ndix) hH0 ?_
        try simp only [Act.put, List.getElem_toArray, List.getElem_cons_zero, List.getElem_cons_succ, List.setIfInBounds_toArray, List.set_cons_zero, List.set_cons_succ]
        refine wpAnyH_take (i := 5) (v := _) rfl (by kernel_rfl) (by kernel_rfl) (by kernel_rfl) (fun _ _ _ h => h) (yieldsIf_lookup (by kernel_rfl) 116 (.tmp 25) (.tmp 26) rfl (.pointer (some ⟨bk, 0, none⟩)) (fun W hW => hlook.out W hW)) hH0 ?_
        try simp only [Act.put, List.getElem_toArray, List.getElem_cons_zero, List.getElem_cons_succ, List.setIfInBounds_toArray, List.set_cons_zero, List.set_cons_succ]
        refine wpAnyH_take (i := 6) (v := ?_) rfl (by kernel_rfl) (by kernel_rfl) (by kernel_rfl) (fun _ _ _ h => h) (Or.inl ⟨by kernel_rfl, ?_⟩) hH0 ?_
        rotate_left 1
        · intro w hSw
          go_simp
          try with_reducible rfl
        try simp only [Act.put, List.getElem_toArray, List.getElem_cons_zero, List.getElem_cons_succ, List.setIfInBounds_toArray, List.set_cons_zero, List.set_cons_succ]
        refine wpAnyH_done (by kernel_rfl) ?_ _
        have H6 := Lib.hid hH0
        obtain ⟨w6, hw6⟩ : ∃ y, y = W0 := ⟨_, rfl⟩
        rw [← hw6] at H6 ⊢
        clear hH0 hw6 hlook
        have h6 := H5.out.below H6.out
        obtain ⟨y33, y34, y35, -⟩ := ent_cells Hfe.out (h6.ents e (List.mem_of_getElem? Hj.out))
        rw [← Hbk.out, ← Her.out] at y35
        have H6h := Lib.hid h6
        have hB6 := Lib.hid (HBx.out.trans (H6.out.mono HBx.out.size))
        clear h6 r5 l5 x1 lp y33 y34
        have huse := Lib.hid (use_any q d j e w6 H6h.out Hj.out hcl)
        rw [show (Value.pointer (some ⟨e.blk, 0, none⟩)) = .pointer (some ⟨bk, 0, none⟩) by rw [Hbk.out]] at huse
        go_wp2_with fail
        refine huse.out.mono ?_
        rintro x w7 ⟨rfl, h7, hO7⟩
        have H7 := Lib.hid h7
        have O7 := Lib.hid ((Only.of_below hB6.out).trans hO7)
        clear h7 hO7 huse
        go_wp2_with fail
        go_ret
        exact ⟨rfl, H7.out, O7.out⟩
      exact AllReadyH.nil
    exact AllReadyH.nil
  refine AllReadyH.cons rfl (fun K_ hK => ?_) ?_
  · go_simp
    show K_ _ (W0.alloc (.cells zeroName 127))
    have hnb4 := heap_alloc_new W0 (.cells zeroName 127)
    have hS4 := (hH0).alloc (hH0).size (.cells zeroName 127)
    have hsz4 := (hH0).size
    obtain ⟨W4, hW4⟩ : ∃ y, y = W0.alloc (.cells zeroName 127) := ⟨_, rfl⟩
    obtain ⟨nb, hq4⟩ : ∃ y, y = W0.heap.size := ⟨_, rfl⟩
    rw [← hW4] at hnb4 hS4 ⊢
    rw [← hq4] at hnb4 hsz4 ⊢
    have HNB := Lib.hid hnb4
    have Hnb3 := Lib.hid hsz4
    clear hW4 hq4 hnb4 hsz4
    refine hK.out _ _ hS4 (fun hH4 => ?_)
    clear hK K_
    try simp only [Act.put, List.getElem_toArray, List.getElem_cons_zero, List.getElem_cons_succ, List.setIfInBounds_toArray, List.set_cons_zero, List.set_cons_succ]
    refine wpAnyH_ready (rs := [4]) (by kernel_rfl) (by simp) ?_
    refine AllReadyH.cons rfl (fun K_ hK => ?_) ?_
    · go_simp
      refine (hrow.out W4).mono ?_
      rintro e W5 ⟨rfl, hb5⟩
      try have HNB := Lib.hid (below_keep hb5 HNB.out)
      have hS5 := (hH4).trans (hb5.mono (hH4).size)
      clear hb5
      refine hK.out _ _ hS5 (fun hH5 => ?_)
      clear hK K_
      try simp only [Act.put, List.getElem_toArray, List.getElem_cons_zero, List.getElem_cons_succ, List.setIfInBounds_toArray, List.set_cons_zero, List.set_cons_succ]
      refine wpAnyH_ready (rs := [6]) (by kernel_rfl) (by simp) ?_
      refine AllReadyH.cons rfl (fun K_ hK => ?_) ?_
      · rw [if_pos (by rfl)]
        refine wp_store_row 127 _ _ rfl nb NV rfl rfl 127 zeroName HNB.out ndixA (by rw [hNs, hzs]) hNone ?_
        have hq5 := setRow_heap _ _ _ NV _ _ HNB.out
        have hS6 : Below w3.heap.size w3 (W5.setRow nb NV) := (hH5).trans (((Only.refl [nb] W5).setRow (by simp) NV).below (hH5).size (by intro x hx; simp only [List.mem_singleton] at hx; subst hx; exact Hnb3.out))
        have hq6 := Lib.hid hq5
        obtain ⟨W6, hW6⟩ : ∃ y, y = W5.setRow nb NV := ⟨_, rfl⟩
        rw [← hW6] at hq6 hS6 ⊢
        clear hW6 hq5
        refine hK.out _ _ hS6 (fun hH6 => ?_)
        clear hK K_
        try simp only [Act.put, List.getElem_toArray, List.getElem_cons_zero, List.getElem_cons_succ, List.setIfInBounds_toArray, List.set_cons_zero, List.set_cons_succ]
        refine wpAnyH_take (i := 7) (v := ?_) rfl (by kernel_rfl) (by kernel_rfl) (by kernel_rfl) (fun _ _ _ h => h) (Or.inl ⟨by kernel_rfl, ?_⟩) hH6 ?_
        rotate_left 1
        · intro w hSw
          go_simp
          try with_reducible rfl
        try simp only [Act.put, List.getElem_toArray, List.getElem_cons_zero, List.getElem_cons_succ, List.setIfInBounds_toArray, List.set_cons_zero, List.set_cons_succ]
        refine wpAnyH_done (by kernel_rfl) ?_ _
        have HB5 := Lib.hid hH6
        obtain ⟨w5, hw5⟩ : ∃ y, y = W6 := ⟨_, rfl⟩
        rw [← hw5] at hq6 HB5 ⊢
        clear hH6 hw5
        go_upto_region 7 with fail
        have h5 := H3.out.below HB5.out
        have r5 : w5.rangeAt nb 0 NV.toList := fun k v hv => by rw [Lib.cell_of_heap hq6.out, Nat.zero_add]; simpa using hv
        have l5 : nb < w5.heap.size := heap_lt hq6.out
        have x1 := (hv_cells h5).2.1
        have lp : q.p < w5.heap.size := heap_lt h5.hp
        have hlook := Lib.hid (fun W (hW : Below w5.heap.size w5 W) => look_yes (h5.below hW) (List.mem_of_getElem? Hj.out))
        rw [show nameV (e.isB, e.id) = .agg NV from by rw [HNV.out, E1.out, E2.out]; rfl, ← Hbk.out] at hlook
        have H5 := Lib.hid h5
        have HL5 := Lib.hid (HL3.out.below HB5.out)
        have hnS : nb ∉ q.own d.L := fun hm => by have := Hlt.out nb hm; have := Hnb3.out; have := B3.out.size; omega
        have HnS := Lib.hid hnS
        have HBx := Lib.hid (B3.out.trans (HB5.out.mono B3.out.size))
        clear h5 hnS
        refine wp_region_held_drew (S := fun w' => Below w5.heap.size w5 w') (by kernel_rfl) ((Below.refl _ _).drew) (fun hH0 => ?_)
        obtain ⟨W0, hW0⟩ : ∃ W, W = w5.drew := ⟨_, rfl⟩
        rw [← hW0] at hH0 ⊢
        clear hW0
        refine wpAnyH_take (i := 0) (v := ?_) rfl (by kernel_rfl) (by kernel_rfl) (by kernel_rfl) (fun _ _ _ h => h) (Or.inl ⟨by kernel_rfl, ?_⟩) hH0 ?_
        rotate_left 1
        · intro w hSw
          go_simp
          try with_reducible rfl
        try simp only [Act.put, List.getElem_toArray, List.getElem_cons_zero, List.getElem_cons_succ, List.setIfInBounds_toArray, List.set_cons_zero, List.set_cons_succ]
        refine wpAnyH_take (i := 1) (v := ?_) rfl (by kernel_rfl) (by kernel_rfl) (by kernel_rfl) (fun _ _ _ h => h) (Or.inl ⟨by kernel_rfl, ?_⟩) hH0 ?_
        rotate_left 1
        · intro w hSw
          go_simp
          try with_reducible rfl
        try simp only [Act.put, List.getElem_toArray, List.getElem_cons_zero, List.getElem_cons_succ, List.setIfInBounds_toArray, List.set_cons_zero, List.set_cons_succ]
        refine wpAnyH_take (i := 2) (v := ?_) rfl (by kernel_rfl) (by kernel_rfl) (by kernel_rfl) (fun _ _ _ h => h) (Or.inl ⟨by kernel_rfl, ?_⟩) hH0 ?_
        rotate_left 1
        · intro w hSw
          go_simp
          try with_reducible rfl
        try simp only [Act.put, List.getElem_toArray, List.getElem_cons_zero, List.getElem_cons_succ, List.setIfInBounds_toArray, List.set_cons_zero, List.set_cons_succ]
        refine wpAnyH_take (i := 3) (v := ?_) rfl (by kernel_rfl) (by kernel_rfl) (by kernel_rfl) (fun _ _ _ h => h) (Or.inl ⟨by kernel_rfl, ?_⟩) hH0 ?_
        rotate_left 1
        · intro w hSw
          have f0 := (hSw.cell (p := ⟨q.p, 1, none⟩) lp).trans x1
          go_simp
          try with_reducible rfl
        try simp only [Act.put, List.getElem_toArray, List.getElem_cons_zero, List.getElem_cons_succ, List.setIfInBounds_toArray, List.set_cons_zero, List.set_cons_succ]
        refine wpAnyH_take (i := 4) (v := _) rfl (by kernel_rfl) (by kernel_rfl) (by kernel_rfl) (fun _ _ _ h => h) (yieldsIf_load_mid (by kernel_rfl) _ _ rfl _ _ rfl NV.toList _ (fun W hW => range_below r5 hW l5) nund rfl ndix) hH0 ?_
        try simp only [Act.put, List.getElem_toArray, List.getElem_cons_zero, List.getElem_cons_succ, List.setIfInBounds_toArray, List.set_cons_zero, List.set_cons_succ]
        refine wpAnyH_take (i := 5) (v := _) rfl (by kernel_rfl) (by kernel_rfl) (by kernel_rfl) (fun _ _ _ h => h) (yieldsIf_lookup (by kernel_rfl) 116 (.tmp 25) (.tmp 26) rfl (.pointer (some ⟨bk, 0, none⟩)) (fun W hW => hlook.out W hW)) hH0 ?_
        try simp only [Act.put, List.getElem_toArray, List.getElem_cons_zero, List.getElem_cons_succ, List.setIfInBounds_toArray, List.set_cons_zero, List.set_cons_succ]
        refine wpAnyH_take (i := 6) (v := ?_) rfl (by kernel_rfl) (by kernel_rfl) (by kernel_rfl) (fun _ _ _ h => h) (Or.inl ⟨by kernel_rfl, ?_⟩) hH0 ?_
        rotate_left 1
        · intro w hSw
          go_simp
          try with_reducible rfl
        try simp only [Act.put, List.getElem_toArray, List.getElem_cons_zero, List.getElem_cons_succ, List.setIfInBounds_toArray, List.set_cons_zero, List.set_cons_succ]
        refine wpAnyH_done (by kernel_rfl) ?_ _
        have H6 := Lib.hid hH0
        obtain ⟨w6, hw6⟩ : ∃ y, y = W0 := ⟨_, rfl⟩
        rw [← hw6] at H6 ⊢
        clear hH0 hw6 hlook
        have h6 := H5.out.below H6.out
        obtain ⟨y33, y34, y35, -⟩ := ent_cells Hfe.out (h6.ents e (List.mem_of_getElem? Hj.out))
        rw [← Hbk.out, ← Her.out] at y35
        have H6h := Lib.hid h6
        have hB6 := Lib.hid (HBx.out.trans (H6.out.mono HBx.out.size))
        clear h6 r5 l5 x1 lp y33 y34
        have huse := Lib.hid (use_any q d j e w6 H6h.out Hj.out hcl)
        rw [show (Value.pointer (some ⟨e.blk, 0, none⟩)) = .pointer (some ⟨bk, 0, none⟩) by rw [Hbk.out]] at huse
        go_wp2_with fail
        refine huse.out.mono ?_
        rintro x w7 ⟨rfl, h7, hO7⟩
        have H7 := Lib.hid h7
        have O7 := Lib.hid ((Only.of_below hB6.out).trans hO7)
        clear h7 hO7 huse
        go_wp2_with fail
        go_ret
        exact ⟨rfl, H7.out, O7.out⟩
      exact AllReadyH.nil
    exact AllReadyH.nil
  exact AllReadyH.nil
end Go.Proofs.YteihfoacdocgkaaDoor

set_option linter.unusedVariables false
set_option linter.unusedSimpArgs false
namespace Go.Proofs.YteihfoacdocgkaaDoor
open Go.RowKit Pl Sh
attribute [local go_sem] Lb.ba_get Lb.ba_cut Lb.ba_add Lb.ba_size Lb.take_rest

end Go.Proofs.YteihfoacdocgkaaDoor
