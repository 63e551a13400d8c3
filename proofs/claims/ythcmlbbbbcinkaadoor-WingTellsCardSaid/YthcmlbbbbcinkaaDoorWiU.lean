/-
  Layer 19 (wing): the reading of a row: things in a list. Layer 19 (wing): the reading of a row: a digest, a text as it is, a summary, whether there is an answer.
-/
import Derived.Test.YthcmlbbbbcinkaaDoorWiS
import Derived.Great.BuildSlice
set_option linter.unusedVariables false
set_option linter.unusedSimpArgs false
namespace Go.Proofs.YthcmlbbbbcinkaaDoor
open Go.RowKit Pl
attribute [local go_sem] Lb.ba_get Lb.ba_cut Lb.ba_add Lb.ba_size Lb.take_rest
namespace Wi

def sliceLen : Value → Nat
  | .slice _ n _ => n
  | _ => 0
def ListR {α : Type} (size : Nat) (cells : α → List Value) (one : St → α × St) (most B q : Nat) (p : St) (w : World) (e : Ending) (w' : World) : Prop :=
  ∃ v, e = .returned v ∧ Bag0 w' w.heap.size size v (listS one most p).1.length (((listS one most p).1.map cells).flatten) ∧ RwAt w' B q (listS one most p).2 ∧ Only [q] w w'
theorem rg_oneL (r : Rg) : r.cells.all (·.oneCell') = true := by
  unfold Rg.cells
  simp only [List.all_append, List.all_cons, List.all_nil, byV_all, Bool.and_true, Bool.true_and]
  rfl
theorem fill_whole {place : Nat → Option (Nat × Nat)} {cells R : Array Value} {n : Nat} (hp : place 0 = some (0, n)) (hc : cells.size = n) (hR : R.size = n) : Instr.fill place cells [(0, .agg R)] = some R := by
  have e := fold_cells R.toList 0 0 [] cells.toList [] (by simp) (by simp [hc, hR])
  simp only [List.append_nil, List.nil_append] at e
  rw [fill_one hp (by show R.size = n; exact hR) (by omega) (C := R) ?_]
  · rfl
  · show R.zipIdx.foldl _ cells = R
    rw [← Array.foldl_toList, Array.toList_zipIdx]
    exact e
theorem info3_mb : (Tryd.prog.info? 52).map (fun i => (i.zero, i.size, i.bytes)) = some (some (.agg ([Value.int .i64 0, Value.int .i64 0, Value.int .i64 0] : List Value).toArray), 3, 24) := by kernel_rfl
theorem wpList_one_mb {ops : Array Oper} {rest : List Oper} {o : Oper} {a : Act} {w : World} {Q : Exit → Act → World → Prop} (hg : o.guard = none) (x : Operand) (ho : o.op = .buildSlice 34 1 #[(0, x)]) (R : Array Value) (hx : a.eval x = .agg R) (hR : R.size = 3)
    (h : wpList Tryd.prog ops Q rest (a.put o.dst (.slice (some ⟨w.heap.size, 0, none⟩) 1 1)) (w.alloc (.cells R 52))) : wpList Tryd.prog ops Q (o :: rest) a w := by
  obtain ⟨i, hi, hz, hs, -⟩ := info_parts info3_mb
  refine wpList_buildSlice hg 34 52 1 _ ho R i _ Tryd.underlying34 hi hz (by rw [hs]; decide) (by rw [hs]; decide) ?_ h
  have e : ((#[(0, x)] : Array (Nat × Operand)).map fun (i, x) => (i, a.eval x)).toList = [(0, .agg R)] := by simp [hx]
  rw [e, hs]
  exact fill_whole rfl (by simp) hR
theorem src_one_mb {w : World} (g c : Nat) (C : List Value) (f : Nat × Nat) (hC : C.length = 3) (h1 : ∀ u ∈ C, u.oneCell' = true) (h : w.heap[g]? = some (.cells C.toArray 52 f)) : Src Tryd.prog 3 34 (.slice (some ⟨g, 0, none⟩) 1 c) 1 C w := by
  refine Src.ofSlice w Tryd.underlying34 _ 1 c C (by rw [hC]) (fun j u hu => ?_) h1
  rw [Addr.add_lit, Nat.zero_add, Lib.cell_of_heap h, List.getElem?_toArray]; exact hu
set_option maxHeartbeats 4000000 in
set_option maxRecDepth 100000 in
theorem listMb_any {B : Nat} (q most : Nat) (p : St) (w : World) (h : RwAt w B q p) (hm : most ≤ 100) : Calls Tryd.prog 30 #[.pointer (some ⟨q, 0, none⟩), .int .i64 most, .func (.func 31) #[.pointer (some ⟨q, 0, none⟩)] #[]] w (ListR 3 Mb.cells memS most B q p w) := by
  have H1 := Lib.hid (next_any q p w h)
  have hq := h.lt
  have hBw := h.bw
  obtain ⟨i0, hi0, hz0, hz1, hz2⟩ := info_parts info3_mb
  go_enter Tryd.func30, Tryd.ntmps30
  go_wp2_with fail
  refine H1.out.mono ?_
  rintro e w1 ⟨rfl, h1, o1⟩
  have K1 := Lib.hid h1
  have O1 := Lib.hid o1
  clear h1 o1 h
  go_wp2_with fail
  go_loopw [6] (fun v wr => ∃ (A : Option Addr) (c : Nat) (o : List _) (ps : St), v = .slice A o.length c ∧ Bag0 wr w.heap.size 3 (.slice A o.length c) o.length ((o.map Mb.cells).flatten) ∧ RwAt wr B q ps ∧ Only [q] w wr ∧ o.length ≤ most + 1 ∧ loopS memS (most + 1 - o.length) o ps = listS memS most p) (fun v _ => most + 1 - sliceLen v)
  case atStart => exact ⟨none, 0, [], nextS p, rfl, Bag0.nil _ _ _, K1.out, O1.out, by simp, by rfl⟩
  case round =>
    obtain ⟨A, c, o, ps, rfl, hbag, hrw, ho, hlen, hlo⟩ := hrel
    obtain ⟨A', c', ht, hr⟩ := hrw.ex
    have c0 := ht.c0
    have c1 := ht.c1
    have hsz := ho.size
    have HBag := Lib.hid hbag
    have HRw := Lib.hid hrw
    have HO := Lib.hid ho
    have HL := Lib.hid hlo
    have hend : ∀ (hc : ps.s = [] ∨ ps.bad = true ∨ o.length = most + 1), ListR 3 Mb.cells memS most B q p w (.returned (.slice A o.length c)) wr := fun hc => by
      have e : listS memS most p = (o, ps) := by
        rw [← HL.out]
        rcases hc with hc | hc | hc
        · cases most + 1 - o.length with
          | zero => rfl
          | succ k => unfold loopS; rw [if_pos (.inl hc)]
        · cases most + 1 - o.length with
          | zero => rfl
          | succ k => unfold loopS; rw [if_pos (.inr hc)]
        · rw [hc, Nat.sub_self]; rfl
      refine ⟨_, rfl, ?_, ?_, HO.out⟩
      · rw [e]; exact HBag.out
      · rw [e]; exact HRw.out
    have HEnd := Lib.hid hend
    clear hbag hrw ho hlo ht hr hend
    obtain ⟨s, b, L⟩ := ps
    simp only at c0 c1
    cases s with
    | nil =>
      have fin := HEnd.out (.inl rfl)
      have Fin := Lib.hid fin
      clear HEnd fin
      go_wp2_with fail
      go_ret
      exact Fin.out
    | cons y s =>
    cases b with
    | true =>
      have fin := HEnd.out (.inr (.inl rfl))
      have Fin := Lib.hid fin
      clear HEnd fin
      go_wp2_with fail
      go_ret
      exact Fin.out
    | false =>
    by_cases hfull : o.length = most + 1
    · have fin := HEnd.out (.inr (.inr hfull))
      have Fin := Lib.hid fin
      have d1 : decide ((o.length : Int) ≤ (most : Int)) = false := by simp; omega
      have d2 : ¬ ((o.length : Int) ≤ (most : Int)) := by omega
      clear HEnd fin hfull
      go_wp2_with fail
      go_ret
      exact Fin.out
    · have d1 : decide ((o.length : Int) ≤ (most : Int)) = true := by simp; omega
      have d2 : (o.length : Int) ≤ (most : Int) := by omega
      have hl2 : o.length ≤ most := by omega
      have HW := Lib.hid (member_rw q ⟨y :: s, false, L⟩ wr HRw.out)
      obtain ⟨x, hx⟩ : ∃ x, x = (memS ⟨y :: s, false, L⟩).1 := ⟨_, rfl⟩
      obtain ⟨p2, hp2⟩ : ∃ x, x = (memS ⟨y :: s, false, L⟩).2 := ⟨_, rfl⟩
      have HL2 : Hid (loopS memS (most + 1 - (o ++ [x]).length) (o ++ [x]) p2 = listS memS most p) := Lib.hid (by
        rw [← HL.out, show most + 1 - o.length = (most + 1 - (o ++ [x]).length) + 1 by simp; omega]
        conv => rhs; unfold loopS
        rw [if_neg (by simp), ← hx, ← hp2])
      have hxl : List.length (Mb.cells x) = 3 := by exact Mb.len x
      have hx1 : ∀ u ∈ Mb.cells x, u.oneCell' = true := by intro u hu; simp only [Mb.cells, List.mem_cons, List.not_mem_nil, or_false] at hu; rcases hu with rfl | rfl | rfl <;> rfl
      rw [← hx, ← hp2] at HW
      clear HEnd hfull HL hx hp2
      obtain ⟨cx, hcx⟩ : ∃ l, l = Mb.cells x := ⟨_, rfl⟩
      rw [← hcx] at HW hx1 hxl
      have HCx := Lib.hid hcx
      clear hcx
      go_wp2_with fail
      refine HW.out.mono ?_
      rintro e w2 ⟨rfl, h2, o2⟩
      have hB2 := Bag0.only HBag.out o2 (by simpa using hq)
      have hn2 := heap_alloc_new w2 (.cells cx.toArray 52)
      have hB3 := hB2.alloc (.cells cx.toArray 52)
      have hsz2 : w.heap.size ≤ w2.heap.size := Nat.le_trans hsz o2.size
      have K2 := Lib.hid h2
      have O2 := Lib.hid (HO.out.trans o2)
      have hsz3 : w.heap.size ≤ (w2.alloc (.cells cx.toArray 52)).heap.size := by simp; omega
      clear h2 o2 hB2
      go_wp2_with (first
        | (refine wpList_one_mb rfl _ rfl cx.toArray rfl (by simpa using hxl) ?_)
        | (refine wpList_append_bag0 (B := w.heap.size) (w2.alloc (.cells cx.toArray 52)) rfl _ _ 34 34 rfl i0 _ 24 Tryd.underlying34 hi0 hz0 hz1 hz2 (by rfl) hsz3 rfl hB3 _ 1 cx rfl (src_one_mb w2.heap.size 1 cx (0, 0) hxl hx1 hn2) (by omega) (by unfold maxLen; omega) (by omega) ?_; intro v4 w4 hB4 hb4; obtain ⟨A4, c4, rfl, -, -⟩ := hB4.shape; have HB4 := Lib.hid hB4; have Hb4 := Lib.hid hb4; clear hB4 hb4))
      go_roundw
      case rel =>
        refine ⟨A4, c4, o ++ [x], p2, by simp, ?_, ?_, ?_, by simp; omega, HL2.out⟩
        · have := HB4.out
          rw [HCx.out] at this
          simpa using this
        · exact (K2.out.below ((Below.refl _ _).alloc K2.out.bw _)).below (Hb4.out.mono hBw)
        · have := Hb4.out
          exact ⟨(O2.out.alloc _).os ▸ this.os, (O2.out.alloc _).tape ▸ this.tape, (O2.out.alloc _).output ▸ this.output, Nat.le_trans hsz3 this.size, fun k hk hn => (this.block k hk).trans ((O2.out.alloc _).block k hk hn)⟩
      case measure => simp [sliceLen]; omega
theorem info3_rg : (Tryd.prog.info? 65).map (fun i => (i.zero, i.size, i.bytes)) = some (some (.agg ([Value.int .i64 0, Value.int .i64 0, Value.int .i64 0] ++ byV z32 : List Value).toArray), 35, 56) := by kernel_rfl
theorem wpList_one_rg {ops : Array Oper} {rest : List Oper} {o : Oper} {a : Act} {w : World} {Q : Exit → Act → World → Prop} (hg : o.guard = none) (x : Operand) (ho : o.op = .buildSlice 32 1 #[(0, x)]) (R : Array Value) (hx : a.eval x = .agg R) (hR : R.size = 35)
    (h : wpList Tryd.prog ops Q rest (a.put o.dst (.slice (some ⟨w.heap.size, 0, none⟩) 1 1)) (w.alloc (.cells R 65))) : wpList Tryd.prog ops Q (o :: rest) a w := by
  obtain ⟨i, hi, hz, hs, -⟩ := info_parts info3_rg
  refine wpList_buildSlice hg 32 65 1 _ ho R i _ Tryd.underlying32 hi hz (by rw [hs]; decide) (by rw [hs]; decide) ?_ h
  have e : ((#[(0, x)] : Array (Nat × Operand)).map fun (i, x) => (i, a.eval x)).toList = [(0, .agg R)] := by simp [hx]
  rw [e, hs]
  exact fill_whole rfl (by simp) hR
theorem src_one_rg {w : World} (g c : Nat) (C : List Value) (f : Nat × Nat) (hC : C.length = 35) (h1 : ∀ u ∈ C, u.oneCell' = true) (h : w.heap[g]? = some (.cells C.toArray 65 f)) : Src Tryd.prog 35 32 (.slice (some ⟨g, 0, none⟩) 1 c) 1 C w := by
  refine Src.ofSlice w Tryd.underlying32 _ 1 c C (by rw [hC]) (fun j u hu => ?_) h1
  rw [Addr.add_lit, Nat.zero_add, Lib.cell_of_heap h, List.getElem?_toArray]; exact hu
set_option maxHeartbeats 4000000 in
set_option maxRecDepth 100000 in
theorem listRg_any {B : Nat} (q most : Nat) (p : St) (w : World) (h : RwAt w B q p) (hm : most ≤ 100) : Calls Tryd.prog 66 #[.pointer (some ⟨q, 0, none⟩), .int .i64 most, .func (.func 67) #[.pointer (some ⟨q, 0, none⟩)] #[]] w (ListR 35 Rg.cells rngS most B q p w) := by
  have H1 := Lib.hid (next_any q p w h)
  have hq := h.lt
  have hBw := h.bw
  obtain ⟨i0, hi0, hz0, hz1, hz2⟩ := info_parts info3_rg
  go_enter Tryd.func66, Tryd.ntmps66
  go_wp2_with fail
  refine H1.out.mono ?_
  rintro e w1 ⟨rfl, h1, o1⟩
  have K1 := Lib.hid h1
  have O1 := Lib.hid o1
  clear h1 o1 h
  go_wp2_with fail
  go_loopw [6] (fun v wr => ∃ (A : Option Addr) (c : Nat) (o : List _) (ps : St), v = .slice A o.length c ∧ Bag0 wr w.heap.size 35 (.slice A o.length c) o.length ((o.map Rg.cells).flatten) ∧ RwAt wr B q ps ∧ Only [q] w wr ∧ o.length ≤ most + 1 ∧ loopS rngS (most + 1 - o.length) o ps = listS rngS most p) (fun v _ => most + 1 - sliceLen v)
  case atStart => exact ⟨none, 0, [], nextS p, rfl, Bag0.nil _ _ _, K1.out, O1.out, by simp, by rfl⟩
  case round =>
    obtain ⟨A, c, o, ps, rfl, hbag, hrw, ho, hlen, hlo⟩ := hrel
    obtain ⟨A', c', ht, hr⟩ := hrw.ex
    have c0 := ht.c0
    have c1 := ht.c1
    have hsz := ho.size
    have HBag := Lib.hid hbag
    have HRw := Lib.hid hrw
    have HO := Lib.hid ho
    have HL := Lib.hid hlo
    have hend : ∀ (hc : ps.s = [] ∨ ps.bad = true ∨ o.length = most + 1), ListR 35 Rg.cells rngS most B q p w (.returned (.slice A o.length c)) wr := fun hc => by
      have e : listS rngS most p = (o, ps) := by
        rw [← HL.out]
        rcases hc with hc | hc | hc
        · cases most + 1 - o.length with
          | zero => rfl
          | succ k => unfold loopS; rw [if_pos (.inl hc)]
        · cases most + 1 - o.length with
          | zero => rfl
          | succ k => unfold loopS; rw [if_pos (.inr hc)]
        · rw [hc, Nat.sub_self]; rfl
      refine ⟨_, rfl, ?_, ?_, HO.out⟩
      · rw [e]; exact HBag.out
      · rw [e]; exact HRw.out
    have HEnd := Lib.hid hend
    clear hbag hrw ho hlo ht hr hend
    obtain ⟨s, b, L⟩ := ps
    simp only at c0 c1
    cases s with
    | nil =>
      have fin := HEnd.out (.inl rfl)
      have Fin := Lib.hid fin
      clear HEnd fin
      go_wp2_with fail
      go_ret
      exact Fin.out
    | cons y s =>
    cases b with
    | true =>
      have fin := HEnd.out (.inr (.inl rfl))
      have Fin := Lib.hid fin
      clear HEnd fin
      go_wp2_with fail
      go_ret
      exact Fin.out
    | false =>
    by_cases hfull : o.length = most + 1
    · have fin := HEnd.out (.inr (.inr hfull))
      have Fin := Lib.hid fin
      have d1 : decide ((o.length : Int) ≤ (most : Int)) = false := by simp; omega
      have d2 : ¬ ((o.length : Int) ≤ (most : Int)) := by omega
      clear HEnd fin hfull
      go_wp2_with fail
      go_ret
      exact Fin.out
    · have d1 : decide ((o.length : Int) ≤ (most : Int)) = true := by simp; omega
      have d2 : (o.length : Int) ≤ (most : Int) := by omega
      have hl2 : o.length ≤ most := by omega
      have HW := Lib.hid (span_rw q ⟨y :: s, false, L⟩ wr HRw.out)
      obtain ⟨x, hx⟩ : ∃ x, x = (rngS ⟨y :: s, false, L⟩).1 := ⟨_, rfl⟩
      obtain ⟨p2, hp2⟩ : ∃ x, x = (rngS ⟨y :: s, false, L⟩).2 := ⟨_, rfl⟩
      have HL2 : Hid (loopS rngS (most + 1 - (o ++ [x]).length) (o ++ [x]) p2 = listS rngS most p) := Lib.hid (by
        rw [← HL.out, show most + 1 - o.length = (most + 1 - (o ++ [x]).length) + 1 by simp; omega]
        conv => rhs; unfold loopS
        rw [if_neg (by simp), ← hx, ← hp2])
      have hxl : List.length (Rg.cells x) = 35 := by rw [hx]; exact Rg.len (rngS_wf _)
      have hx1 : ∀ u ∈ Rg.cells x, u.oneCell' = true := by intro u hu; have := rg_oneL x; rw [List.all_eq_true] at this; exact this u hu
      rw [← hx, ← hp2] at HW
      clear HEnd hfull HL hx hp2
      obtain ⟨cx, hcx⟩ : ∃ l, l = Rg.cells x := ⟨_, rfl⟩
      rw [← hcx] at HW hx1 hxl
      have HCx := Lib.hid hcx
      clear hcx
      go_wp2_with fail
      refine HW.out.mono ?_
      rintro e w2 ⟨rfl, h2, o2⟩
      have hB2 := Bag0.only HBag.out o2 (by simpa using hq)
      have hn2 := heap_alloc_new w2 (.cells cx.toArray 65)
      have hB3 := hB2.alloc (.cells cx.toArray 65)
      have hsz2 : w.heap.size ≤ w2.heap.size := Nat.le_trans hsz o2.size
      have K2 := Lib.hid h2
      have O2 := Lib.hid (HO.out.trans o2)
      have hsz3 : w.heap.size ≤ (w2.alloc (.cells cx.toArray 65)).heap.size := by simp; omega
      clear h2 o2 hB2
      go_wp2_with (first
        | (refine wpList_one_rg rfl _ rfl cx.toArray rfl (by simpa using hxl) ?_)
        | (refine wpList_append_bag0 (B := w.heap.size) (w2.alloc (.cells cx.toArray 65)) rfl _ _ 32 32 rfl i0 _ 56 Tryd.underlying32 hi0 hz0 hz1 hz2 (by rfl) hsz3 rfl hB3 _ 1 cx rfl (src_one_rg w2.heap.size 1 cx (0, 0) hxl hx1 hn2) (by omega) (by unfold maxLen; omega) (by omega) ?_; intro v4 w4 hB4 hb4; obtain ⟨A4, c4, rfl, -, -⟩ := hB4.shape; have HB4 := Lib.hid hB4; have Hb4 := Lib.hid hb4; clear hB4 hb4))
      go_roundw
      case rel =>
        refine ⟨A4, c4, o ++ [x], p2, by simp, ?_, ?_, ?_, by simp; omega, HL2.out⟩
        · have := HB4.out
          rw [HCx.out] at this
          simpa using this
        · exact (K2.out.below ((Below.refl _ _).alloc K2.out.bw _)).below (Hb4.out.mono hBw)
        · have := Hb4.out
          exact ⟨(O2.out.alloc _).os ▸ this.os, (O2.out.alloc _).tape ▸ this.tape, (O2.out.alloc _).output ▸ this.output, Nat.le_trans hsz3 this.size, fun k hk hn => (this.block k hk).trans ((O2.out.alloc _).block k hk hn)⟩
      case measure => simp [sliceLen]; omega
theorem info3_rc : (Tryd.prog.info? 26).map (fun i => (i.zero, i.size, i.bytes)) = some (some (.agg (byV z32 ++ (Value.int .i64 0 :: byV z32) : List Value).toArray), 65, 72) := by kernel_rfl
theorem wpList_one_rc {ops : Array Oper} {rest : List Oper} {o : Oper} {a : Act} {w : World} {Q : Exit → Act → World → Prop} (hg : o.guard = none) (x : Operand) (ho : o.op = .buildSlice 33 1 #[(0, x)]) (R : Array Value) (hx : a.eval x = .agg R) (hR : R.size = 65)
    (h : wpList Tryd.prog ops Q rest (a.put o.dst (.slice (some ⟨w.heap.size, 0, none⟩) 1 1)) (w.alloc (.cells R 26))) : wpList Tryd.prog ops Q (o :: rest) a w := by
  obtain ⟨i, hi, hz, hs, -⟩ := info_parts info3_rc
  refine wpList_buildSlice hg 33 26 1 _ ho R i _ Tryd.underlying33 hi hz (by rw [hs]; decide) (by rw [hs]; decide) ?_ h
  have e : ((#[(0, x)] : Array (Nat × Operand)).map fun (i, x) => (i, a.eval x)).toList = [(0, .agg R)] := by simp [hx]
  rw [e, hs]
  exact fill_whole rfl (by simp) hR
theorem src_one_rc {w : World} (g c : Nat) (C : List Value) (f : Nat × Nat) (hC : C.length = 65) (h1 : ∀ u ∈ C, u.oneCell' = true) (h : w.heap[g]? = some (.cells C.toArray 26 f)) : Src Tryd.prog 65 33 (.slice (some ⟨g, 0, none⟩) 1 c) 1 C w := by
  refine Src.ofSlice w Tryd.underlying33 _ 1 c C (by rw [hC]) (fun j u hu => ?_) h1
  rw [Addr.add_lit, Nat.zero_add, Lib.cell_of_heap h, List.getElem?_toArray]; exact hu
set_option maxHeartbeats 4000000 in
set_option maxRecDepth 100000 in
theorem listRc_any {B : Nat} (q most : Nat) (p : St) (w : World) (h : RwAt w B q p) (hm : most ≤ 100) : Calls Tryd.prog 68 #[.pointer (some ⟨q, 0, none⟩), .int .i64 most, .func (.func 63) #[.pointer (some ⟨q, 0, none⟩)] #[]] w (ListR 65 Rc.cells recS most B q p w) := by
  have H1 := Lib.hid (next_any q p w h)
  have hq := h.lt
  have hBw := h.bw
  obtain ⟨i0, hi0, hz0, hz1, hz2⟩ := info_parts info3_rc
  go_enter Tryd.func68, Tryd.ntmps68
  go_wp2_with fail
  refine H1.out.mono ?_
  rintro e w1 ⟨rfl, h1, o1⟩
  have K1 := Lib.hid h1
  have O1 := Lib.hid o1
  clear h1 o1 h
  go_wp2_with fail
  go_loopw [6] (fun v wr => ∃ (A : Option Addr) (c : Nat) (o : List _) (ps : St), v = .slice A o.length c ∧ Bag0 wr w.heap.size 65 (.slice A o.length c) o.length ((o.map Rc.cells).flatten) ∧ RwAt wr B q ps ∧ Only [q] w wr ∧ o.length ≤ most + 1 ∧ loopS recS (most + 1 - o.length) o ps = listS recS most p) (fun v _ => most + 1 - sliceLen v)
  case atStart => exact ⟨none, 0, [], nextS p, rfl, Bag0.nil _ _ _, K1.out, O1.out, by simp, by rfl⟩
  case round =>
    obtain ⟨A, c, o, ps, rfl, hbag, hrw, ho, hlen, hlo⟩ := hrel
    obtain ⟨A', c', ht, hr⟩ := hrw.ex
    have c0 := ht.c0
    have c1 := ht.c1
    have hsz := ho.size
    have HBag := Lib.hid hbag
    have HRw := Lib.hid hrw
    have HO := Lib.hid ho
    have HL := Lib.hid hlo
    have hend : ∀ (hc : ps.s = [] ∨ ps.bad = true ∨ o.length = most + 1), ListR 65 Rc.cells recS most B q p w (.returned (.slice A o.length c)) wr := fun hc => by
      have e : listS recS most p = (o, ps) := by
        rw [← HL.out]
        rcases hc with hc | hc | hc
        · cases most + 1 - o.length with
          | zero => rfl
          | succ k => unfold loopS; rw [if_pos (.inl hc)]
        · cases most + 1 - o.length with
          | zero => rfl
          | succ k => unfold loopS; rw [if_pos (.inr hc)]
        · rw [hc, Nat.sub_self]; rfl
      refine ⟨_, rfl, ?_, ?_, HO.out⟩
      · rw [e]; exact HBag.out
      · rw [e]; exact HRw.out
    have HEnd := Lib.hid hend
    clear hbag hrw ho hlo ht hr hend
    obtain ⟨s, b, L⟩ := ps
    simp only at c0 c1
    cases s with
    | nil =>
      have fin := HEnd.out (.inl rfl)
      have Fin := Lib.hid fin
      clear HEnd fin
      go_wp2_with fail
      go_ret
      exact Fin.out
    | cons y s =>
    cases b with
    | true =>
      have fin := HEnd.out (.inr (.inl rfl))
      have Fin := Lib.hid fin
      clear HEnd fin
      go_wp2_with fail
      go_ret
      exact Fin.out
    | false =>
    by_cases hfull : o.length = most + 1
    · have fin := HEnd.out (.inr (.inr hfull))
      have Fin := Lib.hid fin
      have d1 : decide ((o.length : Int) ≤ (most : Int)) = false := by simp; omega
      have d2 : ¬ ((o.length : Int) ≤ (most : Int)) := by omega
      clear HEnd fin hfull
      go_wp2_with fail
      go_ret
      exact Fin.out
    · have d1 : decide ((o.length : Int) ≤ (most : Int)) = true := by simp; omega
      have d2 : (o.length : Int) ≤ (most : Int) := by omega
      have hl2 : o.length ≤ most := by omega
      have HW := Lib.hid (record_rw q ⟨y :: s, false, L⟩ wr HRw.out)
      obtain ⟨x, hx⟩ : ∃ x, x = (recS ⟨y :: s, false, L⟩).1 := ⟨_, rfl⟩
      obtain ⟨p2, hp2⟩ : ∃ x, x = (recS ⟨y :: s, false, L⟩).2 := ⟨_, rfl⟩
      have HL2 : Hid (loopS recS (most + 1 - (o ++ [x]).length) (o ++ [x]) p2 = listS recS most p) := Lib.hid (by
        rw [← HL.out, show most + 1 - o.length = (most + 1 - (o ++ [x]).length) + 1 by simp; omega]
        conv => rhs; unfold loopS
        rw [if_neg (by simp), ← hx, ← hp2])
      have hxl : List.length (Rc.cells x) = 65 := by rw [hx]; exact Rc.len (recS_wf _)
      have hx1 : ∀ u ∈ Rc.cells x, u.oneCell' = true := by intro u hu; have := rc_one x; rw [List.all_eq_true] at this; exact this u hu
      rw [← hx, ← hp2] at HW
      clear HEnd hfull HL hx hp2
      obtain ⟨cx, hcx⟩ : ∃ l, l = Rc.cells x := ⟨_, rfl⟩
      rw [← hcx] at HW hx1 hxl
      have HCx := Lib.hid hcx
      clear hcx
      go_wp2_with fail
      refine HW.out.mono ?_
      rintro e w2 ⟨rfl, h2, o2⟩
      have hB2 := Bag0.only HBag.out o2 (by simpa using hq)
      have hn2 := heap_alloc_new w2 (.cells cx.toArray 26)
      have hB3 := hB2.alloc (.cells cx.toArray 26)
      have hsz2 : w.heap.size ≤ w2.heap.size := Nat.le_trans hsz o2.size
      have K2 := Lib.hid h2
      have O2 := Lib.hid (HO.out.trans o2)
      have hsz3 : w.heap.size ≤ (w2.alloc (.cells cx.toArray 26)).heap.size := by simp; omega
      clear h2 o2 hB2
      go_wp2_with (first
        | (refine wpList_one_rc rfl _ rfl cx.toArray rfl (by simpa using hxl) ?_)
        | (refine wpList_append_bag0 (B := w.heap.size) (w2.alloc (.cells cx.toArray 26)) rfl _ _ 33 33 rfl i0 _ 72 Tryd.underlying33 hi0 hz0 hz1 hz2 (by rfl) hsz3 rfl hB3 _ 1 cx rfl (src_one_rc w2.heap.size 1 cx (0, 0) hxl hx1 hn2) (by omega) (by unfold maxLen; omega) (by omega) ?_; intro v4 w4 hB4 hb4; obtain ⟨A4, c4, rfl, -, -⟩ := hB4.shape; have HB4 := Lib.hid hB4; have Hb4 := Lib.hid hb4; clear hB4 hb4))
      go_roundw
      case rel =>
        refine ⟨A4, c4, o ++ [x], p2, by simp, ?_, ?_, ?_, by simp; omega, HL2.out⟩
        · have := HB4.out
          rw [HCx.out] at this
          simpa using this
        · exact (K2.out.below ((Below.refl _ _).alloc K2.out.bw _)).below (Hb4.out.mono hBw)
        · have := Hb4.out
          exact ⟨(O2.out.alloc _).os ▸ this.os, (O2.out.alloc _).tape ▸ this.tape, (O2.out.alloc _).output ▸ this.output, Nat.le_trans hsz3 this.size, fun k hk hn => (this.block k hk).trans ((O2.out.alloc _).block k hk hn)⟩
      case measure => simp [sliceLen]; omega
end Wi
end Go.Proofs.YthcmlbbbbcinkaaDoor

set_option linter.unusedVariables false
set_option linter.unusedSimpArgs false
namespace Go.Proofs.YthcmlbbbbcinkaaDoor
open Go.RowKit Pl
attribute [local go_sem] Lb.ba_get Lb.ba_cut Lb.ba_add Lb.ba_size Lb.take_rest
namespace Wi

theorem nextS_len {w : World} {B q : Nat} {p : St} (h : RwAt w B q p) : (nextS p).s.length ≤ 5000 := by
  obtain ⟨A, c, ht, hr⟩ := h.ex
  unfold nextS
  cases e : p.rest with
  | nil => exact Nat.zero_le _
  | cons t r => exact hr.each t (by rw [e]; simp)
theorem bytes_any {B : Nat} (q : Nat) (p : St) (w : World) (h : RwAt w B q p) : Calls Tryd.prog 65 #[.pointer (some ⟨q, 0, none⟩)] w (WordR (.string ⟨(nextS p).s.toArray⟩) (nextS p) B q w) := by
  have H1 := Lib.hid (next_any q p w h)
  clear h
  obtain ⟨p1, hp1⟩ : ∃ x, x = nextS p := ⟨_, rfl⟩
  unfold NextR at H1
  rw [← hp1] at H1 ⊢
  clear hp1
  go_enter Tryd.func65, Tryd.ntmps65
  go_wp2_with fail
  refine H1.out.mono ?_
  rintro e w1 ⟨rfl, h1, o1⟩
  obtain ⟨A, c, ht, hr⟩ := h1.ex
  have c0 := ht.c0
  have K1 := Lib.hid h1
  have O1 := Lib.hid o1
  clear h1 o1 ht hr
  go_wp2_with fail
  go_ret
  exact ⟨rfl, K1.out, O1.out⟩
theorem found_any {B : Nat} (q : Nat) (p : St) (w : World) (h : RwAt w B q p) : Calls Tryd.prog 62 #[.pointer (some ⟨q, 0, none⟩)] w (WordR (.bool (foundS p).1) (foundS p).2 B q w) := by
  have H1 := Lib.hid (one_any q p w h)
  clear h
  have e1 : foundS p = (decide ((oneS p).1 = 1), { (oneS p).2 with bad := (oneS p).2.bad || !inB (oneS p).1 0 1 }) := rfl
  rw [e1]
  obtain ⟨n, hn⟩ : ∃ x, x = (oneS p).1 := ⟨_, rfl⟩
  obtain ⟨p1, hp1⟩ : ∃ x, x = (oneS p).2 := ⟨_, rfl⟩
  rw [← hn, ← hp1] at H1
  rw [← hn, ← hp1]
  have H2 := Lib.hid (within_any n 0 1)
  clear hn hp1 e1
  obtain ⟨bb, hbb⟩ : ∃ x, x = inB n 0 1 := ⟨_, rfl⟩
  rw [← hbb] at H2 ⊢
  clear hbb
  obtain ⟨r1, hr1⟩ : ∃ x, x = decide (n = 1) := ⟨_, rfl⟩
  rw [← hr1]
  have er : (n == 1) = r1 := by rw [hr1]; exact Bool.eq_iff_iff.2 (by simp)
  have Hr := Lib.hid er
  clear hr1 er
  go_enter Tryd.func62, Tryd.ntmps62
  go_wp2_with fail
  refine H1.out.mono ?_
  rintro e w1 ⟨rfl, h1, o1⟩
  obtain ⟨A, c, ht, hr⟩ := h1.ex
  obtain ⟨s, b, L⟩ := p1
  have hlen := h1.len
  simp only at ht hr hlen
  have c1 := ht.c1
  have z1 := ht.z 1
  have HT := Lib.hid ht
  have HR := Lib.hid hr
  have O1 := Lib.hid o1
  clear h1 o1 ht hr H1
  have fin : ∀ b', b' = (b || !bb) → WordR (.bool r1) ⟨s, b || !bb, L⟩ B q w (.returned (.bool r1)) (w1.setCell ⟨q, 1, none⟩ (.bool b')) := fun b' hb => ⟨rfl, ⟨⟨A, c, by subst hb; exact HT.out.put1 _, HR.out.keep ((Only.refl [q] w1).setCell (p := ⟨q, 1, none⟩) (by simp) _)⟩, hlen⟩, O1.out.setCell (p := ⟨q, 1, none⟩) (by simp) _⟩
  have Fin := Lib.hid fin
  clear fin
  cases b with
  | true =>
    have er := Hr.out
    clear H2
    go_wp2_with fail
    go_ret
    exact Fin.out true (by simp)
  | false =>
    have er := Hr.out
    go_wp2_with fail
    refine (H2.out _).mono ?_
    rintro e w2 ⟨rfl, rfl⟩
    go_wp2_with fail
    go_ret
    exact Fin.out (!bb) (by simp)
set_option maxHeartbeats 4000000 in
set_option maxRecDepth 100000 in
theorem key_any {B : Nat} (q : Nat) (p : St) (w : World) (h : RwAt w B q p) : Calls Tryd.prog 61 #[.pointer (some ⟨q, 0, none⟩)] w (WordR (.agg (digV (keyS p).1)) (keyS p).2 B q w) := by
  have hn := heap_alloc_new w (.cells (digV z32) 23)
  have hb0 := (Below.refl w.heap.size w).alloc (Nat.le_refl _) (.cells (digV z32) 23)
  have h1 := h.below (hb0.mono h.bw)
  have hqB := h.qB
  have hBw := h.bw
  obtain ⟨w1, hw1⟩ : ∃ y, y = w.alloc (.cells (digV z32) 23) := ⟨_, rfl⟩
  obtain ⟨g, hg⟩ : ∃ g, g = w.heap.size := ⟨_, rfl⟩
  rw [← hw1] at hn hb0 h1
  rw [← hg] at hn
  have gq : g ≠ q := by omega
  have H1 := Lib.hid (next_any q p w1 h1)
  have H2 := Lib.hid (fun W (hW : RwAt W B q (nextS p)) => digest_rw q (nextS p) W hW)
  have H3 := Lib.hid (fun W (hW : RwAt W B q (digS (nextS p)).2) => end_any q (digS (nextS p)).2 W hW)
  have e1 : (keyS p).1 = (digS (nextS p)).1 := rfl
  have e2 : (keyS p).2 = endS (digS (nextS p)).2 := rfl
  have hd := (digS_len (nextS p)).2
  rw [e1, e2]
  obtain ⟨d, hdd⟩ : ∃ n, n = (digS (nextS p)).1 := ⟨_, rfl⟩
  obtain ⟨p2, hp2⟩ : ∃ n, n = (digS (nextS p)).2 := ⟨_, rfl⟩
  obtain ⟨p3, hp3⟩ : ∃ n, n = endS p2 := ⟨_, rfl⟩
  rw [← hdd, ← hp2] at H2
  rw [← hp2] at H3
  rw [← hdd] at hd
  rw [← hdd, ← hp2]
  rw [← hp3] at H3 ⊢
  have hds := digV_size d
  rw [hd] at hds
  have hdi := dig_infoL hd
  have hd1 := digV_one d
  obtain ⟨D, hD⟩ : ∃ D, D = digV d := ⟨_, rfl⟩
  rw [← hD] at H2 hds hdi hd1 ⊢
  have hsz : (digV z32).size = D.size := by rw [hds]; rfl
  have Hw1 := Lib.hid hw1
  have Hg := Lib.hid hg
  have Hn := Lib.hid hn
  have O0 := Lib.hid (Only.of_below (bs := [q]) hb0)
  have dund := Tryd.underlying23
  have LB : B ≤ g := by omega
  clear hdd hp2 hp3 e1 e2 h h1 hn hb0 hw1 hg hd hD hds hBw
  go_enter Tryd.func61, Tryd.ntmps61
  go_upto_region 1 with fail
  show Code.wp _ _ _ _ (w.alloc (.cells (digV z32) 23))
  rw [← Hw1.out, ← Hg.out]
  go_wp2_with fail
  refine H1.out.mono ?_
  rintro e w2 ⟨rfl, h2, o2⟩
  have K2 := Lib.hid h2
  have O2 := Lib.hid (O0.out.trans o2)
  have N2 := Lib.hid (o2.keep Hn.out (by simpa using gq))
  clear h2 o2
  go_wp2_with fail
  refine (H2.out _ K2.out).mono ?_
  rintro e w3 ⟨rfl, h3, o3⟩
  have K3 := Lib.hid h3
  have O3 := Lib.hid (O2.out.trans o3)
  have N3 := Lib.hid (o3.keep N2.out (by simpa using gq))
  have hn3 := heap_alloc_new w3 (.cells (digV z32) 23)
  have lg : g < w3.heap.size := heap_lt N3.out
  clear h3 o3 O2 N2 K2
  go_upto_region 3 with (refine wpList_store_row rfl 23 _ _ rfl w3.heap.size D rfl rfl 23 (digV z32) hn3 hdi hsz hd1 ?_)
  show Code.wp _ _ _ _ ((w3.alloc (.cells (digV z32) 23)).setRow w3.heap.size D)
  obtain ⟨w4, hw4⟩ : ∃ y, y = (w3.alloc (.cells (digV z32) 23)).setRow w3.heap.size D := ⟨_, rfl⟩
  obtain ⟨g2, hg2⟩ : ∃ g, g = w3.heap.size := ⟨_, rfl⟩
  have l4 := setRow_heap _ _ _ D _ _ hn3
  have o4 := ((Only.refl [g2] w3).alloc (.cells (digV z32) 23)).setRow (g := g2) (by simp) D
  rw [← hg2] at hw4 l4 ⊢
  rw [← hw4] at l4 o4 ⊢
  have q2 : g2 ≠ q := by omega
  have q3 : g2 ≠ g := by omega
  have K4 := Lib.hid (K3.out.below (o4.below K3.out.bw (by simp; omega)))
  have N4 := Lib.hid (o4.keep N3.out (by simpa using q3.symm))
  have O4 := Lib.hid (O3.out.above o4 (by simp; rw [hg2]; exact O3.out.size))
  have L4 := Lib.hid l4
  clear l4 o4 hw4 hg2 hn3 K3 O3 N3 lg
  go_wp2_with fail
  refine (H3.out _ K4.out).mono ?_
  rintro e w5 ⟨rfl, h5, o5⟩
  have K5 := Lib.hid h5
  have O5 := Lib.hid (O4.out.trans o5)
  have N5 := Lib.hid (o5.keep N4.out (by simpa using gq))
  have L5 := Lib.hid (o5.keep L4.out (by simpa using q2))
  clear h5 o5 K4 O4 N4 L4
  go_wp2_with (first
    | (refine wpList_load_row rfl 23 _ rfl g2 rfl 23 D (0, 0) _ L5.out dund rfl hdi ?_)
    | (refine wpList_store_row rfl 23 _ _ rfl g D rfl rfl 23 _ N5.out hdi hsz hd1 ?_))
  have HG := Lib.hid (setRow_heap _ g _ D _ _ N5.out)
  (try simp only [Exit.inBlock, Exit.then])
  refine bodyPost_ret (results_cell_row rfl _ _ g 23 D (0, 0) _ rfl HG.out dund rfl hdi) rfl ?_
  exact ⟨rfl, K5.out.below (((Only.refl [g] w5).setRow (g := g) (by simp) D).below K5.out.bw (by simp; exact LB)), only_fresh O5.out (by rw [Hg.out]; exact Nat.le_refl _) _⟩
theorem haze_infoL {d : Bs} (h : d.length = 64) : (Tryd.prog.info? 28).map (·.size) = some (digV d).size := by rw [haze_info, digV_size, h]
theorem hazeOf_len (s : Bs) : (hazeOf s).length = 64 := by unfold hazeOf; simp; omega
def z64 : Bs := List.replicate 64 0
set_option maxHeartbeats 4000000 in
set_option maxRecDepth 100000 in
theorem haze_any {B : Nat} (q : Nat) (p : St) (w : World) (h : RwAt w B q p) : Calls Tryd.prog 60 #[.pointer (some ⟨q, 0, none⟩)] w (WordR (.agg (digV (hazeS p).1)) (hazeS p).2 B q w) := by
  have hn := heap_alloc_new w (.cells (digV z64) 28)
  have hb0 := (Below.refl w.heap.size w).alloc (Nat.le_refl _) (.cells (digV z64) 28)
  have h1 := h.below (hb0.mono h.bw)
  have hqB := h.qB
  have hBw := h.bw
  obtain ⟨w1, hw1⟩ : ∃ y, y = w.alloc (.cells (digV z64) 28) := ⟨_, rfl⟩
  obtain ⟨g, hg⟩ : ∃ g, g = w.heap.size := ⟨_, rfl⟩
  rw [← hw1] at hn hb0 h1
  rw [← hg] at hn
  have gq : g ≠ q := by omega
  have H1 := Lib.hid (bytes_any q p w1 h1)
  have e1 : hazeS p = (hazeOf (nextS p).s, { nextS p with bad := (nextS p).bad || decide ((nextS p).s.length ≠ 64) }) := rfl
  rw [e1]
  obtain ⟨p1, hp1⟩ : ∃ n, n = nextS p := ⟨_, rfl⟩
  rw [← hp1] at H1 ⊢
  have hlen := nextS_len h
  rw [← hp1] at hlen
  obtain ⟨s, b, L⟩ := p1
  simp only at hlen ⊢
  have hcp : byV (s.take 64 ++ z64.drop s.length) = byV (hazeOf s) := by unfold hazeOf z64; rw [List.drop_replicate]
  have hds := digV_size (hazeOf s)
  rw [hazeOf_len] at hds
  have hdi := haze_infoL (hazeOf_len s)
  have hd1 := digV_one (hazeOf s)
  obtain ⟨D, hD⟩ : ∃ D, D = digV (hazeOf s) := ⟨_, rfl⟩
  have hcd : (byV (s.take 64 ++ z64.drop s.length)).toArray = D := by rw [hcp, hD]; rfl
  rw [← hD] at hds hdi hd1 ⊢
  obtain ⟨bb, hbb⟩ : ∃ bb, bb = decide (s.length ≠ 64) := ⟨_, rfl⟩
  rw [← hbb]
  have i64 : ((s.length : Int) != 64) = bb := by rw [hbb]; rw [Bool.eq_iff_iff]; simp; omega
  have Hw1 := Lib.hid hw1
  have Hg := Lib.hid hg
  have Hn := Lib.hid hn
  have Hcd := Lib.hid hcd
  have O0 := Lib.hid (Only.of_below (bs := [q]) hb0)
  have zund := Tryd.underlying28
  have LB : B ≤ g := by omega
  clear hp1 e1 h h1 hn hb0 hw1 hg hD hBw hcp hcd hbb
  go_enter Tryd.func60, Tryd.ntmps60
  go_upto_region 1 with fail
  show Code.wp _ _ _ _ (w.alloc (.cells (digV z64) 28))
  rw [← Hw1.out, ← Hg.out]
  go_wp2_with fail
  refine H1.out.mono ?_
  rintro e w2 ⟨rfl, h2, o2⟩
  obtain ⟨A, c, ht, hr⟩ := h2.ex
  simp only at ht hr
  have c1 := ht.c1
  have z1 := ht.z 1
  have HT := Lib.hid ht
  have HR := Lib.hid hr
  have O2 := Lib.hid (O0.out.trans o2)
  have N2 := Lib.hid (o2.keep Hn.out (by simpa using gq))
  have K2 := Lib.hid h2
  clear h2 o2 ht hr H1
  cases b with
  | false =>
    go_upto_region 3 with fail
    show Code.wp _ _ _ _ (w2.setCell ⟨q, 1, none⟩ (.bool bb))
    obtain ⟨w3, hw3⟩ : ∃ y, y = w2.setCell ⟨q, 1, none⟩ (.bool bb) := ⟨_, rfl⟩
    have h3 := HT.out.put1 bb
    have o3 := (Only.refl [q] w2).setCell (p := ⟨q, 1, none⟩) (by simp) (.bool bb)
    have eb : (false || bb) = bb := by simp
    rw [← hw3] at h3 o3 ⊢
    rw [← eb] at h3
    have H3 := Lib.hid h3
    have O3 := Lib.hid (O2.out.trans o3)
    have N3 := Lib.hid (o3.keep N2.out (by simpa using gq))
    have R3 := Lib.hid (HR.out.keep o3)
    have hcpy := run_copy_strP w3 45 9 3 5 g 64 64 s z64 28 Tryd.underlying45 u8_info1 N3.out rfl
    have l4 := setRow_heap _ g _ D _ _ N3.out
    rw [Hcd.out] at hcpy
    obtain ⟨w4, hw4⟩ : ∃ y, y = w3.setRow g D := ⟨_, rfl⟩
    have o4 := (Only.refl [g] w3).setRow (g := g) (by simp) D
    rw [← hw4] at hcpy l4 o4
    have H4 := Lib.hid (H3.out.keep o4 (by simpa using gq.symm))
    have R4 := Lib.hid (R3.out.below (o4.below R3.out.bw (by simp; exact LB)))
    have O4 := Lib.hid (O3.out.above o4 (by simp; rw [Hg.out]; exact Nat.le_refl _))
    have L4 := Lib.hid l4
    have hmin : (Nat.min s.length 64 : Nat) = Nat.min s.length 64 := rfl
    clear hw3 hw4 h3 o3 l4 o4 H3 O3 R3 HT HR O2 N2 K2 c1 z1 hmin eb
    go_upto_region 4 with (at_builtin; refine Lib.wpList_copy_run _ rfl _ _ _ _ rfl _ _ rfl rfl hcpy ?_)
    clear hcpy N3
    go_wp2_with (first
      | (refine wpList_load_row rfl 28 _ rfl g rfl 28 D (0, 0) _ L4.out zund rfl hdi ?_)
      | (refine wpList_store_row rfl 28 _ _ rfl g D rfl rfl 28 D L4.out hdi rfl hd1 ?_))
    have HG := Lib.hid (setRow_heap _ g _ D _ _ L4.out)
    (try simp only [Exit.inBlock, Exit.then])
    refine bodyPost_ret (results_cell_row rfl _ _ g 28 D (0, 0) _ rfl HG.out zund rfl hdi) rfl ?_
    exact ⟨rfl, ⟨⟨A, c, H4.out.keep (Only.setRow (Only.refl [g] _) (by simp) _) (by simpa using gq.symm), R4.out.below (((Only.refl [g] w4).setRow (g := g) (by simp) D).below R4.out.bw (by simp; exact LB))⟩, hlen⟩, only_fresh O4.out (by rw [Hg.out]; exact Nat.le_refl _) _⟩
  | true =>
    go_upto_region 3 with fail
    show Code.wp _ _ _ _ (w2.setCell ⟨q, 1, none⟩ (.bool true))
    obtain ⟨w3, hw3⟩ : ∃ y, y = w2.setCell ⟨q, 1, none⟩ (.bool true) := ⟨_, rfl⟩
    have h3 := HT.out.put1 true
    have o3 := (Only.refl [q] w2).setCell (p := ⟨q, 1, none⟩) (by simp) (.bool true)
    have eb : (true || bb) = true := by simp
    rw [← hw3] at h3 o3 ⊢
    rw [← eb] at h3
    have H3 := Lib.hid h3
    have O3 := Lib.hid (O2.out.trans o3)
    have N3 := Lib.hid (o3.keep N2.out (by simpa using gq))
    have R3 := Lib.hid (HR.out.keep o3)
    have hcpy := run_copy_strP w3 45 9 3 5 g 64 64 s z64 28 Tryd.underlying45 u8_info1 N3.out rfl
    have l4 := setRow_heap _ g _ D _ _ N3.out
    rw [Hcd.out] at hcpy
    obtain ⟨w4, hw4⟩ : ∃ y, y = w3.setRow g D := ⟨_, rfl⟩
    have o4 := (Only.refl [g] w3).setRow (g := g) (by simp) D
    rw [← hw4] at hcpy l4 o4
    have H4 := Lib.hid (H3.out.keep o4 (by simpa using gq.symm))
    have R4 := Lib.hid (R3.out.below (o4.below R3.out.bw (by simp; exact LB)))
    have O4 := Lib.hid (O3.out.above o4 (by simp; rw [Hg.out]; exact Nat.le_refl _))
    have L4 := Lib.hid l4
    have hmin : (Nat.min s.length 64 : Nat) = Nat.min s.length 64 := rfl
    clear hw3 hw4 h3 o3 l4 o4 H3 O3 R3 HT HR O2 N2 K2 c1 z1 hmin eb
    go_upto_region 4 with (at_builtin; refine Lib.wpList_copy_run _ rfl _ _ _ _ rfl _ _ rfl rfl hcpy ?_)
    clear hcpy N3
    go_wp2_with (first
      | (refine wpList_load_row rfl 28 _ rfl g rfl 28 D (0, 0) _ L4.out zund rfl hdi ?_)
      | (refine wpList_store_row rfl 28 _ _ rfl g D rfl rfl 28 D L4.out hdi rfl hd1 ?_))
    have HG := Lib.hid (setRow_heap _ g _ D _ _ L4.out)
    (try simp only [Exit.inBlock, Exit.then])
    refine bodyPost_ret (results_cell_row rfl _ _ g 28 D (0, 0) _ rfl HG.out zund rfl hdi) rfl ?_
    exact ⟨rfl, ⟨⟨A, c, H4.out.keep (Only.setRow (Only.refl [g] _) (by simp) _) (by simpa using gq.symm), R4.out.below (((Only.refl [g] w4).setRow (g := g) (by simp) D).below R4.out.bw (by simp; exact LB))⟩, hlen⟩, only_fresh O4.out (by rw [Hg.out]; exact Nat.le_refl _) _⟩
end Wi
end Go.Proofs.YthcmlbbbbcinkaaDoor
