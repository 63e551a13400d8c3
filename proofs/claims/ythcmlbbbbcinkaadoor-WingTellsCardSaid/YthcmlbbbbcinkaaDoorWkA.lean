/-
  Layer 19 (wing): slices.Concat of two lists of texts.
-/
import Derived.Test.YthcmlbbbbcinkaaDoorWiO
import Derived.Lib.AppendZeros
import Derived.Deep.Upon
set_option linter.unusedVariables false
set_option linter.unusedSimpArgs false
namespace Go.Proofs.YthcmlbbbbcinkaaDoor
open Go.RowKit Pl
attribute [local go_sem] Lb.ba_get Lb.ba_cut Lb.ba_add Lb.ba_size Lb.take_rest
namespace Wi

theorem run_append_bagN {P : Program} {B size m : Nat} {v : Value} {cs : List Value} (t tx ty e : TypeId) (i : TypeInfo) (z : Value) (bytes : Nat) (ht : P.underlying t = some (.slice e)) (hi : P.info? e = some i) (hz : i.zero = some z) (hsize : i.size = size) (hby : i.bytes = bytes) (hzs : z.cells.size = size)
    {w : World} (hBw : B ≤ w.heap.size) (h : Bag0 w B size v m cs) (x : Value) (n : Nat) (news : List Value) (hs : Src P size tx x n news w) (h63 : m + n ≤ maxLen) (hbytes : (m + n) * bytes ≤ 140737488355328) :
    ∃ v' w', (Builtin.append_ #[t, tx] ty #[v, x]).run P w = .ok v' w' ∧ Bag0 w' B size v' (m + n) (cs ++ news) ∧ Below B w w' := by
  rcases Nat.eq_zero_or_pos n with h0 | h0
  · subst h0
    have hl := hs.newsLen
    obtain rfl : news = [] := List.eq_nil_of_length_eq_zero (by omega)
    obtain ⟨A, cap, rfl, -, hle⟩ := h.shape
    subst hsize
    exact ⟨_, w, run_append_nothing w t tx ty e i ht hi A m cap hle x hs, by simpa using h, Below.refl _ _⟩
  · exact run_append_bag0 t tx ty e i z bytes ht hi hz hsize hby hzs hBw h x n news hs h0 h63 hbytes
theorem wpList_append_bagN {P : Program} (w : World) {ops : Array Oper} {rest : List Oper} {o : Oper} {a : Act} {Q : Exit → Act → World → Prop} (hgd : o.guard = none) (s x : Operand) (t tx : TypeId)
    (ho : o.op = .call { callee := .builtin .append, args := #[s, x], argTypes := #[t, tx] })
    {e : TypeId} {B size m : Nat} {v : Value} {cs : List Value}
    (i : TypeInfo) (z : Value) (bytes : Nat) (ht : P.underlying t = some (.slice e)) (hi : P.info? e = some i) (hz : i.zero = some z) (hsize : i.size = size) (hby : i.bytes = bytes) (hzs : z.cells.size = size)
    (hBw : B ≤ w.heap.size) (hv : a.eval s = v) (h : Bag0 w B size v m cs)
    (xv : Value) (n : Nat) (news : List Value) (hx : a.eval x = xv) (hs : Src P size tx xv n news w) (h63 : m + n ≤ maxLen) (hbytes : (m + n) * bytes ≤ 140737488355328)
    (hK : ∀ v' w', Bag0 w' B size v' (m + n) (cs ++ news) → Below B w w' → wpList P ops Q rest (a.put o.dst v') w') : wpList P ops Q (o :: rest) a w := by
  refine wpList_plain hgd fun K hK' => ?_
  obtain ⟨v', w', hrun, h1, h2⟩ := run_append_bagN (P := P) t tx o.type e i z bytes ht hi hz hsize hby hzs hBw h xv n news hs h63 hbytes
  unfold Oper.wp
  simp [execOp, ho, resolve, invoke, builtin, hv, hx, hrun, Result.andThen]
  exact hK' _ _ (hK v' w' h1 h2)

theorem txts_src {w : World} {B : Nat} {v : Value} {ts : List Bs} (h : Txts w B v ts) : Src Tryd.prog 1 54 v ts.length (rowT ts) w := by
  rcases h with ⟨rfl, h1, h2⟩ | ⟨g, cap, rfl, -, hB⟩
  · rw [h1, h2]; exact Src.ofNil w Tryd.underlying54 0
  · refine Src.ofSlice w Tryd.underlying54 _ _ cap _ hB.len (fun j u hu => ?_) (fun u hu => ?_)
    · rw [Addr.add_lit, Nat.zero_add]; exact hB.holds j u hu
    · obtain ⟨t, _, rfl⟩ := List.mem_map.1 hu
      rfl
def GrowPost (w : World) (e : Ending) (w' : World) : Prop := ∃ v, e = .returned v ∧ Bag0 w' w.heap.size 1 v 0 [] ∧ Below w.heap.size w w'
set_option maxHeartbeats 4000000 in
set_option maxRecDepth 100000 in
theorem wgrow_any (n : Nat) (w : World) (hn : n ≤ 1000) :
    Calls Tryd.prog 39 #[.slice none 0 0, .int .i64 n] w (GrowPost w) := by
  obtain ⟨i0, hi0, hz0, hz1, hz2⟩ := info_parts str_info
  rcases Nat.eq_zero_or_pos n with h0 | h0
  · subst h0
    clear hn
    go_enter Tryd.func39, Tryd.ntmps39
    go_wp2_with fail
    go_ret
    exact ⟨_, rfl, Bag0.nil _ _ _, Below.refl _ _⟩
  · have hr := Lib.run_append_nil_zeros (P := Tryd.prog) w 54 3 54 9 i0 _ .i64 .i64 Tryd.underlying54 Tryd.underlying3 hi0 hz0 n h0 (by rw [hz1]; omega) (by omega) (by rw [hz2]; omega)
    have hge := grownCap_ge w n 0 9
    have hcm := grownCap_le_maxLen w n 0 9 (by unfold maxLen; omega)
    obtain ⟨cap, hcap⟩ : ∃ c, c = grownCap w n 0 9 := ⟨_, rfl⟩
    rw [← hcap] at hr hge hcm
    obtain ⟨C, hC⟩ : ∃ C, C = Builtin.zeroCells (Value.string ByteArray.empty).cells n ++ Builtin.zeroCells (Value.string ByteArray.empty).cells (cap - n) := ⟨_, rfl⟩
    have hCs : C.size = cap * 1 := by
      have hz : (Value.string ByteArray.empty).cells.size = 1 := rfl
      rw [hC, Array.size_append, size_zeroCells, size_zeroCells, hz, ← Nat.add_mul]
      congr 1; omega
    rw [← hC] at hr
    clear hcap hC
    have i0' : (0 : Int) < (n : Int) := by omega
    go_enter Tryd.func39, Tryd.ntmps39
    go_wp2_with (at_builtin; refine Lib.wpList_append_run _ rfl _ _ _ _ rfl _ _ rfl rfl _ _ hr ?_)
    go_ret
    have hg : (w.drew.alloc (.cells C 9)).heap[w.heap.size]? = some (.cells C 9 (0, 0)) := heap_alloc_new w.drew _
    refine ⟨_, rfl, .inr ⟨w.heap.size, cap, rfl, Nat.le_refl _, ⟨Nat.zero_le _, hcm, heap_lt hg, rfl, fun j u hu => by simp at hu, fun j hj => ⟨?_, Lib.frozen_of_heap hg j⟩⟩⟩, ((Below.refl _ w).drew).alloc (Nat.le_refl _) _⟩
    show ((w.drew.alloc (.cells C 9)).cell? ⟨w.heap.size, j, none⟩).isSome = true
    rw [Lib.cell_of_heap hg, Array.getElem?_eq_getElem (by rw [hCs]; exact hj)]; rfl

def catN (a b : Nat) : Nat → Nat
  | 0 => 0
  | 1 => a
  | _ => a + b
def catL (a b : List Bs) : Nat → List Bs
  | 0 => []
  | 1 => a
  | _ => a ++ b
def CatPost (w : World) (ts : List Bs) (e : Ending) (w' : World) : Prop := ∃ v, e = .returned v ∧ Txts w' w.heap.size v ts ∧ Below w.heap.size w w'
set_option maxHeartbeats 4000000 in
set_option maxRecDepth 100000 in
theorem wconcat_any (g B : Nat) (v1 v2 : Value) (a b : List Bs) (T : TypeId) (w : World) (hg : w.heap[g]? = some (.cells #[v1, v2] T (0, 0))) (h1 : Txts w B v1 a) (h2 : Txts w B v2 b) (ha : a.length ≤ 8) (hb : b.length ≤ 8) :
    Calls Tryd.prog 17 #[.slice (some ⟨g, 0, none⟩) 2 2] w (CatPost w (a ++ b)) := by
  have hgl := heap_lt hg
  obtain ⟨A1, c1, rfl, -, -⟩ := h1.shape
  obtain ⟨A2, c2, rfl, -, -⟩ := h2.shape
  obtain ⟨i0, hi0, hz0, hz1, hz2⟩ := info_parts str_info
  have r0 : w.cell? ⟨g, 0, none⟩ = some (.slice A1 a.length c1) := by rw [Lib.cell_of_heap hg]; rfl
  have r1 : w.cell? ⟨g, 1, none⟩ = some (.slice A2 b.length c2) := by rw [Lib.cell_of_heap hg]; rfl
  have H1 := Lib.hid h1
  have H2 := Lib.hid h2
  have Hg := Lib.hid hg
  clear h1 h2 hg
  go_enter Tryd.func17, Tryd.ntmps17
  go_wp2_with fail
  go_loop [3, 11] (fun s i => ∃ k : Nat, k ≤ 2 ∧ i = .int .i64 k ∧ s = .int .i64 (catN a.length b.length k : Nat)) (fun _ i => 2 - (intOf i).toNat)
  case atStart => exact ⟨0, by omega, rfl, rfl⟩
  case round =>
    obtain ⟨k, hk, rfl, rfl⟩ := hrel
    match k, hk with
    | 0, _ =>
      have e0 : catN a.length b.length 0 = 0 := rfl
      rw [e0]
      clear e0
      go_wp2_with fail
      go_round
      case rel => exact ⟨1, by omega, by go_num, by simp [catN]⟩
      case measure => simp [intOf]
    | 1, _ =>
      have e1 : catN a.length b.length 1 = a.length := rfl
      rw [e1]
      clear e1
      go_wp2_with fail
      go_round
      case rel => exact ⟨2, by omega, by go_num, by simp [catN]⟩
      case measure => simp [intOf]
    | 2, _ =>
      have e2 : catN a.length b.length 2 = a.length + b.length := rfl
      rw [e2]
      obtain ⟨s, hs⟩ : ∃ s, s = a.length + b.length := ⟨_, rfl⟩
      rw [← hs]
      have hs16 : s ≤ 16 := by omega
      clear e2 hs
      go_wp2_with fail
      refine (wgrow_any s w (by omega)).mono ?_
      rintro e w1 ⟨v, rfl, hv, hb1⟩
      have Hv := Lib.hid hv
      have Hb1 := Lib.hid hb1
      clear hv hb1
      go_wp2_with fail
      go_loopw [6, 27] (fun v i wr => ∃ k : Nat, k ≤ 2 ∧ i = .int .i64 k ∧ Txts wr w.heap.size v (catL a b k) ∧ Below w.heap.size w wr) (fun _ i _ => 2 - (intOf i).toNat)
      case atStart => exact ⟨0, by omega, rfl, Hv.out, Hb1.out⟩
      case round =>
        obtain ⟨k, hk, rfl, hA, hb⟩ := hrel
        have s0 : wr.cell? ⟨g, 0, none⟩ = some (.slice A1 a.length c1) := (hb.cell (p := ⟨g, 0, none⟩) hgl).trans r0
        have s1 : wr.cell? ⟨g, 1, none⟩ = some (.slice A2 b.length c2) := (hb.cell (p := ⟨g, 1, none⟩) hgl).trans r1
        have hbs := hb.size
        have S1 := Lib.hid (txts_src (show Txts wr B _ a from H1.out.below hb))
        have S2 := Lib.hid (txts_src (show Txts wr B _ b from H2.out.below hb))
        have HB := Lib.hid hb
        clear hb Hv Hb1
        match k, hk, hA with
        | 0, _, hA =>
          obtain ⟨A, cap, rfl, -, -⟩ := Bag0.shape hA
          have HA := Lib.hid hA
          clear hA
          go_wp2_with (at_builtin; refine wpList_append_bagN _ rfl _ _ 54 54 rfl i0 _ 16 Tryd.underlying54 hi0 hz0 hz1 hz2 (rfl) hbs rfl HA.out _ _ _ rfl S1.out (by show 0 + a.length ≤ maxLen; unfold maxLen; omega) (by show (0 + a.length) * 16 ≤ _; omega) ?_)
          intro v' w' hB' hb'
          have HA' : Hid (Txts w' w.heap.size v' (catL a b 1)) := Lib.hid (by
            unfold Txts
            have : Bag0 w' w.heap.size 1 v' (0 + a.length) ([] ++ rowT a) := hB'
            rw [Nat.zero_add, List.nil_append] at this
            exact this)
          have Hb' := Lib.hid (HB.out.trans hb')
          clear hB' hb'
          go_wp2_with fail
          go_roundw
          case rel => exact ⟨1, by omega, by go_num, HA'.out, Hb'.out⟩
          case measure => simp [intOf]
        | 1, _, hA =>
          obtain ⟨A, cap, rfl, -, -⟩ := Bag0.shape hA
          have HA := Lib.hid hA
          clear hA
          go_wp2_with (at_builtin; refine wpList_append_bagN _ rfl _ _ 54 54 rfl i0 _ 16 Tryd.underlying54 hi0 hz0 hz1 hz2 (rfl) hbs rfl HA.out _ _ _ rfl S2.out (by show a.length + b.length ≤ maxLen; unfold maxLen; omega) (by show (a.length + b.length) * 16 ≤ _; omega) ?_)
          intro v' w' hB' hb'
          have HA' : Hid (Txts w' w.heap.size v' (catL a b 2)) := Lib.hid (by
            unfold Txts
            have : Bag0 w' w.heap.size 1 v' (a.length + b.length) (rowT a ++ rowT b) := hB'
            rw [← rowT_append, ← List.length_append] at this
            exact this)
          have Hb' := Lib.hid (HB.out.trans hb')
          clear hB' hb'
          go_wp2_with fail
          go_roundw
          case rel => exact ⟨2, by omega, by go_num, HA'.out, Hb'.out⟩
          case measure => simp [intOf]
        | 2, _, hA =>
          have HA := Lib.hid hA
          clear hA
          go_wp2_with fail
          go_ret
          exact ⟨_, rfl, HA.out, HB.out⟩
end Wi
end Go.Proofs.YthcmlbbbbcinkaaDoor
