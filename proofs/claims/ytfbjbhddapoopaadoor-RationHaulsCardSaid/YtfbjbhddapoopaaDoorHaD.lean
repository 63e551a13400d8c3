/-
  Layer 17 (haul): slices.Grow, slices.Concat of what is sent; the walk of Tick.
-/
import Derived.Test.YtfbjbhddapoopaaDoorHaC
import Derived.Lib.AppendZeros
import Derived.Deep.Upon
set_option linter.unusedVariables false
set_option linter.unusedSimpArgs false
namespace Go.Proofs.YtfbjbhddapoopaaDoor
open Go.RowKit
attribute [local go_sem] Lb.ba_get Lb.ba_cut Lb.ba_add Lb.ba_size Lb.take_rest

/-- an append of whatever number, none too -/
theorem run_append_bagN {P : Program} {B size m : Nat} {v : Value} {cs : List Value} (t tx ty e : TypeId) (i : TypeInfo) (z : Value) (bytes : Nat) (ht : P.underlying t = some (.slice e)) (hi : P.info? e = some i) (hz : i.zero = some z) (hsize : i.size = size) (hby : i.bytes = bytes) (hzs : z.cells.size = size)
    {w : World} (hBw : B ≤ w.heap.size) (h : Bag0 w B size v m cs) (x : Value) (n : Nat) (news : List Value) (hs : Src P size tx x n news w) (h63 : m + n ≤ maxLen) (hbytes : (m + n) * bytes ≤ 140737488355328) :
    ∃ v' w', (Builtin.append_ #[t, tx] ty #[v, x]).run P w = .ok v' w' ∧ Bag0 w' B size v' (m + n) (cs ++ news) ∧ Below B w w' := by
  rcases Nat.eq_zero_or_pos n with h0 | h0
  · subst h0
    have hl := hs.newsLen
    obtain rfl : news = [] := List.eq_nil_of_length_eq_zero (by omega)
    obtain ⟨A, cap, rfl, -, hle⟩ := h.shape
    subst hsize
    exact ⟨_, w, run_append_nothing w t tx ty e i ht hi A m cap hle x hs, by simpa using h, Below.refl _ _⟩
  · exact run_append_bag0 t tx ty e i z bytes ht hi hz hsize hby hzs hBw h x n news hs h0 h63 hbytes
theorem wpList_append_bagN {P : Program} (w : World) {ops : Array Oper} {rest : List Oper} {o : Oper} {a : Act} {Q : Exit → Act → World → Prop} (hgd : o.guard = none) (s x : Operand) (t tx : TypeId)
    (ho : o.op = .call { callee := .builtin .append, args := #[s, x], argTypes := #[t, tx] })
    {e : TypeId} {B size m : Nat} {v : Value} {cs : List Value}
    (i : TypeInfo) (z : Value) (bytes : Nat) (ht : P.underlying t = some (.slice e)) (hi : P.info? e = some i) (hz : i.zero = some z) (hsize : i.size = size) (hby : i.bytes = bytes) (hzs : z.cells.size = size)
    (hBw : B ≤ w.heap.size) (hv : a.eval s = v) (h : Bag0 w B size v m cs)
    (xv : Value) (n : Nat) (news : List Value) (hx : a.eval x = xv) (hs : Src P size tx xv n news w) (h63 : m + n ≤ maxLen) (hbytes : (m + n) * bytes ≤ 140737488355328)
    (hK : ∀ v' w', Bag0 w' B size v' (m + n) (cs ++ news) → Below B w w' → wpList P ops Q rest (a.put o.dst v') w') : wpList P ops Q (o :: rest) a w := by
  refine wpList_plain hgd fun K hK' => ?_
  obtain ⟨v', w', hrun, h1, h2⟩ := run_append_bagN (P := P) t tx o.type e i z bytes ht hi hz hsize hby hzs hBw h xv n news hs h63 hbytes
  unfold Oper.wp
  simp [execOp, ho, resolve, invoke, builtin, hv, hx, hrun, Result.andThen]
  exact hK' _ _ (hK v' w' h1 h2)

theorem asks_one (pe : Int) (out : List UInt8) (ho : out.length = 32) (ats : List Int) : ∀ u ∈ asksCells pe out ats, u.oneCell' = true := by
  intro u hu
  unfold asksCells at hu
  rw [List.mem_flatten] at hu
  obtain ⟨l, hl, hu⟩ := hu
  obtain ⟨i, _, rfl⟩ := List.mem_map.1 hl
  have := sent_one pe (askFr_fit out i ho)
  unfold sentRow at this
  rw [List.all_toArray, List.all_eq_true] at this
  exact this u hu
theorem Asks.src {w : World} {B : Nat} {v : Value} {pe : Int} {out : List UInt8} {ats : List Int} (ho : out.length = 32) (h : Asks w B v pe out ats) : Src Tryd.prog 238 31 v ats.length (asksCells pe out ats) w := by
  rcases h with ⟨rfl, h1, h2⟩ | ⟨g, cap, rfl, -, hB⟩
  · rw [h1, h2]; exact Src.ofNil w Tryd.underlying31 0
  · refine Src.ofSlice w Tryd.underlying31 _ _ cap _ hB.len (fun j u hu => ?_) (fun u hu => asks_one pe out ho ats u hu)
    rw [Addr.add_lit, Nat.zero_add]; exact hB.holds j u hu
theorem asks_append (pe : Int) (out : List UInt8) (a b : List Int) : asksCells pe out (a ++ b) = asksCells pe out a ++ asksCells pe out b := by simp [asksCells]

def GrowPost (w : World) (e : Ending) (w' : World) : Prop := ∃ v, e = .returned v ∧ Bag0 w' w.heap.size 238 v 0 [] ∧ Below w.heap.size w w'
set_option maxHeartbeats 4000000 in
set_option maxRecDepth 100000 in
theorem growS_any (n : Nat) (w : World) (hn : n ≤ 1000) :
    Calls Tryd.prog 105 #[.slice none 0 0, .int .i64 n] w (GrowPost w) := by
  obtain ⟨i0, hi0, hz0, hz1, hz2⟩ := sent_parts
  rcases Nat.eq_zero_or_pos n with h0 | h0
  · subst h0
    clear hn
    go_enter Tryd.func105, Tryd.ntmps105
    go_wp2_with fail
    go_ret
    exact ⟨_, rfl, Bag0.nil _ _ _, Below.refl _ _⟩
  · have hr := Lib.run_append_nil_zeros (P := Tryd.prog) w 31 3 31 50 i0 _ .i64 .i64 Tryd.underlying31 Tryd.underlying3 hi0 hz0 n h0 (by rw [hz1]; omega) (by omega) (by rw [hz2]; omega)
    have hge := grownCap_ge w n 0 50
    have hcm := grownCap_le_maxLen w n 0 50 (by unfold maxLen; omega)
    obtain ⟨cap, hcap⟩ : ∃ c, c = grownCap w n 0 50 := ⟨_, rfl⟩
    rw [← hcap] at hr hge hcm
    obtain ⟨C, hC⟩ : ∃ C, C = Builtin.zeroCells (Value.agg (sentRow 0 zeroFr)).cells n ++ Builtin.zeroCells (Value.agg (sentRow 0 zeroFr)).cells (cap - n) := ⟨_, rfl⟩
    have hCs : C.size = cap * 238 := by
      have hz : (Value.agg (sentRow 0 zeroFr)).cells.size = 238 := sentRow_size 0 zeroFr_fit
      rw [hC, Array.size_append, size_zeroCells, size_zeroCells, hz, ← Nat.add_mul]
      congr 1; omega
    rw [← hC] at hr
    clear hcap hC
    have i0' : (0 : Int) < (n : Int) := by omega
    go_enter Tryd.func105, Tryd.ntmps105
    go_wp2_with (at_builtin; refine Lib.wpList_append_run _ rfl _ _ _ _ rfl _ _ rfl rfl _ _ hr ?_)
    go_ret
    have hg : (w.drew.alloc (.cells C 50)).heap[w.heap.size]? = some (.cells C 50 (0, 0)) := heap_alloc_new w.drew _
    refine ⟨_, rfl, .inr ⟨w.heap.size, cap, rfl, Nat.le_refl _, ⟨Nat.zero_le _, hcm, heap_lt hg, rfl, fun j u hu => by simp at hu, fun j hj => ⟨?_, Lib.frozen_of_heap hg j⟩⟩⟩, ((Below.refl _ w).drew).alloc (Nat.le_refl _) _⟩
    show ((w.drew.alloc (.cells C 50)).cell? ⟨w.heap.size, j, none⟩).isSome = true
    rw [Lib.cell_of_heap hg, Array.getElem?_eq_getElem (by rw [hCs]; exact hj)]; rfl

def catN (a b : Nat) : Nat → Nat
  | 0 => 0
  | 1 => a
  | _ => a + b
def catL (a b : List Int) : Nat → List Int
  | 0 => []
  | 1 => a
  | _ => a ++ b
def AsksPost (w : World) (peer : Int) (out : List UInt8) (ats : List Int) (e : Ending) (w' : World) : Prop := ∃ v, e = .returned v ∧ Asks w' w.heap.size v peer out ats ∧ Below w.heap.size w w'
set_option maxHeartbeats 4000000 in
set_option maxRecDepth 100000 in
theorem concat_any (g B : Nat) (v1 v2 : Value) (peer : Int) (out : List UInt8) (a b : List Int) (T : TypeId) (w : World) (ho : out.length = 32) (hg : w.heap[g]? = some (.cells #[v1, v2] T (0, 0))) (h1 : Asks w B v1 peer out a) (h2 : Asks w B v2 peer out b) (ha : a.length ≤ 8) (hb : b.length ≤ 8) :
    Calls Tryd.prog 61 #[.slice (some ⟨g, 0, none⟩) 2 2] w (AsksPost w peer out (a ++ b)) := by
  have hgl := heap_lt hg
  obtain ⟨A1, c1, rfl, -, -⟩ := h1.shape
  obtain ⟨A2, c2, rfl, -, -⟩ := h2.shape
  obtain ⟨i0, hi0, hz0, hz1, hz2⟩ := sent_parts
  have r0 : w.cell? ⟨g, 0, none⟩ = some (.slice A1 a.length c1) := by rw [Lib.cell_of_heap hg]; rfl
  have r1 : w.cell? ⟨g, 1, none⟩ = some (.slice A2 b.length c2) := by rw [Lib.cell_of_heap hg]; rfl
  have H1 := Lib.hid h1
  have H2 := Lib.hid h2
  have Hg := Lib.hid hg
  have HO := Lib.hid ho
  clear h1 h2 hg ho
  go_enter Tryd.func61, Tryd.ntmps61
  go_wp2_with fail
  go_loop [3, 11] (fun s i => ∃ k : Nat, k ≤ 2 ∧ i = .int .i64 k ∧ s = .int .i64 (catN a.length b.length k : Nat)) (fun _ i => 2 - (intOf i).toNat)
  case atStart => exact ⟨0, by omega, rfl, rfl⟩
  case round =>
    obtain ⟨k, hk, rfl, rfl⟩ := hrel
    match k, hk with
    | 0, _ =>
      have e0 : catN a.length b.length 0 = 0 := rfl
      rw [e0]
      clear e0
      go_wp2_with fail
      go_round
      case rel => exact ⟨1, by omega, by go_num, by simp [catN]⟩
      case measure => simp [intOf]
    | 1, _ =>
      have e1 : catN a.length b.length 1 = a.length := rfl
      rw [e1]
      clear e1
      go_wp2_with fail
      go_round
      case rel => exact ⟨2, by omega, by go_num, by simp [catN]⟩
      case measure => simp [intOf]
    | 2, _ =>
      have e2 : catN a.length b.length 2 = a.length + b.length := rfl
      rw [e2]
      obtain ⟨s, hs⟩ : ∃ s, s = a.length + b.length := ⟨_, rfl⟩
      rw [← hs]
      have hs16 : s ≤ 16 := by omega
      clear e2 hs
      go_wp2_with fail
      refine (growS_any s w (by omega)).mono ?_
      rintro e w1 ⟨v, rfl, hv, hb1⟩
      have Hv := Lib.hid hv
      have Hb1 := Lib.hid hb1
      clear hv hb1
      go_wp2_with fail
      go_loopw [6, 27] (fun v i wr => ∃ k : Nat, k ≤ 2 ∧ i = .int .i64 k ∧ Asks wr w.heap.size v peer out (catL a b k) ∧ Below w.heap.size w wr) (fun _ i _ => 2 - (intOf i).toNat)
      case atStart => exact ⟨0, by omega, rfl, Hv.out, Hb1.out⟩
      case round =>
        obtain ⟨k, hk, rfl, hA, hb⟩ := hrel
        have s0 : wr.cell? ⟨g, 0, none⟩ = some (.slice A1 a.length c1) := (hb.cell (p := ⟨g, 0, none⟩) hgl).trans r0
        have s1 : wr.cell? ⟨g, 1, none⟩ = some (.slice A2 b.length c2) := (hb.cell (p := ⟨g, 1, none⟩) hgl).trans r1
        have hbs := hb.size
        have S1 := Lib.hid (Asks.src HO.out (show Asks wr B _ peer out a from H1.out.below hb))
        have S2 := Lib.hid (Asks.src HO.out (show Asks wr B _ peer out b from H2.out.below hb))
        have HB := Lib.hid hb
        clear hb Hv Hb1
        match k, hk, hA with
        | 0, _, hA =>
          obtain ⟨A, cap, rfl, -, -⟩ := Bag0.shape hA
          have HA := Lib.hid hA
          clear hA
          go_wp2_with (at_builtin; refine wpList_append_bagN _ rfl _ _ 31 31 rfl i0 _ 408 Tryd.underlying31 hi0 hz0 hz1 hz2 (sentRow_size 0 zeroFr_fit) hbs rfl HA.out _ _ _ rfl S1.out (by show 0 + a.length ≤ maxLen; unfold maxLen; omega) (by show (0 + a.length) * 408 ≤ _; omega) ?_)
          intro v' w' hB' hb'
          have HA' : Hid (Asks w' w.heap.size v' peer out (catL a b 1)) := Lib.hid (by
            unfold Asks
            have : Bag0 w' w.heap.size 238 v' (0 + a.length) ([] ++ asksCells peer out a) := hB'
            rw [Nat.zero_add, List.nil_append] at this
            exact this)
          have Hb' := Lib.hid (HB.out.trans hb')
          clear hB' hb'
          go_wp2_with fail
          go_roundw
          case rel => exact ⟨1, by omega, by go_num, HA'.out, Hb'.out⟩
          case measure => simp [intOf]
        | 1, _, hA =>
          obtain ⟨A, cap, rfl, -, -⟩ := Bag0.shape hA
          have HA := Lib.hid hA
          clear hA
          go_wp2_with (at_builtin; refine wpList_append_bagN _ rfl _ _ 31 31 rfl i0 _ 408 Tryd.underlying31 hi0 hz0 hz1 hz2 (sentRow_size 0 zeroFr_fit) hbs rfl HA.out _ _ _ rfl S2.out (by show a.length + b.length ≤ maxLen; unfold maxLen; omega) (by show (a.length + b.length) * 408 ≤ _; omega) ?_)
          intro v' w' hB' hb'
          have HA' : Hid (Asks w' w.heap.size v' peer out (catL a b 2)) := Lib.hid (by
            unfold Asks
            have : Bag0 w' w.heap.size 238 v' (a.length + b.length) (asksCells peer out a ++ asksCells peer out b) := hB'
            rw [← asks_append, ← List.length_append] at this
            exact this)
          have Hb' := Lib.hid (HB.out.trans hb')
          clear hB' hb'
          go_wp2_with fail
          go_roundw
          case rel => exact ⟨2, by omega, by go_num, HA'.out, Hb'.out⟩
          case measure => simp [intOf]
        | 2, _, hA =>
          have HA := Lib.hid hA
          clear hA
          go_wp2_with fail
          go_ret
          exact ⟨_, rfl, HA.out, HB.out⟩
end Go.Proofs.YtfbjbhddapoopaaDoor
