/-
  Layer 3 (comb): digests as bytes; manifests as values; the walks of Good, Fits.
-/
import Derived.Test.YthcmlbbbbcinkaaDoorCoA
import Derived.Stop.BytesEq
import Derived.Deep.RegionHeld3
import Derived.Deep.Slices
import Derived.Deep.RegionWith
set_option linter.unusedVariables false
set_option linter.unusedSimpArgs false
namespace Go.Proofs.YthcmlbbbbcinkaaDoor
open Go.RowKit
attribute [local go_sem] Lb.ba_get Lb.ba_cut Lb.ba_add Lb.ba_size Lb.take_rest

/-! ### digests as bytes -/
def hashB (K : List Int) (t : List UInt8) : List UInt8 := (hashL K t).map fun x => UInt8.ofNat x.toNat
def digV (d : List UInt8) : Array Value := (byV d).toArray
theorem hashB_length (K : List Int) (t : List UInt8) : (hashB K t).length = 32 := by simp [hashB, hashL_length]
theorem digL_range (V : List Int) (i : Nat) : ∀ x ∈ digL V i, 0 ≤ x ∧ x < 256 := by
  intro x hx
  unfold digL at hx
  rcases List.mem_append.1 hx with h | h
  · obtain ⟨j, _, rfl⟩ := List.mem_map.1 h
    unfold byteOf
    omega
  · have := (List.mem_replicate.1 h).2
    omega
theorem rowB_hash (K : List Int) (t : List UInt8) : rowB (hashL K t) = digV (hashB K t) := by
  unfold rowB digV byV hashB
  rw [List.map_map]
  congr 1
  refine List.map_congr_left fun x hx => ?_
  have h := digL_range _ _ x hx
  simp only [Function.comp]
  congr 1
  rw [UInt8.toNat_ofNat']
  omega
theorem digV_size (d : List UInt8) : (digV d).size = d.length := by simp [digV, byV]
theorem digV_one (d : List UInt8) : (digV d).all (·.oneCell') = true := by
  rw [Array.all_eq_true_iff_forall_mem]
  intro v hv
  simp only [digV, byV, List.mem_toArray, List.mem_map] at hv
  obtain ⟨x, _, rfl⟩ := hv
  rfl
theorem byV_inj : ∀ (a b : List UInt8), byV a = byV b → a = b
  | [], [], _ => rfl
  | [], _ :: _, h => by simp [byV] at h
  | _ :: _, [], h => by simp [byV] at h
  | x :: a, y :: b, h => by
    simp only [byV, List.map_cons, List.cons.injEq] at h
    have e1 : x.toNat = y.toNat := by
      have h1 := h.1
      injection h1 with _ h2
      exact_mod_cast h2
    rw [UInt8.toNat_inj.1 e1, byV_inj a b h.2]

theorem of_hash (K : List Int) (A : Option Addr) (cap : Nat) (t : List UInt8) (w : World) (hL : Laid K w) (hA : Fts' w 0 A t) (ht : t.length ≤ 281474976710656) :
    Calls Tryd.prog 12 #[.slice A 1 cap] w fun e w' => e = .returned (.agg (digV (hashB K t))) ∧ Below w.heap.size w w' :=
  (of_any K A cap t w hL hA ht).mono fun e w' ⟨he, hw⟩ => ⟨by rw [he, rowB_hash], hw⟩

theorem u8_size : ∀ w : World, (sizeOf 5).run Tryd.prog w = .ok 1 w := fun w => by kernel_rfl
theorem eql_dig (w : World) (a b : List UInt8) (ha : a.length = 32) (hb : b.length = 32) : (binOp .eql 23 (.agg (digV a)) (.agg (digV b))).run Tryd.prog w = .ok (.bool (a == b)) w :=
  run_eql_bytes (P := Tryd.prog) w 23 5 32 Tryd.underlying23 Tryd.underlying5 u8_size a b ha hb
theorem neq_dig (w : World) (a b : List UInt8) (ha : a.length = 32) (hb : b.length = 32) : (binOp .neq 23 (.agg (digV a)) (.agg (digV b))).run Tryd.prog w = .ok (.bool (!(a == b))) w := by
  rw [run_neq_struct]
  have := run_equalIn_bytes (P := Tryd.prog) w 9998 23 5 32 Tryd.underlying23 Tryd.underlying5 u8_size a b ha hb
  show ((Op.equalIn (9998 + 2) 23 (.agg (digV a)) (.agg (digV b))).run Tryd.prog w).andThen _ = _
  rw [show digV a = (a.map Extern.Stop.cell).toArray from rfl, show digV b = (b.map Extern.Stop.cell).toArray from rfl, this]
  rfl

/-! ### an array or a struct out of memory, wherever -/
theorem run_loadAt_at {P : Program} (w : World) (p : Addr) (ty : TypeId) (cs : List Value) (d : TypeDesc) (hc : ∀ j v, cs[j]? = some v → w.cell? (p.add j) = some v)
    (hu : P.underlying ty = some d) (hd : d.isRow = true) (hi : (P.info? ty).map (·.size) = some cs.length) :
    (Instr.loadAt ty (.pointer (some p))).run P w = .ok (.agg cs.toArray) w := by
  have hl : (loadCells p cs.length).run P w = .ok cs.toArray w := run_loadCells_list (P := P) w p cs hc
  have hv : (loadVar ty p).run P w = .ok (.agg cs.toArray) w := by
    cases hq : P.info? ty with
    | none => simp [hq] at hi
    | some i =>
      have hs : i.size = cs.length := by simpa [hq] using hi
      have hagg : (isAgg ty).run P w = .ok true w := by
        unfold isAgg
        rw [Sem.run_bind, run_underlying hu w]
        cases d <;> simp_all
      simp [loadVar, Sem.run_bind, hagg, sizeOf, typeInfo, hq, hs, hl]
  simp only [Instr.loadAt, Instr.sureAddr, Sem.run_bind, Sem.run_pure, Result.andThen_ok, hv]

/-! ### manifests -/
structure ManiD where
  whole : List UInt8
  size : Int
  A : Option Addr
  cap : Nat
  parts : List (List UInt8)
def ManiD.cells (m : ManiD) : List Value := byV m.whole ++ [.int .i64 m.size, .slice m.A m.parts.length m.cap]
def ManiD.row (m : ManiD) : Array Value := m.cells.toArray
/-- The slice value '.slice A ds.length _' holds the digests ds; all of it lies below block B. -/
def Digs (w : World) (B : Nat) (A : Option Addr) (ds : List (List UInt8)) : Prop :=
  ∀ (i : Nat) (h : i < ds.length), ∃ b o, A = some ⟨b, o, none⟩ ∧ b < B ∧ w.rangeAt b (o + i * 32) (byV ds[i])
structure ManiD.Ok (w : World) (B : Nat) (m : ManiD) : Prop where
  whole : m.whole.length = 32
  each : ∀ d ∈ m.parts, d.length = 32
  lo : -9223372036854775808 ≤ m.size
  hi : m.size ≤ 9223372036854775807
  len : m.parts.length ≤ maxLen
  digs : Digs w B m.A m.parts

theorem Digs.below {w w' : World} {B B' : Nat} {A : Option Addr} {ds : List (List UInt8)} (h : Digs w B A ds) (hb : Below B' w w') (hB : B ≤ B') : Digs w' B A ds := fun i hi => by
  obtain ⟨b, o, e, hl, hc⟩ := h i hi
  exact ⟨b, o, e, hl, fun k v hv => (hb.cell (p := ⟨b, o + i * 32 + k, none⟩) (by show b < B'; omega)).trans (hc k v hv)⟩
theorem Digs.more {w : World} {B B' : Nat} {A : Option Addr} {ds : List (List UInt8)} (h : Digs w B A ds) (hB : B ≤ B') : Digs w B' A ds := fun i hi => by
  obtain ⟨b, o, e, hl, hc⟩ := h i hi
  exact ⟨b, o, e, by omega, hc⟩
theorem range_below {w w' : World} {b o B : Nat} {cs : List Value} (h : w.rangeAt b o cs) (hb : Below B w w') (hl : b < B) : w'.rangeAt b o cs := fun k v hv => (hb.cell (p := ⟨b, o + k, none⟩) hl).trans (h k v hv)
theorem ManiD.Ok.below {w w' : World} {B B' : Nat} {m : ManiD} (h : m.Ok w B) (hb : Below B' w w') (hB : B ≤ B') : m.Ok w' B := { h with digs := h.digs.below hb hB }
theorem ManiD.Ok.more {w : World} {B B' : Nat} {m : ManiD} (h : m.Ok w B) (hB : B ≤ B') : m.Ok w B' := { h with digs := h.digs.more hB }
theorem ManiD.row_size (m : ManiD) (h : m.whole.length = 32) : m.row.size = 34 := by simp [ManiD.row, ManiD.cells, byV, h]
theorem ManiD.row_one (m : ManiD) : m.row.all (·.oneCell') = true := by
  rw [Array.all_eq_true_iff_forall_mem]
  intro v hv
  simp only [ManiD.row, ManiD.cells, byV, List.mem_toArray, List.mem_append, List.mem_map, List.mem_cons, List.not_mem_nil, or_false] at hv
  rcases hv with ⟨x, _, rfl⟩ | rfl | rfl <;> rfl
theorem ManiD.at32 (m : ManiD) (h : m.whole.length = 32) : m.row[32]? = some (.int .i64 m.size) := by
  unfold ManiD.row ManiD.cells
  rw [List.getElem?_toArray, List.getElem?_append_right (by simp [byV, h])]
  simp [byV, h]
theorem ManiD.at33 (m : ManiD) (h : m.whole.length = 32) : m.row[33]? = some (.slice m.A m.parts.length m.cap) := by
  unfold ManiD.row ManiD.cells
  rw [List.getElem?_toArray, List.getElem?_append_right (by simp [byV, h])]
  simp [byV, h]
theorem mani_info : (Tryd.prog.info? 31).map (·.size) = some 34 := by kernel_rfl
theorem dig_info : (Tryd.prog.info? 23).map (·.size) = some 32 := by kernel_rfl
/-- the whole manifest out of its block -/
theorem mani_load {w : World} {q : Nat} {m : ManiD} {T : TypeId} {f : Nat × Nat} (h : m.whole.length = 32) (hq : w.heap[q]? = some (.cells m.row T f)) : (Instr.loadAt 31 (.pointer (some ⟨q, 0, none⟩))).run Tryd.prog w = .ok (.agg m.row) w := by
  refine run_loadAt_at w ⟨q, 0, none⟩ 31 m.cells _ (fun j v hv => ?_) Tryd.underlying31 rfl ?_
  · rw [Addr.add_lit, Nat.zero_add, Lib.cell_of_heap hq]; simpa [ManiD.row] using hv
  · rw [mani_info]; have := m.row_size h; simp only [ManiD.row, List.size_toArray] at this; rw [this]
/-- its first field -/
theorem mani_whole {w : World} {q : Nat} {m : ManiD} {T : TypeId} {f : Nat × Nat} (h : m.whole.length = 32) (hq : w.heap[q]? = some (.cells m.row T f)) : (Instr.loadAt 23 (.pointer (some ⟨q, 0, none⟩))).run Tryd.prog w = .ok (.agg (digV m.whole)) w := by
  refine run_loadAt_at w ⟨q, 0, none⟩ 23 (byV m.whole) _ (fun j v hv => ?_) Tryd.underlying23 rfl ?_
  · rw [Addr.add_lit, Nat.zero_add, Lib.cell_of_heap hq]
    have hlt := (List.getElem?_eq_some_iff.1 hv).1
    unfold ManiD.row ManiD.cells
    rw [List.getElem?_toArray, List.getElem?_append_left hlt]; exact hv
  · rw [dig_info]; simp [byV, h]
theorem eqIn_dig (w : World) (a b : List UInt8) (ha : a.length = 32) (hb : b.length = 32) : (Op.equalIn 10000 23 (.agg (digV a)) (.agg (digV b))).run Tryd.prog w = .ok (a == b) w :=
  run_equalIn_bytes (P := Tryd.prog) w 9998 23 5 32 Tryd.underlying23 Tryd.underlying5 u8_size a b ha hb

/-! ### Good -/
def goodS (s : Int) (n : Nat) : Bool := decide (0 ≤ s ∧ s ≤ 512 ∧ (n : Int) = (s + 63) / 64)

set_option maxHeartbeats 2000000 in
set_option maxRecDepth 100000 in
theorem good_any (m : ManiD) (w : World) (hw : m.whole.length = 32) (lo : -9223372036854775808 ≤ m.size) (hi : m.size ≤ 9223372036854775807) (hn : m.parts.length ≤ maxLen) :
    Calls Tryd.prog 50 #[.agg m.row] w fun e w' => e = .returned (.bool (goodS m.size m.parts.length)) ∧ Below w.heap.size w w' := by
  have h32 := m.at32 hw
  have h33 := m.at33 hw
  have hsz := m.row_size hw
  have hone := m.row_one
  obtain ⟨R, hR⟩ : ∃ R, R = m.row := ⟨_, rfl⟩
  obtain ⟨s, hs⟩ : ∃ s, s = m.size := ⟨_, rfl⟩
  obtain ⟨A, hA⟩ : ∃ A, A = m.A := ⟨_, rfl⟩
  obtain ⟨n, hnn⟩ : ∃ n, n = m.parts.length := ⟨_, rfl⟩
  obtain ⟨c, hc⟩ : ∃ c, c = m.cap := ⟨_, rfl⟩
  rw [← hR] at h32 h33 hsz hone ⊢
  rw [← hs] at h32 lo hi ⊢
  rw [← hA, ← hnn, ← hc] at h33
  rw [← hnn] at hn ⊢
  clear hR hs hA hnn hc hw m
  have c32 : (w.alloc (.cells R 31)).cell? ⟨w.heap.size, 32, none⟩ = some (.int .i64 s) := by rw [Lib.cell_of_heap (heap_alloc_new w _)]; exact h32
  have c33 : (w.alloc (.cells R 31)).cell? ⟨w.heap.size, 33, none⟩ = some (.slice A n c) := by rw [Lib.cell_of_heap (heap_alloc_new w _)]; exact h33
  clear h32 h33
  have hn2 : (n : Int) ≤ 9223372036854775807 := by unfold maxLen at hn; omega
  go_enter Tryd.func50, Tryd.ntmps50
  have fin : Below w.heap.size w (w.alloc (.cells R 31)) := (Below.refl _ _).alloc (Nat.le_refl _) _
  by_cases h1 : 0 ≤ s
  · by_cases h2 : s ≤ 512
    · obtain ⟨u, hu⟩ : ∃ u : Nat, (u : Int) = s := ⟨s.toNat, by omega⟩
      subst hu
      have e3 : ((u : Int) + 63).tdiv 64 = (((u + 63) / 64 : Nat) : Int) := by
        rw [show (u : Int) + 63 = ((u + 63 : Nat) : Int) by omega]; rfl
      have hg : goodS (u : Int) n = ((n : Int) == (((u + 63) / 64 : Nat) : Int)) := by
        unfold goodS
        rw [Bool.eq_iff_iff]
        simp only [decide_eq_true_eq, beq_iff_eq]
        omega
      rw [hg]
      go_wp2
      go_ret
      exact ⟨by simp; rw [show (u : Int) + 64 - 1 = (u : Int) + 63 by omega], fin⟩
    · have hg : goodS s n = false := by unfold goodS; simp; omega
      rw [hg]
      go_wp2
      go_ret
      exact ⟨rfl, fin⟩
  · have hg : goodS s n = false := by unfold goodS; simp; omega
    rw [hg]
    go_wp2
    go_ret
    exact ⟨rfl, fin⟩

/-! ### Fits -/
def fitsS (K : List Int) (m : ManiD) (i : Int) (x : List UInt8) : Bool :=
  goodS m.size m.parts.length && decide (0 ≤ i) && decide (i < m.parts.length) && decide ((x.length : Int) = min (m.size - i * 64) 64) && (hashB K x == m.parts.getD i.toNat [])
end Go.Proofs.YthcmlbbbbcinkaaDoor
