/-
  Layer 17's laws: their own functions mani and part; a fetch that a law has made.
-/
import Derived.Test.YtfbjbhddapoopaaDoorHaL
set_option linter.unusedVariables false
set_option linter.unusedSimpArgs false
namespace Go.Proofs.YtfbjbhddapoopaaDoor
open Go.RowKit
attribute [local go_sem] Lb.ba_get Lb.ba_cut Lb.ba_add Lb.ba_size Lb.take_rest

def maniFr (x : Int) (m : ManiD) : FrD := { zeroFr with kind := 7, from_ := x, mani := m }
def partFr (x : Int) (o : List UInt8) (i : Int) (t : List UInt8) : FrD := { zeroFr with kind := 8, from_ := x, out := o, at_ := i, data := t }
theorem maniFr_fit (x : Int) (m : ManiD) (h : m.whole.length = 32) : (maniFr x m).Fit := ⟨rfl, rfl, rfl, h, rfl, rfl, rfl, rfl⟩
theorem partFr_fit (x : Int) (o : List UInt8) (i : Int) (t : List UInt8) (h : o.length = 32) : (partFr x o i t).Fit := ⟨rfl, h, rfl, rfl, rfl, rfl, rfl, rfl⟩
theorem built_maniFr (x : Int) (m : ManiD) (h : m.whole.length = 32) : Tryd.prog.built 44 [(0, .int .i64 7), (1, .int .i64 x), (11, .agg m.row)] = some (maniFr x m).row := by
  rw [built_fr, fr_fill0, fr_fill1, fr_fill11 _ ⟨rfl, rfl, rfl, rfl, rfl, rfl, rfl, rfl⟩ _ h, fill_nil]
  rfl
theorem built_partFr (x : Int) (o : List UInt8) (i : Int) (t : List UInt8) (h : o.length = 32) : Tryd.prog.built 44 [(0, .int .i64 8), (1, .int .i64 x), (7, .agg (byV o).toArray), (8, .int .i64 i), (9, .string ⟨t.toArray⟩)] = some (partFr x o i t).row := by
  have e : (byV o).toArray = digV o := rfl
  rw [e, built_fr, fr_fill0, fr_fill1, fr_fill7 _ ⟨rfl, rfl, rfl, rfl, rfl, rfl, rfl, rfl⟩ _ h, fr_fill8 _ ⟨rfl, h, rfl, rfl, rfl, rfl, rfl, rfl⟩, fr_fill9 _ ⟨rfl, h, rfl, rfl, rfl, rfl, rfl, rfl⟩, fill_nil]
  rfl
theorem built_zeroFr : Tryd.prog.built 44 [] = some zeroFr.row := by rw [built_fr, fill_nil]
theorem FrD.row_one {f : FrD} (h : f.Fit) : f.row.all (·.oneCell') = true := by unfold FrD.row; rw [List.all_toArray]; exact f.one h
theorem fr_infoR {f : FrD} (h : f.Fit) : (Tryd.prog.info? 44).map (·.size) = some f.row.size := by rw [fr_info, FrD.row_size h]
theorem wpList_build3 {P : Program} {ops : Array Oper} {rest : List Oper} {o : Oper} {a : Act} {w : World} {Q : Exit → Act → World → Prop} (hg : o.guard = none) (t : TypeId) (i j k : Nat) (x y z : Operand) (ho : o.op = .build t #[(i, x), (j, y), (k, z)])
    (vx vy vz : Value) (hx : a.eval x = vx) (hy : a.eval y = vy) (hz : a.eval z = vz) (C : Array Value) (hB : P.built t [(i, vx), (j, vy), (k, vz)] = some C)
    (h : wpList P ops Q rest (a.put o.dst (.agg C)) w) : wpList P ops Q (o :: rest) a w := by
  have e : ((#[(i, x), (j, y), (k, z)] : Array (Nat × Operand)).map fun (i, x) => (i, a.eval x)).toList = [(i, vx), (j, vy), (k, vz)] := by simp [hx, hy, hz]
  refine wpList_build hg t _ ho ?_ ?_
  · rw [e, hB]; rfl
  · rw [e, hB]; exact h
theorem wpList_build0 {P : Program} {ops : Array Oper} {rest : List Oper} {o : Oper} {a : Act} {w : World} {Q : Exit → Act → World → Prop} (hg : o.guard = none) (t : TypeId) (ho : o.op = .build t #[]) (C : Array Value) (hB : P.built t [] = some C)
    (h : wpList P ops Q rest (a.put o.dst (.agg C)) w) : wpList P ops Q (o :: rest) a w := by
  refine wpList_build hg t _ ho ?_ ?_
  · simp only [List.map_toArray, List.map_nil, hB]; rfl
  · simp only [List.map_toArray, List.map_nil, hB]; exact h

theorem Digs.only {w w' : World} {B : Nat} {A : Option Addr} {ds : List (List UInt8)} {bs : List Nat} (h : Digs w B A ds) (ho : Only bs w w') (hn : ∀ a, A = some a → a.block ∉ bs) (hB : B ≤ w.heap.size := by exact Nat.le_refl _) : Digs w' B A ds := fun i hi => by
  obtain ⟨b, o, e, hl, hr⟩ := h i hi
  exact ⟨b, o, e, hl, range_keep hr (ho.block b (by omega) (hn _ e))⟩
theorem range_only {w w' : World} {b o : Nat} {cs : List Value} {bs : List Nat} (h : w.rangeAt b o cs) (ho : Only bs w w') (hl : b < w.heap.size ∧ b ∉ bs) : w'.rangeAt b o cs := range_keep h (ho.block b hl.1 hl.2)
/-- nothing but block g has turned, which still holds n cells -/
def HeldO (w0 : World) (g n : Nat) (t : TypeId) (w' : World) : Prop := Only [g] w0 w' ∧ ∃ C : Array Value, C.size = n ∧ w'.heap[g]? = some (.cells C t (0, 0))
theorem HeldO.start {w0 : World} {g n : Nat} {t : TypeId} {C : Array Value} (hC : C.size = n) (h : w0.heap[g]? = some (.cells C t (0, 0))) : HeldO w0 g n t w0.drew := ⟨(Only.refl _ _).drew, C, hC, h⟩
theorem HeldO.put {w0 w' : World} {g n : Nat} {t : TypeId} (h : HeldO w0 g n t w') (R : Array Value) (hR : R.size = n) : HeldO w0 g n t (w'.setRow g R) := by
  obtain ⟨hb, C, hC, hg⟩ := h
  exact ⟨hb.setRow (by simp) R, R, hR, setRow_heap _ _ _ _ _ _ hg⟩
def ManiPost (K : List Int) (x : Int) (l : List UInt8) (w : World) (e : Ending) (w' : World) : Prop :=
  ∃ m : ManiD, e = .returned (.agg (maniFr x m).row) ∧ OwnM K m l ∧ m.Ok w' w'.heap.size ∧ Below w.heap.size w w'

set_option maxHeartbeats 4000000 in
set_option maxRecDepth 100000 in
theorem mani17_any (K : List Int) (x : Int) (l : List UInt8) (w : World) (hL : Laid K w) (hl : l.length ≤ 512) :
    Calls Tryd.prog 58 #[.int .i64 x, .string ⟨l.toArray⟩] w (ManiPost K x l w) := by
  have hz : (w.alloc (.cells Tryd.zeroCells44 44)).heap[w.heap.size]? = some (.cells Tryd.zeroCells44 44 (0, 0)) := heap_alloc_new w _
  have hbz : Below w.heap.size w (w.alloc (.cells Tryd.zeroCells44 44)) := (Below.refl _ w).alloc (Nat.le_refl _) _
  have hM := Lib.hid (mani_any2 K l (w.alloc (.cells Tryd.zeroCells44 44)) (hL.alloc _) hl)
  have hzs : Tryd.zeroCells44.size = 237 := by rw [zero_frame, FrD.row_size zeroFr_fit]
  obtain ⟨g, hg⟩ : ∃ g, g = w.heap.size := ⟨_, rfl⟩
  obtain ⟨w1, hw1⟩ : ∃ y, y = w.alloc (.cells Tryd.zeroCells44 44) := ⟨_, rfl⟩
  obtain ⟨Z, hZ⟩ : ∃ Z, Z = Tryd.zeroCells44 := ⟨_, rfl⟩
  go_enter Tryd.func58, Tryd.ntmps58
  go_upto_region 1 with fail
  rw [← hw1] at hz hbz hM ⊢
  rw [← hg] at hz ⊢
  rw [← hZ] at hz hzs
  have Hz := Lib.hid hz
  have Hbz := Lib.hid hbz
  have Hg := Lib.hid hg
  clear hw1 hg hZ hz hbz
  go_wp2_with fail
  refine hM.out.mono ?_
  rintro e w2 ⟨m, rfl, hm, h1, h2, h3, hB, hup⟩
  have hmw := hm.whole
  have Hm := Lib.hid hm
  have Hup := Lib.hid hup
  have hlg : g < w1.heap.size := heap_lt Hz.out
  have HB := Lib.hid (Hbz.out.trans (hB.mono Hbz.out.size))
  have Hz2 := Lib.hid (below_keep hB Hz.out)
  have HOwn : Hid (OwnM K m l) := Lib.hid ⟨h1, h2, h3⟩
  have hms : m.row.size = 34 := m.row_size hmw
  have mone := m.row_one
  obtain ⟨R, hR⟩ : ∃ R, R = m.row := ⟨_, rfl⟩
  have hbm := built_maniFr x m hmw
  have hfs := FrD.row_size (maniFr_fit x m hmw)
  have hfo := FrD.row_one (maniFr_fit x m hmw)
  have hfi := fr_infoR (maniFr_fit x m hmw)
  obtain ⟨F, hF⟩ : ∃ F, F = (maniFr x m).row := ⟨_, rfl⟩
  rw [← hR] at hms mone hbm ⊢
  rw [← hF] at hbm hfs hfo hfi
  have minf : (Tryd.prog.info? 39).map (·.size) = some R.size := by rw [hms]; exact mani_info
  have HR := Lib.hid hR
  have HF := Lib.hid hF
  clear hup hM Hz hm h1 h2 h3 hB hR hF hmw
  go_upto_region 2 with (refine wpList_store_row rfl 39 _ _ rfl w2.heap.size R rfl rfl 39 _ (heap_alloc_new w2 _) minf (by rw [hms]; rfl) mone ?_)
  show Code.wp _ _ _ _ ((w2.alloc (.cells zeroMani.row 39)).setRow w2.heap.size R)
  have hq := setRow_heap _ _ _ R _ _ (heap_alloc_new w2 (.cells zeroMani.row 39))
  have hB3 : Below w2.heap.size w2 ((w2.alloc (.cells zeroMani.row 39)).setRow w2.heap.size R) := (Only.below (((Only.refl [w2.heap.size] w2).alloc _).setRow (by simp) _) (Nat.le_refl _) (by simp))
  obtain ⟨q, hq'⟩ : ∃ q, q = w2.heap.size := ⟨_, rfl⟩
  obtain ⟨w3, hw3⟩ : ∃ y, y = ((w2.alloc (.cells zeroMani.row 39)).setRow w2.heap.size R) := ⟨_, rfl⟩
  rw [← hw3] at hq hB3 ⊢
  rw [← hq'] at hq ⊢
  have HB3 := Lib.hid (HB.out.trans (hB3.mono HB.out.size))
  have Hz3 := Lib.hid (below_keep hB3 Hz2.out)
  have HB23 := Lib.hid hB3
  have Hq := Lib.hid hq
  clear hw3 hq hB3 hq' Hz2
  go_wp2_with (first
    | (refine wpList_load_row rfl 39 _ rfl q rfl 39 R (0, 0) _ Hq.out Tryd.underlying39 rfl minf ?_)
    | (refine wpList_build3 rfl 44 _ _ _ _ _ _ rfl _ _ _ rfl rfl rfl F hbm ?_)
    | (refine wpList_store_row rfl 44 _ _ rfl g F rfl rfl 44 Z Hz3.out hfi (by rw [hfs, hzs]) hfo ?_))
  (try simp only [Exit.inBlock, Exit.then])
  refine bodyPost_ret (results_cell_row rfl _ _ g 44 F (0, 0) _ rfl (setRow_heap _ _ _ _ _ _ Hz3.out) Tryd.underlying44 rfl hfi) rfl ?_
  have hO : Only [g] w3 (w3.setRow g F) := (Only.refl _ _).setRow (by simp) _
  have hb : Below w.heap.size w (w3.setRow g F) := HB3.out.trans (hO.below HB3.out.size (by simp; rw [Hg.out]; exact Nat.le_refl _))
  refine ⟨m, by rw [HF.out], HOwn.out, ?_, hb⟩
  have mok3 := (Hm.out.below HB23.out (Nat.le_refl _)).more HB23.out.size
  exact { mok3 with digs := (mok3.digs.only hO (fun a ha => by have := Hup.out a ha; simp; omega)).more (by simp) }

theorem rangeW_of_mani {w : World} {q : Nat} {m : ManiD} {T : TypeId} {z : Nat × Nat} (hm : m.whole.length = 32) (h : w.heap[q]? = some (.cells m.row T z)) : w.rangeAt q 0 (byV m.whole) := fun k v hv => by
  have hlt := (List.getElem?_eq_some_iff.1 hv).1
  rw [Lib.cell_of_heap h, Nat.zero_add]
  unfold ManiD.row ManiD.cells
  rw [List.getElem?_toArray, List.getElem?_append_left hlt]; exact hv
def PartPost (K : List Int) (x : Int) (l : List UInt8) (i : Int) (w : World) (e : Ending) (w' : World) : Prop :=
  ∃ f : FrD, e = .returned (.agg f.row) ∧ (0 ≤ i ∧ i < (chunks l).length ∧ f = partFr x (hashB K l) i (chunk l i.toNat) ∨ ¬ (0 ≤ i ∧ i < (chunks l).length) ∧ f = zeroFr) ∧ Below w.heap.size w w'

set_option maxHeartbeats 4000000 in
set_option maxRecDepth 100000 in
theorem part17_any (K : List Int) (x : Int) (l : List UInt8) (i : Int) (w : World) (hL : Laid K w) (hl : l.length ≤ 512) (ilo : -9223372036854775808 ≤ i) (ihi : i ≤ 9223372036854775807) :
    Calls Tryd.prog 59 #[.int .i64 x, .string ⟨l.toArray⟩, .int .i64 i] w (PartPost K x l i w) := by
  have hz : (w.alloc (.cells Tryd.zeroCells44 44)).heap[w.heap.size]? = some (.cells Tryd.zeroCells44 44 (0, 0)) := heap_alloc_new w _
  have hbz : Below w.heap.size w (w.alloc (.cells Tryd.zeroCells44 44)) := (Below.refl _ w).alloc (Nat.le_refl _) _
  have hM := Lib.hid (mani_any2 K l (w.alloc (.cells Tryd.zeroCells44 44)) (hL.alloc _) hl)
  have hzs : Tryd.zeroCells44.size = 237 := by rw [zero_frame, FrD.row_size zeroFr_fit]
  obtain ⟨g, hg⟩ : ∃ g, g = w.heap.size := ⟨_, rfl⟩
  obtain ⟨w1, hw1⟩ : ∃ y, y = w.alloc (.cells Tryd.zeroCells44 44) := ⟨_, rfl⟩
  obtain ⟨Z, hZ⟩ : ∃ Z, Z = Tryd.zeroCells44 := ⟨_, rfl⟩
  go_enter Tryd.func59, Tryd.ntmps59
  go_upto_region 1 with fail
  rw [← hw1] at hz hbz hM ⊢
  rw [← hg] at hz ⊢
  rw [← hZ] at hz hzs
  have Hz := Lib.hid hz
  have Hbz := Lib.hid hbz
  have Hg := Lib.hid hg
  clear hw1 hg hZ hz hbz
  go_wp2_with fail
  refine hM.out.mono ?_
  rintro e w2 ⟨m, rfl, hm, h1, h2, h3, hB, hup⟩
  have hmw := hm.whole
  have HB := Lib.hid (Hbz.out.trans (hB.mono Hbz.out.size))
  have Hz2 := Lib.hid (below_keep hB Hz.out)
  have hms : m.row.size = 34 := m.row_size hmw
  have mone := m.row_one
  have Hh := Lib.hid h1
  obtain ⟨R, hR⟩ : ∃ R, R = m.row := ⟨_, rfl⟩
  rw [← hR] at hms mone ⊢
  have minf : (Tryd.prog.info? 39).map (·.size) = some R.size := by rw [hms]; exact mani_info
  have HR := Lib.hid hR
  clear hM Hz hm h1 h2 h3 hB hup hR
  go_upto_region 2 with (refine wpList_store_row rfl 39 _ _ rfl w2.heap.size R rfl rfl 39 _ (heap_alloc_new w2 _) minf (by rw [hms]; rfl) mone ?_)
  show Code.wp _ _ _ _ ((w2.alloc (.cells zeroMani.row 39)).setRow w2.heap.size R)
  have hq := setRow_heap _ _ _ R _ _ (heap_alloc_new w2 (.cells zeroMani.row 39))
  have hB3 : Below w2.heap.size w2 ((w2.alloc (.cells zeroMani.row 39)).setRow w2.heap.size R) := (Only.below (((Only.refl [w2.heap.size] w2).alloc _).setRow (by simp) _) (Nat.le_refl _) (by simp))
  obtain ⟨q, hq'⟩ : ∃ q, q = w2.heap.size := ⟨_, rfl⟩
  obtain ⟨w3, hw3⟩ : ∃ y, y = ((w2.alloc (.cells zeroMani.row 39)).setRow w2.heap.size R) := ⟨_, rfl⟩
  rw [← hw3] at hq hB3 ⊢
  rw [← hq'] at hq ⊢
  have HB3 := Lib.hid (HB.out.trans (hB3.mono HB.out.size))
  have Hz3 := Lib.hid (below_keep hB3 Hz2.out)
  have Hz3lt : g < w3.heap.size := heap_lt Hz3.out
  have Hq := Lib.hid hq
  have Hsp := Lib.hid (split_any l w3 (by omega))
  clear hw3 hq hB3 hq' Hz2
  go_wp2_with fail
  refine Hsp.out.mono ?_
  rintro e w4 ⟨v, rfl, hT, hB4⟩
  obtain ⟨A, cap, rfl, hcap, hncap⟩ := Bag0.shape hT
  have hlen : (chunks l).length = (l.length + 63) / 64 := chunks_length l
  have HT := Lib.hid hT
  have Hz4 := Lib.hid (below_keep hB4 Hz3.out)
  have Hq4 := Lib.hid (below_keep hB4 Hq.out)
  have HB4 := Lib.hid (HB3.out.trans (hB4.mono HB3.out.size))
  obtain ⟨n, hn⟩ : ∃ n, n = (chunks l).length := ⟨_, rfl⟩
  rw [← hn] at hlen ⊢
  have hn8 : n ≤ 8 := by omega
  have Hn := Lib.hid hn
  clear hT hB4 Hsp Hz3 Hq hn hlen hncap
  by_cases hi : 0 ≤ i ∧ i < n
  · obtain ⟨i0, i1⟩ := hi
    obtain ⟨k, hk⟩ : ∃ k : Nat, i = (k : Int) := ⟨i.toNat, by omega⟩
    subst hk
    have kn : k < n := by omega
    have hkt : k < (chunks l).length := by rw [← Hn.out]; exact kn
    obtain ⟨g9, rfl, hg9, hg94, hc9⟩ := HT.out.cell k hkt
    rw [chunks_get] at hc9
    have c9 := hc9
    obtain ⟨tx, htx⟩ : ∃ tx, tx = chunk l k := ⟨_, rfl⟩
    rw [← htx] at c9
    have hbm := built_partFr x m.whole (k : Int) tx hmw
    have hft := partFr_fit x m.whole (k : Int) tx hmw
    have hfs := FrD.row_size hft
    have hfo := FrD.row_one hft
    have hfi := fr_infoR hft
    obtain ⟨F, hF⟩ : ∃ F, F = (partFr x m.whole (k : Int) tx).row := ⟨_, rfl⟩
    rw [← hF] at hbm hfs hfo hfi
    have rw0 := rangeW_of_mani hmw (by rw [← HR.out]; exact Hq4.out)
    have dix : (Tryd.prog.info? 23).map (·.size) = some (byV m.whole).length := by rw [dig_info, byV_length, hmw]
    have dund := Tryd.underlying23
    have lq : q < w4.heap.size := heap_lt Hq4.out
    have lg : g < w4.heap.size := heap_lt Hz4.out
    have HF := Lib.hid hF
    have Htx := Lib.hid htx
    have hgq : q ∉ [g] := by simp; intro e; have e1 := heap_lt Hq4.out; subst e; have := Hq4.out.symm.trans Hz4.out; injection this with h1; injection h1 with h2; rw [h2] at hms; omega
    have hg9g : g9 ∉ [g] := by simp; have := HB3.out.size; have := Hz3lt; omega
    clear hF htx hc9 hft
    go_upto_region 5 with fail
    refine wp_region_held_drew (S := HeldO w4 g 237 44) (by kernel_rfl) (HeldO.start hzs Hz4.out) (fun hH0 => ?_)
    obtain ⟨W0, hW0⟩ : ∃ W, W = w4.drew := ⟨_, rfl⟩
    rw [← hW0] at hH0 ⊢
    clear hW0
    refine wpAnyH_take (i := 0) (v := ?_) rfl (by kernel_rfl) (by kernel_rfl) (by kernel_rfl) (fun _ _ _ h => h) (Or.inl ⟨by kernel_rfl, ?_⟩) hH0 ?_
    rotate_left 1
    · intro w hSw
      go_simp
      try with_reducible rfl
    try simp only [Act.put, List.getElem_toArray, List.getElem_cons_zero, List.getElem_cons_succ, List.setIfInBounds_toArray, List.set_cons_zero, List.set_cons_succ]
    refine wpAnyH_take (i := 1) (v := ?_) rfl (by kernel_rfl) (by kernel_rfl) (by kernel_rfl) (fun _ _ _ h => h) (Or.inl ⟨by kernel_rfl, ?_⟩) hH0 ?_
    rotate_left 1
    · intro w hSw
      go_simp
      try with_reducible rfl
    try simp only [Act.put, List.getElem_toArray, List.getElem_cons_zero, List.getElem_cons_succ, List.setIfInBounds_toArray, List.set_cons_zero, List.set_cons_succ]
    refine wpAnyH_take (i := 2) (v := _) rfl (by kernel_rfl) (by kernel_rfl) (by kernel_rfl) (fun _ _ _ h => h) (yieldsIf_load_mid (by kernel_rfl) _ _ rfl _ _ rfl (byV m.whole) _ (fun W hW => range_only rw0 hW.1 ⟨lq, hgq⟩) dund rfl dix) hH0 ?_
    try simp only [Act.put, List.getElem_toArray, List.getElem_cons_zero, List.getElem_cons_succ, List.setIfInBounds_toArray, List.set_cons_zero, List.set_cons_succ]
    refine wpAnyH_take (i := 3) (v := ?_) rfl (by kernel_rfl) (by kernel_rfl) (by kernel_rfl) (fun _ _ _ h => h) (Or.inl ⟨by kernel_rfl, ?_⟩) hH0 ?_
    rotate_left 1
    · intro w hSw
      go_simp
      try with_reducible rfl
    try simp only [Act.put, List.getElem_toArray, List.getElem_cons_zero, List.getElem_cons_succ, List.setIfInBounds_toArray, List.set_cons_zero, List.set_cons_succ]
    refine wpAnyH_take (i := 4) (v := ?_) rfl (by kernel_rfl) (by kernel_rfl) (by kernel_rfl) (fun _ _ _ h => h) (Or.inl ⟨by kernel_rfl, ?_⟩) hH0 ?_
    rotate_left 1
    · intro w hSw
      go_simp
      try with_reducible rfl
    try simp only [Act.put, List.getElem_toArray, List.getElem_cons_zero, List.getElem_cons_succ, List.setIfInBounds_toArray, List.set_cons_zero, List.set_cons_succ]
    refine wpAnyH_take (i := 5) (v := ?_) rfl (by kernel_rfl) (by kernel_rfl) (by kernel_rfl) (fun _ _ _ h => h) (Or.inl ⟨by kernel_rfl, ?_⟩) hH0 ?_
    rotate_left 1
    · intro w hSw
      go_simp
      try with_reducible rfl
    try simp only [Act.put, List.getElem_toArray, List.getElem_cons_zero, List.getElem_cons_succ, List.setIfInBounds_toArray, List.set_cons_zero, List.set_cons_succ]
    refine wpAnyH_take (i := 6) (v := ?_) rfl (by kernel_rfl) (by kernel_rfl) (by kernel_rfl) (fun _ _ _ h => h) (Or.inl ⟨by kernel_rfl, ?_⟩) hH0 ?_
    rotate_left 1
    · intro w hSw
      go_simp
      try with_reducible rfl
    try simp only [Act.put, List.getElem_toArray, List.getElem_cons_zero, List.getElem_cons_succ, List.setIfInBounds_toArray, List.set_cons_zero, List.set_cons_succ]
    refine wpAnyH_take (i := 7) (v := ?_) rfl (by kernel_rfl) (by kernel_rfl) (by kernel_rfl) (fun _ _ _ h => h) (Or.inl ⟨by kernel_rfl, ?_⟩) hH0 ?_
    rotate_left 1
    · intro w hSw
      have f0 := (hSw.1.cell (p := ⟨g9, k, none⟩) hg94 hg9g).trans c9
      go_simp
      try with_reducible rfl
    try simp only [Act.put, List.getElem_toArray, List.getElem_cons_zero, List.getElem_cons_succ, List.setIfInBounds_toArray, List.set_cons_zero, List.set_cons_succ]
    refine wpAnyH_take (i := 8) (v := _) rfl (by kernel_rfl) (by kernel_rfl) (by kernel_rfl) (fun _ _ _ h => h) (yieldsIf_build (by kernel_rfl) 44 _ rfl F (by simpa [Act.eval] using hbm)) hH0 ?_
    try simp only [Act.put, List.getElem_toArray, List.getElem_cons_zero, List.getElem_cons_succ, List.setIfInBounds_toArray, List.set_cons_zero, List.set_cons_succ]
    refine wpAnyH_ready (rs := [9]) (by kernel_rfl) (by simp) ?_
    refine AllReadyH.cons rfl (fun K_ hK => ?_) ?_
    · rw [if_pos (by rfl)]
      obtain ⟨C, hC, hg2⟩ := hH0.2
      refine wp_store_row 44 _ _ rfl g F rfl rfl 44 C hg2 hfi (by rw [hfs, hC]) hfo ?_
      refine hK.out _ _ (hH0.put F hfs) (fun hH1 => ?_)
      clear hK K_
      try simp only [Act.put, List.getElem_toArray, List.getElem_cons_zero, List.getElem_cons_succ, List.setIfInBounds_toArray, List.set_cons_zero, List.set_cons_succ]
      refine wpAnyH_done (by kernel_rfl) ?_ _
      have HH := Lib.hid hH1
      have HG := Lib.hid (setRow_heap _ g _ F _ _ hg2)
      clear hH1 hg2
      go_wp2_with fail
      (try simp only [Exit.inBlock, Exit.then])
      refine bodyPost_ret (results_cell_row rfl _ _ g 44 F (0, 0) _ rfl HG.out Tryd.underlying44 rfl hfi) rfl ?_
      refine ⟨_, by rw [HF.out], .inl ⟨by omega, by rw [← Hn.out]; omega, ?_⟩, HB4.out.trans (HH.out.1.below HB4.out.size (by simp; rw [Hg.out]; exact Nat.le_refl _))⟩
      rw [Htx.out, Hh.out]; rfl
    exact AllReadyH.nil
  · have hfs := FrD.row_size zeroFr_fit
    have hfo := FrD.row_one zeroFr_fit
    have hfi := fr_infoR zeroFr_fit
    have hbm := built_zeroFr
    obtain ⟨F, hF⟩ : ∃ F, F = zeroFr.row := ⟨_, rfl⟩
    rw [← hF] at hbm hfs hfo hfi
    have HF := Lib.hid hF
    clear hF
    have fin2 : ∀ w', w' = w4.setRow g F → PartPost K x l i w (.returned (.agg F)) w' := by
      intro w' hw'
      subst hw'
      exact ⟨_, by rw [HF.out], .inr ⟨by rw [← Hn.out]; exact hi, rfl⟩, HB4.out.trans (((Only.refl [g] w4).setRow (by simp) F).below HB4.out.size (by simp; rw [Hg.out]; exact Nat.le_refl _))⟩
    have Fin2 := Lib.hid fin2
    clear fin2
    by_cases h0 : i < 0
    · clear hi
      go_wp2_with (first
        | (refine wpList_build0 rfl 44 rfl F hbm ?_)
        | (refine wpList_store_row rfl 44 _ _ rfl g F rfl rfl 44 Z Hz4.out hfi (by rw [hfs, hzs]) hfo ?_))
      (try simp only [Exit.inBlock, Exit.then])
      exact bodyPost_ret (results_cell_row rfl _ _ g 44 F (0, 0) _ rfl (setRow_heap _ _ _ _ _ _ Hz4.out) Tryd.underlying44 rfl hfi) rfl (Fin2.out _ rfl)
    · have hge : (n : Int) ≤ i := by omega
      clear hi
      go_wp2_with (first
        | (refine wpList_build0 rfl 44 rfl F hbm ?_)
        | (refine wpList_store_row rfl 44 _ _ rfl g F rfl rfl 44 Z Hz4.out hfi (by rw [hfs, hzs]) hfo ?_))
      (try simp only [Exit.inBlock, Exit.then])
      exact bodyPost_ret (results_cell_row rfl _ _ g 44 F (0, 0) _ rfl (setRow_heap _ _ _ _ _ _ Hz4.out) Tryd.underlying44 rfl hfi) rfl (Fin2.out _ rfl)
end Go.Proofs.YtfbjbhddapoopaaDoor
