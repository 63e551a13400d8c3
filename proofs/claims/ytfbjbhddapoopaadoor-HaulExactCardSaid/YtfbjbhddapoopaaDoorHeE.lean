/-
  Layer 17's reference: the walk of Hear: frames that change nothing.
-/
import Derived.Test.YtfbjbhddapoopaaDoorHeD
set_option linter.unusedVariables false
set_option linter.unusedSimpArgs false
namespace Go.Proofs.YtfbjbhddapoopaaDoor
open Go.RowKit
attribute [local go_sem] Lb.ba_get Lb.ba_cut Lb.ba_add Lb.ba_size Lb.take_rest

def RHearPost (w : World) (S : List Nat) (p : Nat) (d : HlD) (f : FrD) : Ending → World → Prop := RefPost w S p d.peer d.out (hearOf KK d f).2 (hearOf KK d f).1
theorem rhear_same {w w' : World} {S : List Nat} {p : Nat} {d : HlD} {f : FrD} (h : RfAt w S p d) (hh : hearOf KK d f = (d, [])) (hb : Below w.heap.size w w') : RHearPost w S p d f (.returned (.slice none 0 0)) w' := by
  unfold RHearPost
  rw [hh]
  exact ⟨_, S, rfl, Bag0.nil _ _ _, h.below hb, Only.of_below hb, fun k hk => .inl hk, apart_nil _ _ _⟩

set_option maxHeartbeats 4000000 in
set_option maxRecDepth 100000 in
theorem rhear_closed (p : Nat) (S : List Nat) (d : HlD) (f : FrD) (w : World) (h : RfAt w S p d) (hf : f.Ok w) (hc : d.done = true ∨ d.failed = true ∨ f.from_ ≠ d.peer) :
    Calls Tryd.prog 20 #[.pointer (some ⟨p, 0, none⟩), .agg f.row] w (RHearPost w S p d f) := by
  have hh : hearOf KK d f = (d, []) := by unfold hearOf Hl.hear; rw [if_pos hc]
  have fin := Lib.hid (fun w' (hb : Below w.heap.size w w') => rhear_same h hh hb)
  obtain ⟨ok, und, lt, pS, r, hm, hft, hi, hx⟩ := h
  have hB := (Below.refl w.heap.size w).alloc (Nat.le_refl _) (.cells f.row 44)
  have hm1 : RfMem (w.alloc (.cells f.row 44)) p r := below_keep hB hm
  have hfr := heap_alloc_new w (.cells f.row 44)
  have ra := rf_all hft hm1
  have k73 := ra.done
  have k74 := ra.fail
  have k32 := ra.peer
  rw [hi.done] at k73
  rw [hi.fail] at k74
  rw [hi.peer] at k32
  have f1 := (fr_mem hf.fit hfr).from_
  have HB := Lib.hid hB
  obtain ⟨w1, hw1⟩ : ∃ y, y = w.alloc (.cells f.row 44) := ⟨_, rfl⟩
  obtain ⟨b, hb⟩ : ∃ y, y = w.heap.size := ⟨_, rfl⟩
  obtain ⟨a1, h1⟩ : ∃ y, y = d.done := ⟨_, rfl⟩
  obtain ⟨a2, h2⟩ : ∃ y, y = d.failed := ⟨_, rfl⟩
  obtain ⟨x, hx'⟩ : ∃ x, x = f.from_ := ⟨_, rfl⟩
  obtain ⟨y, hy⟩ : ∃ y, y = d.peer := ⟨_, rfl⟩
  rw [← h1, ← h2, ← hx', ← hy] at hc
  go_enter Tryd.func20, Tryd.ntmps20
  go_upto_region 1 with fail
  rw [← hw1] at k73 k74 k32 f1 HB ⊢
  rw [← hb] at f1 ⊢
  rw [← h1] at k73
  rw [← h2] at k74
  rw [← hx'] at f1
  rw [← hy] at k32
  have hc' : a1 = true ∨ a1 = false ∧ a2 = true ∨ a1 = false ∧ a2 = false ∧ x ≠ y := by cases a1 <;> cases a2 <;> simp_all
  have Hb := Lib.hid hb
  clear hw1 hb ra hm1 hB hm hf lt pS ok und hi hft hx hh hfr h1 h2 hx' hy hc
  rcases hc' with rfl | ⟨rfl, rfl⟩ | ⟨rfl, rfl, hne⟩
  · go_quiet (fail)
    go_wp2_with fail
    (try simp only [Exit.inBlock, Exit.then])
    refine bodyPost_ret (results_tmp rfl _ _ _) rfl ?_
    exact fin.out _ (below_drewN'' HB.out _)
  · go_quiet (fail)
    go_wp2_with fail
    (try simp only [Exit.inBlock, Exit.then])
    refine bodyPost_ret (results_tmp rfl _ _ _) rfl ?_
    exact fin.out _ (below_drewN'' HB.out _)
  · have hb1 : (x != y) = true := by simp [hne]
    have hb2 : (x == y) = false := by simp [hne]
    clear hne
    go_quiet (fail)
    go_wp2_with fail
    (try simp only [Exit.inBlock, Exit.then])
    refine bodyPost_ret (results_tmp rfl _ _ _) rfl ?_
    exact fin.out _ (below_drewN'' HB.out _)

set_option maxHeartbeats 4000000 in
set_option maxRecDepth 100000 in
theorem rhear_other (p : Nat) (S : List Nat) (d : HlD) (f : FrD) (w : World) (h : RfAt w S p d) (hf : f.Ok w) (hd : d.done = false) (hfl : d.failed = false) (hp : f.from_ = d.peer) (h7 : f.kind ≠ 7) (h8 : f.kind ≠ 8) :
    Calls Tryd.prog 20 #[.pointer (some ⟨p, 0, none⟩), .agg f.row] w (RHearPost w S p d f) := by
  have hh : hearOf KK d f = (d, []) := by unfold hearOf Hl.hear; rw [if_neg (by simp [hd, hfl, hp]), if_neg h7, if_neg h8]
  have fin := Lib.hid (fun w' (hb : Below w.heap.size w w') => rhear_same h hh hb)
  clear hh
  obtain ⟨ok, und, lt, pS, r, hm, hft, hi, hx⟩ := h
  have hB := (Below.refl w.heap.size w).alloc (Nat.le_refl _) (.cells f.row 44)
  have hm1 : RfMem (w.alloc (.cells f.row 44)) p r := below_keep hB hm
  have hfr := heap_alloc_new w (.cells f.row 44)
  have ra := rf_all hft hm1
  have k73 := ra.done
  have k74 := ra.fail
  have k32 := ra.peer
  rw [hi.done] at k73
  rw [hi.fail] at k74
  rw [hi.peer] at k32
  have f1 := (fr_mem hf.fit hfr).from_
  have HB := Lib.hid hB
  have HFR := Lib.hid hfr
  have HM1 := Lib.hid hm1
  have OK := Lib.hid ok
  have HU := Lib.hid und
  have LT := Lib.hid lt
  have PS := Lib.hid pS
  have HI := Lib.hid hi
  have HFT := Lib.hid hft
  have HX := Lib.hid hx
  have HF := Lib.hid hf
  have HD := Lib.hid hd
  have HFL := Lib.hid hfl
  have HP := Lib.hid hp
  rw [hd] at k73
  rw [hfl] at k74
  rw [hp] at f1
  obtain ⟨w1, hw1⟩ : ∃ y, y = w.alloc (.cells f.row 44) := ⟨_, rfl⟩
  obtain ⟨b, hb⟩ : ∃ y, y = w.heap.size := ⟨_, rfl⟩
  obtain ⟨pe, hpe⟩ : ∃ y, y = d.peer := ⟨_, rfl⟩
  go_enter Tryd.func20, Tryd.ntmps20
  go_upto_region 1 with fail
  rw [← hw1] at k73 k74 k32 f1 HB HFR HM1 ⊢
  rw [← hb] at f1 HFR ⊢
  rw [← hpe] at k32 f1
  have Hb := Lib.hid hb
  have hb1 : (pe != pe) = false := by simp
  have hb2 : (pe == pe) = true := by simp
  clear hw1 hb hpe hm1 hB hm hf lt pS ok und hx hfr hd hfl hp hi hft ra
  go_quiet (fail)
  go_upto_region 3 with fail
  have HB2 := Lib.hid (below_drewN'' HB.out nq)
  have HFR2 : Hid ((w1.drewN nq).heap[b]? = some (.cells f.row 44 (0, 0))) := Lib.hid HFR.out
  have HM2 : Hid (RfMem (w1.drewN nq) p r) := Lib.hid HM1.out
  obtain ⟨w2, hw2⟩ : ∃ y, y = w1.drewN nq := ⟨_, rfl⟩
  rw [← hw2] at HB2 HFR2 HM2 ⊢
  clear hw2 k73 k74 k32 f1 hb1 hb2
  have fa := fr_mem HF.out.fit HFR2.out
  have ra := rf_all HFT.out HM2.out
  have fk := fa.kind
  have x68 := ra.has
  obtain ⟨k, hk⟩ : ∃ y, y = f.kind := ⟨_, rfl⟩
  rw [← hk] at fk h7 h8
  have e7 : (k == 7) = false := by simp [h7]
  have e8 : (k == 8) = false := by simp [h8]
  clear hk h7 h8 fa ra x68
  go_quiet (fail)
  go_upto_region 15 with fail
  go_quiet (fail)
  go_wp2_with fail
  (try simp only [Exit.inBlock, Exit.then])
  refine bodyPost_ret (results_tmp rfl _ _ _) rfl ?_
  exact fin.out _ (below_drewN'' (below_drewN'' HB2.out _) _)

set_option maxHeartbeats 4000000 in
set_option maxRecDepth 100000 in
theorem rhear_mani_had (p : Nat) (S : List Nat) (d : HlD) (f : FrD) (w : World) (h : RfAt w S p d) (hf : f.Ok w) (hd : d.done = false) (hfl : d.failed = false) (hp : f.from_ = d.peer) (h7 : f.kind = 7) (hmn : d.mani ≠ none) :
    Calls Tryd.prog 20 #[.pointer (some ⟨p, 0, none⟩), .agg f.row] w (RHearPost w S p d f) := by
  have hh : hearOf KK d f = (d, []) := by
    unfold hearOf Hl.hear; rw [if_neg (by simp [hd, hfl, hp]), if_pos h7]
    cases hq : d.mani with
    | none => exact absurd hq hmn
    | some sp => rfl
  have fin := Lib.hid (fun w' (hb : Below w.heap.size w w') => rhear_same h hh hb)
  clear hh
  obtain ⟨ok, und, lt, pS, r, hm, hft, hi, hx⟩ := h
  have hB := (Below.refl w.heap.size w).alloc (Nat.le_refl _) (.cells f.row 44)
  have hm1 : RfMem (w.alloc (.cells f.row 44)) p r := below_keep hB hm
  have hfr := heap_alloc_new w (.cells f.row 44)
  have ra := rf_all hft hm1
  have k73 := ra.done
  have k74 := ra.fail
  have k32 := ra.peer
  rw [hi.done] at k73
  rw [hi.fail] at k74
  rw [hi.peer] at k32
  have f1 := (fr_mem hf.fit hfr).from_
  have HB := Lib.hid hB
  have HFR := Lib.hid hfr
  have HM1 := Lib.hid hm1
  have OK := Lib.hid ok
  have HU := Lib.hid und
  have LT := Lib.hid lt
  have PS := Lib.hid pS
  have HI := Lib.hid hi
  have HFT := Lib.hid hft
  have HX := Lib.hid hx
  have HF := Lib.hid hf
  have HD := Lib.hid hd
  have HFL := Lib.hid hfl
  have HP := Lib.hid hp
  rw [hd] at k73
  rw [hfl] at k74
  rw [hp] at f1
  obtain ⟨w1, hw1⟩ : ∃ y, y = w.alloc (.cells f.row 44) := ⟨_, rfl⟩
  obtain ⟨b, hb⟩ : ∃ y, y = w.heap.size := ⟨_, rfl⟩
  obtain ⟨pe, hpe⟩ : ∃ y, y = d.peer := ⟨_, rfl⟩
  go_enter Tryd.func20, Tryd.ntmps20
  go_upto_region 1 with fail
  rw [← hw1] at k73 k74 k32 f1 HB HFR HM1 ⊢
  rw [← hb] at f1 HFR ⊢
  rw [← hpe] at k32 f1
  have Hb := Lib.hid hb
  have hb1 : (pe != pe) = false := by simp
  have hb2 : (pe == pe) = true := by simp
  clear hw1 hb hpe hm1 hB hm hf lt pS ok und hx hfr hd hfl hp hi hft ra
  go_quiet (fail)
  go_upto_region 3 with fail
  have HB2 := Lib.hid (below_drewN'' HB.out nq)
  have HFR2 : Hid ((w1.drewN nq).heap[b]? = some (.cells f.row 44 (0, 0))) := Lib.hid HFR.out
  have HM2 : Hid (RfMem (w1.drewN nq) p r) := Lib.hid HM1.out
  obtain ⟨w2, hw2⟩ : ∃ y, y = w1.drewN nq := ⟨_, rfl⟩
  rw [← hw2] at HB2 HFR2 HM2 ⊢
  clear hw2 k73 k74 k32 f1 hb1 hb2
  have fa := fr_mem HF.out.fit HFR2.out
  have ra := rf_all HFT.out HM2.out
  have fk := fa.kind
  have x68 := ra.has
  rw [h7] at fk
  have hhas : r.has = true := by
    rcases HX.out with hx | ⟨c1, c2, c3, hx⟩
    · exact absurd hx.mani hmn
    · exact hx.has
  rw [hhas] at x68
  clear fa ra hhas h7 hmn HX
  go_quiet (fail)
  go_upto_region 15 with fail
  go_quiet (fail)
  go_wp2_with fail
  (try simp only [Exit.inBlock, Exit.then])
  refine bodyPost_ret (results_tmp rfl _ _ _) rfl ?_
  exact fin.out _ (below_drewN'' (below_drewN'' HB2.out _) _)

set_option maxHeartbeats 4000000 in
set_option maxRecDepth 100000 in
theorem rhear_part_none (p : Nat) (S : List Nat) (d : HlD) (f : FrD) (w : World) (h : RfAt w S p d) (hf : f.Ok w) (hd : d.done = false) (hfl : d.failed = false) (hp : f.from_ = d.peer) (h8 : f.kind = 8) (hmn : d.mani = none) :
    Calls Tryd.prog 20 #[.pointer (some ⟨p, 0, none⟩), .agg f.row] w (RHearPost w S p d f) := by
  have hk7 : ¬ f.kind = 7 := by rw [h8]; decide
  have hh : hearOf KK d f = (d, []) := by
    unfold hearOf Hl.hear; rw [if_neg (by simp [hd, hfl, hp]), if_neg hk7, if_pos h8, hmn]
  clear hk7
  have fin := Lib.hid (fun w' (hb : Below w.heap.size w w') => rhear_same h hh hb)
  clear hh
  obtain ⟨ok, und, lt, pS, r, hm, hft, hi, hx⟩ := h
  have hB := (Below.refl w.heap.size w).alloc (Nat.le_refl _) (.cells f.row 44)
  have hm1 : RfMem (w.alloc (.cells f.row 44)) p r := below_keep hB hm
  have hfr := heap_alloc_new w (.cells f.row 44)
  have ra := rf_all hft hm1
  have k73 := ra.done
  have k74 := ra.fail
  have k32 := ra.peer
  rw [hi.done] at k73
  rw [hi.fail] at k74
  rw [hi.peer] at k32
  have f1 := (fr_mem hf.fit hfr).from_
  have HB := Lib.hid hB
  have HFR := Lib.hid hfr
  have HM1 := Lib.hid hm1
  have OK := Lib.hid ok
  have HU := Lib.hid und
  have LT := Lib.hid lt
  have PS := Lib.hid pS
  have HI := Lib.hid hi
  have HFT := Lib.hid hft
  have HX := Lib.hid hx
  have HF := Lib.hid hf
  have HD := Lib.hid hd
  have HFL := Lib.hid hfl
  have HP := Lib.hid hp
  rw [hd] at k73
  rw [hfl] at k74
  rw [hp] at f1
  obtain ⟨w1, hw1⟩ : ∃ y, y = w.alloc (.cells f.row 44) := ⟨_, rfl⟩
  obtain ⟨b, hb⟩ : ∃ y, y = w.heap.size := ⟨_, rfl⟩
  obtain ⟨pe, hpe⟩ : ∃ y, y = d.peer := ⟨_, rfl⟩
  go_enter Tryd.func20, Tryd.ntmps20
  go_upto_region 1 with fail
  rw [← hw1] at k73 k74 k32 f1 HB HFR HM1 ⊢
  rw [← hb] at f1 HFR ⊢
  rw [← hpe] at k32 f1
  have Hb := Lib.hid hb
  have hb1 : (pe != pe) = false := by simp
  have hb2 : (pe == pe) = true := by simp
  clear hw1 hb hpe hm1 hB hm hf lt pS ok und hx hfr hd hfl hp hi hft ra
  go_quiet (fail)
  go_upto_region 3 with fail
  have HB2 := Lib.hid (below_drewN'' HB.out nq)
  have HFR2 : Hid ((w1.drewN nq).heap[b]? = some (.cells f.row 44 (0, 0))) := Lib.hid HFR.out
  have HM2 : Hid (RfMem (w1.drewN nq) p r) := Lib.hid HM1.out
  obtain ⟨w2, hw2⟩ : ∃ y, y = w1.drewN nq := ⟨_, rfl⟩
  rw [← hw2] at HB2 HFR2 HM2 ⊢
  clear hw2 k73 k74 k32 f1 hb1 hb2
  have fa := fr_mem HF.out.fit HFR2.out
  have ra := rf_all HFT.out HM2.out
  have fk := fa.kind
  have x68 := ra.has
  rw [h8] at fk
  have hhas : r.has = false := by
    rcases HX.out with hx | ⟨c1, c2, c3, hx⟩
    · exact hx.has
    · have e := hx.mani; rw [hmn] at e; cases e
  rw [hhas] at x68
  clear fa ra hhas h8 hmn HX
  go_quiet (fail)
  go_upto_region 15 with fail
  go_quiet (fail)
  go_wp2_with fail
  (try simp only [Exit.inBlock, Exit.then])
  refine bodyPost_ret (results_tmp rfl _ _ _) rfl ?_
  exact fin.out _ (below_drewN'' (below_drewN'' HB2.out _) _)

set_option maxHeartbeats 4000000 in
set_option maxRecDepth 100000 in
theorem rhear_mani_bad (p : Nat) (S : List Nat) (d : HlD) (f : FrD) (w : World) (h : RfAt w S p d) (hf : f.Ok w) (hd : d.done = false) (hfl : d.failed = false) (hp : f.from_ = d.peer) (h7 : f.kind = 7) (hmn : d.mani = none) (hno : goodS f.mani.size f.mani.parts.length = false) :
    Calls Tryd.prog 20 #[.pointer (some ⟨p, 0, none⟩), .agg f.row] w (RHearPost w S p d f) := by
  have hh : hearOf KK d f = (d, []) := by
    unfold hearOf Hl.hear; rw [if_neg (by simp [hd, hfl, hp]), if_pos h7, hmn]
    simp only
    rw [if_neg (by simp [hno])]
  have fin := Lib.hid (fun w' (hb : Below w.heap.size w w') => rhear_same h hh hb)
  clear hh
  obtain ⟨ok, und, lt, pS, r, hm, hft, hi, hx⟩ := h
  have hB := (Below.refl w.heap.size w).alloc (Nat.le_refl _) (.cells f.row 44)
  have hm1 : RfMem (w.alloc (.cells f.row 44)) p r := below_keep hB hm
  have hfr := heap_alloc_new w (.cells f.row 44)
  have ra := rf_all hft hm1
  have k73 := ra.done
  have k74 := ra.fail
  have k32 := ra.peer
  rw [hi.done] at k73
  rw [hi.fail] at k74
  rw [hi.peer] at k32
  have f1 := (fr_mem hf.fit hfr).from_
  have HB := Lib.hid hB
  have HFR := Lib.hid hfr
  have HM1 := Lib.hid hm1
  have OK := Lib.hid ok
  have HU := Lib.hid und
  have LT := Lib.hid lt
  have PS := Lib.hid pS
  have HI := Lib.hid hi
  have HFT := Lib.hid hft
  have HX := Lib.hid hx
  have HF := Lib.hid hf
  have HD := Lib.hid hd
  have HFL := Lib.hid hfl
  have HP := Lib.hid hp
  rw [hd] at k73
  rw [hfl] at k74
  rw [hp] at f1
  obtain ⟨w1, hw1⟩ : ∃ y, y = w.alloc (.cells f.row 44) := ⟨_, rfl⟩
  obtain ⟨b, hb⟩ : ∃ y, y = w.heap.size := ⟨_, rfl⟩
  obtain ⟨pe, hpe⟩ : ∃ y, y = d.peer := ⟨_, rfl⟩
  go_enter Tryd.func20, Tryd.ntmps20
  go_upto_region 1 with fail
  rw [← hw1] at k73 k74 k32 f1 HB HFR HM1 ⊢
  rw [← hb] at f1 HFR ⊢
  rw [← hpe] at k32 f1
  have Hb := Lib.hid hb
  have hb1 : (pe != pe) = false := by simp
  have hb2 : (pe == pe) = true := by simp
  clear hw1 hb hpe hm1 hB hm hf lt pS ok und hx hfr hd hfl hp hi hft ra
  go_quiet (fail)
  go_upto_region 3 with fail
  have HB2 := Lib.hid (below_drewN'' HB.out nq)
  have HFR2 : Hid ((w1.drewN nq).heap[b]? = some (.cells f.row 44 (0, 0))) := Lib.hid HFR.out
  have HM2 : Hid (RfMem (w1.drewN nq) p r) := Lib.hid HM1.out
  obtain ⟨w2, hw2⟩ : ∃ y, y = w1.drewN nq := ⟨_, rfl⟩
  rw [← hw2] at HB2 HFR2 HM2 ⊢
  clear hw2 k73 k74 k32 f1 hb1 hb2
  have fa := fr_mem HF.out.fit HFR2.out
  have ra := rf_all HFT.out HM2.out
  have fk := fa.kind
  have x68 := ra.has
  rw [h7] at fk
  have hhas : r.has = false := by
    rcases HX.out with hx | ⟨c1, c2, c3, hx⟩
    · exact hx.has
    · have e := hx.mani; rw [hmn] at e; cases e
  rw [hhas] at x68
  have ro := ra.out
  rw [HI.out.out] at ro
  have rm := fa.mani
  have rw_ := fa.whole
  have hmw := HF.out.fit.lm
  have hdo := OK.out.out
  have mdix : (Tryd.prog.info? 39).map (·.size) = some f.mani.cells.length := by rw [mani_info, mani_cells_len f.mani hmw]
  have mund := Tryd.underlying39
  have dund := Tryd.underlying23
  have dix : (Tryd.prog.info? 23).map (·.size) = some (byV f.mani.whole).length := by rw [dig_info, byV_length, hmw]
  have diy : (Tryd.prog.info? 23).map (·.size) = some (byV d.out).length := by rw [dig_info, byV_length, hdo]
  have HG := Lib.hid (fun W => rgood_any f.mani W hmw HF.out.mani.lo HF.out.mani.hi HF.out.mani.len)
  have heq : ∀ W : World, (Op.equalIn 10000 23 (.agg (byV f.mani.whole).toArray) (.agg (byV d.out).toArray)).run Tryd.prog W = .ok (f.mani.whole == d.out) W := fun W => eqIn_dig W f.mani.whole d.out hmw hdo
  have lp : p < w2.heap.size := heap_lt HM2.out
  have lb : b < w2.heap.size := heap_lt HFR2.out
  clear h7 fa ra hmw hdo hhas hmn
  rw [hno] at HG
  clear hno
  obtain ⟨mc, hmc⟩ : ∃ y, y = f.mani.cells := ⟨_, rfl⟩
  obtain ⟨wh, hwh⟩ : ∃ y, y = byV f.mani.whole := ⟨_, rfl⟩
  obtain ⟨ou, hou⟩ : ∃ y, y = byV d.out := ⟨_, rfl⟩
  rw [← hmc] at rm mdix
  rw [← hwh] at rw_ dix heq
  rw [← hou] at ro diy heq
  replace HG : Hid (∀ W : World, Calls Tryd.prog 70 #[.agg mc.toArray] W fun e w' => e = .returned (.bool false) ∧ Below W.heap.size W w') := by rw [hmc]; exact HG
  clear hmc hwh hou heq rw_ ro dix diy
  refine wp_region_held_drew (S := fun w' => Below w2.heap.size w2 w') (by kernel_rfl) ((Below.refl _ _).drew) (fun hH0 => ?_)
  obtain ⟨W0, hW0⟩ : ∃ W, W = w2.drew := ⟨_, rfl⟩
  rw [← hW0] at hH0 ⊢
  clear hW0
  refine wpAnyH_take (i := 0) (v := ?_) rfl (by kernel_rfl) (by kernel_rfl) (by kernel_rfl) (fun _ _ _ h => h) (Or.inl ⟨by kernel_rfl, ?_⟩) hH0 ?_
  rotate_left 1
  · intro w hSw
    go_simp
    try with_reducible rfl
  try simp only [Act.put, List.getElem_toArray, List.getElem_cons_zero, List.getElem_cons_succ, List.setIfInBounds_toArray, List.set_cons_zero, List.set_cons_succ]
  refine wpAnyH_take (i := 1) (v := ?_) rfl (by kernel_rfl) (by kernel_rfl) (by kernel_rfl) (fun _ _ _ h => h) (Or.inl ⟨by kernel_rfl, ?_⟩) hH0 ?_
  rotate_left 1
  · intro w hSw
    have f0 := (hSw.cell (p := ⟨p, 68, none⟩) lp).trans x68
    have f1 := (hSw.cell (p := ⟨b, 0, none⟩) lb).trans fk
    go_simp
    try with_reducible rfl
  try simp only [Act.put, List.getElem_toArray, List.getElem_cons_zero, List.getElem_cons_succ, List.setIfInBounds_toArray, List.set_cons_zero, List.set_cons_succ]
  refine wpAnyH_take (i := 2) (v := ?_) rfl (by kernel_rfl) (by kernel_rfl) (by kernel_rfl) (fun _ _ _ h => h) (Or.inl ⟨by kernel_rfl, ?_⟩) hH0 ?_
  rotate_left 1
  · intro w hSw
    go_simp
    try with_reducible rfl
  try simp only [Act.put, List.getElem_toArray, List.getElem_cons_zero, List.getElem_cons_succ, List.setIfInBounds_toArray, List.set_cons_zero, List.set_cons_succ]
  refine wpAnyH_take (i := 3) (v := ?_) rfl (by kernel_rfl) (by kernel_rfl) (by kernel_rfl) (fun _ _ _ h => h) (Or.inl ⟨by kernel_rfl, ?_⟩) hH0 ?_
  rotate_left 1
  · intro w hSw
    go_simp
    try with_reducible rfl
  try simp only [Act.put, List.getElem_toArray, List.getElem_cons_zero, List.getElem_cons_succ, List.setIfInBounds_toArray, List.set_cons_zero, List.set_cons_succ]
  refine wpAnyH_take (i := 4) (v := ?_) rfl (by kernel_rfl) (by kernel_rfl) (by kernel_rfl) (fun _ _ _ h => h) (Or.inl ⟨by kernel_rfl, ?_⟩) hH0 ?_
  rotate_left 1
  · intro w hSw
    go_simp
    try with_reducible rfl
  try simp only [Act.put, List.getElem_toArray, List.getElem_cons_zero, List.getElem_cons_succ, List.setIfInBounds_toArray, List.set_cons_zero, List.set_cons_succ]
  refine wpAnyH_take (i := 5) (v := ?_) rfl (by kernel_rfl) (by kernel_rfl) (by kernel_rfl) (fun _ _ _ h => h) (Or.inl ⟨by kernel_rfl, ?_⟩) hH0 ?_
  rotate_left 1
  · intro w hSw
    go_simp
    try with_reducible rfl
  try simp only [Act.put, List.getElem_toArray, List.getElem_cons_zero, List.getElem_cons_succ, List.setIfInBounds_toArray, List.set_cons_zero, List.set_cons_succ]
  refine wpAnyH_take (i := 6) (v := ?_) rfl (by kernel_rfl) (by kernel_rfl) (by kernel_rfl) (fun _ _ _ h => h) (Or.inl ⟨by kernel_rfl, ?_⟩) hH0 ?_
  rotate_left 1
  · intro w hSw
    go_simp
    try with_reducible rfl
  try simp only [Act.put, List.getElem_toArray, List.getElem_cons_zero, List.getElem_cons_succ, List.setIfInBounds_toArray, List.set_cons_zero, List.set_cons_succ]
  refine wpAnyH_take (i := 7) (v := ?_) rfl (by kernel_rfl) (by kernel_rfl) (by kernel_rfl) (fun _ _ _ h => h) (Or.inl ⟨by kernel_rfl, ?_⟩) hH0 ?_
  rotate_left 1
  · intro w hSw
    have f0 := (hSw.cell (p := ⟨p, 68, none⟩) lp).trans x68
    have f1 := (hSw.cell (p := ⟨b, 0, none⟩) lb).trans fk
    go_simp
    try with_reducible rfl
  try simp only [Act.put, List.getElem_toArray, List.getElem_cons_zero, List.getElem_cons_succ, List.setIfInBounds_toArray, List.set_cons_zero, List.set_cons_succ]
  refine wpAnyH_take (i := 8) (v := ?_) rfl (by kernel_rfl) (by kernel_rfl) (by kernel_rfl) (fun _ _ _ h => h) (Or.inl ⟨by kernel_rfl, ?_⟩) hH0 ?_
  rotate_left 1
  · intro w hSw
    go_simp
    try with_reducible rfl
  try simp only [Act.put, List.getElem_toArray, List.getElem_cons_zero, List.getElem_cons_succ, List.setIfInBounds_toArray, List.set_cons_zero, List.set_cons_succ]
  refine wpAnyH_take (i := 9) (v := ?_) rfl (by kernel_rfl) (by kernel_rfl) (by kernel_rfl) (fun _ _ _ h => h) (Or.inl ⟨by kernel_rfl, ?_⟩) hH0 ?_
  rotate_left 1
  · intro w hSw
    go_simp
    try with_reducible rfl
  try simp only [Act.put, List.getElem_toArray, List.getElem_cons_zero, List.getElem_cons_succ, List.setIfInBounds_toArray, List.set_cons_zero, List.set_cons_succ]
  refine wpAnyH_take (i := 10) (v := ?_) rfl (by kernel_rfl) (by kernel_rfl) (by kernel_rfl) (fun _ _ _ h => h) (Or.inl ⟨by kernel_rfl, ?_⟩) hH0 ?_
  rotate_left 1
  · intro w hSw
    go_simp
    try with_reducible rfl
  try simp only [Act.put, List.getElem_toArray, List.getElem_cons_zero, List.getElem_cons_succ, List.setIfInBounds_toArray, List.set_cons_zero, List.set_cons_succ]
  refine wpAnyH_take (i := 11) (v := ?_) rfl (by kernel_rfl) (by kernel_rfl) (by kernel_rfl) (fun _ _ _ h => h) (Or.inl ⟨by kernel_rfl, ?_⟩) hH0 ?_
  rotate_left 1
  · intro w hSw
    go_simp
    try with_reducible rfl
  try simp only [Act.put, List.getElem_toArray, List.getElem_cons_zero, List.getElem_cons_succ, List.setIfInBounds_toArray, List.set_cons_zero, List.set_cons_succ]
  refine wpAnyH_take (i := 12) (v := _) rfl (by kernel_rfl) (by kernel_rfl) (by kernel_rfl) (fun _ _ _ h => h) (yieldsIf_load_mid (by kernel_rfl) _ _ rfl _ _ rfl mc _ (fun W hW => range_below rm hW lb) mund rfl mdix) hH0 ?_
  try simp only [Act.put, List.getElem_toArray, List.getElem_cons_zero, List.getElem_cons_succ, List.setIfInBounds_toArray, List.set_cons_zero, List.set_cons_succ]
  refine wpAnyH_ready (rs := [13]) (by kernel_rfl) (by simp) ?_
  refine AllReadyH.cons rfl (fun K_ hK => ?_) ?_
  · go_simp
    refine (HG.out W0).mono ?_
    rintro e W1 ⟨rfl, hb1⟩
    refine hK.out _ _ ((hH0).trans (hb1.mono (hH0).size)) (fun hH1 => ?_)
    clear hK K_
    try simp only [Act.put, List.getElem_toArray, List.getElem_cons_zero, List.getElem_cons_succ, List.setIfInBounds_toArray, List.set_cons_zero, List.set_cons_succ]
    refine wpAnyH_take (i := 14) (v := ?_) rfl (by kernel_rfl) (by kernel_rfl) (by kernel_rfl) (fun _ _ _ h => h) (Or.inl ⟨by kernel_rfl, ?_⟩) hH1 ?_
    rotate_left 1
    · intro w hSw
      go_simp
      try with_reducible rfl
    try simp only [Act.put, List.getElem_toArray, List.getElem_cons_zero, List.getElem_cons_succ, List.setIfInBounds_toArray, List.set_cons_zero, List.set_cons_succ]
    refine wpAnyH_take (i := 15) (v := ?_) rfl (by kernel_rfl) (by kernel_rfl) (by kernel_rfl) (fun _ _ _ h => h) (Or.inl ⟨by kernel_rfl, ?_⟩) hH1 ?_
    rotate_left 1
    · intro w hSw
      go_simp
      try with_reducible rfl
    try simp only [Act.put, List.getElem_toArray, List.getElem_cons_zero, List.getElem_cons_succ, List.setIfInBounds_toArray, List.set_cons_zero, List.set_cons_succ]
    refine wpAnyH_take (i := 16) (v := undef) rfl (by kernel_rfl) (by kernel_rfl) (by kernel_rfl) (fun _ _ _ h => h) (Or.inr ⟨by kernel_rfl, rfl⟩) hH1 ?_
    try simp only [Act.put, List.getElem_toArray, List.getElem_cons_zero, List.getElem_cons_succ, List.setIfInBounds_toArray, List.set_cons_zero, List.set_cons_succ]
    refine wpAnyH_take (i := 17) (v := undef) rfl (by kernel_rfl) (by kernel_rfl) (by kernel_rfl) (fun _ _ _ h => h) (Or.inr ⟨by kernel_rfl, rfl⟩) hH1 ?_
    try simp only [Act.put, List.getElem_toArray, List.getElem_cons_zero, List.getElem_cons_succ, List.setIfInBounds_toArray, List.set_cons_zero, List.set_cons_succ]
    refine wpAnyH_take (i := 18) (v := undef) rfl (by kernel_rfl) (by kernel_rfl) (by kernel_rfl) (fun _ _ _ h => h) (Or.inr ⟨by kernel_rfl, rfl⟩) hH1 ?_
    try simp only [Act.put, List.getElem_toArray, List.getElem_cons_zero, List.getElem_cons_succ, List.setIfInBounds_toArray, List.set_cons_zero, List.set_cons_succ]
    refine wpAnyH_take (i := 19) (v := undef) rfl (by kernel_rfl) (by kernel_rfl) (by kernel_rfl) (fun _ _ _ h => h) (Or.inr ⟨by kernel_rfl, rfl⟩) hH1 ?_
    try simp only [Act.put, List.getElem_toArray, List.getElem_cons_zero, List.getElem_cons_succ, List.setIfInBounds_toArray, List.set_cons_zero, List.set_cons_succ]
    refine wpAnyH_take (i := 20) (v := undef) rfl (by kernel_rfl) (by kernel_rfl) (by kernel_rfl) (fun _ _ _ h => h) (Or.inr ⟨by kernel_rfl, rfl⟩) hH1 ?_
    try simp only [Act.put, List.getElem_toArray, List.getElem_cons_zero, List.getElem_cons_succ, List.setIfInBounds_toArray, List.set_cons_zero, List.set_cons_succ]
    refine wpAnyH_take (i := 21) (v := undef) rfl (by kernel_rfl) (by kernel_rfl) (by kernel_rfl) (fun _ _ _ h => h) (Or.inr ⟨by kernel_rfl, rfl⟩) hH1 ?_
    try simp only [Act.put, List.getElem_toArray, List.getElem_cons_zero, List.getElem_cons_succ, List.setIfInBounds_toArray, List.set_cons_zero, List.set_cons_succ]
    refine wpAnyH_take (i := 22) (v := undef) rfl (by kernel_rfl) (by kernel_rfl) (by kernel_rfl) (fun _ _ _ h => h) (Or.inr ⟨by kernel_rfl, rfl⟩) hH1 ?_
    try simp only [Act.put, List.getElem_toArray, List.getElem_cons_zero, List.getElem_cons_succ, List.setIfInBounds_toArray, List.set_cons_zero, List.set_cons_succ]
    refine wpAnyH_take (i := 23) (v := undef) rfl (by kernel_rfl) (by kernel_rfl) (by kernel_rfl) (fun _ _ _ h => h) (Or.inr ⟨by kernel_rfl, rfl⟩) hH1 ?_
    try simp only [Act.put, List.getElem_toArray, List.getElem_cons_zero, List.getElem_cons_succ, List.setIfInBounds_toArray, List.set_cons_zero, List.set_cons_succ]
    refine wpAnyH_take (i := 24) (v := ?_) rfl (by kernel_rfl) (by kernel_rfl) (by kernel_rfl) (fun _ _ _ h => h) (Or.inl ⟨by kernel_rfl, ?_⟩) hH1 ?_
    rotate_left 1
    · intro w hSw
      go_simp
      try with_reducible rfl
    try simp only [Act.put, List.getElem_toArray, List.getElem_cons_zero, List.getElem_cons_succ, List.setIfInBounds_toArray, List.set_cons_zero, List.set_cons_succ]
    refine wpAnyH_done (by kernel_rfl) ?_ _
    have HH := Lib.hid hH1
    have fk3 : W1.cell? ⟨b, 0, none⟩ = some (.int .i64 7) := (HH.out.cell (p := ⟨b, 0, none⟩) lb).trans fk
    obtain ⟨w3, hw3⟩ : ∃ y, y = W1 := ⟨_, rfl⟩
    rw [← hw3] at HH fk3 ⊢
    clear hH1 hw3 fk x68
    go_upto_region 15 with fail
    go_quiet (fail)
    go_wp2_with fail
    (try simp only [Exit.inBlock, Exit.then])
    refine bodyPost_ret (results_tmp rfl _ _ _) rfl ?_
    exact fin.out _ (below_drewN'' (HB2.out.trans (HH.out.mono HB2.out.size)) _)
  exact AllReadyH.nil

set_option maxHeartbeats 4000000 in
set_option maxRecDepth 100000 in
theorem rhear_mani_alien (p : Nat) (S : List Nat) (d : HlD) (f : FrD) (w : World) (h : RfAt w S p d) (hf : f.Ok w) (hd : d.done = false) (hfl : d.failed = false) (hp : f.from_ = d.peer) (h7 : f.kind = 7) (hmn : d.mani = none) (hgo : goodS f.mani.size f.mani.parts.length = true) (hne : f.mani.whole ≠ d.out) :
    Calls Tryd.prog 20 #[.pointer (some ⟨p, 0, none⟩), .agg f.row] w (RHearPost w S p d f) := by
  have hh : hearOf KK d f = (d, []) := by
    unfold hearOf Hl.hear; rw [if_neg (by simp [hd, hfl, hp]), if_pos h7, hmn]
    simp only
    rw [if_neg (by simp [hne])]
  have fin := Lib.hid (fun w' (hb : Below w.heap.size w w') => rhear_same h hh hb)
  clear hh
  obtain ⟨ok, und, lt, pS, r, hm, hft, hi, hx⟩ := h
  have hB := (Below.refl w.heap.size w).alloc (Nat.le_refl _) (.cells f.row 44)
  have hm1 : RfMem (w.alloc (.cells f.row 44)) p r := below_keep hB hm
  have hfr := heap_alloc_new w (.cells f.row 44)
  have ra := rf_all hft hm1
  have k73 := ra.done
  have k74 := ra.fail
  have k32 := ra.peer
  rw [hi.done] at k73
  rw [hi.fail] at k74
  rw [hi.peer] at k32
  have f1 := (fr_mem hf.fit hfr).from_
  have HB := Lib.hid hB
  have HFR := Lib.hid hfr
  have HM1 := Lib.hid hm1
  have OK := Lib.hid ok
  have HU := Lib.hid und
  have LT := Lib.hid lt
  have PS := Lib.hid pS
  have HI := Lib.hid hi
  have HFT := Lib.hid hft
  have HX := Lib.hid hx
  have HF := Lib.hid hf
  have HD := Lib.hid hd
  have HFL := Lib.hid hfl
  have HP := Lib.hid hp
  rw [hd] at k73
  rw [hfl] at k74
  rw [hp] at f1
  obtain ⟨w1, hw1⟩ : ∃ y, y = w.alloc (.cells f.row 44) := ⟨_, rfl⟩
  obtain ⟨b, hb⟩ : ∃ y, y = w.heap.size := ⟨_, rfl⟩
  obtain ⟨pe, hpe⟩ : ∃ y, y = d.peer := ⟨_, rfl⟩
  go_enter Tryd.func20, Tryd.ntmps20
  go_upto_region 1 with fail
  rw [← hw1] at k73 k74 k32 f1 HB HFR HM1 ⊢
  rw [← hb] at f1 HFR ⊢
  rw [← hpe] at k32 f1
  have Hb := Lib.hid hb
  have hb1 : (pe != pe) = false := by simp
  have hb2 : (pe == pe) = true := by simp
  clear hw1 hb hpe hm1 hB hm hf lt pS ok und hx hfr hd hfl hp hi hft ra
  go_quiet (fail)
  go_upto_region 3 with fail
  have HB2 := Lib.hid (below_drewN'' HB.out nq)
  have HFR2 : Hid ((w1.drewN nq).heap[b]? = some (.cells f.row 44 (0, 0))) := Lib.hid HFR.out
  have HM2 : Hid (RfMem (w1.drewN nq) p r) := Lib.hid HM1.out
  obtain ⟨w2, hw2⟩ : ∃ y, y = w1.drewN nq := ⟨_, rfl⟩
  rw [← hw2] at HB2 HFR2 HM2 ⊢
  clear hw2 k73 k74 k32 f1 hb1 hb2
  have fa := fr_mem HF.out.fit HFR2.out
  have ra := rf_all HFT.out HM2.out
  have fk := fa.kind
  have x68 := ra.has
  rw [h7] at fk
  have hhas : r.has = false := by
    rcases HX.out with hx | ⟨c1, c2, c3, hx⟩
    · exact hx.has
    · have e := hx.mani; rw [hmn] at e; cases e
  rw [hhas] at x68
  have ro := ra.out
  rw [HI.out.out] at ro
  have rm := fa.mani
  have rw_ := fa.whole
  have hmw := HF.out.fit.lm
  have hdo := OK.out.out
  have mdix : (Tryd.prog.info? 39).map (·.size) = some f.mani.cells.length := by rw [mani_info, mani_cells_len f.mani hmw]
  have mund := Tryd.underlying39
  have dund := Tryd.underlying23
  have dix : (Tryd.prog.info? 23).map (·.size) = some (byV f.mani.whole).length := by rw [dig_info, byV_length, hmw]
  have diy : (Tryd.prog.info? 23).map (·.size) = some (byV d.out).length := by rw [dig_info, byV_length, hdo]
  have HG := Lib.hid (fun W => rgood_any f.mani W hmw HF.out.mani.lo HF.out.mani.hi HF.out.mani.len)
  have heq : ∀ W : World, (Op.equalIn 10000 23 (.agg (byV f.mani.whole).toArray) (.agg (byV d.out).toArray)).run Tryd.prog W = .ok (f.mani.whole == d.out) W := fun W => eqIn_dig W f.mani.whole d.out hmw hdo
  have lp : p < w2.heap.size := heap_lt HM2.out
  have lb : b < w2.heap.size := heap_lt HFR2.out
  clear h7 fa ra hmw hdo hhas hmn
  have hb0 : (f.mani.whole == d.out) = false := by simpa using hne
  rw [hb0] at heq
  rw [hgo] at HG
  clear hb0 hne hgo
  obtain ⟨mc, hmc⟩ : ∃ y, y = f.mani.cells := ⟨_, rfl⟩
  obtain ⟨wh, hwh⟩ : ∃ y, y = byV f.mani.whole := ⟨_, rfl⟩
  obtain ⟨ou, hou⟩ : ∃ y, y = byV d.out := ⟨_, rfl⟩
  rw [← hmc] at rm mdix
  rw [← hwh] at rw_ dix heq
  rw [← hou] at ro diy heq
  replace HG : Hid (∀ W : World, Calls Tryd.prog 70 #[.agg mc.toArray] W fun e w' => e = .returned (.bool true) ∧ Below W.heap.size W w') := by rw [hmc]; exact HG
  clear hmc hwh hou
  refine wp_region_held_drew (S := fun w' => Below w2.heap.size w2 w') (by kernel_rfl) ((Below.refl _ _).drew) (fun hH0 => ?_)
  obtain ⟨W0, hW0⟩ : ∃ W, W = w2.drew := ⟨_, rfl⟩
  rw [← hW0] at hH0 ⊢
  clear hW0
  refine wpAnyH_take (i := 0) (v := ?_) rfl (by kernel_rfl) (by kernel_rfl) (by kernel_rfl) (fun _ _ _ h => h) (Or.inl ⟨by kernel_rfl, ?_⟩) hH0 ?_
  rotate_left 1
  · intro w hSw
    go_simp
    try with_reducible rfl
  try simp only [Act.put, List.getElem_toArray, List.getElem_cons_zero, List.getElem_cons_succ, List.setIfInBounds_toArray, List.set_cons_zero, List.set_cons_succ]
  refine wpAnyH_take (i := 1) (v := ?_) rfl (by kernel_rfl) (by kernel_rfl) (by kernel_rfl) (fun _ _ _ h => h) (Or.inl ⟨by kernel_rfl, ?_⟩) hH0 ?_
  rotate_left 1
  · intro w hSw
    have f0 := (hSw.cell (p := ⟨p, 68, none⟩) lp).trans x68
    have f1 := (hSw.cell (p := ⟨b, 0, none⟩) lb).trans fk
    go_simp
    try with_reducible rfl
  try simp only [Act.put, List.getElem_toArray, List.getElem_cons_zero, List.getElem_cons_succ, List.setIfInBounds_toArray, List.set_cons_zero, List.set_cons_succ]
  refine wpAnyH_take (i := 2) (v := ?_) rfl (by kernel_rfl) (by kernel_rfl) (by kernel_rfl) (fun _ _ _ h => h) (Or.inl ⟨by kernel_rfl, ?_⟩) hH0 ?_
  rotate_left 1
  · intro w hSw
    go_simp
    try with_reducible rfl
  try simp only [Act.put, List.getElem_toArray, List.getElem_cons_zero, List.getElem_cons_succ, List.setIfInBounds_toArray, List.set_cons_zero, List.set_cons_succ]
  refine wpAnyH_take (i := 3) (v := ?_) rfl (by kernel_rfl) (by kernel_rfl) (by kernel_rfl) (fun _ _ _ h => h) (Or.inl ⟨by kernel_rfl, ?_⟩) hH0 ?_
  rotate_left 1
  · intro w hSw
    go_simp
    try with_reducible rfl
  try simp only [Act.put, List.getElem_toArray, List.getElem_cons_zero, List.getElem_cons_succ, List.setIfInBounds_toArray, List.set_cons_zero, List.set_cons_succ]
  refine wpAnyH_take (i := 4) (v := ?_) rfl (by kernel_rfl) (by kernel_rfl) (by kernel_rfl) (fun _ _ _ h => h) (Or.inl ⟨by kernel_rfl, ?_⟩) hH0 ?_
  rotate_left 1
  · intro w hSw
    go_simp
    try with_reducible rfl
  try simp only [Act.put, List.getElem_toArray, List.getElem_cons_zero, List.getElem_cons_succ, List.setIfInBounds_toArray, List.set_cons_zero, List.set_cons_succ]
  refine wpAnyH_take (i := 5) (v := ?_) rfl (by kernel_rfl) (by kernel_rfl) (by kernel_rfl) (fun _ _ _ h => h) (Or.inl ⟨by kernel_rfl, ?_⟩) hH0 ?_
  rotate_left 1
  · intro w hSw
    go_simp
    try with_reducible rfl
  try simp only [Act.put, List.getElem_toArray, List.getElem_cons_zero, List.getElem_cons_succ, List.setIfInBounds_toArray, List.set_cons_zero, List.set_cons_succ]
  refine wpAnyH_take (i := 6) (v := ?_) rfl (by kernel_rfl) (by kernel_rfl) (by kernel_rfl) (fun _ _ _ h => h) (Or.inl ⟨by kernel_rfl, ?_⟩) hH0 ?_
  rotate_left 1
  · intro w hSw
    go_simp
    try with_reducible rfl
  try simp only [Act.put, List.getElem_toArray, List.getElem_cons_zero, List.getElem_cons_succ, List.setIfInBounds_toArray, List.set_cons_zero, List.set_cons_succ]
  refine wpAnyH_take (i := 7) (v := ?_) rfl (by kernel_rfl) (by kernel_rfl) (by kernel_rfl) (fun _ _ _ h => h) (Or.inl ⟨by kernel_rfl, ?_⟩) hH0 ?_
  rotate_left 1
  · intro w hSw
    have f0 := (hSw.cell (p := ⟨p, 68, none⟩) lp).trans x68
    have f1 := (hSw.cell (p := ⟨b, 0, none⟩) lb).trans fk
    go_simp
    try with_reducible rfl
  try simp only [Act.put, List.getElem_toArray, List.getElem_cons_zero, List.getElem_cons_succ, List.setIfInBounds_toArray, List.set_cons_zero, List.set_cons_succ]
  refine wpAnyH_take (i := 8) (v := ?_) rfl (by kernel_rfl) (by kernel_rfl) (by kernel_rfl) (fun _ _ _ h => h) (Or.inl ⟨by kernel_rfl, ?_⟩) hH0 ?_
  rotate_left 1
  · intro w hSw
    go_simp
    try with_reducible rfl
  try simp only [Act.put, List.getElem_toArray, List.getElem_cons_zero, List.getElem_cons_succ, List.setIfInBounds_toArray, List.set_cons_zero, List.set_cons_succ]
  refine wpAnyH_take (i := 9) (v := ?_) rfl (by kernel_rfl) (by kernel_rfl) (by kernel_rfl) (fun _ _ _ h => h) (Or.inl ⟨by kernel_rfl, ?_⟩) hH0 ?_
  rotate_left 1
  · intro w hSw
    go_simp
    try with_reducible rfl
  try simp only [Act.put, List.getElem_toArray, List.getElem_cons_zero, List.getElem_cons_succ, List.setIfInBounds_toArray, List.set_cons_zero, List.set_cons_succ]
  refine wpAnyH_take (i := 10) (v := ?_) rfl (by kernel_rfl) (by kernel_rfl) (by kernel_rfl) (fun _ _ _ h => h) (Or.inl ⟨by kernel_rfl, ?_⟩) hH0 ?_
  rotate_left 1
  · intro w hSw
    go_simp
    try with_reducible rfl
  try simp only [Act.put, List.getElem_toArray, List.getElem_cons_zero, List.getElem_cons_succ, List.setIfInBounds_toArray, List.set_cons_zero, List.set_cons_succ]
  refine wpAnyH_take (i := 11) (v := ?_) rfl (by kernel_rfl) (by kernel_rfl) (by kernel_rfl) (fun _ _ _ h => h) (Or.inl ⟨by kernel_rfl, ?_⟩) hH0 ?_
  rotate_left 1
  · intro w hSw
    go_simp
    try with_reducible rfl
  try simp only [Act.put, List.getElem_toArray, List.getElem_cons_zero, List.getElem_cons_succ, List.setIfInBounds_toArray, List.set_cons_zero, List.set_cons_succ]
  refine wpAnyH_take (i := 12) (v := _) rfl (by kernel_rfl) (by kernel_rfl) (by kernel_rfl) (fun _ _ _ h => h) (yieldsIf_load_mid (by kernel_rfl) _ _ rfl _ _ rfl mc _ (fun W hW => range_below rm hW lb) mund rfl mdix) hH0 ?_
  try simp only [Act.put, List.getElem_toArray, List.getElem_cons_zero, List.getElem_cons_succ, List.setIfInBounds_toArray, List.set_cons_zero, List.set_cons_succ]
  refine wpAnyH_ready (rs := [13]) (by kernel_rfl) (by simp) ?_
  refine AllReadyH.cons rfl (fun K_ hK => ?_) ?_
  · go_simp
    refine (HG.out W0).mono ?_
    rintro e W1 ⟨rfl, hb1⟩
    refine hK.out _ _ ((hH0).trans (hb1.mono (hH0).size)) (fun hH1 => ?_)
    clear hK K_
    try simp only [Act.put, List.getElem_toArray, List.getElem_cons_zero, List.getElem_cons_succ, List.setIfInBounds_toArray, List.set_cons_zero, List.set_cons_succ]
    refine wpAnyH_take (i := 14) (v := ?_) rfl (by kernel_rfl) (by kernel_rfl) (by kernel_rfl) (fun _ _ _ h => h) (Or.inl ⟨by kernel_rfl, ?_⟩) hH1 ?_
    rotate_left 1
    · intro w hSw
      go_simp
      try with_reducible rfl
    try simp only [Act.put, List.getElem_toArray, List.getElem_cons_zero, List.getElem_cons_succ, List.setIfInBounds_toArray, List.set_cons_zero, List.set_cons_succ]
    refine wpAnyH_take (i := 15) (v := ?_) rfl (by kernel_rfl) (by kernel_rfl) (by kernel_rfl) (fun _ _ _ h => h) (Or.inl ⟨by kernel_rfl, ?_⟩) hH1 ?_
    rotate_left 1
    · intro w hSw
      go_simp
      try with_reducible rfl
    try simp only [Act.put, List.getElem_toArray, List.getElem_cons_zero, List.getElem_cons_succ, List.setIfInBounds_toArray, List.set_cons_zero, List.set_cons_succ]
    refine wpAnyH_take (i := 16) (v := ?_) rfl (by kernel_rfl) (by kernel_rfl) (by kernel_rfl) (fun _ _ _ h => h) (Or.inl ⟨by kernel_rfl, ?_⟩) hH1 ?_
    rotate_left 1
    · intro w hSw
      go_simp
      try with_reducible rfl
    try simp only [Act.put, List.getElem_toArray, List.getElem_cons_zero, List.getElem_cons_succ, List.setIfInBounds_toArray, List.set_cons_zero, List.set_cons_succ]
    refine wpAnyH_take (i := 17) (v := ?_) rfl (by kernel_rfl) (by kernel_rfl) (by kernel_rfl) (fun _ _ _ h => h) (Or.inl ⟨by kernel_rfl, ?_⟩) hH1 ?_
    rotate_left 1
    · intro w hSw
      go_simp
      try with_reducible rfl
    try simp only [Act.put, List.getElem_toArray, List.getElem_cons_zero, List.getElem_cons_succ, List.setIfInBounds_toArray, List.set_cons_zero, List.set_cons_succ]
    refine wpAnyH_take (i := 18) (v := _) rfl (by kernel_rfl) (by kernel_rfl) (by kernel_rfl) (fun _ _ _ h => h) (yieldsIf_load_mid (by kernel_rfl) _ _ rfl _ _ rfl wh _ (fun W hW => range_below rw_ hW lb) dund rfl dix) hH1 ?_
    try simp only [Act.put, List.getElem_toArray, List.getElem_cons_zero, List.getElem_cons_succ, List.setIfInBounds_toArray, List.set_cons_zero, List.set_cons_succ]
    refine wpAnyH_take (i := 19) (v := ?_) rfl (by kernel_rfl) (by kernel_rfl) (by kernel_rfl) (fun _ _ _ h => h) (Or.inl ⟨by kernel_rfl, ?_⟩) hH1 ?_
    rotate_left 1
    · intro w hSw
      go_simp
      try with_reducible rfl
    try simp only [Act.put, List.getElem_toArray, List.getElem_cons_zero, List.getElem_cons_succ, List.setIfInBounds_toArray, List.set_cons_zero, List.set_cons_succ]
    refine wpAnyH_take (i := 20) (v := ?_) rfl (by kernel_rfl) (by kernel_rfl) (by kernel_rfl) (fun _ _ _ h => h) (Or.inl ⟨by kernel_rfl, ?_⟩) hH1 ?_
    rotate_left 1
    · intro w hSw
      go_simp
      try with_reducible rfl
    try simp only [Act.put, List.getElem_toArray, List.getElem_cons_zero, List.getElem_cons_succ, List.setIfInBounds_toArray, List.set_cons_zero, List.set_cons_succ]
    refine wpAnyH_take (i := 21) (v := ?_) rfl (by kernel_rfl) (by kernel_rfl) (by kernel_rfl) (fun _ _ _ h => h) (Or.inl ⟨by kernel_rfl, ?_⟩) hH1 ?_
    rotate_left 1
    · intro w hSw
      go_simp
      try with_reducible rfl
    try simp only [Act.put, List.getElem_toArray, List.getElem_cons_zero, List.getElem_cons_succ, List.setIfInBounds_toArray, List.set_cons_zero, List.set_cons_succ]
    refine wpAnyH_take (i := 22) (v := _) rfl (by kernel_rfl) (by kernel_rfl) (by kernel_rfl) (fun _ _ _ h => h) (yieldsIf_load_mid (by kernel_rfl) _ _ rfl _ _ rfl ou _ (fun W hW => range_below ro hW lp) dund rfl diy) hH1 ?_
    try simp only [Act.put, List.getElem_toArray, List.getElem_cons_zero, List.getElem_cons_succ, List.setIfInBounds_toArray, List.set_cons_zero, List.set_cons_succ]
    refine wpAnyH_take (i := 23) (v := ?_) rfl (by kernel_rfl) (by kernel_rfl) (by kernel_rfl) (fun _ _ _ h => h) (Or.inl ⟨by kernel_rfl, ?_⟩) hH1 ?_
    rotate_left 1
    · intro w hSw
      go_simp
      try with_reducible rfl
    try simp only [Act.put, List.getElem_toArray, List.getElem_cons_zero, List.getElem_cons_succ, List.setIfInBounds_toArray, List.set_cons_zero, List.set_cons_succ]
    refine wpAnyH_take (i := 24) (v := ?_) rfl (by kernel_rfl) (by kernel_rfl) (by kernel_rfl) (fun _ _ _ h => h) (Or.inl ⟨by kernel_rfl, ?_⟩) hH1 ?_
    rotate_left 1
    · intro w hSw
      go_simp
      try with_reducible rfl
    try simp only [Act.put, List.getElem_toArray, List.getElem_cons_zero, List.getElem_cons_succ, List.setIfInBounds_toArray, List.set_cons_zero, List.set_cons_succ]
    refine wpAnyH_done (by kernel_rfl) ?_ _
    have HH := Lib.hid hH1
    have fk3 : W1.cell? ⟨b, 0, none⟩ = some (.int .i64 7) := (HH.out.cell (p := ⟨b, 0, none⟩) lb).trans fk
    obtain ⟨w3, hw3⟩ : ∃ y, y = W1 := ⟨_, rfl⟩
    rw [← hw3] at HH fk3 ⊢
    clear hH1 hw3 fk x68
    go_upto_region 15 with fail
    go_quiet (fail)
    go_wp2_with fail
    (try simp only [Exit.inBlock, Exit.then])
    refine bodyPost_ret (results_tmp rfl _ _ _) rfl ?_
    exact fin.out _ (below_drewN'' (HB2.out.trans (HH.out.mono HB2.out.size)) _)
  exact AllReadyH.nil
end Go.Proofs.YtfbjbhddapoopaaDoor
