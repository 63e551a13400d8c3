/-
  Layer 17 (haul): the walk of Hear: frames of a kind that it does not take, manifests.
-/
import Derived.Test.YtfbjbhddapoopaaDoorHaG
import Derived.Laws.MakeOwn
set_option linter.unusedVariables false
set_option linter.unusedSimpArgs false
namespace Go.Proofs.YtfbjbhddapoopaaDoor
open Go.RowKit
attribute [local go_sem] Lb.ba_get Lb.ba_cut Lb.ba_add Lb.ba_size Lb.take_rest

set_option maxHeartbeats 4000000 in
set_option maxRecDepth 100000 in
theorem hear_other (K : List Int) (p : Nat) (S : List Nat) (d : HlD) (f : FrD) (w : World) (h : HlAt w S p d) (hf : f.Ok w) (hd : d.done = false) (hfl : d.failed = false) (hp : f.from_ = d.peer) (h7 : f.kind ≠ 7) (h8 : f.kind ≠ 8) :
    Calls Tryd.prog 19 #[.pointer (some ⟨p, 0, none⟩), .agg f.row] w (HearPost K w S p d f) := by
  have hh : hearOf K d f = (d, []) := by unfold hearOf Hl.hear; rw [if_neg (by simp [hd, hfl, hp]), if_neg h7, if_neg h8]
  have fin := Lib.hid (fun w' (hb : Below w.heap.size w w') => hear_same (K := K) h hh hb)
  clear hh
  have H := Lib.hid h
  obtain ⟨ok, lt, pS, mv, cv, hm, hx⟩ := h
  have ho := ok.out
  have hB := (Below.refl w.heap.size w).alloc (Nat.le_refl _) (.cells f.row 44)
  have hm1 := below_keep hB hm
  have hfr := heap_alloc_new w (.cells f.row 44)
  obtain ⟨-, -, -, c35, -, -, -, -⟩ := hl_cells ho hm1
  have f1 := (fr_mem hf.fit hfr).from_
  have hop := Lib.hid (fun n => (open_any p d mv cv ((w.alloc (.cells f.row 44)).drewN n) ho hm1).mono fun _ _ h => And.intro h.1 h.2.symm)
  rw [hd, hfl] at hop
  rw [hp] at f1
  have HB := Lib.hid hB
  have HFR := Lib.hid hfr
  have HM1 := Lib.hid hm1
  have OK := Lib.hid ok
  have LT := Lib.hid lt
  have PS := Lib.hid pS
  have HO := Lib.hid ho
  have HX := Lib.hid hx
  have HF := Lib.hid hf
  have HD := Lib.hid hd
  have HFL := Lib.hid hfl
  have HP := Lib.hid hp
  obtain ⟨w1, hw1⟩ : ∃ y, y = w.alloc (.cells f.row 44) := ⟨_, rfl⟩
  obtain ⟨b, hb⟩ : ∃ y, y = w.heap.size := ⟨_, rfl⟩
  obtain ⟨pe, hpe⟩ : ∃ y, y = d.peer := ⟨_, rfl⟩
  go_enter Tryd.func19, Tryd.ntmps19
  go_upto_region 1 with fail
  rw [← hw1] at c35 f1 hop HB HFR HM1 ⊢
  rw [← hb] at f1 HFR ⊢
  rw [← hpe] at c35 f1
  have Hb := Lib.hid hb
  have hb1 : (pe != pe) = false := by simp
  have hb2 : (pe == pe) = true := by simp
  clear hw1 hb hpe hm1 hB hm hf lt pS ok ho hx hfr hd hfl hp
  go_quiet ((go_at_call 60; exact Calls.quiet_of_same (hop.out _)))
  go_upto_region 3 with fail
  have HB2 := Lib.hid (below_drewN'' HB.out nq)
  have HFR2 : Hid ((w1.drewN nq).heap[b]? = some (.cells f.row 44 (0, 0))) := Lib.hid HFR.out
  have HM2 : Hid ((w1.drewN nq).heap[p]? = some (.cells (hlCells d mv cv).toArray 119 (0, 0))) := Lib.hid HM1.out
  obtain ⟨w2, hw2⟩ : ∃ y, y = w1.drewN nq := ⟨_, rfl⟩
  rw [← hw2] at HB2 HFR2 HM2 ⊢
  clear hw2 c35 f1 hop hb1 hb2
  have fa := fr_mem HF.out.fit HFR2.out
  have fk := fa.kind
  obtain ⟨k, hk⟩ : ∃ y, y = f.kind := ⟨_, rfl⟩
  rw [← hk] at fk h7 h8
  have e7 : (k == 7) = false := by simp [h7]
  have e8 : (k == 8) = false := by simp [h8]
  clear hk h7 h8 fa
  go_wp2_with fail
  (try simp only [Exit.inBlock, Exit.then])
  refine bodyPost_ret (results_tmp rfl _ _ _) rfl ?_
  exact fin.out _ HB2.out

theorem made_chunks (n : Nat) : madeCells #[.string ⟨#[]⟩, .bool false, .bool false, .int .i64 0] (n * 4) = (ckCells (List.replicate n ⟨[], false, false, 0⟩)).toArray := by
  apply Array.ext
  · rw [size_madeCells]; simp [ckCells_len]
  · intro i h1 h2
    rw [size_madeCells] at h1
    have hk : i / 4 < n := by omega
    have hg := ckCells_get (List.replicate n ⟨[], false, false, 0⟩) (i / 4) ⟨[], false, false, 0⟩ (i % 4) (by simp [hk]) (by omega)
    have hl : i < (ckCells (List.replicate n ⟨[], false, false, 0⟩)).length := by simpa using h2
    have ei : i / 4 * 4 + i % 4 = i := by omega
    rw [ei, List.getElem?_eq_getElem hl] at hg
    simp only [madeCells, Array.getElem_map, Array.getElem_range, List.getElem_toArray]
    rw [show ((#[Value.string ⟨#[]⟩, .bool false, .bool false, .int .i64 0] : Array Value)).size = 4 from rfl]
    have hi : i % 4 = 0 ∨ i % 4 = 1 ∨ i % 4 = 2 ∨ i % 4 = 3 := by omega
    rcases hi with hi | hi | hi | hi <;> rw [hi] at hg ⊢ <;> (injection hg with hg; rw [hg]; rfl)
theorem mk_chunks (n : Nat) (hn : n ≤ 8) (u : World) : (Instr.makeSlice 117 (.int .i64 n) (.int .i64 n)).run Tryd.prog u = .ok (.slice (some ⟨u.heap.size, 0, none⟩) n n) (u.alloc (.cells (ckCells (List.replicate n ⟨[], false, false, 0⟩)).toArray 125)) := by
  have h := run_makeSlice (P := Tryd.prog) u 117 125 Tryd.t125 (.agg #[.string ⟨#[]⟩, .bool false, .bool false, .int .i64 0]) Tryd.underlying117 (by kernel_rfl) (by kernel_rfl) .i64 .i64 n n (by omega) (by omega) (by show (n : Int).toNat * 4 ≤ _; omega) (by show ((32 : Nat) : Int) * _ ≤ _; omega) (by omega)
  have e := made_chunks n
  rw [← e]
  exact h

set_option maxHeartbeats 4000000 in
set_option maxRecDepth 100000 in
theorem hear_mani_had (K : List Int) (p : Nat) (S : List Nat) (d : HlD) (f : FrD) (w : World) (h : HlAt w S p d) (hf : f.Ok w) (hd : d.done = false) (hfl : d.failed = false) (hp : f.from_ = d.peer) (h7 : f.kind = 7) (hmn : d.mani ≠ none) :
    Calls Tryd.prog 19 #[.pointer (some ⟨p, 0, none⟩), .agg f.row] w (HearPost K w S p d f) := by
  have hh : hearOf K d f = (d, []) := by
    unfold hearOf Hl.hear; rw [if_neg (by simp [hd, hfl, hp]), if_pos h7]
    cases hq : d.mani with
    | none => exact absurd hq hmn
    | some sp => rfl
  have fin := Lib.hid (fun w' (hb : Below w.heap.size w w') => hear_same (K := K) h hh hb)
  clear hh
  have H := Lib.hid h
  obtain ⟨ok, lt, pS, mv, cv, hm, hx⟩ := h
  have ho := ok.out
  have hB := (Below.refl w.heap.size w).alloc (Nat.le_refl _) (.cells f.row 44)
  have hm1 := below_keep hB hm
  have hfr := heap_alloc_new w (.cells f.row 44)
  obtain ⟨-, -, -, c35, -, -, -, -⟩ := hl_cells ho hm1
  have f1 := (fr_mem hf.fit hfr).from_
  have hop := Lib.hid (fun n => (open_any p d mv cv ((w.alloc (.cells f.row 44)).drewN n) ho hm1).mono fun _ _ h => And.intro h.1 h.2.symm)
  rw [hd, hfl] at hop
  rw [hp] at f1
  have HB := Lib.hid hB
  have HFR := Lib.hid hfr
  have HM1 := Lib.hid hm1
  have OK := Lib.hid ok
  have LT := Lib.hid lt
  have PS := Lib.hid pS
  have HO := Lib.hid ho
  have HX := Lib.hid hx
  have HF := Lib.hid hf
  have HD := Lib.hid hd
  have HFL := Lib.hid hfl
  have HP := Lib.hid hp
  obtain ⟨w1, hw1⟩ : ∃ y, y = w.alloc (.cells f.row 44) := ⟨_, rfl⟩
  obtain ⟨b, hb⟩ : ∃ y, y = w.heap.size := ⟨_, rfl⟩
  obtain ⟨pe, hpe⟩ : ∃ y, y = d.peer := ⟨_, rfl⟩
  go_enter Tryd.func19, Tryd.ntmps19
  go_upto_region 1 with fail
  rw [← hw1] at c35 f1 hop HB HFR HM1 ⊢
  rw [← hb] at f1 HFR ⊢
  rw [← hpe] at c35 f1
  have Hb := Lib.hid hb
  have hb1 : (pe != pe) = false := by simp
  have hb2 : (pe == pe) = true := by simp
  clear hw1 hb hpe hm1 hB hm hf lt pS ok ho hx hfr hd hfl hp
  go_quiet ((go_at_call 60; exact Calls.quiet_of_same (hop.out _)))
  go_upto_region 3 with fail
  have HB2 := Lib.hid (below_drewN'' HB.out nq)
  have HFR2 : Hid ((w1.drewN nq).heap[b]? = some (.cells f.row 44 (0, 0))) := Lib.hid HFR.out
  have HM2 : Hid ((w1.drewN nq).heap[p]? = some (.cells (hlCells d mv cv).toArray 119 (0, 0))) := Lib.hid HM1.out
  obtain ⟨w2, hw2⟩ : ∃ y, y = w1.drewN nq := ⟨_, rfl⟩
  rw [← hw2] at HB2 HFR2 HM2 ⊢
  clear hw2 c35 f1 hop hb1 hb2
  have fa := fr_mem HF.out.fit HFR2.out
  have fk := fa.kind
  rw [h7] at fk
  rcases HX.out with hx | ⟨q, c, m, hx⟩
  · exact absurd hx.1 hmn
  have hmv := hx.mv
  subst hmv
  obtain ⟨-, -, -, -, -, c37, -, -⟩ := hl_cells HO.out HM2.out
  clear hx h7 fa hmn HX
  go_upto_region 6 with fail
  go_quiet (fail)
  go_wp2_with fail
  (try simp only [Exit.inBlock, Exit.then])
  refine bodyPost_ret (results_tmp rfl _ _ _) rfl ?_
  exact fin.out _ (below_drewN'' HB2.out _)
end Go.Proofs.YtfbjbhddapoopaaDoor
