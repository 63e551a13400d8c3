/-
  Layer 17 (haul): the walk of Hear: a manifest is taken.
-/
import Derived.Test.YtfbjbhddapoopaaDoorHaI
set_option linter.unusedVariables false
set_option linter.unusedSimpArgs false
namespace Go.Proofs.YtfbjbhddapoopaaDoor
open Go.RowKit
attribute [local go_sem] Lb.ba_get Lb.ba_cut Lb.ba_add Lb.ba_size Lb.take_rest

theorem hl_set37 (d : HlD) (ho : d.out.length = 32) (mv cv u : Value) : (hlCells d mv cv).toArray.setIfInBounds 37 u = (hlCells d u cv).toArray := by
  rw [List.setIfInBounds_toArray]
  congr 1
  unfold hlCells
  rw [List.set_append_right _ _ (by simp), List.set_append_right _ _ (by simp [byV_length, ho])]
  simp [byV_length, ho]
theorem hl_set38 (d : HlD) (ho : d.out.length = 32) (mv cv u : Value) : (hlCells d mv cv).toArray.setIfInBounds 38 u = (hlCells d mv u).toArray := by
  rw [List.setIfInBounds_toArray]
  congr 1
  unfold hlCells
  rw [List.set_append_right _ _ (by simp), List.set_append_right _ _ (by simp [byV_length, ho])]
  simp [byV_length, ho]
theorem mani_set33 (m : ManiD) (hm : m.whole.length = 32) (A : Option Addr) (cap : Nat) : m.row.setIfInBounds 33 (.slice A m.parts.length cap) = ({ m with A := A, cap := cap } : ManiD).row := by
  unfold ManiD.row ManiD.cells
  rw [List.setIfInBounds_toArray, List.set_append_right _ _ (by simp [byV, hm])]
  simp [byV, hm]



theorem Only.lift {S S' : List Nat} {w W w' : World} (h : Only S w W) (k : Only S' W w') (hS : ∀ x ∈ S', x ∈ S ∨ w.heap.size ≤ x) : Only S w w' :=
  ⟨k.os.trans h.os, k.tape.trans h.tape, k.output.trans h.output, Nat.le_trans h.size k.size, fun i hi hn => (k.block i (Nat.lt_of_lt_of_le hi h.size) (fun hm => by rcases hS i hm with h' | h'; exact hn h'; omega)).trans (h.block i hi hn)⟩
theorem ActPost.lift {w W : World} {S S' : List Nat} {p : Nat} {peer : Int} {out : List UInt8} {ats : List Int} {d : HlD} {e : Ending} {w' : World} (h : ActPost W S' p peer out ats d e w') (ho : Only S w W) (hS : ∀ x ∈ S', x ∈ S ∨ w.heap.size ≤ x) : ActPost w S p peer out ats d e w' := by
  obtain ⟨v, S2, rfl, hA, hH, hO, hS2, hap⟩ := h
  refine ⟨v, S2, rfl, Bag0.lower hA ho.size, hH, ho.lift hO hS, fun k hk => ?_, hap⟩
  rcases hS2 k hk with h1 | h1
  · exact hS k h1
  · right; exact Nat.le_trans ho.size h1
def withMani (d : HlD) (f : FrD) : HlD := { d with mani := some (f.mani.size, f.mani.parts), cks := List.replicate f.mani.parts.length ⟨[], false, false, 0⟩ }
def blk (A : Option Addr) : List Nat := match A with | some a => [a.block] | none => []
theorem hl_took {w w6 W : World} {S : List Nat} {p q c n B : Nat} {d : HlD} {f : FrD} {A : Option Addr} {k : Nat} (ok : Hl.Ok d) (lt : ∀ x ∈ S, x < w.heap.size) (pS : p ∈ S) (hww : w.heap.size ≤ w6.heap.size) (hf : f.Ok w)
    (hgo : goodS f.mani.size f.mani.parts.length = true) (hne : f.mani.whole = d.out) (hn : n = f.mani.parts.length) (h8 : n ≤ 8)
    (hM : W.heap[p]? = some (.cells (hlCells d (.pointer (some ⟨q, 0, none⟩)) (.slice (some ⟨c, 0, none⟩) n n)).toArray 119 (0, 0)))
    (hq : w6.heap[q]? = some (.cells ({ f.mani with A := A, cap := k } : ManiD).row 39 (0, 0))) (hC : W.heap[c]? = some (.cells (ckCells (List.replicate n ⟨[], false, false, 0⟩)).toArray 125 (0, 0)))
    (hv : Bag0 w6 B 32 (.slice A n k) n (digCells f.mani.parts)) (hB : w.heap.size ≤ B) (hqn : w.heap.size ≤ q) (hc6 : w6.heap.size ≤ c) (hO : Only [p] w6 W) : HlAt W (S ++ (q :: c :: blk A)) p (withMani d f) := by
  have hpl : p < w.heap.size := lt p pS
  have hql : q < w6.heap.size := heap_lt hq
  have hcl : c < W.heap.size := heap_lt hC
  have hsz := hO.size
  refine ⟨?_, ?_, by simp [pS], _, _, hM, .inr ⟨q, c, { f.mani with A := A, cap := k }, ⟨rfl, hne, rfl, ?_, hO.keep hq (by simp; omega), ?_, by simp, by simp, by omega, by omega, by omega, ?_⟩⟩⟩
  · exact { ok with
      len := by show (List.replicate _ _).length ≤ 8; simp; omega
      none := fun h => by cases h
      some := fun sp h => by
        obtain rfl := Option.some.inj h
        exact ⟨hgo, by simp [withMani], hf.mani.each⟩
      asked := fun x hx => by obtain rfl := (List.mem_replicate.1 hx).2; exact ⟨Int.le_refl _, by show (0 : Int) ≤ 15; decide⟩
      data := fun x hx => by obtain rfl := (List.mem_replicate.1 hx).2; exact Nat.zero_le _ }
  · intro x hx
    rcases List.mem_append.1 hx with h | h
    · have := lt x h; omega
    · simp only [List.mem_cons] at h
      rcases h with rfl | rfl | h
      · omega
      · exact hcl
      · unfold blk at h
        cases A with
        | none => cases h
        | some a =>
          simp only [List.mem_singleton] at h
          subst h
          rcases hv with ⟨h1, -, -⟩ | ⟨g, cap, h1, -, hb⟩
          · cases h1
          · injection h1 with e1
            injection e1 with e1
            subst e1
            exact Nat.lt_of_lt_of_le hb.lt hsz
  · simp [withMani, hn]
  · show W.heap[c]? = some (.cells (ckCells (List.replicate f.mani.parts.length ⟨[], false, false, 0⟩)).toArray _ _)
    rw [← hn]; exact hC
  · intro i hi
    rcases hv with ⟨-, h2, -⟩ | ⟨g, cap, h1, hgB, hb⟩
    · have : i < f.mani.parts.length := hi
      omega
    · injection h1 with e1 e2 e3
      subst e1
      refine ⟨g, 0, rfl, by simp [blk], by simp; have := hb.lt; omega, fun j v hj => ?_⟩
      have hr : w6.cell? ⟨g, 0 + i * 32 + j, none⟩ = some v := by
        rw [Nat.zero_add]
        exact hb.holds _ _ (flat_get f.mani.parts hf.mani.each i hi j v hj)
      exact (hO.cell (p := ⟨g, 0 + i * 32 + j, none⟩) hb.lt (by simp; omega)).trans hr

set_option maxHeartbeats 4000000 in
set_option maxRecDepth 100000 in
theorem hear_mani_yes (K : List Int) (p : Nat) (S : List Nat) (d : HlD) (f : FrD) (w : World) (h : HlAt w S p d) (hf : f.Ok w) (hd : d.done = false) (hfl : d.failed = false) (hp : f.from_ = d.peer) (h7 : f.kind = 7) (hmn : d.mani = none) (hgo : goodS f.mani.size f.mani.parts.length = true) (hne : f.mani.whole = d.out) (hL : Laid K w) (h0S : 0 ∉ S) :
    Calls Tryd.prog 19 #[.pointer (some ⟨p, 0, none⟩), .agg f.row] w (HearPost K w S p d f) := by
  have hh : hearOf K d f = Hl.settle K { d with mani := some (f.mani.size, f.mani.parts), cks := List.replicate f.mani.parts.length ⟨[], false, false, 0⟩ } (f.mani.size, f.mani.parts) := by
    unfold hearOf Hl.hear; rw [if_neg (by simp [hd, hfl, hp]), if_pos h7, hmn]
    simp only
    rw [if_pos ⟨hgo, hne⟩]
  have HH0 := Lib.hid hh
  have HL := Lib.hid hL
  have Hgo := Lib.hid hgo
  have Hne := Lib.hid hne
  have H0S := Lib.hid h0S
  clear hh hL h0S
  have H := Lib.hid h
  obtain ⟨ok, lt, pS, mv, cv, hm, hx⟩ := h
  have ho := ok.out
  have hB := (Below.refl w.heap.size w).alloc (Nat.le_refl _) (.cells f.row 44)
  have hm1 := below_keep hB hm
  have hfr := heap_alloc_new w (.cells f.row 44)
  obtain ⟨-, -, -, c35, -, -, -, -⟩ := hl_cells ho hm1
  have f1 := (fr_mem hf.fit hfr).from_
  have hop := Lib.hid (fun n => (open_any p d mv cv ((w.alloc (.cells f.row 44)).drewN n) ho hm1).mono fun _ _ h => And.intro h.1 h.2.symm)
  rw [hd, hfl] at hop
  rw [hp] at f1
  have HB := Lib.hid hB
  have HFR := Lib.hid hfr
  have HM1 := Lib.hid hm1
  have OK := Lib.hid ok
  have LT := Lib.hid lt
  have PS := Lib.hid pS
  have HO := Lib.hid ho
  have HX := Lib.hid hx
  have HF := Lib.hid hf
  have HD := Lib.hid hd
  have HFL := Lib.hid hfl
  have HP := Lib.hid hp
  obtain ⟨w1, hw1⟩ : ∃ y, y = w.alloc (.cells f.row 44) := ⟨_, rfl⟩
  obtain ⟨b, hb⟩ : ∃ y, y = w.heap.size := ⟨_, rfl⟩
  obtain ⟨pe, hpe⟩ : ∃ y, y = d.peer := ⟨_, rfl⟩
  go_enter Tryd.func19, Tryd.ntmps19
  go_upto_region 1 with fail
  rw [← hw1] at c35 f1 hop HB HFR HM1 ⊢
  rw [← hb] at f1 HFR ⊢
  rw [← hpe] at c35 f1
  have Hb := Lib.hid hb
  have hb1 : (pe != pe) = false := by simp
  have hb2 : (pe == pe) = true := by simp
  clear hw1 hb hpe hm1 hB hm hf lt pS ok ho hx hfr hd hfl hp
  go_quiet ((go_at_call 60; exact Calls.quiet_of_same (hop.out _)))
  go_upto_region 3 with fail
  have HB2 := Lib.hid (below_drewN'' HB.out nq)
  have HFR2 : Hid ((w1.drewN nq).heap[b]? = some (.cells f.row 44 (0, 0))) := Lib.hid HFR.out
  have HM2 : Hid ((w1.drewN nq).heap[p]? = some (.cells (hlCells d mv cv).toArray 119 (0, 0))) := Lib.hid HM1.out
  obtain ⟨w2, hw2⟩ : ∃ y, y = w1.drewN nq := ⟨_, rfl⟩
  rw [← hw2] at HB2 HFR2 HM2 ⊢
  clear hw2 c35 f1 hop hb1 hb2
  have fa := fr_mem HF.out.fit HFR2.out
  have fk := fa.kind
  rw [h7] at fk
  have hx : NoMani d mv cv := by
    rcases HX.out with hx | ⟨q, c, m, hx⟩
    · exact hx
    · have e := hx.mani; rw [hmn] at e; cases e
  obtain ⟨-, rfl, rfl⟩ := hx
  obtain ⟨-, -, -, -, -, c37, -, ro⟩ := hl_cells HO.out HM2.out
  have rm := fa.mani
  have rw_ := fa.whole
  have hmw := HF.out.fit.lm
  have mdix : (Tryd.prog.info? 39).map (·.size) = some f.mani.cells.length := by rw [mani_info, mani_cells_len f.mani hmw]
  have mund := Tryd.underlying39
  have dund := Tryd.underlying23
  have dix : (Tryd.prog.info? 23).map (·.size) = some (byV f.mani.whole).length := by rw [dig_info, byV_length, hmw]
  have diy : (Tryd.prog.info? 23).map (·.size) = some (byV d.out).length := by rw [dig_info, byV_length, HO.out]
  have HG := Lib.hid (fun W => good_any f.mani W hmw HF.out.mani.lo HF.out.mani.hi HF.out.mani.len)
  have heq : ∀ W : World, (Op.equalIn 10000 23 (.agg (byV f.mani.whole).toArray) (.agg (byV d.out).toArray)).run Tryd.prog W = .ok (f.mani.whole == d.out) W := fun W => eqIn_dig W f.mani.whole d.out hmw HO.out
  have lp : p < w2.heap.size := heap_lt HM2.out
  have lb : b < w2.heap.size := heap_lt HFR2.out
  clear HX h7 fa hmw hmn
  have hb0 : (f.mani.whole == d.out) = true := by simp [hne]
  rw [hb0] at heq
  rw [hgo] at HG
  have hg8 : f.mani.parts.length ≤ 8 := by
    have := hgo
    unfold goodS at this
    simp only [decide_eq_true_eq] at this
    omega
  clear hb0 hne hgo
  go_upto_region 6 with fail
  obtain ⟨mc, hmc⟩ : ∃ y, y = f.mani.cells := ⟨_, rfl⟩
  obtain ⟨wh, hwh⟩ : ∃ y, y = byV f.mani.whole := ⟨_, rfl⟩
  obtain ⟨ou, hou⟩ : ∃ y, y = byV d.out := ⟨_, rfl⟩
  rw [← hmc] at rm mdix
  rw [← hwh] at rw_ dix heq
  rw [← hou] at ro diy heq
  replace HG : Hid (∀ W : World, Calls Tryd.prog 67 #[.agg mc.toArray] W fun e w' => e = .returned (.bool true) ∧ Below W.heap.size W w') := by rw [hmc]; exact HG
  have Hmc := Lib.hid hmc
  clear hmc hwh hou
  refine wp_region_held_drew (S := fun w' => Below w2.heap.size w2 w') (by kernel_rfl) ((Below.refl _ _).drew) (fun hH0 => ?_)
  obtain ⟨W0, hW0⟩ : ∃ W, W = w2.drew := ⟨_, rfl⟩
  rw [← hW0] at hH0 ⊢
  clear hW0
  refine wpAnyH_take (i := 0) (v := ?_) rfl (by kernel_rfl) (by kernel_rfl) (by kernel_rfl) (fun _ _ _ h => h) (Or.inl ⟨by kernel_rfl, ?_⟩) hH0 ?_
  rotate_left 1
  · intro w hSw
    go_simp
    try with_reducible rfl
  try simp only [Act.put, List.getElem_toArray, List.getElem_cons_zero, List.getElem_cons_succ, List.setIfInBounds_toArray, List.set_cons_zero, List.set_cons_succ]
  refine wpAnyH_take (i := 1) (v := ?_) rfl (by kernel_rfl) (by kernel_rfl) (by kernel_rfl) (fun _ _ _ h => h) (Or.inl ⟨by kernel_rfl, ?_⟩) hH0 ?_
  rotate_left 1
  · intro w hSw
    go_simp
    try with_reducible rfl
  try simp only [Act.put, List.getElem_toArray, List.getElem_cons_zero, List.getElem_cons_succ, List.setIfInBounds_toArray, List.set_cons_zero, List.set_cons_succ]
  refine wpAnyH_take (i := 2) (v := ?_) rfl (by kernel_rfl) (by kernel_rfl) (by kernel_rfl) (fun _ _ _ h => h) (Or.inl ⟨by kernel_rfl, ?_⟩) hH0 ?_
  rotate_left 1
  · intro w hSw
    go_simp
    try with_reducible rfl
  try simp only [Act.put, List.getElem_toArray, List.getElem_cons_zero, List.getElem_cons_succ, List.setIfInBounds_toArray, List.set_cons_zero, List.set_cons_succ]
  refine wpAnyH_take (i := 3) (v := ?_) rfl (by kernel_rfl) (by kernel_rfl) (by kernel_rfl) (fun _ _ _ h => h) (Or.inl ⟨by kernel_rfl, ?_⟩) hH0 ?_
  rotate_left 1
  · intro w hSw
    have f0 := (hSw.cell (p := ⟨p, 37, none⟩) lp).trans c37
    go_simp
    try with_reducible rfl
  try simp only [Act.put, List.getElem_toArray, List.getElem_cons_zero, List.getElem_cons_succ, List.setIfInBounds_toArray, List.set_cons_zero, List.set_cons_succ]
  refine wpAnyH_take (i := 4) (v := ?_) rfl (by kernel_rfl) (by kernel_rfl) (by kernel_rfl) (fun _ _ _ h => h) (Or.inl ⟨by kernel_rfl, ?_⟩) hH0 ?_
  rotate_left 1
  · intro w hSw
    go_simp
    try with_reducible rfl
  try simp only [Act.put, List.getElem_toArray, List.getElem_cons_zero, List.getElem_cons_succ, List.setIfInBounds_toArray, List.set_cons_zero, List.set_cons_succ]
  refine wpAnyH_take (i := 5) (v := ?_) rfl (by kernel_rfl) (by kernel_rfl) (by kernel_rfl) (fun _ _ _ h => h) (Or.inl ⟨by kernel_rfl, ?_⟩) hH0 ?_
  rotate_left 1
  · intro w hSw
    go_simp
    try with_reducible rfl
  try simp only [Act.put, List.getElem_toArray, List.getElem_cons_zero, List.getElem_cons_succ, List.setIfInBounds_toArray, List.set_cons_zero, List.set_cons_succ]
  refine wpAnyH_take (i := 6) (v := ?_) rfl (by kernel_rfl) (by kernel_rfl) (by kernel_rfl) (fun _ _ _ h => h) (Or.inl ⟨by kernel_rfl, ?_⟩) hH0 ?_
  rotate_left 1
  · intro w hSw
    go_simp
    try with_reducible rfl
  try simp only [Act.put, List.getElem_toArray, List.getElem_cons_zero, List.getElem_cons_succ, List.setIfInBounds_toArray, List.set_cons_zero, List.set_cons_succ]
  refine wpAnyH_take (i := 7) (v := _) rfl (by kernel_rfl) (by kernel_rfl) (by kernel_rfl) (fun _ _ _ h => h) (yieldsIf_load_mid (by kernel_rfl) _ _ rfl _ _ rfl mc _ (fun W hW => range_below rm hW lb) mund rfl mdix) hH0 ?_
  try simp only [Act.put, List.getElem_toArray, List.getElem_cons_zero, List.getElem_cons_succ, List.setIfInBounds_toArray, List.set_cons_zero, List.set_cons_succ]
  refine wpAnyH_ready (rs := [8]) (by kernel_rfl) (by simp) ?_
  refine AllReadyH.cons rfl (fun K_ hK => ?_) ?_
  · go_simp
    refine (HG.out W0).mono ?_
    rintro e W1 ⟨rfl, hb1⟩
    refine hK.out _ _ ((hH0).trans (hb1.mono (hH0).size)) (fun hH1 => ?_)
    clear hK K_
    try simp only [Act.put, List.getElem_toArray, List.getElem_cons_zero, List.getElem_cons_succ, List.setIfInBounds_toArray, List.set_cons_zero, List.set_cons_succ]
    refine wpAnyH_take (i := 9) (v := ?_) rfl (by kernel_rfl) (by kernel_rfl) (by kernel_rfl) (fun _ _ _ h => h) (Or.inl ⟨by kernel_rfl, ?_⟩) hH1 ?_
    rotate_left 1
    · intro w hSw
      go_simp
      try with_reducible rfl
    try simp only [Act.put, List.getElem_toArray, List.getElem_cons_zero, List.getElem_cons_succ, List.setIfInBounds_toArray, List.set_cons_zero, List.set_cons_succ]
    refine wpAnyH_take (i := 10) (v := ?_) rfl (by kernel_rfl) (by kernel_rfl) (by kernel_rfl) (fun _ _ _ h => h) (Or.inl ⟨by kernel_rfl, ?_⟩) hH1 ?_
    rotate_left 1
    · intro w hSw
      go_simp
      try with_reducible rfl
    try simp only [Act.put, List.getElem_toArray, List.getElem_cons_zero, List.getElem_cons_succ, List.setIfInBounds_toArray, List.set_cons_zero, List.set_cons_succ]
    refine wpAnyH_take (i := 11) (v := ?_) rfl (by kernel_rfl) (by kernel_rfl) (by kernel_rfl) (fun _ _ _ h => h) (Or.inl ⟨by kernel_rfl, ?_⟩) hH1 ?_
    rotate_left 1
    · intro w hSw
      go_simp
      try with_reducible rfl
    try simp only [Act.put, List.getElem_toArray, List.getElem_cons_zero, List.getElem_cons_succ, List.setIfInBounds_toArray, List.set_cons_zero, List.set_cons_succ]
    refine wpAnyH_take (i := 12) (v := ?_) rfl (by kernel_rfl) (by kernel_rfl) (by kernel_rfl) (fun _ _ _ h => h) (Or.inl ⟨by kernel_rfl, ?_⟩) hH1 ?_
    rotate_left 1
    · intro w hSw
      go_simp
      try with_reducible rfl
    try simp only [Act.put, List.getElem_toArray, List.getElem_cons_zero, List.getElem_cons_succ, List.setIfInBounds_toArray, List.set_cons_zero, List.set_cons_succ]
    refine wpAnyH_take (i := 13) (v := ?_) rfl (by kernel_rfl) (by kernel_rfl) (by kernel_rfl) (fun _ _ _ h => h) (Or.inl ⟨by kernel_rfl, ?_⟩) hH1 ?_
    rotate_left 1
    · intro w hSw
      go_simp
      try with_reducible rfl
    try simp only [Act.put, List.getElem_toArray, List.getElem_cons_zero, List.getElem_cons_succ, List.setIfInBounds_toArray, List.set_cons_zero, List.set_cons_succ]
    refine wpAnyH_take (i := 14) (v := _) rfl (by kernel_rfl) (by kernel_rfl) (by kernel_rfl) (fun _ _ _ h => h) (yieldsIf_load_mid (by kernel_rfl) _ _ rfl _ _ rfl wh _ (fun W hW => range_below rw_ hW lb) dund rfl dix) hH1 ?_
    try simp only [Act.put, List.getElem_toArray, List.getElem_cons_zero, List.getElem_cons_succ, List.setIfInBounds_toArray, List.set_cons_zero, List.set_cons_succ]
    refine wpAnyH_take (i := 15) (v := ?_) rfl (by kernel_rfl) (by kernel_rfl) (by kernel_rfl) (fun _ _ _ h => h) (Or.inl ⟨by kernel_rfl, ?_⟩) hH1 ?_
    rotate_left 1
    · intro w hSw
      go_simp
      try with_reducible rfl
    try simp only [Act.put, List.getElem_toArray, List.getElem_cons_zero, List.getElem_cons_succ, List.setIfInBounds_toArray, List.set_cons_zero, List.set_cons_succ]
    refine wpAnyH_take (i := 16) (v := ?_) rfl (by kernel_rfl) (by kernel_rfl) (by kernel_rfl) (fun _ _ _ h => h) (Or.inl ⟨by kernel_rfl, ?_⟩) hH1 ?_
    rotate_left 1
    · intro w hSw
      go_simp
      try with_reducible rfl
    try simp only [Act.put, List.getElem_toArray, List.getElem_cons_zero, List.getElem_cons_succ, List.setIfInBounds_toArray, List.set_cons_zero, List.set_cons_succ]
    refine wpAnyH_take (i := 17) (v := ?_) rfl (by kernel_rfl) (by kernel_rfl) (by kernel_rfl) (fun _ _ _ h => h) (Or.inl ⟨by kernel_rfl, ?_⟩) hH1 ?_
    rotate_left 1
    · intro w hSw
      go_simp
      try with_reducible rfl
    try simp only [Act.put, List.getElem_toArray, List.getElem_cons_zero, List.getElem_cons_succ, List.setIfInBounds_toArray, List.set_cons_zero, List.set_cons_succ]
    refine wpAnyH_take (i := 18) (v := _) rfl (by kernel_rfl) (by kernel_rfl) (by kernel_rfl) (fun _ _ _ h => h) (yieldsIf_load_mid (by kernel_rfl) _ _ rfl _ _ rfl ou _ (fun W hW => range_below ro hW lp) dund rfl diy) hH1 ?_
    try simp only [Act.put, List.getElem_toArray, List.getElem_cons_zero, List.getElem_cons_succ, List.setIfInBounds_toArray, List.set_cons_zero, List.set_cons_succ]
    refine wpAnyH_take (i := 19) (v := ?_) rfl (by kernel_rfl) (by kernel_rfl) (by kernel_rfl) (fun _ _ _ h => h) (Or.inl ⟨by kernel_rfl, ?_⟩) hH1 ?_
    rotate_left 1
    · intro w hSw
      go_simp
      try with_reducible rfl
    try simp only [Act.put, List.getElem_toArray, List.getElem_cons_zero, List.getElem_cons_succ, List.setIfInBounds_toArray, List.set_cons_zero, List.set_cons_succ]
    refine wpAnyH_take (i := 20) (v := ?_) rfl (by kernel_rfl) (by kernel_rfl) (by kernel_rfl) (fun _ _ _ h => h) (Or.inl ⟨by kernel_rfl, ?_⟩) hH1 ?_
    rotate_left 1
    · intro w hSw
      go_simp
      try with_reducible rfl
    try simp only [Act.put, List.getElem_toArray, List.getElem_cons_zero, List.getElem_cons_succ, List.setIfInBounds_toArray, List.set_cons_zero, List.set_cons_succ]
    refine wpAnyH_done (by kernel_rfl) ?_ _
    have HW : Hid (Below w2.heap.size w2 W1) := Lib.hid hH1
    obtain ⟨w3, hw3⟩ : ∃ y, y = W1 := ⟨_, rfl⟩
    rw [← hw3] at HW ⊢
    clear hH1 hw3
    have rm3 := range_below rm HW.out lb
    have HM3 := Lib.hid (below_keep HW.out HM2.out)
    have HB3 := Lib.hid (HB2.out.trans (HW.out.mono HB2.out.size))
    have hmr : mc.toArray = f.mani.row := by rw [Hmc.out]; rfl
    have hms : f.mani.row.size = 34 := f.mani.row_size HF.out.fit.lm
    have minf : (Tryd.prog.info? 39).map (·.size) = some mc.toArray.size := by rw [hmr, hms]; exact mani_info
    have mone : mc.toArray.all (·.oneCell') = true := by rw [hmr]; exact f.mani.row_one
    have msz : mc.toArray.size = 34 := by rw [hmr, hms]
    have Hmr := Lib.hid hmr
    clear rm rw_ ro heq HG c37 fk HM2 hmr hms
    go_upto_region 9 with (first
      | (refine wpList_load_mid rfl 39 _ rfl b 200 rfl mc _ rm3 mund rfl mdix ?_)
      | (refine wpList_store_row rfl 39 _ _ rfl w3.heap.size mc.toArray rfl rfl 39 _ (heap_alloc_new w3 _) minf (by rw [msz]; rfl) mone ?_))
    show Code.wp _ _ _ _ ((w3.alloc (.cells zeroMani.row 39)).setRow w3.heap.size mc.toArray)
    have hq4 := setRow_heap _ _ _ mc.toArray _ _ (heap_alloc_new w3 (.cells zeroMani.row 39))
    have hB4 : Below w3.heap.size w3 ((w3.alloc (.cells zeroMani.row 39)).setRow w3.heap.size mc.toArray) := (Only.below (((Only.refl [w3.heap.size] w3).alloc _).setRow (by simp) _) (Nat.le_refl _) (by simp))
    obtain ⟨q, hq⟩ : ∃ q, q = w3.heap.size := ⟨_, rfl⟩
    obtain ⟨w4, hw4⟩ : ∃ y, y = ((w3.alloc (.cells zeroMani.row 39)).setRow w3.heap.size mc.toArray) := ⟨_, rfl⟩
    rw [← hw4] at hq4 hB4 ⊢
    rw [← hq] at hq4 ⊢
    rw [Hmr.out] at hq4
    have q33 : w4.cell? ⟨q, 33, none⟩ = some (.slice f.mani.A f.mani.parts.length f.mani.cap) := by rw [Lib.cell_of_heap hq4]; exact f.mani.at33 HF.out.fit.lm
    have HB4 := Lib.hid (HB3.out.trans (hB4.mono HB3.out.size))
    have hM4 := below_keep hB4 HM3.out
    have hok4 := HF.out.mani.digs.below HB4.out (Nat.le_refl _) |>.more HB4.out.size
    have hcl := Lib.hid (clone_any f.mani.A f.mani.cap f.mani.parts w4 hok4 HF.out.mani.each (by omega))
    have HM4 := Lib.hid hM4
    have Hq4 := Lib.hid hq4
    have Hq := Lib.hid hq
    have hpq : p < q := by rw [hq]; exact heap_lt HM3.out
    have lq4 : q < w4.heap.size := heap_lt hq4
    clear hw4 hq4 hB4 hok4 hM4 rm3 minf mone msz mdix hq HM3
    go_wp2_with fail
    refine hcl.out.mono ?_
    rintro e w5 ⟨v, rfl, hv, hB5⟩
    obtain ⟨A5, k5, rfl, -, -⟩ := Bag0.shape hv
    have hq5 := below_keep hB5 Hq4.out
    have q33 : w5.cell? ⟨q, 33, none⟩ = some (.slice f.mani.A f.mani.parts.length f.mani.cap) := by rw [Lib.cell_of_heap hq5]; exact f.mani.at33 HF.out.fit.lm
    have z33 : w5.frozen? ⟨q, 33, none⟩ = false := Lib.frozen_of_heap hq5 _
    have Hq5 := Lib.hid hq5
    have Hv := Lib.hid hv
    have HM5 := Lib.hid (below_keep hB5 HM4.out)
    have HB5 := Lib.hid (HB4.out.trans (hB5.mono HB4.out.size))
    have lq5 : w4.heap.size ≤ w5.heap.size := hB5.size
    clear hq5 hv hcl HM4 Hq4 hB5
    go_upto_region 10 with fail
    have hq6 := heap_setCell_same _ q 33 _ _ (.slice A5 f.mani.parts.length k5) Hq5.out
    rw [mani_set33 f.mani HF.out.fit.lm] at hq6
    have hO6 : Only [q] w5 (w5.setCell ⟨q, 33, none⟩ (.slice A5 f.mani.parts.length k5)) := (Only.refl _ _).setCell (by simp) _
    obtain ⟨m, hm'⟩ : ∃ m, m = ({ f.mani with A := A5, cap := k5 } : ManiD) := ⟨_, rfl⟩
    obtain ⟨w6, hw6⟩ : ∃ y, y = w5.setCell ⟨q, 33, none⟩ (.slice A5 f.mani.parts.length k5) := ⟨_, rfl⟩
    rw [← hw6] at hq6 hO6 ⊢
    rw [← hm'] at hq6
    have Hm' := Lib.hid hm'
    obtain ⟨n, hn⟩ : ∃ n, n = f.mani.parts.length := ⟨_, rfl⟩
    have Hn := Lib.hid hn
    rw [← hn] at hg8 Hv ⊢
    have q33 : w6.cell? ⟨q, 33, none⟩ = some (.slice A5 n k5) := by rw [Lib.cell_of_heap hq6, hm', hn]; exact ManiD.at33 _ HF.out.fit.lm
    have hqb : w.heap.size ≤ q := by rw [Hq.out]; exact HB3.out.size
    have hB6 : Below w.heap.size w w6 := HB5.out.trans (hO6.below HB5.out.size (by simp; exact hqb))
    have hM := Lib.hid (hO6.keep HM5.out (by simp; omega))
    have lq : q < w6.heap.size := heap_lt hq6
    have hv6 := Bag0.only Hv.out hO6 (by simp; exact lq4)
    have HB6 := Lib.hid hB6
    have Hq6 := Lib.hid hq6
    have Hv6 := Lib.hid hv6
    have hmk := mk_chunks n hg8
    obtain ⟨CK, hCK⟩ : ∃ y, y = (ckCells (List.replicate n ⟨[], false, false, 0⟩)).toArray := ⟨_, rfl⟩
    rw [← hCK] at hmk
    have HCK := Lib.hid hCK
    have lp6 : p < w6.heap.size := heap_lt hM.out
    have hqp : q ∉ [p] := by simp; omega
    have n8 : (n : Int) ≤ 8 := by omega
    clear hq6 hO6 hm' hn hw6 hB6 hv6 hCK z33 Hq5 Hv HM5
    refine wp_region_held_drew (S := fun w' => Only [p] w6 w') (by kernel_rfl) ((Only.refl _ _).drew) (fun hH0 => ?_)
    obtain ⟨W0, hW0⟩ : ∃ W, W = w6.drew := ⟨_, rfl⟩
    have hM : Hid (W0.heap[p]? = some (.cells (hlCells d (.pointer none) (.slice none 0 0)).toArray 119 (0, 0))) := Lib.hid (by rw [hW0]; exact hM.out)
    rw [← hW0] at hH0 ⊢
    clear hW0
    refine wpAnyH_take (i := 0) (v := ?_) rfl (by kernel_rfl) (by kernel_rfl) (by kernel_rfl) (fun _ _ _ h => h) (Or.inl ⟨by kernel_rfl, ?_⟩) hH0 ?_
    rotate_left 1
    · intro w hSw
      go_simp
      try with_reducible rfl
    try simp only [Act.put, List.getElem_toArray, List.getElem_cons_zero, List.getElem_cons_succ, List.setIfInBounds_toArray, List.set_cons_zero, List.set_cons_succ]
    refine wpAnyH_take (i := 1) (v := ?_) rfl (by kernel_rfl) (by kernel_rfl) (by kernel_rfl) (fun _ _ _ h => h) (Or.inl ⟨by kernel_rfl, ?_⟩) hH0 ?_
    rotate_left 1
    · intro w hSw
      go_simp
      try with_reducible rfl
    try simp only [Act.put, List.getElem_toArray, List.getElem_cons_zero, List.getElem_cons_succ, List.setIfInBounds_toArray, List.set_cons_zero, List.set_cons_succ]
    refine wpAnyH_take (i := 2) (v := ?_) rfl (by kernel_rfl) (by kernel_rfl) (by kernel_rfl) (fun _ _ _ h => h) (Or.inl ⟨by kernel_rfl, ?_⟩) hH0 ?_
    rotate_left 1
    · intro w hSw
      go_simp
      try with_reducible rfl
    try simp only [Act.put, List.getElem_toArray, List.getElem_cons_zero, List.getElem_cons_succ, List.setIfInBounds_toArray, List.set_cons_zero, List.set_cons_succ]
    refine wpAnyH_take (i := 3) (v := ?_) rfl (by kernel_rfl) (by kernel_rfl) (by kernel_rfl) (fun _ _ _ h => h) (Or.inl ⟨by kernel_rfl, ?_⟩) hH0 ?_
    rotate_left 1
    · intro w hSw
      have f0 := (hSw.cell (p := ⟨q, 33, none⟩) lq hqp).trans q33
      go_simp
      try with_reducible rfl
    try simp only [Act.put, List.getElem_toArray, List.getElem_cons_zero, List.getElem_cons_succ, List.setIfInBounds_toArray, List.set_cons_zero, List.set_cons_succ]
    refine wpAnyH_take (i := 4) (v := ?_) rfl (by kernel_rfl) (by kernel_rfl) (by kernel_rfl) (fun _ _ _ h => h) (Or.inl ⟨by kernel_rfl, ?_⟩) hH0 ?_
    rotate_left 1
    · intro w hSw
      go_simp
      try with_reducible rfl
    try simp only [Act.put, List.getElem_toArray, List.getElem_cons_zero, List.getElem_cons_succ, List.setIfInBounds_toArray, List.set_cons_zero, List.set_cons_succ]
    refine wpAnyH_take (i := 6) (v := ?_) rfl (by kernel_rfl) (by kernel_rfl) (by kernel_rfl) (fun _ _ _ h => h) (Or.inl ⟨by kernel_rfl, ?_⟩) hH0 ?_
    rotate_left 1
    · intro w hSw
      go_simp
      try with_reducible rfl
    try simp only [Act.put, List.getElem_toArray, List.getElem_cons_zero, List.getElem_cons_succ, List.setIfInBounds_toArray, List.set_cons_zero, List.set_cons_succ]
    refine wpAnyH_take (i := 7) (v := ?_) rfl (by kernel_rfl) (by kernel_rfl) (by kernel_rfl) (fun _ _ _ h => h) (Or.inl ⟨by kernel_rfl, ?_⟩) hH0 ?_
    rotate_left 1
    · intro w hSw
      go_simp
      try with_reducible rfl
    try simp only [Act.put, List.getElem_toArray, List.getElem_cons_zero, List.getElem_cons_succ, List.setIfInBounds_toArray, List.set_cons_zero, List.set_cons_succ]
    refine wpAnyH_ready (rs := [5, 8]) (by kernel_rfl) (by simp) ?_
    refine AllReadyH.cons rfl (fun K_ hK => ?_) ?_
    · go_simp
      have hA1 := heap_alloc_new W0 (.cells CK 125)
      have hM := Lib.hid (below_keep ((Below.refl W0.heap.size W0).alloc (Nat.le_refl _) (.cells CK 125)) hM.out)
      have hO1 : Only [p] w6 (W0.alloc (.cells CK 125)) := (hH0).alloc _
      have hcp : w6.heap.size ≤ W0.heap.size := (hH0).size
      obtain ⟨c, hc1⟩ : ∃ c, c = W0.heap.size := ⟨_, rfl⟩
      obtain ⟨W1, hW1⟩ : ∃ y, y = W0.alloc (.cells CK 125) := ⟨_, rfl⟩
      rw [← hW1] at hA1 hM hO1 ⊢
      rw [← hc1] at hA1 hcp ⊢
      have HC := Lib.hid hA1
      clear hW1 hc1 hA1
      refine hK.out _ _ hO1 (fun hH1 => ?_)
      clear hK K_
      try simp only [Act.put, List.getElem_toArray, List.getElem_cons_zero, List.getElem_cons_succ, List.setIfInBounds_toArray, List.set_cons_zero, List.set_cons_succ]
      refine wpAnyH_ready (rs := [8]) (by kernel_rfl) (by simp) ?_
      refine AllReadyH.cons rfl (fun K_ hK => ?_) ?_
      · have hM0 := hM.out
        have z37 : W1.frozen? ⟨p, 37, none⟩ = false := Lib.frozen_of_heap hM0 _
        have c37 := (hl_cells HO.out hM0).2.2.2.2.2.1
        clear hM0
        go_simp
        have hM1 := heap_setCell_same _ p 37 _ _ (.pointer (some ⟨q, 0, none⟩)) hM.out
        rw [hl_set37 d HO.out] at hM1
        have hP2 : Only [p] W1 (W1.setCell ⟨p, 37, none⟩ (.pointer (some ⟨q, 0, none⟩))) := (Only.refl _ _).setCell (by simp) _
        obtain ⟨W2, hW2⟩ : ∃ y, y = W1.setCell ⟨p, 37, none⟩ (.pointer (some ⟨q, 0, none⟩)) := ⟨_, rfl⟩
        rw [← hW2] at hM1 hP2 ⊢
        have hM := Lib.hid hM1
        try (have HC := Lib.hid (hP2.keep HC.out (by simp; omega)))
        have hO2 := (hH1).trans hP2
        clear hW2 hM1 c37 z37 hP2
        refine hK.out _ _ hO2 (fun hH2 => ?_)
        clear hK K_
        try simp only [Act.put, List.getElem_toArray, List.getElem_cons_zero, List.getElem_cons_succ, List.setIfInBounds_toArray, List.set_cons_zero, List.set_cons_succ]
        refine wpAnyH_take (i := 9) (v := ?_) rfl (by kernel_rfl) (by kernel_rfl) (by kernel_rfl) (fun _ _ _ h => h) (Or.inl ⟨by kernel_rfl, ?_⟩) hH2 ?_
        rotate_left 1
        · intro w hSw
          go_simp
          try with_reducible rfl
        try simp only [Act.put, List.getElem_toArray, List.getElem_cons_zero, List.getElem_cons_succ, List.setIfInBounds_toArray, List.set_cons_zero, List.set_cons_succ]
        refine wpAnyH_take (i := 10) (v := ?_) rfl (by kernel_rfl) (by kernel_rfl) (by kernel_rfl) (fun _ _ _ h => h) (Or.inl ⟨by kernel_rfl, ?_⟩) hH2 ?_
        rotate_left 1
        · intro w hSw
          go_simp
          try with_reducible rfl
        try simp only [Act.put, List.getElem_toArray, List.getElem_cons_zero, List.getElem_cons_succ, List.setIfInBounds_toArray, List.set_cons_zero, List.set_cons_succ]
        refine wpAnyH_ready (rs := [11]) (by kernel_rfl) (by simp) ?_
        refine AllReadyH.cons rfl (fun K_ hK => ?_) ?_
        · have hM0 := hM.out
          have z38 : W2.frozen? ⟨p, 38, none⟩ = false := Lib.frozen_of_heap hM0 _
          have c38 := (hl_cells HO.out hM0).2.2.2.2.2.2.1
          clear hM0
          go_simp
          have hM1 := heap_setCell_same _ p 38 _ _ (.slice (some ⟨c, 0, none⟩) n n) hM.out
          rw [hl_set38 d HO.out] at hM1
          have hP3 : Only [p] W2 (W2.setCell ⟨p, 38, none⟩ (.slice (some ⟨c, 0, none⟩) n n)) := (Only.refl _ _).setCell (by simp) _
          obtain ⟨W3, hW3⟩ : ∃ y, y = W2.setCell ⟨p, 38, none⟩ (.slice (some ⟨c, 0, none⟩) n n) := ⟨_, rfl⟩
          rw [← hW3] at hM1 hP3 ⊢
          have hM := Lib.hid hM1
          have HC := Lib.hid (hP3.keep HC.out (by simp; omega))
          have hO3 := (hH2).trans hP3
          clear hW3 hM1 c38 z38 hP3
          refine hK.out _ _ hO3 (fun hH3 => ?_)
          clear hK K_
          try simp only [Act.put, List.getElem_toArray, List.getElem_cons_zero, List.getElem_cons_succ, List.setIfInBounds_toArray, List.set_cons_zero, List.set_cons_succ]
          refine wpAnyH_done (by kernel_rfl) ?_ _
          have hC6 := HC.out
          rw [HCK.out] at hC6
          have hq6 := Hq6.out
          rw [Hm'.out] at hq6
          have hat := hl_took OK.out LT.out PS.out HB6.out.size HF.out Hgo.out Hne.out Hn.out (by omega) hM.out hq6 hC6 Hv6.out HB4.out.size hqb hcp hH3
          have hOw : Only S w W3 := ((Only.of_below HB6.out).trans (hH3)).mono (by intro x hx; simp at hx; subst hx; exact PS.out)
          have hLW := HL.out.only hOw H0S.out
          have Hset := Lib.hid (settle_any K p _ (withMani d f) (f.mani.size, f.mani.parts) W3 hat rfl HFL.out hLW)
          have hSS : ∀ x ∈ S ++ (q :: c :: blk A5), x ∈ S ∨ w.heap.size ≤ x := by
            intro x hx
            rcases List.mem_append.1 hx with h | h
            · exact .inl h
            · right
              simp only [List.mem_cons] at h
              rcases h with rfl | rfl | h
              · exact hqb
              · exact Nat.le_trans HB6.out.size hcp
              · have hv := Hv6.out
                unfold blk at h
                cases A5 with
                | none => cases h
                | some a =>
                  simp only [List.mem_singleton] at h
                  subst h
                  rcases hv with ⟨h1, -, -⟩ | ⟨g, cap, h1, hg, hb⟩
                  · cases h1
                  · injection h1 with e1
                    injection e1 with e1
                    subst e1
                    exact Nat.le_trans HB4.out.size hg
          have HSS := Lib.hid hSS
          have HOw := Lib.hid hOw
          clear hSS hOw hLW hat hC6 hq6
          go_wp2_with fail
          refine Hset.out.mono ?_
          rintro e w9 hact
          have hact2 := ActPost.lift hact HOw.out HSS.out
          clear hact
          obtain ⟨v, S2, rfl, hA, hH, hO, hS2, hap⟩ := hact2
          have HAp := Lib.hid hap
          have HA := Lib.hid hA
          have HHH := Lib.hid hH
          have HO9 := Lib.hid hO
          have HS2 := Lib.hid hS2
          clear hA hH hO hS2 hap
          go_wp2_with fail
          go_ret
          unfold HearPost
          rw [HH0.out]
          exact ⟨_, S2, rfl, HA.out, HHH.out, HO9.out, HS2.out, HAp.out⟩
        exact AllReadyH.nil
      exact AllReadyH.nil
    refine AllReadyH.cons rfl (fun K_ hK => ?_) ?_
    · have hM0 := hM.out
      have z37 : W0.frozen? ⟨p, 37, none⟩ = false := Lib.frozen_of_heap hM0 _
      have c37 := (hl_cells HO.out hM0).2.2.2.2.2.1
      clear hM0
      go_simp
      have hM1 := heap_setCell_same _ p 37 _ _ (.pointer (some ⟨q, 0, none⟩)) hM.out
      rw [hl_set37 d HO.out] at hM1
      have hP4 : Only [p] W0 (W0.setCell ⟨p, 37, none⟩ (.pointer (some ⟨q, 0, none⟩))) := (Only.refl _ _).setCell (by simp) _
      obtain ⟨W4, hW4⟩ : ∃ y, y = W0.setCell ⟨p, 37, none⟩ (.pointer (some ⟨q, 0, none⟩)) := ⟨_, rfl⟩
      rw [← hW4] at hM1 hP4 ⊢
      have hM := Lib.hid hM1
      try (have HC := Lib.hid (hP4.keep HC.out (by simp; omega)))
      have hO4 := (hH0).trans hP4
      clear hW4 hM1 c37 z37 hP4
      refine hK.out _ _ hO4 (fun hH4 => ?_)
      clear hK K_
      try simp only [Act.put, List.getElem_toArray, List.getElem_cons_zero, List.getElem_cons_succ, List.setIfInBounds_toArray, List.set_cons_zero, List.set_cons_succ]
      refine wpAnyH_ready (rs := [5]) (by kernel_rfl) (by simp) ?_
      refine AllReadyH.cons rfl (fun K_ hK => ?_) ?_
      · go_simp
        have hA5 := heap_alloc_new W4 (.cells CK 125)
        have hM := Lib.hid (below_keep ((Below.refl W4.heap.size W4).alloc (Nat.le_refl _) (.cells CK 125)) hM.out)
        have hO5 : Only [p] w6 (W4.alloc (.cells CK 125)) := (hH4).alloc _
        have hcp : w6.heap.size ≤ W4.heap.size := (hH4).size
        obtain ⟨c, hc5⟩ : ∃ c, c = W4.heap.size := ⟨_, rfl⟩
        obtain ⟨W5, hW5⟩ : ∃ y, y = W4.alloc (.cells CK 125) := ⟨_, rfl⟩
        rw [← hW5] at hA5 hM hO5 ⊢
        rw [← hc5] at hA5 hcp ⊢
        have HC := Lib.hid hA5
        clear hW5 hc5 hA5
        refine hK.out _ _ hO5 (fun hH5 => ?_)
        clear hK K_
        try simp only [Act.put, List.getElem_toArray, List.getElem_cons_zero, List.getElem_cons_succ, List.setIfInBounds_toArray, List.set_cons_zero, List.set_cons_succ]
        refine wpAnyH_take (i := 9) (v := ?_) rfl (by kernel_rfl) (by kernel_rfl) (by kernel_rfl) (fun _ _ _ h => h) (Or.inl ⟨by kernel_rfl, ?_⟩) hH5 ?_
        rotate_left 1
        · intro w hSw
          go_simp
          try with_reducible rfl
        try simp only [Act.put, List.getElem_toArray, List.getElem_cons_zero, List.getElem_cons_succ, List.setIfInBounds_toArray, List.set_cons_zero, List.set_cons_succ]
        refine wpAnyH_take (i := 10) (v := ?_) rfl (by kernel_rfl) (by kernel_rfl) (by kernel_rfl) (fun _ _ _ h => h) (Or.inl ⟨by kernel_rfl, ?_⟩) hH5 ?_
        rotate_left 1
        · intro w hSw
          go_simp
          try with_reducible rfl
        try simp only [Act.put, List.getElem_toArray, List.getElem_cons_zero, List.getElem_cons_succ, List.setIfInBounds_toArray, List.set_cons_zero, List.set_cons_succ]
        refine wpAnyH_ready (rs := [11]) (by kernel_rfl) (by simp) ?_
        refine AllReadyH.cons rfl (fun K_ hK => ?_) ?_
        · have hM0 := hM.out
          have z38 : W5.frozen? ⟨p, 38, none⟩ = false := Lib.frozen_of_heap hM0 _
          have c38 := (hl_cells HO.out hM0).2.2.2.2.2.2.1
          clear hM0
          go_simp
          have hM1 := heap_setCell_same _ p 38 _ _ (.slice (some ⟨c, 0, none⟩) n n) hM.out
          rw [hl_set38 d HO.out] at hM1
          have hP6 : Only [p] W5 (W5.setCell ⟨p, 38, none⟩ (.slice (some ⟨c, 0, none⟩) n n)) := (Only.refl _ _).setCell (by simp) _
          obtain ⟨W6, hW6⟩ : ∃ y, y = W5.setCell ⟨p, 38, none⟩ (.slice (some ⟨c, 0, none⟩) n n) := ⟨_, rfl⟩
          rw [← hW6] at hM1 hP6 ⊢
          have hM := Lib.hid hM1
          have HC := Lib.hid (hP6.keep HC.out (by simp; omega))
          have hO6 := (hH5).trans hP6
          clear hW6 hM1 c38 z38 hP6
          refine hK.out _ _ hO6 (fun hH6 => ?_)
          clear hK K_
          try simp only [Act.put, List.getElem_toArray, List.getElem_cons_zero, List.getElem_cons_succ, List.setIfInBounds_toArray, List.set_cons_zero, List.set_cons_succ]
          refine wpAnyH_done (by kernel_rfl) ?_ _
          have hC6 := HC.out
          rw [HCK.out] at hC6
          have hq6 := Hq6.out
          rw [Hm'.out] at hq6
          have hat := hl_took OK.out LT.out PS.out HB6.out.size HF.out Hgo.out Hne.out Hn.out (by omega) hM.out hq6 hC6 Hv6.out HB4.out.size hqb hcp hH6
          have hOw : Only S w W6 := ((Only.of_below HB6.out).trans (hH6)).mono (by intro x hx; simp at hx; subst hx; exact PS.out)
          have hLW := HL.out.only hOw H0S.out
          have Hset := Lib.hid (settle_any K p _ (withMani d f) (f.mani.size, f.mani.parts) W6 hat rfl HFL.out hLW)
          have hSS : ∀ x ∈ S ++ (q :: c :: blk A5), x ∈ S ∨ w.heap.size ≤ x := by
            intro x hx
            rcases List.mem_append.1 hx with h | h
            · exact .inl h
            · right
              simp only [List.mem_cons] at h
              rcases h with rfl | rfl | h
              · exact hqb
              · exact Nat.le_trans HB6.out.size hcp
              · have hv := Hv6.out
                unfold blk at h
                cases A5 with
                | none => cases h
                | some a =>
                  simp only [List.mem_singleton] at h
                  subst h
                  rcases hv with ⟨h1, -, -⟩ | ⟨g, cap, h1, hg, hb⟩
                  · cases h1
                  · injection h1 with e1
                    injection e1 with e1
                    subst e1
                    exact Nat.le_trans HB4.out.size hg
          have HSS := Lib.hid hSS
          have HOw := Lib.hid hOw
          clear hSS hOw hLW hat hC6 hq6
          go_wp2_with fail
          refine Hset.out.mono ?_
          rintro e w9 hact
          have hact2 := ActPost.lift hact HOw.out HSS.out
          clear hact
          obtain ⟨v, S2, rfl, hA, hH, hO, hS2, hap⟩ := hact2
          have HAp := Lib.hid hap
          have HA := Lib.hid hA
          have HHH := Lib.hid hH
          have HO9 := Lib.hid hO
          have HS2 := Lib.hid hS2
          clear hA hH hO hS2 hap
          go_wp2_with fail
          go_ret
          unfold HearPost
          rw [HH0.out]
          exact ⟨_, S2, rfl, HA.out, HHH.out, HO9.out, HS2.out, HAp.out⟩
        exact AllReadyH.nil
      exact AllReadyH.nil
    exact AllReadyH.nil
  exact AllReadyH.nil
end Go.Proofs.YtfbjbhddapoopaaDoor
