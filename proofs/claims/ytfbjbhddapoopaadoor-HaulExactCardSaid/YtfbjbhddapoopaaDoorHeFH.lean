/-
  Layer 17's reference: the walk of Hear: a part is taken; every frame.
-/
import Derived.Test.YtfbjbhddapoopaaDoorHeE
import Derived.Test.YtfbjbhddapoopaaDoorHaR
import Derived.Deep.Upon
import Derived.Test.YtfbjbhddapoopaaDoorHeG
set_option linter.unusedVariables false
set_option linter.unusedSimpArgs false
namespace Go.Proofs.YtfbjbhddapoopaaDoor
open Go.RowKit
attribute [local go_sem] Lb.ba_get Lb.ba_cut Lb.ba_add Lb.ba_size Lb.take_rest

theorem heap_setCells_seg (p : Nat) (T : TypeId) : ∀ (vs pre old post : List Value) (w : World), w.heap[p]? = some (.cells (pre ++ (old ++ post)).toArray T (0, 0)) → old.length = vs.length → (w.setCells p pre.length vs).heap[p]? = some (.cells (pre ++ (vs ++ post)).toArray T (0, 0))
  | [], pre, old, post, w, h, hl => by
    obtain rfl : old = [] := List.eq_nil_of_length_eq_zero (by simpa using hl)
    exact h
  | v :: vs, pre, o :: old, post, w, h, hl => by
    have h1 := heap_setCell_same w p pre.length _ _ v h
    have e : (pre ++ (o :: old ++ post)).toArray.setIfInBounds pre.length v = ((pre ++ [v]) ++ (old ++ post)).toArray := by
      rw [List.setIfInBounds_toArray]
      congr 1
      rw [List.set_append_right _ _ (by omega), Nat.sub_self]
      simp
    rw [e] at h1
    have h2 := heap_setCells_seg p T vs (pre ++ [v]) old post _ h1 (by simpa using hl)
    rw [List.length_append, List.length_singleton] at h2
    simpa [World.setCells] using h2
  | v :: vs, pre, [], post, w, h, hl => by simp at hl
theorem only_setCells {bs : List Nat} {a : World} {p : Nat} (hp : p ∈ bs) : ∀ (vs : List Value) (o : Nat) (b : World), Only bs a b → Only bs a (b.setCells p o vs)
  | [], _, _, h => h
  | v :: vs, o, b, h => only_setCells hp vs (o + 1) _ (h.setCell (p := ⟨p, o, none⟩) hp v)
theorem rf_setM {w : World} {p : Nat} {r : RfD} (hf : r.Fit) (h : RfMem w p r) (m : ManiD) (hm : m.whole.length = 32) : RfMem (w.setCells p 34 m.cells) p { r with m := m } := by
  have h32 : (byV r.out).length = 32 := by rw [byV_length, hf.out]
  have e := heap_setCells_seg p 57 m.cells (byV r.out ++ [Value.int .i64 r.peer, Value.int .i64 r.ticks]) r.m.cells [Value.bool r.has, r.vc, r.vd, r.va, Value.string ⟨r.text.toArray⟩, Value.bool r.done, Value.bool r.fail] w (by
    have := h
    unfold RfMem RfD.cells at this
    rw [List.append_assoc]; exact this) (by rw [mani_cells_len _ hf.whole, mani_cells_len _ hm])
  have hl : (byV r.out ++ [Value.int .i64 r.peer, Value.int .i64 r.ticks]).length = 34 := by simp [h32]
  rw [hl, List.append_assoc] at e
  exact e

theorem made_one (v : Value) (hv : v.cells = #[v]) (n : Nat) : madeCells v.cells n = (List.replicate n v).toArray := by
  apply Array.ext
  · rw [size_madeCells]; simp
  · intro i h1 h2
    simp only [madeCells, hv, Array.getElem_map, Array.getElem_range]
    simp [Nat.mod_one]
theorem mk_ones {t e : TypeId} {v : Value} {bytes : Nat} (ht : Tryd.prog.underlying t = some (.slice e)) (hi : (Tryd.prog.info? e).map (fun i => (i.zero, i.size, i.bytes)) = some (some v, 1, bytes)) (hv : v.cells = #[v]) (hb : bytes ≤ 16) (n : Nat) (hn : n ≤ 8) (u : World) :
    (Instr.makeSlice t (.int .i64 n) (.int .i64 n)).run Tryd.prog u = .ok (.slice (some ⟨u.heap.size, 0, none⟩) n n) (u.alloc (.cells (List.replicate n v).toArray e)) := by
  obtain ⟨i, hi1, hi2, hi3, hi4⟩ := info_parts hi
  have hbn : i.bytes * n ≤ 16 * 8 := Nat.mul_le_mul (by omega) hn
  have h := run_makeSlice (P := Tryd.prog) u t e i v ht hi1 hi2 .i64 .i64 n n (by omega) (by omega) (by rw [hi3]; omega) (by rw [← Int.natCast_mul]; omega) (by omega)
  rw [hi3, Nat.mul_one, Int.toNat_natCast, made_one v hv n] at h
  exact h
theorem bool_infoZ : (Tryd.prog.info? 4).map (fun i => (i.zero, i.size, i.bytes)) = some (some (.bool false), 1, 1) := by kernel_rfl
theorem int_infoZ : (Tryd.prog.info? 3).map (fun i => (i.zero, i.size, i.bytes)) = some (some (.int .i64 0), 1, 8) := by kernel_rfl
theorem rp_lift {w W : World} {S S' : List Nat} {p : Nat} {peer : Int} {out : List UInt8} {ats : List Int} {d : HlD} {e : Ending} {w' : World} (h : RefPost W S' p peer out ats d e w') (ho : Only S w W) (hS : ∀ x ∈ S', x ∈ S ∨ w.heap.size ≤ x) : RefPost w S p peer out ats d e w' := by
  obtain ⟨v, S2, rfl, hA, hH, hO, hS2, hap⟩ := h
  refine ⟨v, S2, rfl, Bag0.lower hA ho.size, hH, ho.lift hO hS, fun k hk => ?_, hap⟩
  rcases hS2 k hk with h1 | h1
  · exact hS k h1
  · right; exact Nat.le_trans ho.size h1
theorem rf_took {w w5 W : World} {S : List Nat} {p c1 c2 c3 n : Nat} {d : HlD} {f : FrD} {A : Option Addr} {k : Nat} {r : RfD} (ok : Hl.Ok d) (und : d.done = false → d.blob = []) (lt : ∀ x ∈ S, x < w.heap.size) (pS : p ∈ S) (hf : f.Ok w)
    (hgo : goodS f.mani.size f.mani.parts.length = true) (hne : f.mani.whole = d.out) (hn : n = f.mani.parts.length) (h8 : n ≤ 8) (hfit : r.Fit) (hi : RfIs r d)
    (hM : RfMem W p { r with m := { f.mani with A := A, cap := k }, has := true, vc := .slice (some ⟨c1, 0, none⟩) n n, vd := .slice (some ⟨c2, 0, none⟩) n n, va := .slice (some ⟨c3, 0, none⟩) n n })
    (h1 : W.heap[c1]? = some (.cells (List.replicate n (Value.bool false)).toArray 4 (0, 0))) (h2 : W.heap[c2]? = some (.cells (List.replicate n (Value.string ⟨#[]⟩)).toArray 9 (0, 0))) (h3 : W.heap[c3]? = some (.cells (List.replicate n (Value.int .i64 0)).toArray 3 (0, 0)))
    (hv : Bag0 w5 w.heap.size 32 (.slice A n k) n (digCells f.mani.parts)) (hw5 : w.heap.size ≤ w5.heap.size) (h51 : w5.heap.size ≤ c1) (h12 : c1 < c2) (h23 : c2 < c3) (hO : Only [p] w5 W) : RfAt W (S ++ (c1 :: c2 :: c3 :: blk A)) p (withMani d f) := by
  have hpl : p < w.heap.size := lt p pS
  have l1 := heap_lt h1
  have l2 := heap_lt h2
  have l3 := heap_lt h3
  have hsz := hO.size
  have hl : (withMani d f).cks.length = n := by simp [withMani, hn]
  refine ⟨?_, und, ?_, by simp [pS], _, hM, ⟨hfit.out, hf.mani.whole⟩, ⟨hi.out, hi.peer, hi.ticks, hi.text, hi.done, hi.fail⟩, .inr ⟨c1, c2, c3, ⟨rfl, hne, rfl, by rw [hl], by rw [hl], by rw [hl], ?_, ?_, ?_, by simp, by simp, by simp, by omega, by omega, by omega, by omega, by omega, by omega, ?_⟩⟩⟩
  · exact { ok with
      len := by show (List.replicate _ _).length ≤ 8; simp; omega
      none := fun h => by cases h
      some := fun sp h => by
        obtain rfl := Option.some.inj h
        exact ⟨hgo, by simp [withMani], hf.mani.each⟩
      asked := fun x hx => by obtain rfl := (List.mem_replicate.1 hx).2; exact ⟨Int.le_refl _, by show (0 : Int) ≤ 15; decide⟩
      data := fun x hx => by obtain rfl := (List.mem_replicate.1 hx).2; exact Nat.zero_le _ }
  · intro x hx
    rcases List.mem_append.1 hx with h | h
    · have := lt x h; omega
    · simp only [List.mem_cons] at h
      rcases h with rfl | rfl | rfl | h
      · exact l1
      · exact l2
      · exact l3
      · unfold blk at h
        cases A with
        | none => cases h
        | some a =>
          simp only [List.mem_singleton] at h
          subst h
          exact Nat.lt_of_lt_of_le (Bag0.lt hv) hsz
  · rw [h1]; simp [withMani, comeV, hn]
  · rw [h2]; simp [withMani, dataV, rowT, hn]
  · rw [h3]; simp [withMani, askV, hn]
  · intro i hi'
    rcases hv with ⟨-, h2', -⟩ | ⟨g, cap, h1', hgB, hb⟩
    · have : i < f.mani.parts.length := hi'
      omega
    · injection h1' with e1 e2 e3
      subst e1
      refine ⟨g, 0, rfl, by simp [blk], by simp; have := hb.lt; omega, fun j v hj => ?_⟩
      have hr : w5.cell? ⟨g, 0 + i * 32 + j, none⟩ = some v := by
        rw [Nat.zero_add]
        exact hb.holds _ _ (flat_get f.mani.parts hf.mani.each i hi' j v hj)
      exact (hO.cell (p := ⟨g, 0 + i * 32 + j, none⟩) hb.lt (by simp; omega)).trans hr
theorem digs_srcN {w : World} {B : Nat} {A : Option Addr} {ds : List (List UInt8)} (h : Digs w B A ds) (h32 : ∀ d ∈ ds, d.length = 32) (cap : Nat) : Src Tryd.prog 32 37 (.slice A ds.length cap) ds.length (digCells ds) w := by
  by_cases hA : A = none
  · subst hA
    have h0 : ds = [] := by
      cases ds with
      | nil => rfl
      | cons x xs => obtain ⟨b, o, e, -⟩ := h 0 (by simp); cases e
    subst h0
    exact Src.ofNil w Tryd.underlying37 cap
  · exact digs_src h h32 cap hA

set_option maxHeartbeats 4000000 in
set_option maxRecDepth 100000 in
theorem rhear_mani_yes (p : Nat) (S : List Nat) (d : HlD) (f : FrD) (w : World) (h : RfAt w S p d) (hf : f.Ok w) (hd : d.done = false) (hfl : d.failed = false) (hp : f.from_ = d.peer) (h7 : f.kind = 7) (hmn : d.mani = none) (hgo : goodS f.mani.size f.mani.parts.length = true) (hne : f.mani.whole = d.out) (hap : 0 < f.mani.parts.length → ∀ a, f.mani.A = some a → a.block ∉ S) :
    Calls Tryd.prog 20 #[.pointer (some ⟨p, 0, none⟩), .agg f.row] w (RHearPost w S p d f) := by
  have hh : hearOf KK d f = Hl.settle KK (withMani d f) (f.mani.size, f.mani.parts) := by
    unfold hearOf Hl.hear; rw [if_neg (by simp [hd, hfl, hp]), if_pos h7, hmn]
    simp only
    rw [if_pos ⟨hgo, hne⟩]
    rfl
  have HH0 := Lib.hid hh
  have Hap := Lib.hid hap
  clear hap
  have Hgo := Lib.hid hgo
  have Hne := Lib.hid hne
  have Hmn := Lib.hid hmn
  clear hh
  obtain ⟨ok, und, lt, pS, r, hm, hft, hi, hx⟩ := h
  have hB := (Below.refl w.heap.size w).alloc (Nat.le_refl _) (.cells f.row 44)
  have hm1 : RfMem (w.alloc (.cells f.row 44)) p r := below_keep hB hm
  have hfr := heap_alloc_new w (.cells f.row 44)
  have ra := rf_all hft hm1
  have k73 := ra.done
  have k74 := ra.fail
  have k32 := ra.peer
  rw [hi.done] at k73
  rw [hi.fail] at k74
  rw [hi.peer] at k32
  have f1 := (fr_mem hf.fit hfr).from_
  have HB := Lib.hid hB
  have HFR := Lib.hid hfr
  have HM1 := Lib.hid hm1
  have OK := Lib.hid ok
  have HU := Lib.hid und
  have LT := Lib.hid lt
  have PS := Lib.hid pS
  have HI := Lib.hid hi
  have HFT := Lib.hid hft
  have HX := Lib.hid hx
  have HF := Lib.hid hf
  have HD := Lib.hid hd
  have HFL := Lib.hid hfl
  have HP := Lib.hid hp
  rw [hd] at k73
  rw [hfl] at k74
  rw [hp] at f1
  obtain ⟨w1, hw1⟩ : ∃ y, y = w.alloc (.cells f.row 44) := ⟨_, rfl⟩
  obtain ⟨b, hb⟩ : ∃ y, y = w.heap.size := ⟨_, rfl⟩
  obtain ⟨pe, hpe⟩ : ∃ y, y = d.peer := ⟨_, rfl⟩
  go_enter Tryd.func20, Tryd.ntmps20
  go_upto_region 1 with fail
  rw [← hw1] at k73 k74 k32 f1 HB HFR HM1 ⊢
  rw [← hb] at f1 HFR ⊢
  rw [← hpe] at k32 f1
  have Hb := Lib.hid hb
  have hb1 : (pe != pe) = false := by simp
  have hb2 : (pe == pe) = true := by simp
  clear hw1 hb hpe hm1 hB hm hf lt pS ok und hx hfr hd hfl hp hi hft ra
  go_quiet (fail)
  go_upto_region 3 with fail
  have HB2 := Lib.hid (below_drewN'' HB.out nq)
  have HFR2 : Hid ((w1.drewN nq).heap[b]? = some (.cells f.row 44 (0, 0))) := Lib.hid HFR.out
  have HM2 : Hid (RfMem (w1.drewN nq) p r) := Lib.hid HM1.out
  obtain ⟨w2, hw2⟩ : ∃ y, y = w1.drewN nq := ⟨_, rfl⟩
  rw [← hw2] at HB2 HFR2 HM2 ⊢
  clear hw2 k73 k74 k32 f1 hb1 hb2
  have fa := fr_mem HF.out.fit HFR2.out
  have ra := rf_all HFT.out HM2.out
  have fk := fa.kind
  have x68 := ra.has
  rw [h7] at fk
  have hhas : r.has = false := by
    rcases HX.out with hx | ⟨c1, c2, c3, hx⟩
    · exact hx.has
    · have e := hx.mani; rw [hmn] at e; cases e
  rw [hhas] at x68
  have ro := ra.out
  rw [HI.out.out] at ro
  have rm := fa.mani
  have rw_ := fa.whole
  have hmw := HF.out.fit.lm
  have hdo := OK.out.out
  have mdix : (Tryd.prog.info? 39).map (·.size) = some f.mani.cells.length := by rw [mani_info, mani_cells_len f.mani hmw]
  have mund := Tryd.underlying39
  have dund := Tryd.underlying23
  have dix : (Tryd.prog.info? 23).map (·.size) = some (byV f.mani.whole).length := by rw [dig_info, byV_length, hmw]
  have diy : (Tryd.prog.info? 23).map (·.size) = some (byV d.out).length := by rw [dig_info, byV_length, hdo]
  have HG := Lib.hid (fun W => rgood_any f.mani W hmw HF.out.mani.lo HF.out.mani.hi HF.out.mani.len)
  have heq : ∀ W : World, (Op.equalIn 10000 23 (.agg (byV f.mani.whole).toArray) (.agg (byV d.out).toArray)).run Tryd.prog W = .ok (f.mani.whole == d.out) W := fun W => eqIn_dig W f.mani.whole d.out hmw hdo
  have lp : p < w2.heap.size := heap_lt HM2.out
  have lb : b < w2.heap.size := heap_lt HFR2.out
  clear h7 fa ra hmw hdo hhas hmn
  have hb0 : (f.mani.whole == d.out) = true := by simp [hne]
  rw [hb0] at heq
  rw [hgo] at HG
  have hg8 : f.mani.parts.length ≤ 8 := by
    have := hgo
    unfold goodS at this
    simp only [decide_eq_true_eq] at this
    omega
  clear hb0 hne hgo
  obtain ⟨mc, hmc⟩ : ∃ y, y = f.mani.cells := ⟨_, rfl⟩
  obtain ⟨wh, hwh⟩ : ∃ y, y = byV f.mani.whole := ⟨_, rfl⟩
  obtain ⟨ou, hou⟩ : ∃ y, y = byV d.out := ⟨_, rfl⟩
  rw [← hmc] at rm mdix
  rw [← hwh] at rw_ dix heq
  rw [← hou] at ro diy heq
  replace HG : Hid (∀ W : World, Calls Tryd.prog 70 #[.agg mc.toArray] W fun e w' => e = .returned (.bool true) ∧ Below W.heap.size W w') := by rw [hmc]; exact HG
  have Hmc := Lib.hid hmc
  clear hmc hwh hou
  refine wp_region_held_drew (S := fun w' => Below w2.heap.size w2 w') (by kernel_rfl) ((Below.refl _ _).drew) (fun hH0 => ?_)
  obtain ⟨W0, hW0⟩ : ∃ W, W = w2.drew := ⟨_, rfl⟩
  rw [← hW0] at hH0 ⊢
  clear hW0
  refine wpAnyH_take (i := 0) (v := ?_) rfl (by kernel_rfl) (by kernel_rfl) (by kernel_rfl) (fun _ _ _ h => h) (Or.inl ⟨by kernel_rfl, ?_⟩) hH0 ?_
  rotate_left 1
  · intro w hSw
    go_simp
    try with_reducible rfl
  try simp only [Act.put, List.getElem_toArray, List.getElem_cons_zero, List.getElem_cons_succ, List.setIfInBounds_toArray, List.set_cons_zero, List.set_cons_succ]
  refine wpAnyH_take (i := 1) (v := ?_) rfl (by kernel_rfl) (by kernel_rfl) (by kernel_rfl) (fun _ _ _ h => h) (Or.inl ⟨by kernel_rfl, ?_⟩) hH0 ?_
  rotate_left 1
  · intro w hSw
    have f0 := (hSw.cell (p := ⟨p, 68, none⟩) lp).trans x68
    have f1 := (hSw.cell (p := ⟨b, 0, none⟩) lb).trans fk
    go_simp
    try with_reducible rfl
  try simp only [Act.put, List.getElem_toArray, List.getElem_cons_zero, List.getElem_cons_succ, List.setIfInBounds_toArray, List.set_cons_zero, List.set_cons_succ]
  refine wpAnyH_take (i := 2) (v := ?_) rfl (by kernel_rfl) (by kernel_rfl) (by kernel_rfl) (fun _ _ _ h => h) (Or.inl ⟨by kernel_rfl, ?_⟩) hH0 ?_
  rotate_left 1
  · intro w hSw
    go_simp
    try with_reducible rfl
  try simp only [Act.put, List.getElem_toArray, List.getElem_cons_zero, List.getElem_cons_succ, List.setIfInBounds_toArray, List.set_cons_zero, List.set_cons_succ]
  refine wpAnyH_take (i := 3) (v := ?_) rfl (by kernel_rfl) (by kernel_rfl) (by kernel_rfl) (fun _ _ _ h => h) (Or.inl ⟨by kernel_rfl, ?_⟩) hH0 ?_
  rotate_left 1
  · intro w hSw
    go_simp
    try with_reducible rfl
  try simp only [Act.put, List.getElem_toArray, List.getElem_cons_zero, List.getElem_cons_succ, List.setIfInBounds_toArray, List.set_cons_zero, List.set_cons_succ]
  refine wpAnyH_take (i := 4) (v := ?_) rfl (by kernel_rfl) (by kernel_rfl) (by kernel_rfl) (fun _ _ _ h => h) (Or.inl ⟨by kernel_rfl, ?_⟩) hH0 ?_
  rotate_left 1
  · intro w hSw
    go_simp
    try with_reducible rfl
  try simp only [Act.put, List.getElem_toArray, List.getElem_cons_zero, List.getElem_cons_succ, List.setIfInBounds_toArray, List.set_cons_zero, List.set_cons_succ]
  refine wpAnyH_take (i := 5) (v := ?_) rfl (by kernel_rfl) (by kernel_rfl) (by kernel_rfl) (fun _ _ _ h => h) (Or.inl ⟨by kernel_rfl, ?_⟩) hH0 ?_
  rotate_left 1
  · intro w hSw
    go_simp
    try with_reducible rfl
  try simp only [Act.put, List.getElem_toArray, List.getElem_cons_zero, List.getElem_cons_succ, List.setIfInBounds_toArray, List.set_cons_zero, List.set_cons_succ]
  refine wpAnyH_take (i := 6) (v := ?_) rfl (by kernel_rfl) (by kernel_rfl) (by kernel_rfl) (fun _ _ _ h => h) (Or.inl ⟨by kernel_rfl, ?_⟩) hH0 ?_
  rotate_left 1
  · intro w hSw
    go_simp
    try with_reducible rfl
  try simp only [Act.put, List.getElem_toArray, List.getElem_cons_zero, List.getElem_cons_succ, List.setIfInBounds_toArray, List.set_cons_zero, List.set_cons_succ]
  refine wpAnyH_take (i := 7) (v := ?_) rfl (by kernel_rfl) (by kernel_rfl) (by kernel_rfl) (fun _ _ _ h => h) (Or.inl ⟨by kernel_rfl, ?_⟩) hH0 ?_
  rotate_left 1
  · intro w hSw
    have f0 := (hSw.cell (p := ⟨p, 68, none⟩) lp).trans x68
    have f1 := (hSw.cell (p := ⟨b, 0, none⟩) lb).trans fk
    go_simp
    try with_reducible rfl
  try simp only [Act.put, List.getElem_toArray, List.getElem_cons_zero, List.getElem_cons_succ, List.setIfInBounds_toArray, List.set_cons_zero, List.set_cons_succ]
  refine wpAnyH_take (i := 8) (v := ?_) rfl (by kernel_rfl) (by kernel_rfl) (by kernel_rfl) (fun _ _ _ h => h) (Or.inl ⟨by kernel_rfl, ?_⟩) hH0 ?_
  rotate_left 1
  · intro w hSw
    go_simp
    try with_reducible rfl
  try simp only [Act.put, List.getElem_toArray, List.getElem_cons_zero, List.getElem_cons_succ, List.setIfInBounds_toArray, List.set_cons_zero, List.set_cons_succ]
  refine wpAnyH_take (i := 9) (v := ?_) rfl (by kernel_rfl) (by kernel_rfl) (by kernel_rfl) (fun _ _ _ h => h) (Or.inl ⟨by kernel_rfl, ?_⟩) hH0 ?_
  rotate_left 1
  · intro w hSw
    go_simp
    try with_reducible rfl
  try simp only [Act.put, List.getElem_toArray, List.getElem_cons_zero, List.getElem_cons_succ, List.setIfInBounds_toArray, List.set_cons_zero, List.set_cons_succ]
  refine wpAnyH_take (i := 10) (v := ?_) rfl (by kernel_rfl) (by kernel_rfl) (by kernel_rfl) (fun _ _ _ h => h) (Or.inl ⟨by kernel_rfl, ?_⟩) hH0 ?_
  rotate_left 1
  · intro w hSw
    go_simp
    try with_reducible rfl
  try simp only [Act.put, List.getElem_toArray, List.getElem_cons_zero, List.getElem_cons_succ, List.setIfInBounds_toArray, List.set_cons_zero, List.set_cons_succ]
  refine wpAnyH_take (i := 11) (v := ?_) rfl (by kernel_rfl) (by kernel_rfl) (by kernel_rfl) (fun _ _ _ h => h) (Or.inl ⟨by kernel_rfl, ?_⟩) hH0 ?_
  rotate_left 1
  · intro w hSw
    go_simp
    try with_reducible rfl
  try simp only [Act.put, List.getElem_toArray, List.getElem_cons_zero, List.getElem_cons_succ, List.setIfInBounds_toArray, List.set_cons_zero, List.set_cons_succ]
  refine wpAnyH_take (i := 12) (v := _) rfl (by kernel_rfl) (by kernel_rfl) (by kernel_rfl) (fun _ _ _ h => h) (yieldsIf_load_mid (by kernel_rfl) _ _ rfl _ _ rfl mc _ (fun W hW => range_below rm hW lb) mund rfl mdix) hH0 ?_
  try simp only [Act.put, List.getElem_toArray, List.getElem_cons_zero, List.getElem_cons_succ, List.setIfInBounds_toArray, List.set_cons_zero, List.set_cons_succ]
  refine wpAnyH_ready (rs := [13]) (by kernel_rfl) (by simp) ?_
  refine AllReadyH.cons rfl (fun K_ hK => ?_) ?_
  · go_simp
    refine (HG.out W0).mono ?_
    rintro e W1 ⟨rfl, hb1⟩
    refine hK.out _ _ ((hH0).trans (hb1.mono (hH0).size)) (fun hH1 => ?_)
    clear hK K_
    try simp only [Act.put, List.getElem_toArray, List.getElem_cons_zero, List.getElem_cons_succ, List.setIfInBounds_toArray, List.set_cons_zero, List.set_cons_succ]
    refine wpAnyH_take (i := 14) (v := ?_) rfl (by kernel_rfl) (by kernel_rfl) (by kernel_rfl) (fun _ _ _ h => h) (Or.inl ⟨by kernel_rfl, ?_⟩) hH1 ?_
    rotate_left 1
    · intro w hSw
      go_simp
      try with_reducible rfl
    try simp only [Act.put, List.getElem_toArray, List.getElem_cons_zero, List.getElem_cons_succ, List.setIfInBounds_toArray, List.set_cons_zero, List.set_cons_succ]
    refine wpAnyH_take (i := 15) (v := ?_) rfl (by kernel_rfl) (by kernel_rfl) (by kernel_rfl) (fun _ _ _ h => h) (Or.inl ⟨by kernel_rfl, ?_⟩) hH1 ?_
    rotate_left 1
    · intro w hSw
      go_simp
      try with_reducible rfl
    try simp only [Act.put, List.getElem_toArray, List.getElem_cons_zero, List.getElem_cons_succ, List.setIfInBounds_toArray, List.set_cons_zero, List.set_cons_succ]
    refine wpAnyH_take (i := 16) (v := ?_) rfl (by kernel_rfl) (by kernel_rfl) (by kernel_rfl) (fun _ _ _ h => h) (Or.inl ⟨by kernel_rfl, ?_⟩) hH1 ?_
    rotate_left 1
    · intro w hSw
      go_simp
      try with_reducible rfl
    try simp only [Act.put, List.getElem_toArray, List.getElem_cons_zero, List.getElem_cons_succ, List.setIfInBounds_toArray, List.set_cons_zero, List.set_cons_succ]
    refine wpAnyH_take (i := 17) (v := ?_) rfl (by kernel_rfl) (by kernel_rfl) (by kernel_rfl) (fun _ _ _ h => h) (Or.inl ⟨by kernel_rfl, ?_⟩) hH1 ?_
    rotate_left 1
    · intro w hSw
      go_simp
      try with_reducible rfl
    try simp only [Act.put, List.getElem_toArray, List.getElem_cons_zero, List.getElem_cons_succ, List.setIfInBounds_toArray, List.set_cons_zero, List.set_cons_succ]
    refine wpAnyH_take (i := 18) (v := _) rfl (by kernel_rfl) (by kernel_rfl) (by kernel_rfl) (fun _ _ _ h => h) (yieldsIf_load_mid (by kernel_rfl) _ _ rfl _ _ rfl wh _ (fun W hW => range_below rw_ hW lb) dund rfl dix) hH1 ?_
    try simp only [Act.put, List.getElem_toArray, List.getElem_cons_zero, List.getElem_cons_succ, List.setIfInBounds_toArray, List.set_cons_zero, List.set_cons_succ]
    refine wpAnyH_take (i := 19) (v := ?_) rfl (by kernel_rfl) (by kernel_rfl) (by kernel_rfl) (fun _ _ _ h => h) (Or.inl ⟨by kernel_rfl, ?_⟩) hH1 ?_
    rotate_left 1
    · intro w hSw
      go_simp
      try with_reducible rfl
    try simp only [Act.put, List.getElem_toArray, List.getElem_cons_zero, List.getElem_cons_succ, List.setIfInBounds_toArray, List.set_cons_zero, List.set_cons_succ]
    refine wpAnyH_take (i := 20) (v := ?_) rfl (by kernel_rfl) (by kernel_rfl) (by kernel_rfl) (fun _ _ _ h => h) (Or.inl ⟨by kernel_rfl, ?_⟩) hH1 ?_
    rotate_left 1
    · intro w hSw
      go_simp
      try with_reducible rfl
    try simp only [Act.put, List.getElem_toArray, List.getElem_cons_zero, List.getElem_cons_succ, List.setIfInBounds_toArray, List.set_cons_zero, List.set_cons_succ]
    refine wpAnyH_take (i := 21) (v := ?_) rfl (by kernel_rfl) (by kernel_rfl) (by kernel_rfl) (fun _ _ _ h => h) (Or.inl ⟨by kernel_rfl, ?_⟩) hH1 ?_
    rotate_left 1
    · intro w hSw
      go_simp
      try with_reducible rfl
    try simp only [Act.put, List.getElem_toArray, List.getElem_cons_zero, List.getElem_cons_succ, List.setIfInBounds_toArray, List.set_cons_zero, List.set_cons_succ]
    refine wpAnyH_take (i := 22) (v := _) rfl (by kernel_rfl) (by kernel_rfl) (by kernel_rfl) (fun _ _ _ h => h) (yieldsIf_load_mid (by kernel_rfl) _ _ rfl _ _ rfl ou _ (fun W hW => range_below ro hW lp) dund rfl diy) hH1 ?_
    try simp only [Act.put, List.getElem_toArray, List.getElem_cons_zero, List.getElem_cons_succ, List.setIfInBounds_toArray, List.set_cons_zero, List.set_cons_succ]
    refine wpAnyH_take (i := 23) (v := ?_) rfl (by kernel_rfl) (by kernel_rfl) (by kernel_rfl) (fun _ _ _ h => h) (Or.inl ⟨by kernel_rfl, ?_⟩) hH1 ?_
    rotate_left 1
    · intro w hSw
      go_simp
      try with_reducible rfl
    try simp only [Act.put, List.getElem_toArray, List.getElem_cons_zero, List.getElem_cons_succ, List.setIfInBounds_toArray, List.set_cons_zero, List.set_cons_succ]
    refine wpAnyH_take (i := 24) (v := ?_) rfl (by kernel_rfl) (by kernel_rfl) (by kernel_rfl) (fun _ _ _ h => h) (Or.inl ⟨by kernel_rfl, ?_⟩) hH1 ?_
    rotate_left 1
    · intro w hSw
      go_simp
      try with_reducible rfl
    try simp only [Act.put, List.getElem_toArray, List.getElem_cons_zero, List.getElem_cons_succ, List.setIfInBounds_toArray, List.set_cons_zero, List.set_cons_succ]
    refine wpAnyH_done (by kernel_rfl) ?_ _
    have HW : Hid (Below w2.heap.size w2 W1) := Lib.hid hH1
    obtain ⟨w3, hw3⟩ : ∃ y, y = W1 := ⟨_, rfl⟩
    rw [← hw3] at HW ⊢
    clear hH1 hw3
    have rm3 := range_below rm HW.out lb
    have Hm3 : Hid (RfMem w3 p r) := Lib.hid (below_keep HW.out HM2.out)
    have HFR3 := Lib.hid (below_keep HW.out HFR2.out)
    have HB3 := Lib.hid (HB2.out.trans (HW.out.mono HB2.out.size))
    have hmr : mc.toArray = f.mani.row := by rw [Hmc.out]; rfl
    have hms : f.mani.row.size = 34 := f.mani.row_size HF.out.fit.lm
    have minf : (Tryd.prog.info? 39).map (·.size) = some mc.toArray.size := by rw [hmr, hms]; exact mani_info
    have mone : mc.toArray.all (·.oneCell') = true := by rw [hmr]; exact f.mani.row_one
    have msz : mc.toArray.size = 34 := by rw [hmr, hms]
    have hth : w3.there p 34 mc.toArray.size := fun j hj => by
      have ra3 := rf_all HFT.out Hm3.out
      have hl : j < r.m.cells.length := by rw [mani_cells_len _ HFT.out.whole]; omega
      exact ⟨by rw [ra3.mani j _ (List.getElem?_eq_getElem hl)]; rfl, ra3.frz _⟩
    clear rm rw_ ro heq HG x68 fk HM2 hmr hms
    go_upto_region 5 with (first
      | (refine wpList_load_mid rfl 39 _ rfl b 200 rfl mc _ rm3 mund rfl mdix ?_)
      | (refine wpList_store_mid rfl 39 _ _ rfl p 34 mc.toArray rfl rfl hth minf mone ?_))
    have hm4 : RfMem (w3.setCells p 34 mc.toArray.toList) p { r with m := f.mani } := by
      have := rf_setM HFT.out Hm3.out f.mani HF.out.fit.lm
      rw [← Hmc.out] at this
      exact this
    have hO4 : Only [p] w3 (w3.setCells p 34 mc.toArray.toList) := only_setCells (by simp) _ _ _ (Only.refl _ _)
    obtain ⟨w4, hw4⟩ : ∃ y, y = w3.setCells p 34 mc.toArray.toList := ⟨_, rfl⟩
    rw [← hw4] at hm4 hO4 ⊢
    have Hm4 := Lib.hid hm4
    have hO4w : Only [p] w w4 := (Only.of_below HB3.out).trans hO4
    have HO4 := Lib.hid hO4w
    have hbp : b ≠ p := by have := LT.out p PS.out; rw [Hb.out]; omega
    have HFR4 := Lib.hid (hO4.keep HFR3.out (by simpa using hbp))
    clear hw4 hm4 hO4 hO4w rm3 minf mone msz hth mdix
    have b233 : (w4.alloc (.cells #[] 23)).cell? ⟨b, 233, none⟩ = some (.slice f.mani.A f.mani.parts.length f.mani.cap) := ((Below.refl w4.heap.size w4).alloc (Nat.le_refl _) _ |>.cell (p := ⟨b, 233, none⟩) (heap_lt HFR4.out)).trans (fr_mem HF.out.fit HFR4.out).parts
    have hdg : Digs (w4.alloc (.cells #[] 23)) w.heap.size f.mani.A f.mani.parts := by
      intro i hi'
      obtain ⟨b0, o0, e0, hl0, hr0⟩ := HF.out.mani.digs i hi'
      have hnb : b0 ≠ p := by
        intro e
        subst e
        exact Hap.out (by omega) _ e0 PS.out
      exact ⟨b0, o0, e0, hl0, range_keep hr0 ((heap_alloc_old w4 _ (Nat.lt_of_lt_of_le hl0 HO4.out.size)).trans (HO4.out.block b0 hl0 (by simpa using hnb)))⟩
    have hsrc := digs_srcN hdg HF.out.mani.each f.mani.cap
    have hws : w4.heap.size ≤ (w4.alloc (.cells #[] 23)).heap.size := by simp
    have hB0 : Bag0 (w4.alloc (.cells #[] 23)) w4.heap.size 32 (.slice (some ⟨w4.heap.size, 0, none⟩) 0 0) 0 [] := .inr ⟨w4.heap.size, 0, rfl, Nat.le_refl _, ⟨Nat.le_refl _, Nat.zero_le _, heap_lt (heap_alloc_new w4 _), rfl, fun j u hu => by simp at hu, fun j hj => by omega⟩⟩
    have HBB := Lib.hid hB0
    obtain ⟨i0, hi0, hz0, hz1, hz2⟩ := dig_parts
    clear hdg hB0
    go_wp2_with (at_builtin; refine wpList_append_bagN _ rfl _ _ 37 37 rfl i0 _ 32 Tryd.underlying37 hi0 hz0 hz1 hz2 (by show (digV (List.replicate 32 0)).size = 32; rfl) hws rfl HBB.out _ _ _ rfl hsrc (by unfold maxLen; omega) (by omega) ?_)
    intro v5 w5 hv5 hb5
    try rw [Nat.zero_add, List.nil_append] at hv5
    obtain ⟨A5, k5, rfl, -, -⟩ := Bag0.shape hv5
    have hpw : p < w.heap.size := LT.out p PS.out
    have hp4 : p < w4.heap.size := heap_lt Hm4.out
    have hm5 := (hb5.block p hp4).trans (below_keep ((Below.refl w4.heap.size w4).alloc (Nat.le_refl _) (.cells #[] 23)) Hm4.out)
    have hf5 : ({ r with m := f.mani } : RfD).Fit := ⟨HFT.out.out, HF.out.mani.whole⟩
    have hm5 : RfMem w5 p { r with m := f.mani } := hm5
    have ra5 := rf_all hf5 hm5
    have x67 := ra5.mani 33 (.slice f.mani.A f.mani.parts.length f.mani.cap) (by have := f.mani.at33 HF.out.fit.lm; simpa [ManiD.row] using this)
    have z67 := ra5.frz 67
    have x67 : w5.cell? ⟨p, 67, none⟩ = some (.slice f.mani.A f.mani.parts.length f.mani.cap) := x67
    have Hm5 := Lib.hid hm5
    have Hv5 := Lib.hid (Bag0.lower hv5 HO4.out.size)
    have hO5 : Only [p] w w5 := (HO4.out.alloc _).belowB (hb5.mono HO4.out.size)
    have HO5 := Lib.hid hO5
    have HFR5 : Hid (w5.heap[b]? = some (.cells f.row 44 (0, 0))) := Lib.hid ((hb5.block b (heap_lt HFR4.out)).trans (below_keep ((Below.refl w4.heap.size w4).alloc (Nat.le_refl _) _) HFR4.out))
    clear hm5 ra5 hv5 hO5 hb5 hsrc hws hi0 hz0 hz1 hz2 b233
    go_upto_region 6 with fail
    have hm6 := heap_setCell_same _ p 67 _ _ (.slice A5 f.mani.parts.length k5) Hm5.out
    rw [rf_set67 hf5] at hm6
    have hO6 : Only [p] w5 (w5.setCell ⟨p, 67, none⟩ (.slice A5 f.mani.parts.length k5)) := (Only.refl _ _).setCell (by simp) _
    obtain ⟨w6, hw6⟩ : ∃ y, y = w5.setCell ⟨p, 67, none⟩ (.slice A5 f.mani.parts.length k5) := ⟨_, rfl⟩
    rw [← hw6] at hm6 hO6 ⊢
    obtain ⟨r6, hr6⟩ : ∃ y, y = ({ r with m := { f.mani with A := A5, cap := k5 } } : RfD) := ⟨_, rfl⟩
    have hf6 : r6.Fit := by rw [hr6]; exact ⟨HFT.out.out, HF.out.mani.whole⟩
    have hm6 : RfMem w6 p r6 := by rw [hr6]; exact hm6
    have HR6 := Lib.hid hr6
    have HF6 := Lib.hid hf6
    have ra6 := rf_all hf6 hm6
    have x68 := ra6.has
    have z68 := ra6.frz 68
    have Hm6 := Lib.hid hm6
    have HO6 := Lib.hid hO6
    clear hw6 hm6 hO6 x67 z67 ra6 hf5 hr6 hf6
    go_upto_region 7 with fail
    have hm7 := heap_setCell_same _ p 68 _ _ (.bool true) Hm6.out
    rw [rf_set68 HF6.out] at hm7
    have hO7 : Only [p] w5 (w6.setCell ⟨p, 68, none⟩ (.bool true)) := HO6.out.setCell (by simp) _
    obtain ⟨w7, hw7⟩ : ∃ y, y = w6.setCell ⟨p, 68, none⟩ (.bool true) := ⟨_, rfl⟩
    rw [← hw7] at hm7 hO7 ⊢
    obtain ⟨r7, hr7⟩ : ∃ y, y = ({ r6 with has := true } : RfD) := ⟨_, rfl⟩
    have HF7 : Hid r7.Fit := Lib.hid (by rw [hr7]; exact ⟨HF6.out.out, HF6.out.whole⟩)
    have hm7 : RfMem w7 p r7 := by rw [hr7]; exact hm7
    have HR7 := Lib.hid hr7
    clear hr7
    have Hm7 := Lib.hid hm7
    have HO7 := Lib.hid hO7
    have b233 := (fr_mem HF.out.fit (hO7.keep HFR5.out (by simpa using hbp))).parts
    clear hw7 hm7 hO7 x68 z68
    go_upto_region 8 with fail
    obtain ⟨n, hn⟩ : ∃ n, n = f.mani.parts.length := ⟨_, rfl⟩
    have Hn := Lib.hid hn
    rw [← hn] at hg8 Hv5 ⊢
    have hmk1 := mk_ones Tryd.underlying53 bool_infoZ rfl (by omega) n hg8
    have hmk2 := mk_ones Tryd.underlying54 str_info rfl (by omega) n hg8
    have hmk3 := mk_ones Tryd.underlying55 int_infoZ rfl (by omega) n hg8
    obtain ⟨L1, hL1⟩ : ∃ y, y = (List.replicate n (Value.bool false)).toArray := ⟨_, rfl⟩
    obtain ⟨L2, hL2⟩ : ∃ y, y = (List.replicate n (Value.string ByteArray.empty)).toArray := ⟨_, rfl⟩
    obtain ⟨L3, hL3⟩ : ∃ y, y = (List.replicate n (Value.int .i64 0)).toArray := ⟨_, rfl⟩
    rw [← hL1] at hmk1
    rw [← hL2] at hmk2
    rw [← hL3] at hmk3
    have HL1 := Lib.hid hL1
    have HL2 := Lib.hid hL2
    have HL3 := Lib.hid hL3
    have n8 : (n : Int) ≤ 8 := by omega
    clear hn hL1 hL2 hL3 b233
    have l7 : p < w7.heap.size := heap_lt Hm7.out
    have ha7 := (Below.refl w7.heap.size w7).alloc (Nat.le_refl _) (.cells L1 4)
    have hma : RfMem (w7.alloc (.cells L1 4)) p r7 := below_keep ha7 Hm7.out
    have ra7 := rf_all HF7.out hma
    have xx := ra7.vc
    have zz := ra7.frz 69
    have hnn := heap_alloc_new w7 (.cells L1 4)
    clear ra7
    clear hma hnn
    go_upto_region 9 with fail
    obtain ⟨wt, hwt⟩ : ∃ y, y = w7.setCell ⟨p, 69, none⟩ (.slice (some ⟨w7.heap.size, 0, none⟩) n n) := ⟨_, rfl⟩
    have hst : wt.heap.size = w7.heap.size := by rw [hwt]; simp [World.setCell]
    have hmt := heap_setCell_same _ p 69 _ _ (.slice (some ⟨w7.heap.size, 0, none⟩) n n) Hm7.out
    rw [rf_set69 HF7.out, ← hwt] at hmt
    have hms := (heap_alloc_old wt (.cells L1 4) (by rw [hst]; exact l7)).trans hmt
    have hOt : Only [p] w7 wt := by rw [hwt]; exact (Only.refl _ _).setCell (by simp) _
    have hOb : Only [p] w7 (wt.alloc (.cells L1 4)) := hOt.alloc _
    have hcn := heap_alloc_new wt (.cells L1 4)
    rw [hst] at hcn
    have hszz : w7.heap.size < (wt.alloc (.cells L1 4)).heap.size := by simp [hst]
    rw [← hwt]
    obtain ⟨w8, hwj⟩ : ∃ y, y = wt.alloc (.cells L1 4) := ⟨_, rfl⟩
    rw [← hwj] at hms hOb hcn hszz ⊢
    obtain ⟨c1, hcc⟩ : ∃ c, c = w7.heap.size := ⟨_, rfl⟩
    rw [← hcc] at hms hcn hszz ⊢
    obtain ⟨r8, hrj⟩ : ∃ y, y = ({ r7 with vc := .slice (some ⟨c1, 0, none⟩) n n } : RfD) := ⟨_, rfl⟩
    have HF8 : Hid r8.Fit := Lib.hid (by rw [hrj]; exact ⟨HF7.out.out, HF7.out.whole⟩)
    have Hm8 : Hid (RfMem w8 p r8) := Lib.hid (by rw [hrj]; exact hms)
    have HR8 := Lib.hid hrj
    clear hrj
    have HOb8 := Lib.hid hOb
    have HCc1 := Lib.hid hcn
    have S8 : c1 < w8.heap.size := hszz
    have Hc1 := Lib.hid hcc
    clear hwj hms hOb hcn hcc hszz xx zz ha7 hwt hst hmt hOt
    have l8 : p < w8.heap.size := heap_lt Hm8.out
    have ha8 := (Below.refl w8.heap.size w8).alloc (Nat.le_refl _) (.cells L2 9)
    have hma : RfMem (w8.alloc (.cells L2 9)) p r8 := below_keep ha8 Hm8.out
    have ra8 := rf_all HF8.out hma
    have xx := ra8.vd
    have zz := ra8.frz 70
    have hnn := heap_alloc_new w8 (.cells L2 9)
    clear ra8
    clear hma hnn
    go_upto_region 10 with fail
    obtain ⟨wt, hwt⟩ : ∃ y, y = w8.setCell ⟨p, 70, none⟩ (.slice (some ⟨w8.heap.size, 0, none⟩) n n) := ⟨_, rfl⟩
    have hst : wt.heap.size = w8.heap.size := by rw [hwt]; simp [World.setCell]
    have hmt := heap_setCell_same _ p 70 _ _ (.slice (some ⟨w8.heap.size, 0, none⟩) n n) Hm8.out
    rw [rf_set70 HF8.out, ← hwt] at hmt
    have hms := (heap_alloc_old wt (.cells L2 9) (by rw [hst]; exact l8)).trans hmt
    have hOt : Only [p] w8 wt := by rw [hwt]; exact (Only.refl _ _).setCell (by simp) _
    have hOb : Only [p] w8 (wt.alloc (.cells L2 9)) := hOt.alloc _
    have hcn := heap_alloc_new wt (.cells L2 9)
    rw [hst] at hcn
    have hszz : w8.heap.size < (wt.alloc (.cells L2 9)).heap.size := by simp [hst]
    rw [← hwt]
    obtain ⟨w9, hwj⟩ : ∃ y, y = wt.alloc (.cells L2 9) := ⟨_, rfl⟩
    rw [← hwj] at hms hOb hcn hszz ⊢
    obtain ⟨c2, hcc⟩ : ∃ c, c = w8.heap.size := ⟨_, rfl⟩
    rw [← hcc] at hms hcn hszz ⊢
    obtain ⟨r9, hrj⟩ : ∃ y, y = ({ r8 with vd := .slice (some ⟨c2, 0, none⟩) n n } : RfD) := ⟨_, rfl⟩
    have HF9 : Hid r9.Fit := Lib.hid (by rw [hrj]; exact ⟨HF8.out.out, HF8.out.whole⟩)
    have Hm9 : Hid (RfMem w9 p r9) := Lib.hid (by rw [hrj]; exact hms)
    have HR9 := Lib.hid hrj
    clear hrj
    have HOb9 := Lib.hid hOb
    have HCc2 := Lib.hid hcn
    have S9 : c2 < w9.heap.size := hszz
    have Hc2 := Lib.hid hcc
    clear hwj hms hOb hcn hcc hszz xx zz ha8 hwt hst hmt hOt
    have l9 : p < w9.heap.size := heap_lt Hm9.out
    have ha9 := (Below.refl w9.heap.size w9).alloc (Nat.le_refl _) (.cells L3 3)
    have hma : RfMem (w9.alloc (.cells L3 3)) p r9 := below_keep ha9 Hm9.out
    have ra9 := rf_all HF9.out hma
    have xx := ra9.va
    have zz := ra9.frz 71
    have hnn := heap_alloc_new w9 (.cells L3 3)
    clear ra9
    clear hma hnn
    go_upto_region 11 with fail
    obtain ⟨wt, hwt⟩ : ∃ y, y = w9.setCell ⟨p, 71, none⟩ (.slice (some ⟨w9.heap.size, 0, none⟩) n n) := ⟨_, rfl⟩
    have hst : wt.heap.size = w9.heap.size := by rw [hwt]; simp [World.setCell]
    have hmt := heap_setCell_same _ p 71 _ _ (.slice (some ⟨w9.heap.size, 0, none⟩) n n) Hm9.out
    rw [rf_set71 HF9.out, ← hwt] at hmt
    have hms := (heap_alloc_old wt (.cells L3 3) (by rw [hst]; exact l9)).trans hmt
    have hOt : Only [p] w9 wt := by rw [hwt]; exact (Only.refl _ _).setCell (by simp) _
    have hOb : Only [p] w9 (wt.alloc (.cells L3 3)) := hOt.alloc _
    have hcn := heap_alloc_new wt (.cells L3 3)
    rw [hst] at hcn
    have hszz : w9.heap.size < (wt.alloc (.cells L3 3)).heap.size := by simp [hst]
    rw [← hwt]
    obtain ⟨w10, hwj⟩ : ∃ y, y = wt.alloc (.cells L3 3) := ⟨_, rfl⟩
    rw [← hwj] at hms hOb hcn hszz ⊢
    obtain ⟨c3, hcc⟩ : ∃ c, c = w9.heap.size := ⟨_, rfl⟩
    rw [← hcc] at hms hcn hszz ⊢
    obtain ⟨r10, hrj⟩ : ∃ y, y = ({ r9 with va := .slice (some ⟨c3, 0, none⟩) n n } : RfD) := ⟨_, rfl⟩
    have HF10 : Hid r10.Fit := Lib.hid (by rw [hrj]; exact ⟨HF9.out.out, HF9.out.whole⟩)
    have Hm10 : Hid (RfMem w10 p r10) := Lib.hid (by rw [hrj]; exact hms)
    have HR10 := Lib.hid hrj
    clear hrj
    have HOb10 := Lib.hid hOb
    have HCc3 := Lib.hid hcn
    have S10 : c3 < w10.heap.size := hszz
    have Hc3 := Lib.hid hcc
    clear hwj hms hOb hcn hcc hszz xx zz ha9 hwt hst hmt hOt
    have hO : Only [p] w5 w10 := ((HO7.out.trans HOb8.out).trans HOb9.out).trans HOb10.out
    have e1 := Hc1.out
    have e2 := Hc2.out
    have e3 := Hc3.out
    have e7 := HO7.out.size
    have hM := Hm10.out
    rw [HR10.out, HR9.out, HR8.out, HR7.out, HR6.out] at hM
    have g1 := HOb10.out.keep (HOb9.out.keep HCc1.out (by simp; omega)) (by simp; omega)
    have g2 := HOb10.out.keep HCc2.out (by simp; omega)
    have g3 := HCc3.out
    rw [HL1.out] at g1
    rw [HL2.out] at g2
    rw [HL3.out] at g3
    have hat := rf_took OK.out HU.out LT.out PS.out HF.out Hgo.out Hne.out Hn.out hg8 HFT.out HI.out hM g1 g2 g3 Hv5.out HO5.out.size (by omega) (by omega) (by omega) hO
    have hOw : Only S w w10 := (HO5.out.trans hO).mono (by intro x hx; simp at hx; subst hx; exact PS.out)
    have hws5 := HO5.out.size
    have hSS : ∀ x ∈ S ++ (c1 :: c2 :: c3 :: blk A5), x ∈ S ∨ w.heap.size ≤ x := by
      intro x hx
      rcases List.mem_append.1 hx with h | h
      · exact .inl h
      · right
        simp only [List.mem_cons] at h
        rcases h with rfl | rfl | rfl | h
        · omega
        · omega
        · omega
        · have hv := Hv5.out
          unfold blk at h
          cases A5 with
          | none => cases h
          | some a =>
            simp only [List.mem_singleton] at h
            subst h
            rcases hv with ⟨h1, -, -⟩ | ⟨g, cap, h1, hg, hb⟩
            · cases h1
            · injection h1 with e1
              injection e1 with e1
              subst e1
              exact hg
    have HSS := Lib.hid hSS
    have HOw := Lib.hid hOw
    have HAT := Lib.hid hat
    clear hSS hOw hat hO hM g1 g2 g3 e1 e2 e3 e7 hws5 hmk1 hmk2 hmk3
    by_cases h0 : n = 0
    · have hall : Hl.allCome (withMani d f).cks = true := by
        have : f.mani.parts.length = 0 := by rw [← Hn.out]; exact h0
        simp [Hl.allCome, withMani, this]
      have hset := Hl.settle_fin KK (withMani d f) (f.mani.size, f.mani.parts) hall
      have Hset := Lib.hid (HH0.out.trans hset)
      have Hend := Lib.hid (rend_any p _ (withMani d f) (f.mani.size, f.mani.parts) w10 HAT.out rfl HD.out HFL.out)
      have hn0 : ((n : Int) == 0) = true := by simp [h0]
      clear hall hset h0
      go_wp2_with fail
      refine Hend.out.mono ?_
      rintro e w11 ⟨rfl, hH, hO11⟩
      have HH11 := Lib.hid hH
      have HO11 := Lib.hid (HOw.out.trans (hO11.mono (cs := S) (by intro x hx; simp at hx; subst hx; exact PS.out)))
      clear hH hO11
      go_wp2_with fail
      (try simp only [Exit.inBlock, Exit.then])
      refine bodyPost_ret (results_tmp rfl _ _ _) rfl ?_
      unfold RHearPost
      rw [Hset.out]
      exact ⟨_, _, rfl, Bag0.nil _ _ _, HH11.out, HO11.out, HSS.out, apart_nil _ _ _⟩
    · have hall : Hl.allCome (withMani d f).cks = false := by
        have hp : f.mani.parts.length ≠ 0 := by rw [← Hn.out]; exact h0
        unfold Hl.allCome withMani
        simp only
        rw [List.all_eq_false]
        exact ⟨_, List.mem_replicate.2 ⟨hp, rfl⟩, by simp⟩
      have hset := Hl.settle_fill KK (withMani d f) (f.mani.size, f.mani.parts) hall
      have Hset := Lib.hid (HH0.out.trans hset)
      have Hfil := Lib.hid (rfill_at p _ (withMani d f) w10 HAT.out (by simp [withMani]))
      have hn0 : ((n : Int) == 0) = false := by simp [h0]
      clear hall hset h0
      go_wp2_with fail
      refine Hfil.out.mono ?_
      rintro e w11 hact
      obtain ⟨v, S2, rfl, hA, hH, hO11, hS2, hap⟩ := rp_lift hact HOw.out HSS.out
      have HA := Lib.hid hA
      have HH11 := Lib.hid hH
      have HO11 := Lib.hid hO11
      have HS2 := Lib.hid hS2
      have HAP := Lib.hid hap
      clear hA hH hO11 hS2 hap hact
      go_wp2_with fail
      (try simp only [Exit.inBlock, Exit.then])
      refine bodyPost_ret (results_tmp rfl _ _ _) rfl ?_
      unfold RHearPost
      rw [Hset.out]
      exact ⟨_, S2, rfl, HA.out, HH11.out, HO11.out, HS2.out, HAP.out⟩
  exact AllReadyH.nil
end Go.Proofs.YtfbjbhddapoopaaDoor

set_option linter.unusedVariables false
set_option linter.unusedSimpArgs false
namespace Go.Proofs.YtfbjbhddapoopaaDoor
open Go.RowKit
attribute [local go_sem] Lb.ba_get Lb.ba_cut Lb.ba_add Lb.ba_size Lb.take_rest

theorem rf_put {w w7 : World} {S : List Nat} {p c1 c2 c3 k : Nat} {d : HlD} {r : RfD} (ok : Hl.Ok d) (und : d.done = false → d.blob = []) (lt : ∀ x ∈ S, x < w.heap.size) (pS : p ∈ S) (hm7 : RfMem w7 p r) (hf : r.Fit) (hi : RfIs r d) (hx : RfHas w S p d c1 c2 c3 r) (hO : Only [c1, c2, c3] w w7) (x : List UInt8) (hxl : x.length ≤ 64)
    (h1 : w7.heap[c1]? = some (.cells (comeV (d.cks.set k ⟨x, true, false, 0⟩)).toArray 4 (0, 0))) (h2 : w7.heap[c2]? = some (.cells (dataV (d.cks.set k ⟨x, true, false, 0⟩)).toArray 9 (0, 0))) (h3 : w7.heap[c3]? = some (.cells (askV (d.cks.set k ⟨x, true, false, 0⟩)).toArray 3 (0, 0))) :
    RfAt w7 S p { d with cks := d.cks.set k ⟨x, true, false, 0⟩ } :=
  ⟨ok.put k x hxl, und, fun q hq => Nat.lt_of_lt_of_le (lt q hq) hO.size, pS, r, hm7, hf, ⟨hi.out, hi.peer, hi.ticks, hi.text, hi.done, hi.fail⟩, .inr ⟨c1, c2, c3, { hx with
    mani := hx.mani
    whole := hx.whole
    vc := by show r.vc = .slice _ (d.cks.set k _).length (d.cks.set k _).length; rw [List.length_set]; exact hx.vc
    vd := by show r.vd = .slice _ (d.cks.set k _).length (d.cks.set k _).length; rw [List.length_set]; exact hx.vd
    va := by show r.va = .slice _ (d.cks.set k _).length (d.cks.set k _).length; rw [List.length_set]; exact hx.va
    h1 := h1
    h2 := h2
    h3 := h3
    digs := fun i hi' => by
      obtain ⟨b, o, e, hb, hn, hr⟩ := hx.digs i hi'
      exact ⟨b, o, e, hb, hn, range_keep hr (hO.block b (lt b hb) (by simp at hn ⊢; exact ⟨hn.2.1, hn.2.2.1, hn.2.2.2⟩))⟩ }⟩⟩

set_option maxHeartbeats 4000000 in
set_option maxRecDepth 100000 in
theorem rhear_part_yes (p : Nat) (S : List Nat) (d : HlD) (f : FrD) (w : World) (h : RfAt w S p d) (hf : f.Ok w) (hd : d.done = false) (hfl : d.failed = false) (hp : f.from_ = d.peer) (hdl : f.data.length ≤ 1000000) (h8 : f.kind = 8) (sp : Int × List (List UInt8)) (hmn : d.mani = some sp) (hne : f.out = d.out) (k : Nat) (hk : f.at_ = (k : Int)) (x : Ck) (hx0 : d.cks[k]? = some x) (hcm : x.come = false) (hyes : fitsS KK (Hl.mk d.out sp) f.at_ f.data = true) :
    Calls Tryd.prog 20 #[.pointer (some ⟨p, 0, none⟩), .agg f.row] w (RHearPost w S p d f) := by
  have hk7 : ¬ f.kind = 7 := by rw [h8]; decide
  have hkn : f.at_.toNat = k := by omega
  have hh : hearOf KK d f = Hl.settle KK { d with cks := d.cks.set k ⟨f.data, true, false, 0⟩ } sp := by
    unfold hearOf Hl.hear; rw [if_neg (by simp [hd, hfl, hp]), if_neg hk7, if_pos h8, hmn]
    simp only
    rw [if_pos (by simp [Hl.takes, hne, hyes, hkn, hx0, hcm]), hkn]
  clear hk7 hkn
  have HH0 := Lib.hid hh
  have Hxl := Lib.hid (fitsS_in hyes).2.2
  have Hx0 := Lib.hid hx0
  clear hh
  obtain ⟨ok, und, lt, pS, r, hm, hft, hi, hx⟩ := h
  have hB := (Below.refl w.heap.size w).alloc (Nat.le_refl _) (.cells f.row 44)
  have hm1 : RfMem (w.alloc (.cells f.row 44)) p r := below_keep hB hm
  have hfr := heap_alloc_new w (.cells f.row 44)
  have ra := rf_all hft hm1
  have k73 := ra.done
  have k74 := ra.fail
  have k32 := ra.peer
  rw [hi.done] at k73
  rw [hi.fail] at k74
  rw [hi.peer] at k32
  have f1 := (fr_mem hf.fit hfr).from_
  have HB := Lib.hid hB
  have HFR := Lib.hid hfr
  have HM1 := Lib.hid hm1
  have OK := Lib.hid ok
  have HU := Lib.hid und
  have LT := Lib.hid lt
  have PS := Lib.hid pS
  have HI := Lib.hid hi
  have HFT := Lib.hid hft
  have HX := Lib.hid hx
  have HF := Lib.hid hf
  have HD := Lib.hid hd
  have HFL := Lib.hid hfl
  have HP := Lib.hid hp
  rw [hd] at k73
  rw [hfl] at k74
  rw [hp] at f1
  obtain ⟨w1, hw1⟩ : ∃ y, y = w.alloc (.cells f.row 44) := ⟨_, rfl⟩
  obtain ⟨b, hb⟩ : ∃ y, y = w.heap.size := ⟨_, rfl⟩
  obtain ⟨pe, hpe⟩ : ∃ y, y = d.peer := ⟨_, rfl⟩
  go_enter Tryd.func20, Tryd.ntmps20
  go_upto_region 1 with fail
  rw [← hw1] at k73 k74 k32 f1 HB HFR HM1 ⊢
  rw [← hb] at f1 HFR ⊢
  rw [← hpe] at k32 f1
  have Hb := Lib.hid hb
  have hb1 : (pe != pe) = false := by simp
  have hb2 : (pe == pe) = true := by simp
  clear hw1 hb hpe hm1 hB hm hf lt pS ok und hx hfr hd hfl hp hi hft ra
  go_quiet (fail)
  go_upto_region 3 with fail
  have HB2 := Lib.hid (below_drewN'' HB.out nq)
  have HFR2 : Hid ((w1.drewN nq).heap[b]? = some (.cells f.row 44 (0, 0))) := Lib.hid HFR.out
  have HM2 : Hid (RfMem (w1.drewN nq) p r) := Lib.hid HM1.out
  obtain ⟨w2, hw2⟩ : ∃ y, y = w1.drewN nq := ⟨_, rfl⟩
  rw [← hw2] at HB2 HFR2 HM2 ⊢
  clear hw2 k73 k74 k32 f1 hb1 hb2
  have fa := fr_mem HF.out.fit HFR2.out
  have ra := rf_all HFT.out HM2.out
  have fk := fa.kind
  have x68 := ra.has
  have HDL := Lib.hid hdl
  have Hmn := Lib.hid hmn
  rw [h8] at fk
  go_quiet (fail)
  go_upto_region 15 with fail
  obtain ⟨c1, c2, c3, hx⟩ : ∃ c1 c2 c3, RfHas w S p d c1 c2 c3 r := by
    rcases HX.out with hx | hx
    · have e := hx.mani; rw [Hmn.out] at e; cases e
    · exact hx
  have HB3 := Lib.hid (below_drewN'' HB2.out nq)
  have HFR3 : Hid ((w2.drewN nq).heap[b]? = some (.cells f.row 44 (0, 0))) := Lib.hid HFR2.out
  have HM3 : Hid (RfMem (w2.drewN nq) p r) := Lib.hid HM2.out
  obtain ⟨w3, hw3⟩ : ∃ y, y = w2.drewN nq := ⟨_, rfl⟩
  rw [← hw3] at HB3 HFR3 HM3 ⊢
  clear hw3 fk x68 fa ra
  have fa := fr_mem HF.out.fit HFR3.out
  have ra := rf_all HFT.out HM3.out
  have fk := fa.kind
  rw [h8] at fk
  have fat := fa.at_
  have fda := fa.data
  have rfo := fa.out
  have ro := ra.out
  rw [HI.out.out] at ro
  have rq := ra.mani
  have x68 := ra.has
  rw [hx.has] at x68
  have x69 := ra.vc
  rw [hx.vc] at x69
  have x70 := ra.vd
  rw [hx.vd] at x70
  have x71 := ra.va
  rw [hx.va] at x71
  have hc1 := below_keep HB3.out hx.h1
  have hc2 := below_keep HB3.out hx.h2
  have hc3 := below_keep HB3.out hx.h3
  have hmw := HFT.out.whole
  have hdo := OK.out.out
  have hfo := HF.out.fit.lo
  have mdix : (Tryd.prog.info? 39).map (·.size) = some r.m.cells.length := by rw [mani_info, mani_cells_len r.m hmw]
  have mund := Tryd.underlying39
  have dund := Tryd.underlying23
  have dix : (Tryd.prog.info? 23).map (·.size) = some (byV f.out).length := by rw [dig_info, byV_length, hfo]
  have diy : (Tryd.prog.info? 23).map (·.size) = some (byV d.out).length := by rw [dig_info, byV_length, hdo]
  have hmk : r.m.size = sp.1 ∧ r.m.parts = sp.2 := by
    have e := hx.mani
    rw [Hmn.out] at e
    obtain rfl := Option.some.inj e
    exact ⟨rfl, rfl⟩
  have hft : ∀ i x, fitsS KK (Hl.mk d.out sp) i x = fitsS KK r.m i x := by
    intro i x
    unfold fitsS Hl.mk
    simp only [hmk.1, hmk.2]
  have mok := hx.mok OK.out LT.out
  have hpl : r.m.parts.length = d.cks.length := by rw [hmk.2]; exact (OK.out.some sp Hmn.out).2.1
  have HFT2 := Lib.hid (fun W (hW : Below w.heap.size w W) => rfits_any r.m f.at_ f.data W ((mok.below hW (Nat.le_refl _)).more hW.size) HF.out.alo HF.out.ahi HDL.out)
  have heq : ∀ W : World, (Op.equalIn 10000 23 (.agg (byV f.out).toArray) (.agg (byV d.out).toArray)).run Tryd.prog W = .ok (f.out == d.out) W := fun W => eqIn_dig W f.out d.out hfo hdo
  have lp : p < w3.heap.size := heap_lt HM3.out
  have lb : b < w3.heap.size := heap_lt HFR3.out
  have l1 : c1 < w3.heap.size := heap_lt hc1
  have HC1 := Lib.hid hc1
  have HC2 := Lib.hid hc2
  have HC3 := Lib.hid hc3
  have HX2 := Lib.hid hx
  have Hft := Lib.hid hft
  have Hpl := Lib.hid hpl
  have h8n := OK.out.len
  obtain ⟨n, hn⟩ : ∃ n, n = d.cks.length := ⟨_, rfl⟩
  rw [← hn] at x69 x70 x71 h8n Hpl
  have Hn := Lib.hid hn
  obtain ⟨ia, hia⟩ : ∃ y, y = f.at_ := ⟨_, rfl⟩
  rw [← hia] at fat HFT2
  have Hia := Lib.hid hia
  obtain ⟨da, hda⟩ : ∃ y, y = f.data := ⟨_, rfl⟩
  rw [← hda] at fda HFT2
  have Hda := Lib.hid hda
  clear hx h8 fa ra HX hmn hmw hdo hfo hmk hft mok hc1 hc2 hc3 hn hia hda hdl hpl
  have hb0 : (f.out == d.out) = true := by simp [hne]
  rw [hb0] at heq
  clear hb0 hne
  rw [← Hda.out] at Hxl
  rw [Hft.out, ← Hia.out, ← Hda.out] at hyes
  rw [← Hia.out] at hk
  obtain rfl := hk
  have hkn : k < n := by rw [Hn.out]; exact (List.getElem?_eq_some_iff.1 hx0).1
  have hlo2 : decide (0 ≤ (k : Int)) = true := by simp
  have hhi2 : decide ((k : Int) < (n : Int)) = true := by simp; omega
  have hhi3 : decide (k < n) = true := by simp; omega
  have kn : (k : Int) < (n : Int) := by omega
  have r1 := come_cell HC1.out hx0
  rw [hcm] at r1
  clear hcm hx0
  rw [hyes] at HFT2
  clear hyes
  obtain ⟨mc, hmc⟩ : ∃ y, y = r.m.cells := ⟨_, rfl⟩
  obtain ⟨wh, hwh⟩ : ∃ y, y = byV f.out := ⟨_, rfl⟩
  obtain ⟨ou, hou⟩ : ∃ y, y = byV d.out := ⟨_, rfl⟩
  rw [← hmc] at rq mdix
  rw [← hwh] at rfo dix heq
  rw [← hou] at ro diy heq
  have HFT3 : Hid (∀ W : World, Below w.heap.size w W → Calls Tryd.prog 72 #[.agg mc.toArray, .int .i64 (k : Int), .string ⟨da.toArray⟩] W fun e w' => e = .returned (.bool true) ∧ Below W.heap.size W w') := by rw [hmc]; exact HFT2.out
  clear hmc hwh hou HFT2
  refine wp_region_held_drew (S := fun w' => Below w3.heap.size w3 w') (by kernel_rfl) ((Below.refl _ _).drew) (fun hH0 => ?_)
  obtain ⟨W0, hW0⟩ : ∃ W, W = w3.drew := ⟨_, rfl⟩
  rw [← hW0] at hH0 ⊢
  clear hW0
  refine wpAnyH_take (i := 0) (v := ?_) rfl (by kernel_rfl) (by kernel_rfl) (by kernel_rfl) (fun _ _ _ h => h) (Or.inl ⟨by kernel_rfl, ?_⟩) hH0 ?_
  rotate_left 1
  · intro w hSw
    go_simp
    try with_reducible rfl
  try simp only [Act.put, List.getElem_toArray, List.getElem_cons_zero, List.getElem_cons_succ, List.setIfInBounds_toArray, List.set_cons_zero, List.set_cons_succ]
  refine wpAnyH_take (i := 1) (v := ?_) rfl (by kernel_rfl) (by kernel_rfl) (by kernel_rfl) (fun _ _ _ h => h) (Or.inl ⟨by kernel_rfl, ?_⟩) hH0 ?_
  rotate_left 1
  · intro w hSw
    have f0 := (hSw.cell (p := ⟨p, 68, none⟩) lp).trans x68
    have f1 := (hSw.cell (p := ⟨p, 69, none⟩) lp).trans x69
    have f2 := (hSw.cell (p := ⟨b, 0, none⟩) lb).trans fk
    have f3 := (hSw.cell (p := ⟨b, 134, none⟩) lb).trans fat
    have f4 := (hSw.cell (p := ⟨b, 135, none⟩) lb).trans fda
    have f5 := (hSw.cell (p := ⟨c1, k, none⟩) l1).trans r1
    go_simp
    try with_reducible rfl
  try simp only [Act.put, List.getElem_toArray, List.getElem_cons_zero, List.getElem_cons_succ, List.setIfInBounds_toArray, List.set_cons_zero, List.set_cons_succ]
  refine wpAnyH_take (i := 2) (v := ?_) rfl (by kernel_rfl) (by kernel_rfl) (by kernel_rfl) (fun _ _ _ h => h) (Or.inl ⟨by kernel_rfl, ?_⟩) hH0 ?_
  rotate_left 1
  · intro w hSw
    go_simp
    try with_reducible rfl
  try simp only [Act.put, List.getElem_toArray, List.getElem_cons_zero, List.getElem_cons_succ, List.setIfInBounds_toArray, List.set_cons_zero, List.set_cons_succ]
  refine wpAnyH_take (i := 3) (v := ?_) rfl (by kernel_rfl) (by kernel_rfl) (by kernel_rfl) (fun _ _ _ h => h) (Or.inl ⟨by kernel_rfl, ?_⟩) hH0 ?_
  rotate_left 1
  · intro w hSw
    go_simp
    try with_reducible rfl
  try simp only [Act.put, List.getElem_toArray, List.getElem_cons_zero, List.getElem_cons_succ, List.setIfInBounds_toArray, List.set_cons_zero, List.set_cons_succ]
  refine wpAnyH_take (i := 4) (v := ?_) rfl (by kernel_rfl) (by kernel_rfl) (by kernel_rfl) (fun _ _ _ h => h) (Or.inl ⟨by kernel_rfl, ?_⟩) hH0 ?_
  rotate_left 1
  · intro w hSw
    go_simp
    try with_reducible rfl
  try simp only [Act.put, List.getElem_toArray, List.getElem_cons_zero, List.getElem_cons_succ, List.setIfInBounds_toArray, List.set_cons_zero, List.set_cons_succ]
  refine wpAnyH_take (i := 5) (v := ?_) rfl (by kernel_rfl) (by kernel_rfl) (by kernel_rfl) (fun _ _ _ h => h) (Or.inl ⟨by kernel_rfl, ?_⟩) hH0 ?_
  rotate_left 1
  · intro w hSw
    go_simp
    try with_reducible rfl
  try simp only [Act.put, List.getElem_toArray, List.getElem_cons_zero, List.getElem_cons_succ, List.setIfInBounds_toArray, List.set_cons_zero, List.set_cons_succ]
  refine wpAnyH_take (i := 6) (v := ?_) rfl (by kernel_rfl) (by kernel_rfl) (by kernel_rfl) (fun _ _ _ h => h) (Or.inl ⟨by kernel_rfl, ?_⟩) hH0 ?_
  rotate_left 1
  · intro w hSw
    go_simp
    try with_reducible rfl
  try simp only [Act.put, List.getElem_toArray, List.getElem_cons_zero, List.getElem_cons_succ, List.setIfInBounds_toArray, List.set_cons_zero, List.set_cons_succ]
  refine wpAnyH_take (i := 7) (v := ?_) rfl (by kernel_rfl) (by kernel_rfl) (by kernel_rfl) (fun _ _ _ h => h) (Or.inl ⟨by kernel_rfl, ?_⟩) hH0 ?_
  rotate_left 1
  · intro w hSw
    have f0 := (hSw.cell (p := ⟨p, 68, none⟩) lp).trans x68
    have f1 := (hSw.cell (p := ⟨p, 69, none⟩) lp).trans x69
    have f2 := (hSw.cell (p := ⟨b, 0, none⟩) lb).trans fk
    have f3 := (hSw.cell (p := ⟨b, 134, none⟩) lb).trans fat
    have f4 := (hSw.cell (p := ⟨b, 135, none⟩) lb).trans fda
    have f5 := (hSw.cell (p := ⟨c1, k, none⟩) l1).trans r1
    go_simp
    try with_reducible rfl
  try simp only [Act.put, List.getElem_toArray, List.getElem_cons_zero, List.getElem_cons_succ, List.setIfInBounds_toArray, List.set_cons_zero, List.set_cons_succ]
  refine wpAnyH_take (i := 8) (v := ?_) rfl (by kernel_rfl) (by kernel_rfl) (by kernel_rfl) (fun _ _ _ h => h) (Or.inl ⟨by kernel_rfl, ?_⟩) hH0 ?_
  rotate_left 1
  · intro w hSw
    go_simp
    try with_reducible rfl
  try simp only [Act.put, List.getElem_toArray, List.getElem_cons_zero, List.getElem_cons_succ, List.setIfInBounds_toArray, List.set_cons_zero, List.set_cons_succ]
  refine wpAnyH_take (i := 9) (v := ?_) rfl (by kernel_rfl) (by kernel_rfl) (by kernel_rfl) (fun _ _ _ h => h) (Or.inl ⟨by kernel_rfl, ?_⟩) hH0 ?_
  rotate_left 1
  · intro w hSw
    go_simp
    try with_reducible rfl
  try simp only [Act.put, List.getElem_toArray, List.getElem_cons_zero, List.getElem_cons_succ, List.setIfInBounds_toArray, List.set_cons_zero, List.set_cons_succ]
  refine wpAnyH_take (i := 10) (v := ?_) rfl (by kernel_rfl) (by kernel_rfl) (by kernel_rfl) (fun _ _ _ h => h) (Or.inl ⟨by kernel_rfl, ?_⟩) hH0 ?_
  rotate_left 1
  · intro w hSw
    go_simp
    try with_reducible rfl
  try simp only [Act.put, List.getElem_toArray, List.getElem_cons_zero, List.getElem_cons_succ, List.setIfInBounds_toArray, List.set_cons_zero, List.set_cons_succ]
  refine wpAnyH_take (i := 11) (v := _) rfl (by kernel_rfl) (by kernel_rfl) (by kernel_rfl) (fun _ _ _ h => h) (yieldsIf_load_mid (by kernel_rfl) _ _ rfl _ _ rfl wh _ (fun W hW => range_below rfo hW lb) dund rfl dix) hH0 ?_
  try simp only [Act.put, List.getElem_toArray, List.getElem_cons_zero, List.getElem_cons_succ, List.setIfInBounds_toArray, List.set_cons_zero, List.set_cons_succ]
  refine wpAnyH_take (i := 12) (v := ?_) rfl (by kernel_rfl) (by kernel_rfl) (by kernel_rfl) (fun _ _ _ h => h) (Or.inl ⟨by kernel_rfl, ?_⟩) hH0 ?_
  rotate_left 1
  · intro w hSw
    go_simp
    try with_reducible rfl
  try simp only [Act.put, List.getElem_toArray, List.getElem_cons_zero, List.getElem_cons_succ, List.setIfInBounds_toArray, List.set_cons_zero, List.set_cons_succ]
  refine wpAnyH_take (i := 13) (v := ?_) rfl (by kernel_rfl) (by kernel_rfl) (by kernel_rfl) (fun _ _ _ h => h) (Or.inl ⟨by kernel_rfl, ?_⟩) hH0 ?_
  rotate_left 1
  · intro w hSw
    go_simp
    try with_reducible rfl
  try simp only [Act.put, List.getElem_toArray, List.getElem_cons_zero, List.getElem_cons_succ, List.setIfInBounds_toArray, List.set_cons_zero, List.set_cons_succ]
  refine wpAnyH_take (i := 14) (v := ?_) rfl (by kernel_rfl) (by kernel_rfl) (by kernel_rfl) (fun _ _ _ h => h) (Or.inl ⟨by kernel_rfl, ?_⟩) hH0 ?_
  rotate_left 1
  · intro w hSw
    go_simp
    try with_reducible rfl
  try simp only [Act.put, List.getElem_toArray, List.getElem_cons_zero, List.getElem_cons_succ, List.setIfInBounds_toArray, List.set_cons_zero, List.set_cons_succ]
  refine wpAnyH_take (i := 15) (v := _) rfl (by kernel_rfl) (by kernel_rfl) (by kernel_rfl) (fun _ _ _ h => h) (yieldsIf_load_mid (by kernel_rfl) _ _ rfl _ _ rfl ou _ (fun W hW => range_below ro hW lp) dund rfl diy) hH0 ?_
  try simp only [Act.put, List.getElem_toArray, List.getElem_cons_zero, List.getElem_cons_succ, List.setIfInBounds_toArray, List.set_cons_zero, List.set_cons_succ]
  refine wpAnyH_take (i := 16) (v := ?_) rfl (by kernel_rfl) (by kernel_rfl) (by kernel_rfl) (fun _ _ _ h => h) (Or.inl ⟨by kernel_rfl, ?_⟩) hH0 ?_
  rotate_left 1
  · intro w hSw
    go_simp
    try with_reducible rfl
  try simp only [Act.put, List.getElem_toArray, List.getElem_cons_zero, List.getElem_cons_succ, List.setIfInBounds_toArray, List.set_cons_zero, List.set_cons_succ]
  refine wpAnyH_take (i := 17) (v := ?_) rfl (by kernel_rfl) (by kernel_rfl) (by kernel_rfl) (fun _ _ _ h => h) (Or.inl ⟨by kernel_rfl, ?_⟩) hH0 ?_
  rotate_left 1
  · intro w hSw
    go_simp
    try with_reducible rfl
  try simp only [Act.put, List.getElem_toArray, List.getElem_cons_zero, List.getElem_cons_succ, List.setIfInBounds_toArray, List.set_cons_zero, List.set_cons_succ]
  refine wpAnyH_take (i := 18) (v := ?_) rfl (by kernel_rfl) (by kernel_rfl) (by kernel_rfl) (fun _ _ _ h => h) (Or.inl ⟨by kernel_rfl, ?_⟩) hH0 ?_
  rotate_left 1
  · intro w hSw
    go_simp
    try with_reducible rfl
  try simp only [Act.put, List.getElem_toArray, List.getElem_cons_zero, List.getElem_cons_succ, List.setIfInBounds_toArray, List.set_cons_zero, List.set_cons_succ]
  refine wpAnyH_take (i := 19) (v := ?_) rfl (by kernel_rfl) (by kernel_rfl) (by kernel_rfl) (fun _ _ _ h => h) (Or.inl ⟨by kernel_rfl, ?_⟩) hH0 ?_
  rotate_left 1
  · intro w hSw
    go_simp
    try with_reducible rfl
  try simp only [Act.put, List.getElem_toArray, List.getElem_cons_zero, List.getElem_cons_succ, List.setIfInBounds_toArray, List.set_cons_zero, List.set_cons_succ]
  refine wpAnyH_take (i := 20) (v := ?_) rfl (by kernel_rfl) (by kernel_rfl) (by kernel_rfl) (fun _ _ _ h => h) (Or.inl ⟨by kernel_rfl, ?_⟩) hH0 ?_
  rotate_left 1
  · intro w hSw
    have f0 := (hSw.cell (p := ⟨p, 68, none⟩) lp).trans x68
    have f1 := (hSw.cell (p := ⟨p, 69, none⟩) lp).trans x69
    have f2 := (hSw.cell (p := ⟨b, 0, none⟩) lb).trans fk
    have f3 := (hSw.cell (p := ⟨b, 134, none⟩) lb).trans fat
    have f4 := (hSw.cell (p := ⟨b, 135, none⟩) lb).trans fda
    have f5 := (hSw.cell (p := ⟨c1, k, none⟩) l1).trans r1
    go_simp
    try with_reducible rfl
  try simp only [Act.put, List.getElem_toArray, List.getElem_cons_zero, List.getElem_cons_succ, List.setIfInBounds_toArray, List.set_cons_zero, List.set_cons_succ]
  refine wpAnyH_take (i := 21) (v := ?_) rfl (by kernel_rfl) (by kernel_rfl) (by kernel_rfl) (fun _ _ _ h => h) (Or.inl ⟨by kernel_rfl, ?_⟩) hH0 ?_
  rotate_left 1
  · intro w hSw
    go_simp
    try with_reducible rfl
  try simp only [Act.put, List.getElem_toArray, List.getElem_cons_zero, List.getElem_cons_succ, List.setIfInBounds_toArray, List.set_cons_zero, List.set_cons_succ]
  refine wpAnyH_take (i := 22) (v := ?_) rfl (by kernel_rfl) (by kernel_rfl) (by kernel_rfl) (fun _ _ _ h => h) (Or.inl ⟨by kernel_rfl, ?_⟩) hH0 ?_
  rotate_left 1
  · intro w hSw
    go_simp
    try with_reducible rfl
  try simp only [Act.put, List.getElem_toArray, List.getElem_cons_zero, List.getElem_cons_succ, List.setIfInBounds_toArray, List.set_cons_zero, List.set_cons_succ]
  refine wpAnyH_take (i := 23) (v := ?_) rfl (by kernel_rfl) (by kernel_rfl) (by kernel_rfl) (fun _ _ _ h => h) (Or.inl ⟨by kernel_rfl, ?_⟩) hH0 ?_
  rotate_left 1
  · intro w hSw
    go_simp
    try with_reducible rfl
  try simp only [Act.put, List.getElem_toArray, List.getElem_cons_zero, List.getElem_cons_succ, List.setIfInBounds_toArray, List.set_cons_zero, List.set_cons_succ]
  refine wpAnyH_take (i := 24) (v := ?_) rfl (by kernel_rfl) (by kernel_rfl) (by kernel_rfl) (fun _ _ _ h => h) (Or.inl ⟨by kernel_rfl, ?_⟩) hH0 ?_
  rotate_left 1
  · intro w hSw
    go_simp
    try with_reducible rfl
  try simp only [Act.put, List.getElem_toArray, List.getElem_cons_zero, List.getElem_cons_succ, List.setIfInBounds_toArray, List.set_cons_zero, List.set_cons_succ]
  refine wpAnyH_take (i := 25) (v := ?_) rfl (by kernel_rfl) (by kernel_rfl) (by kernel_rfl) (fun _ _ _ h => h) (Or.inl ⟨by kernel_rfl, ?_⟩) hH0 ?_
  rotate_left 1
  · intro w hSw
    have f0 := (hSw.cell (p := ⟨p, 68, none⟩) lp).trans x68
    have f1 := (hSw.cell (p := ⟨p, 69, none⟩) lp).trans x69
    have f2 := (hSw.cell (p := ⟨b, 0, none⟩) lb).trans fk
    have f3 := (hSw.cell (p := ⟨b, 134, none⟩) lb).trans fat
    have f4 := (hSw.cell (p := ⟨b, 135, none⟩) lb).trans fda
    have f5 := (hSw.cell (p := ⟨c1, k, none⟩) l1).trans r1
    go_simp
    try with_reducible rfl
  try simp only [Act.put, List.getElem_toArray, List.getElem_cons_zero, List.getElem_cons_succ, List.setIfInBounds_toArray, List.set_cons_zero, List.set_cons_succ]
  refine wpAnyH_take (i := 26) (v := ?_) rfl (by kernel_rfl) (by kernel_rfl) (by kernel_rfl) (fun _ _ _ h => h) (Or.inl ⟨by kernel_rfl, ?_⟩) hH0 ?_
  rotate_left 1
  · intro w hSw
    go_simp
    try with_reducible rfl
  try simp only [Act.put, List.getElem_toArray, List.getElem_cons_zero, List.getElem_cons_succ, List.setIfInBounds_toArray, List.set_cons_zero, List.set_cons_succ]
  refine wpAnyH_take (i := 27) (v := ?_) rfl (by kernel_rfl) (by kernel_rfl) (by kernel_rfl) (fun _ _ _ h => h) (Or.inl ⟨by kernel_rfl, ?_⟩) hH0 ?_
  rotate_left 1
  · intro w hSw
    go_simp
    try with_reducible rfl
  try simp only [Act.put, List.getElem_toArray, List.getElem_cons_zero, List.getElem_cons_succ, List.setIfInBounds_toArray, List.set_cons_zero, List.set_cons_succ]
  refine wpAnyH_take (i := 28) (v := ?_) rfl (by kernel_rfl) (by kernel_rfl) (by kernel_rfl) (fun _ _ _ h => h) (Or.inl ⟨by kernel_rfl, ?_⟩) hH0 ?_
  rotate_left 1
  · intro w hSw
    go_simp
    try with_reducible rfl
  try simp only [Act.put, List.getElem_toArray, List.getElem_cons_zero, List.getElem_cons_succ, List.setIfInBounds_toArray, List.set_cons_zero, List.set_cons_succ]
  refine wpAnyH_take (i := 29) (v := ?_) rfl (by kernel_rfl) (by kernel_rfl) (by kernel_rfl) (fun _ _ _ h => h) (Or.inl ⟨by kernel_rfl, ?_⟩) hH0 ?_
  rotate_left 1
  · intro w hSw
    have f0 := (hSw.cell (p := ⟨p, 68, none⟩) lp).trans x68
    have f1 := (hSw.cell (p := ⟨p, 69, none⟩) lp).trans x69
    have f2 := (hSw.cell (p := ⟨b, 0, none⟩) lb).trans fk
    have f3 := (hSw.cell (p := ⟨b, 134, none⟩) lb).trans fat
    have f4 := (hSw.cell (p := ⟨b, 135, none⟩) lb).trans fda
    have f5 := (hSw.cell (p := ⟨c1, k, none⟩) l1).trans r1
    go_simp
    try with_reducible rfl
  try simp only [Act.put, List.getElem_toArray, List.getElem_cons_zero, List.getElem_cons_succ, List.setIfInBounds_toArray, List.set_cons_zero, List.set_cons_succ]
  refine wpAnyH_take (i := 30) (v := ?_) rfl (by kernel_rfl) (by kernel_rfl) (by kernel_rfl) (fun _ _ _ h => h) (Or.inl ⟨by kernel_rfl, ?_⟩) hH0 ?_
  rotate_left 1
  · intro w hSw
    go_simp
    try with_reducible rfl
  try simp only [Act.put, List.getElem_toArray, List.getElem_cons_zero, List.getElem_cons_succ, List.setIfInBounds_toArray, List.set_cons_zero, List.set_cons_succ]
  refine wpAnyH_take (i := 31) (v := ?_) rfl (by kernel_rfl) (by kernel_rfl) (by kernel_rfl) (fun _ _ _ h => h) (Or.inl ⟨by kernel_rfl, ?_⟩) hH0 ?_
  rotate_left 1
  · intro w hSw
    go_simp
    try with_reducible rfl
  try simp only [Act.put, List.getElem_toArray, List.getElem_cons_zero, List.getElem_cons_succ, List.setIfInBounds_toArray, List.set_cons_zero, List.set_cons_succ]
  refine wpAnyH_take (i := 32) (v := ?_) rfl (by kernel_rfl) (by kernel_rfl) (by kernel_rfl) (fun _ _ _ h => h) (Or.inl ⟨by kernel_rfl, ?_⟩) hH0 ?_
  rotate_left 1
  · intro w hSw
    go_simp
    try with_reducible rfl
  try simp only [Act.put, List.getElem_toArray, List.getElem_cons_zero, List.getElem_cons_succ, List.setIfInBounds_toArray, List.set_cons_zero, List.set_cons_succ]
  refine wpAnyH_take (i := 33) (v := ?_) rfl (by kernel_rfl) (by kernel_rfl) (by kernel_rfl) (fun _ _ _ h => h) (Or.inl ⟨by kernel_rfl, ?_⟩) hH0 ?_
  rotate_left 1
  · intro w hSw
    go_simp
    try with_reducible rfl
  try simp only [Act.put, List.getElem_toArray, List.getElem_cons_zero, List.getElem_cons_succ, List.setIfInBounds_toArray, List.set_cons_zero, List.set_cons_succ]
  refine wpAnyH_take (i := 34) (v := ?_) rfl (by kernel_rfl) (by kernel_rfl) (by kernel_rfl) (fun _ _ _ h => h) (Or.inl ⟨by kernel_rfl, ?_⟩) hH0 ?_
  rotate_left 1
  · intro w hSw
    go_simp
    try with_reducible rfl
  try simp only [Act.put, List.getElem_toArray, List.getElem_cons_zero, List.getElem_cons_succ, List.setIfInBounds_toArray, List.set_cons_zero, List.set_cons_succ]
  refine wpAnyH_take (i := 35) (v := ?_) rfl (by kernel_rfl) (by kernel_rfl) (by kernel_rfl) (fun _ _ _ h => h) (Or.inl ⟨by kernel_rfl, ?_⟩) hH0 ?_
  rotate_left 1
  · intro w hSw
    go_simp
    try with_reducible rfl
  try simp only [Act.put, List.getElem_toArray, List.getElem_cons_zero, List.getElem_cons_succ, List.setIfInBounds_toArray, List.set_cons_zero, List.set_cons_succ]
  refine wpAnyH_take (i := 36) (v := ?_) rfl (by kernel_rfl) (by kernel_rfl) (by kernel_rfl) (fun _ _ _ h => h) (Or.inl ⟨by kernel_rfl, ?_⟩) hH0 ?_
  rotate_left 1
  · intro w hSw
    go_simp
    try with_reducible rfl
  try simp only [Act.put, List.getElem_toArray, List.getElem_cons_zero, List.getElem_cons_succ, List.setIfInBounds_toArray, List.set_cons_zero, List.set_cons_succ]
  refine wpAnyH_take (i := 37) (v := ?_) rfl (by kernel_rfl) (by kernel_rfl) (by kernel_rfl) (fun _ _ _ h => h) (Or.inl ⟨by kernel_rfl, ?_⟩) hH0 ?_
  rotate_left 1
  · intro w hSw
    have f0 := (hSw.cell (p := ⟨p, 68, none⟩) lp).trans x68
    have f1 := (hSw.cell (p := ⟨p, 69, none⟩) lp).trans x69
    have f2 := (hSw.cell (p := ⟨b, 0, none⟩) lb).trans fk
    have f3 := (hSw.cell (p := ⟨b, 134, none⟩) lb).trans fat
    have f4 := (hSw.cell (p := ⟨b, 135, none⟩) lb).trans fda
    have f5 := (hSw.cell (p := ⟨c1, k, none⟩) l1).trans r1
    go_simp
    try with_reducible rfl
  try simp only [Act.put, List.getElem_toArray, List.getElem_cons_zero, List.getElem_cons_succ, List.setIfInBounds_toArray, List.set_cons_zero, List.set_cons_succ]
  refine wpAnyH_take (i := 38) (v := ?_) rfl (by kernel_rfl) (by kernel_rfl) (by kernel_rfl) (fun _ _ _ h => h) (Or.inl ⟨by kernel_rfl, ?_⟩) hH0 ?_
  rotate_left 1
  · intro w hSw
    go_simp
    try with_reducible rfl
  try simp only [Act.put, List.getElem_toArray, List.getElem_cons_zero, List.getElem_cons_succ, List.setIfInBounds_toArray, List.set_cons_zero, List.set_cons_succ]
  refine wpAnyH_take (i := 39) (v := ?_) rfl (by kernel_rfl) (by kernel_rfl) (by kernel_rfl) (fun _ _ _ h => h) (Or.inl ⟨by kernel_rfl, ?_⟩) hH0 ?_
  rotate_left 1
  · intro w hSw
    have f0 := (hSw.cell (p := ⟨p, 68, none⟩) lp).trans x68
    have f1 := (hSw.cell (p := ⟨p, 69, none⟩) lp).trans x69
    have f2 := (hSw.cell (p := ⟨b, 0, none⟩) lb).trans fk
    have f3 := (hSw.cell (p := ⟨b, 134, none⟩) lb).trans fat
    have f4 := (hSw.cell (p := ⟨b, 135, none⟩) lb).trans fda
    have f5 := (hSw.cell (p := ⟨c1, k, none⟩) l1).trans r1
    go_simp
    try with_reducible rfl
  try simp only [Act.put, List.getElem_toArray, List.getElem_cons_zero, List.getElem_cons_succ, List.setIfInBounds_toArray, List.set_cons_zero, List.set_cons_succ]
  refine wpAnyH_take (i := 40) (v := ?_) rfl (by kernel_rfl) (by kernel_rfl) (by kernel_rfl) (fun _ _ _ h => h) (Or.inl ⟨by kernel_rfl, ?_⟩) hH0 ?_
  rotate_left 1
  · intro w hSw
    go_simp
    try with_reducible rfl
  try simp only [Act.put, List.getElem_toArray, List.getElem_cons_zero, List.getElem_cons_succ, List.setIfInBounds_toArray, List.set_cons_zero, List.set_cons_succ]
  refine wpAnyH_take (i := 41) (v := ?_) rfl (by kernel_rfl) (by kernel_rfl) (by kernel_rfl) (fun _ _ _ h => h) (Or.inl ⟨by kernel_rfl, ?_⟩) hH0 ?_
  rotate_left 1
  · intro w hSw
    have f0 := (hSw.cell (p := ⟨p, 68, none⟩) lp).trans x68
    have f1 := (hSw.cell (p := ⟨p, 69, none⟩) lp).trans x69
    have f2 := (hSw.cell (p := ⟨b, 0, none⟩) lb).trans fk
    have f3 := (hSw.cell (p := ⟨b, 134, none⟩) lb).trans fat
    have f4 := (hSw.cell (p := ⟨b, 135, none⟩) lb).trans fda
    have f5 := (hSw.cell (p := ⟨c1, k, none⟩) l1).trans r1
    go_simp
    try with_reducible rfl
  try simp only [Act.put, List.getElem_toArray, List.getElem_cons_zero, List.getElem_cons_succ, List.setIfInBounds_toArray, List.set_cons_zero, List.set_cons_succ]
  refine wpAnyH_take (i := 42) (v := ?_) rfl (by kernel_rfl) (by kernel_rfl) (by kernel_rfl) (fun _ _ _ h => h) (Or.inl ⟨by kernel_rfl, ?_⟩) hH0 ?_
  rotate_left 1
  · intro w hSw
    go_simp
    try with_reducible rfl
  try simp only [Act.put, List.getElem_toArray, List.getElem_cons_zero, List.getElem_cons_succ, List.setIfInBounds_toArray, List.set_cons_zero, List.set_cons_succ]
  refine wpAnyH_take (i := 43) (v := ?_) rfl (by kernel_rfl) (by kernel_rfl) (by kernel_rfl) (fun _ _ _ h => h) (Or.inl ⟨by kernel_rfl, ?_⟩) hH0 ?_
  rotate_left 1
  · intro w hSw
    go_simp
    try with_reducible rfl
  try simp only [Act.put, List.getElem_toArray, List.getElem_cons_zero, List.getElem_cons_succ, List.setIfInBounds_toArray, List.set_cons_zero, List.set_cons_succ]
  refine wpAnyH_take (i := 44) (v := ?_) rfl (by kernel_rfl) (by kernel_rfl) (by kernel_rfl) (fun _ _ _ h => h) (Or.inl ⟨by kernel_rfl, ?_⟩) hH0 ?_
  rotate_left 1
  · intro w hSw
    go_simp
    try with_reducible rfl
  try simp only [Act.put, List.getElem_toArray, List.getElem_cons_zero, List.getElem_cons_succ, List.setIfInBounds_toArray, List.set_cons_zero, List.set_cons_succ]
  refine wpAnyH_take (i := 45) (v := ?_) rfl (by kernel_rfl) (by kernel_rfl) (by kernel_rfl) (fun _ _ _ h => h) (Or.inl ⟨by kernel_rfl, ?_⟩) hH0 ?_
  rotate_left 1
  · intro w hSw
    go_simp
    try with_reducible rfl
  try simp only [Act.put, List.getElem_toArray, List.getElem_cons_zero, List.getElem_cons_succ, List.setIfInBounds_toArray, List.set_cons_zero, List.set_cons_succ]
  refine wpAnyH_take (i := 46) (v := ?_) rfl (by kernel_rfl) (by kernel_rfl) (by kernel_rfl) (fun _ _ _ h => h) (Or.inl ⟨by kernel_rfl, ?_⟩) hH0 ?_
  rotate_left 1
  · intro w hSw
    go_simp
    try with_reducible rfl
  try simp only [Act.put, List.getElem_toArray, List.getElem_cons_zero, List.getElem_cons_succ, List.setIfInBounds_toArray, List.set_cons_zero, List.set_cons_succ]
  refine wpAnyH_take (i := 47) (v := ?_) rfl (by kernel_rfl) (by kernel_rfl) (by kernel_rfl) (fun _ _ _ h => h) (Or.inl ⟨by kernel_rfl, ?_⟩) hH0 ?_
  rotate_left 1
  · intro w hSw
    go_simp
    try with_reducible rfl
  try simp only [Act.put, List.getElem_toArray, List.getElem_cons_zero, List.getElem_cons_succ, List.setIfInBounds_toArray, List.set_cons_zero, List.set_cons_succ]
  refine wpAnyH_take (i := 48) (v := _) rfl (by kernel_rfl) (by kernel_rfl) (by kernel_rfl) (fun _ _ _ h => h) (yieldsIf_load_mid (by kernel_rfl) _ _ rfl _ _ rfl mc _ (fun W hW => range_below rq hW lp) mund rfl mdix) hH0 ?_
  try simp only [Act.put, List.getElem_toArray, List.getElem_cons_zero, List.getElem_cons_succ, List.setIfInBounds_toArray, List.set_cons_zero, List.set_cons_succ]
  refine wpAnyH_take (i := 49) (v := ?_) rfl (by kernel_rfl) (by kernel_rfl) (by kernel_rfl) (fun _ _ _ h => h) (Or.inl ⟨by kernel_rfl, ?_⟩) hH0 ?_
  rotate_left 1
  · intro w hSw
    go_simp
    try with_reducible rfl
  try simp only [Act.put, List.getElem_toArray, List.getElem_cons_zero, List.getElem_cons_succ, List.setIfInBounds_toArray, List.set_cons_zero, List.set_cons_succ]
  refine wpAnyH_take (i := 50) (v := ?_) rfl (by kernel_rfl) (by kernel_rfl) (by kernel_rfl) (fun _ _ _ h => h) (Or.inl ⟨by kernel_rfl, ?_⟩) hH0 ?_
  rotate_left 1
  · intro w hSw
    have f0 := (hSw.cell (p := ⟨p, 68, none⟩) lp).trans x68
    have f1 := (hSw.cell (p := ⟨p, 69, none⟩) lp).trans x69
    have f2 := (hSw.cell (p := ⟨b, 0, none⟩) lb).trans fk
    have f3 := (hSw.cell (p := ⟨b, 134, none⟩) lb).trans fat
    have f4 := (hSw.cell (p := ⟨b, 135, none⟩) lb).trans fda
    have f5 := (hSw.cell (p := ⟨c1, k, none⟩) l1).trans r1
    go_simp
    try with_reducible rfl
  try simp only [Act.put, List.getElem_toArray, List.getElem_cons_zero, List.getElem_cons_succ, List.setIfInBounds_toArray, List.set_cons_zero, List.set_cons_succ]
  refine wpAnyH_take (i := 51) (v := ?_) rfl (by kernel_rfl) (by kernel_rfl) (by kernel_rfl) (fun _ _ _ h => h) (Or.inl ⟨by kernel_rfl, ?_⟩) hH0 ?_
  rotate_left 1
  · intro w hSw
    go_simp
    try with_reducible rfl
  try simp only [Act.put, List.getElem_toArray, List.getElem_cons_zero, List.getElem_cons_succ, List.setIfInBounds_toArray, List.set_cons_zero, List.set_cons_succ]
  refine wpAnyH_take (i := 52) (v := ?_) rfl (by kernel_rfl) (by kernel_rfl) (by kernel_rfl) (fun _ _ _ h => h) (Or.inl ⟨by kernel_rfl, ?_⟩) hH0 ?_
  rotate_left 1
  · intro w hSw
    have f0 := (hSw.cell (p := ⟨p, 68, none⟩) lp).trans x68
    have f1 := (hSw.cell (p := ⟨p, 69, none⟩) lp).trans x69
    have f2 := (hSw.cell (p := ⟨b, 0, none⟩) lb).trans fk
    have f3 := (hSw.cell (p := ⟨b, 134, none⟩) lb).trans fat
    have f4 := (hSw.cell (p := ⟨b, 135, none⟩) lb).trans fda
    have f5 := (hSw.cell (p := ⟨c1, k, none⟩) l1).trans r1
    go_simp
    try with_reducible rfl
  try simp only [Act.put, List.getElem_toArray, List.getElem_cons_zero, List.getElem_cons_succ, List.setIfInBounds_toArray, List.set_cons_zero, List.set_cons_succ]
  refine wpAnyH_ready (rs := [53]) (by kernel_rfl) (by simp) ?_
  refine AllReadyH.cons rfl (fun K_ hK => ?_) ?_
  · go_simp
    refine (HFT3.out W0 (HB3.out.trans ((hH0).mono HB3.out.size))).mono ?_
    rintro e W1 ⟨rfl, hb1⟩
    refine hK.out _ _ ((hH0).trans (hb1.mono (hH0).size)) (fun hH1 => ?_)
    clear hK K_
    try simp only [Act.put, List.getElem_toArray, List.getElem_cons_zero, List.getElem_cons_succ, List.setIfInBounds_toArray, List.set_cons_zero, List.set_cons_succ]
    refine wpAnyH_take (i := 54) (v := ?_) rfl (by kernel_rfl) (by kernel_rfl) (by kernel_rfl) (fun _ _ _ h => h) (Or.inl ⟨by kernel_rfl, ?_⟩) hH1 ?_
    rotate_left 1
    · intro w hSw
      go_simp
      try with_reducible rfl
    try simp only [Act.put, List.getElem_toArray, List.getElem_cons_zero, List.getElem_cons_succ, List.setIfInBounds_toArray, List.set_cons_zero, List.set_cons_succ]
    refine wpAnyH_done (by kernel_rfl) ?_ _
    have HH := Lib.hid hH1
    obtain ⟨w4, hw4⟩ : ∃ y, y = W1 := ⟨_, rfl⟩
    rw [← hw4] at HH ⊢
    clear hH1 hw4 HFT3 heq dix diy mdix mund dund fk fat fda rfo ro rq x68 x69 x70 x71 r1
    have HB4 := Lib.hid (HB3.out.trans (HH.out.mono HB3.out.size))
    have Hm4 : Hid (RfMem w4 p r) := Lib.hid (below_keep HH.out HM3.out)
    have HFR4 := Lib.hid (below_keep HH.out HFR3.out)
    have H1 := Lib.hid (below_keep HH.out HC1.out)
    have H2 := Lib.hid (below_keep HH.out HC2.out)
    have H3 := Lib.hid (below_keep HH.out HC3.out)
    have hpw : p < w.heap.size := LT.out p PS.out
    have h1w : c1 < w.heap.size := LT.out c1 HX2.out.s1
    have h2w : c2 < w.heap.size := LT.out c2 HX2.out.s2
    have h3w : c3 < w.heap.size := LT.out c3 HX2.out.s3
    have n1 := HX2.out.p1
    have n2 := HX2.out.p2
    have n3 := HX2.out.p3
    have n12 := HX2.out.n12
    have n13 := HX2.out.n13
    have n23 := HX2.out.n23
    have N := Lib.hid (And.intro (And.intro (And.intro n1 n2) n3) (And.intro (And.intro n12 n13) n23))
    clear n1 n2 n3 n12 n13 n23
    have ra := rf_all HFT.out Hm4.out
    have xs := ra.vc
    rw [HX2.out.vc, ← Hn.out] at xs
    have fa := fr_mem HF.out.fit HFR4.out
    have gat := fa.at_
    rw [← Hia.out] at gat
    have gda := fa.data
    rw [← Hda.out] at gda
    have rc := come_cell H1.out Hx0.out
    have zc : w4.frozen? ⟨c1, k, none⟩ = false := Lib.frozen_of_heap H1.out _
    clear ra fa
    go_upto_region 16 with fail
    go_region
    go_upto_region 17 with fail
    have hs := heap_setCell_same _ c1 k _ _ (.bool true) H1.out
    rw [comeV_set d.cks k ⟨da, true, false, 0⟩] at hs
    have hOs : Only [c1] w4 ((w4.setCell ⟨c1, k, none⟩ (.bool true)).drew) := ((Only.refl _ _).setCell (by simp) _).drew
    have hs : ((w4.setCell ⟨c1, k, none⟩ (.bool true)).drew).heap[c1]? = _ := hs
    obtain ⟨w5, hwj⟩ : ∃ y, y = (w4.setCell ⟨c1, k, none⟩ (.bool true)).drew := ⟨_, rfl⟩
    rw [← hwj] at hs hOs ⊢
    have G1 := Lib.hid hs
    have HOs5 := Lib.hid hOs
    have Hm5 : Hid (RfMem w5 p r) := Lib.hid (hOs.keep Hm4.out (by simp; exact fun e => by have := N.out; omega))
    have HFR5 := Lib.hid (hOs.keep HFR4.out (by simp; have := Hb.out; omega))
    clear hs hOs hwj xs gat gda rc zc
    have H2b := Lib.hid (HOs5.out.keep H2.out (by simp; exact fun e => by have := N.out; omega))
    have ra := rf_all HFT.out Hm5.out
    have xs := ra.vd
    rw [HX2.out.vd, ← Hn.out] at xs
    have fa := fr_mem HF.out.fit HFR5.out
    have gat := fa.at_
    rw [← Hia.out] at gat
    have gda := fa.data
    rw [← Hda.out] at gda
    have rc := data_cell H2b.out Hx0.out
    have zc : w5.frozen? ⟨c2, k, none⟩ = false := Lib.frozen_of_heap H2b.out _
    clear ra fa
    go_upto_region 17 with fail
    go_region
    go_upto_region 18 with fail
    have hs := heap_setCell_same _ c2 k _ _ (.string ⟨da.toArray⟩) H2b.out
    rw [dataV_set d.cks k ⟨da, true, false, 0⟩] at hs
    have hOs : Only [c2] w5 ((w5.setCell ⟨c2, k, none⟩ (.string ⟨da.toArray⟩)).drew) := ((Only.refl _ _).setCell (by simp) _).drew
    have hs : ((w5.setCell ⟨c2, k, none⟩ (.string ⟨da.toArray⟩)).drew).heap[c2]? = _ := hs
    obtain ⟨w6, hwj⟩ : ∃ y, y = (w5.setCell ⟨c2, k, none⟩ (.string ⟨da.toArray⟩)).drew := ⟨_, rfl⟩
    rw [← hwj] at hs hOs ⊢
    have G2 := Lib.hid hs
    have HOs6 := Lib.hid hOs
    have Hm6 : Hid (RfMem w6 p r) := Lib.hid (hOs.keep Hm5.out (by simp; exact fun e => by have := N.out; omega))
    have HFR6 := Lib.hid (hOs.keep HFR5.out (by simp; have := Hb.out; omega))
    clear hs hOs hwj xs gat gda rc zc
    have H3b := Lib.hid (HOs6.out.keep (HOs5.out.keep H3.out (by simp; exact fun e => by have := N.out; omega)) (by simp; exact fun e => by have := N.out; omega))
    have ra := rf_all HFT.out Hm6.out
    have xs := ra.va
    rw [HX2.out.va, ← Hn.out] at xs
    have fa := fr_mem HF.out.fit HFR6.out
    have gat := fa.at_
    rw [← Hia.out] at gat
    have gda := fa.data
    rw [← Hda.out] at gda
    have rc := ask_cell H3b.out Hx0.out
    have zc : w6.frozen? ⟨c3, k, none⟩ = false := Lib.frozen_of_heap H3b.out _
    clear ra fa
    go_upto_region 18 with fail
    go_region
    go_upto_region 19 with fail
    have hs := heap_setCell_same _ c3 k _ _ (.int .i64 0) H3b.out
    rw [askV_set0 d.cks k ⟨da, true, false, 0⟩ rfl] at hs
    have hOs : Only [c3] w6 ((w6.setCell ⟨c3, k, none⟩ (.int .i64 0)).drew) := ((Only.refl _ _).setCell (by simp) _).drew
    have hs : ((w6.setCell ⟨c3, k, none⟩ (.int .i64 0)).drew).heap[c3]? = _ := hs
    obtain ⟨w7, hwj⟩ : ∃ y, y = (w6.setCell ⟨c3, k, none⟩ (.int .i64 0)).drew := ⟨_, rfl⟩
    rw [← hwj] at hs hOs ⊢
    have G3 := Lib.hid hs
    have HOs7 := Lib.hid hOs
    have Hm7 : Hid (RfMem w7 p r) := Lib.hid (hOs.keep Hm6.out (by simp; exact fun e => by have := N.out; omega))
    have HFR7 := Lib.hid (hOs.keep HFR6.out (by simp; have := Hb.out; omega))
    clear hs hOs hwj xs gat gda rc zc
    have g1 := HOs7.out.keep (HOs6.out.keep G1.out (by simp; exact fun e => by have := N.out; omega)) (by simp; exact fun e => by have := N.out; omega)
    have g2 := HOs7.out.keep G2.out (by simp; exact fun e => by have := N.out; omega)
    have hOw : Only [c1, c2, c3] w w7 := (((Only.of_below HB4.out).trans (HOs5.out.mono (by simp))).trans (HOs6.out.mono (by simp))).trans (HOs7.out.mono (by simp))
    have hat := rf_put (k := k) OK.out HU.out LT.out PS.out Hm7.out HFT.out HI.out HX2.out hOw da Hxl.out g1 g2 G3.out
    have HOw := Lib.hid (hOw.mono (cs := S) (by intro q hq; simp at hq; rcases hq with rfl | rfl | rfl; exact HX2.out.s1; exact HX2.out.s2; exact HX2.out.s3))
    have Hg1 := Lib.hid g1
    have hH0 := HH0.out
    rw [← Hda.out] at hH0
    obtain ⟨d', hd'⟩ : ∃ y, y = ({ d with cks := d.cks.set k ⟨da, true, false, 0⟩ } : HlD) := ⟨_, rfl⟩
    rw [← hd'] at hat hH0
    have hck : d'.cks = d.cks.set k ⟨da, true, false, 0⟩ := by rw [hd']
    rw [← hck] at Hg1
    have hnl : n = d'.cks.length := by rw [hck, List.length_set, Hn.out]
    have hmd : d'.mani = some sp := by rw [hd']; exact Hmn.out
    have hpd : d'.peer = d.peer ∧ d'.out = d.out ∧ d'.done = false ∧ d'.failed = false := by rw [hd']; exact ⟨rfl, rfl, HD.out, HFL.out⟩
    have ra := rf_all HFT.out Hm7.out
    have x69 := ra.vc
    rw [HX2.out.vc, ← Hn.out] at x69
    have HAT := Lib.hid hat
    have HS0 := Lib.hid hH0
    have Hnl := Lib.hid hnl
    have Hpd := Lib.hid hpd
    have Hend := Lib.hid (rend_any p S d' sp w7 HAT.out hmd hpd.2.2.1 hpd.2.2.2)
    have Hfil : Hid (Calls Tryd.prog 66 #[.pointer (some ⟨p, 0, none⟩)] w7 (RefPost w7 S p d.peer d.out (Hl.fill d'.ticks d'.cks).2 { d' with cks := (Hl.fill d'.ticks d'.cks).1 })) := Lib.hid ((rfill_at p S d' w7 HAT.out (by rw [hmd]; simp)).mono fun e w' hh => by rw [← hpd.1, ← hpd.2.1]; exact hh)
    clear g1 g2 hOw hat hH0 hd' hck hnl hmd hpd ra G1 G2 G3 H1 H2 H3 H2b H3b HH0
    go_wp2_with fail
    go_loopw [6] (fun i wx => ∃ j : Nat, j ≤ n ∧ i = .int .i64 j ∧ (∀ c ∈ d'.cks.take j, c.come = true) ∧ w7 = wx) (fun i _ => n - (intOf i).toNat)
    case atStart => exact ⟨0, by omega, rfl, by simp, rfl⟩
    case round =>
      obtain ⟨j, hj, rfl, hcm, rfl⟩ := hrel
      have Hcm := Lib.hid hcm
      clear hcm
      by_cases hjn : j < n
      · have hjl : j < d'.cks.length := by rw [← Hnl.out]; exact hjn
        obtain ⟨y, hy⟩ : ∃ y, d'.cks[j]? = some y := ⟨_, List.getElem?_eq_getElem hjl⟩
        have rc := come_cell Hg1.out hy
        have jn : (j : Int) < (n : Int) := by omega
        have Hy := Lib.hid hy
        obtain ⟨b, hb⟩ : ∃ b, b = y.come := ⟨_, rfl⟩
        rw [← hb] at rc
        have Hb' := Lib.hid hb
        clear hy hb
        cases b
        · have hall : Hl.allCome d'.cks = false := by
            unfold Hl.allCome
            rw [List.all_eq_false]
            exact ⟨y, List.mem_of_getElem? Hy.out, by rw [← Hb'.out]; simp⟩
          have Hset := Lib.hid (HS0.out.trans (Hl.settle_fill KK d' sp hall))
          clear hall
          go_wp2_with fail
          refine Hfil.out.mono ?_
          rintro e w11 hact
          obtain ⟨v, S2, rfl, hA, hH, hO11, hS2, hap⟩ := rp_lift hact HOw.out (fun q hq => .inl hq)
          have HA := Lib.hid hA
          have HH11 := Lib.hid hH
          have HO11 := Lib.hid hO11
          have HS2 := Lib.hid hS2
          have HAP := Lib.hid hap
          clear hA hH hO11 hS2 hap hact
          go_wp2_with fail
          (try simp only [Exit.inBlock, Exit.then])
          refine bodyPost_ret (results_tmp rfl _ _ _) rfl ?_
          unfold RHearPost
          rw [Hset.out]
          exact ⟨_, S2, rfl, HA.out, HH11.out, HO11.out, HS2.out, HAP.out⟩
        · have hcm2 := Hl.come_take d'.cks j y Hy.out Hcm.out Hb'.out.symm
          have Hcm2 := Lib.hid hcm2
          clear hcm2
          go_wp2_with fail
          go_roundw
          case rel => exact ⟨j + 1, by omega, by go_num, Hcm2.out, by first | trivial | rfl⟩
          case measure => simp [intOf]; omega
      · obtain rfl : n = j := by omega
        have hall : Hl.allCome d'.cks = true := by
          unfold Hl.allCome
          rw [List.all_eq_true]
          intro y hy
          exact Hcm.out y (by rw [Hnl.out, List.take_length]; exact hy)
        have Hset := Lib.hid (HS0.out.trans (Hl.settle_fin KK d' sp hall))
        clear hall
        go_wp2_with fail
        refine Hend.out.mono ?_
        rintro e w11 ⟨rfl, hH, hO11⟩
        have HH11 := Lib.hid hH
        have HO11 := Lib.hid (HOw.out.trans (hO11.mono (cs := S) (by intro q hq; simp at hq; subst hq; exact PS.out)))
        clear hH hO11
        go_wp2_with fail
        (try simp only [Exit.inBlock, Exit.then])
        refine bodyPost_ret (results_tmp rfl _ _ _) rfl ?_
        unfold RHearPost
        rw [Hset.out]
        exact ⟨_, S, rfl, Bag0.nil _ _ _, HH11.out, HO11.out, fun q hq => .inl hq, apart_nil _ _ _⟩
  exact AllReadyH.nil
theorem rhear_any (p : Nat) (S : List Nat) (d : HlD) (f : FrD) (w : World) (h : RfAt w S p d) (hf : f.Ok w) (hdl : f.data.length ≤ 1000000) (hap : 0 < f.mani.parts.length → ∀ a, f.mani.A = some a → a.block ∉ S) :
    Calls Tryd.prog 20 #[.pointer (some ⟨p, 0, none⟩), .agg f.row] w (RHearPost w S p d f) := by
  by_cases hc : d.done = true ∨ d.failed = true ∨ f.from_ ≠ d.peer
  · exact rhear_closed p S d f w h hf hc
  · have hd : d.done = false := by cases hq : d.done <;> simp_all
    have hfl : d.failed = false := by cases hq : d.failed <;> simp_all
    have hp : f.from_ = d.peer := by
      by_cases hq : f.from_ = d.peer
      · exact hq
      · exact absurd (.inr (.inr hq)) hc
    by_cases h7 : f.kind = 7
    · by_cases hmn : d.mani = none
      · by_cases hgo : goodS f.mani.size f.mani.parts.length = true
        · by_cases hne : f.mani.whole = d.out
          · exact rhear_mani_yes p S d f w h hf hd hfl hp h7 hmn hgo hne hap
          · exact rhear_mani_alien p S d f w h hf hd hfl hp h7 hmn hgo hne
        · exact rhear_mani_bad p S d f w h hf hd hfl hp h7 hmn (by simpa using hgo)
      · exact rhear_mani_had p S d f w h hf hd hfl hp h7 hmn
    · by_cases h8 : f.kind = 8
      · cases hmn : d.mani with
        | none => exact rhear_part_none p S d f w h hf hd hfl hp h8 hmn
        | some sp =>
          by_cases hne : f.out = d.out
          · by_cases hlo : f.at_ < 0
            · exact rhear_part_low p S d f w h hf hd hfl hp hdl h8 sp hmn hne hlo
            · by_cases hhi : f.at_ < (d.cks.length : Int)
              · obtain ⟨k, hk⟩ : ∃ k : Nat, f.at_ = (k : Int) := ⟨f.at_.toNat, by omega⟩
                obtain ⟨x, hx⟩ : ∃ x, d.cks[k]? = some x := ⟨_, List.getElem?_eq_getElem (by omega)⟩
                cases hcm : x.come with
                | true => exact rhear_part_twice p S d f w h hf hd hfl hp hdl h8 sp hmn hne k hk x hx hcm
                | false =>
                  by_cases hyes : fitsS KK (Hl.mk d.out sp) f.at_ f.data = true
                  · exact rhear_part_yes p S d f w h hf hd hfl hp hdl h8 sp hmn hne k hk x hx hcm hyes
                  · exact rhear_part_unfit p S d f w h hf hd hfl hp hdl h8 sp hmn hne k hk x hx hcm (by simpa using hyes)
              · exact rhear_part_high p S d f w h hf hd hfl hp hdl h8 sp hmn hne (by omega) hhi
          · exact rhear_part_alien p S d f w h hf hd hfl hp hdl h8 sp hmn hne
      · exact rhear_other p S d f w h hf hd hfl hp h7 h8
end Go.Proofs.YtfbjbhddapoopaaDoor
