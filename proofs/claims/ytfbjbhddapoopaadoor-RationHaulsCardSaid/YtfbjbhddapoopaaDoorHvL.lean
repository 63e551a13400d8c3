/-
  Layer 18 (ration): the walks of New, Tick, Left, Serve.
-/
import Derived.Test.YtfbjbhddapoopaaDoorHvK
set_option linter.unusedVariables false
set_option linter.unusedSimpArgs false
namespace Go.Proofs.YtfbjbhddapoopaaDoor
open Go.RowKit
attribute [local go_sem] Lb.ba_get Lb.ba_cut Lb.ba_add Lb.ba_size Lb.take_rest

/-- a ration in memory: its budget, what is left -/
def RatAt (w : World) (r : Nat) (B n : Int) : Prop := w.heap[r]? = some (.cells #[.int .i64 B, .int .i64 n] 131 (0, 0))
theorem RatAt.keep {w w' : World} {r : Nat} {B n : Int} (h : RatAt w r B n) (hk : w'.heap[r]? = w.heap[r]?) : RatAt w' r B n := hk.trans h
theorem RatAt.below {w w' : World} {r : Nat} {B n : Int} (h : RatAt w r B n) (hb : Below w.heap.size w w') : RatAt w' r B n := below_keep hb h
theorem RatAt.lt {w : World} {r : Nat} {B n : Int} (h : RatAt w r B n) : r < w.heap.size := heap_lt h
def clampB (b : Int) : Int := min (max b 0) 1000
theorem clampB_lo (b : Int) : 0 ≤ clampB b := by unfold clampB; omega
theorem clampB_hi (b : Int) : clampB b ≤ 1000 := by unfold clampB; omega

theorem rnew_any (b : Int) (w : World) : Calls Tryd.prog 26 #[.int .i64 b] w fun e w' => e = .returned (.pointer (some ⟨w.heap.size, 0, none⟩)) ∧ RatAt w' w.heap.size (clampB b) (clampB b) ∧ Below w.heap.size w w' := by
  go_enter Tryd.func26, Tryd.ntmps26
  go_wp2_with fail
  go_ret
  exact ⟨rfl, heap_alloc_new w _, (Below.refl _ w).alloc (Nat.le_refl _) _⟩

theorem rtick_any (w : World) (r : Nat) (B n : Int) (h : RatAt w r B n) : Calls Tryd.prog 28 #[.pointer (some ⟨r, 0, none⟩)] w fun e w' => e = .returned (.tuple #[]) ∧ RatAt w' r B B ∧ Only [r] w w' := by
  have c0 : w.cell? ⟨r, 0, none⟩ = some (.int .i64 B) := by rw [Lib.cell_of_heap h]; rfl
  have c1 : w.cell? ⟨r, 1, none⟩ = some (.int .i64 n) := by rw [Lib.cell_of_heap h]; rfl
  have hs : RatAt (w.setCell ⟨r, 1, none⟩ (.int .i64 B)) r B B := heap_setCell_same _ r 1 _ _ (.int .i64 B) h
  have z1 : w.frozen? ⟨r, 1, none⟩ = false := Lib.frozen_of_heap h _
  have hlt := h.lt
  have Hs := Lib.hid hs
  have Hh := Lib.hid h
  clear hs h
  go_enter Tryd.func28, Tryd.ntmps28
  go_wp2_with fail
  go_end0
  exact ⟨rfl, Hs.out, (Only.refl [r] w).setCell (p := ⟨r, 1, none⟩) (by simp) _⟩
theorem rtick_none (w : World) : Calls Tryd.prog 28 #[.pointer none] w fun e w' => e = .returned (.tuple #[]) ∧ w' = w := by
  go_enter Tryd.func28, Tryd.ntmps28
  go_wp2_with fail
  go_end0
  exact ⟨rfl, rfl⟩
theorem rleft_any (w : World) (r : Nat) (B n : Int) (h : RatAt w r B n) : Calls Tryd.prog 32 #[.pointer (some ⟨r, 0, none⟩)] w fun e w' => e = .returned (.int .i64 n) ∧ w' = w := by
  have c1 : w.cell? ⟨r, 1, none⟩ = some (.int .i64 n) := by rw [Lib.cell_of_heap h]; rfl
  go_enter Tryd.func32, Tryd.ntmps32
  go_wp2_with fail
  go_ret
  exact ⟨rfl, rfl⟩
theorem rleft_none (w : World) : Calls Tryd.prog 32 #[.pointer none] w fun e w' => e = .returned (.int .i64 0) ∧ w' = w := by
  go_enter Tryd.func32, Tryd.ntmps32
  go_wp2_with fail
  go_ret
  exact ⟨rfl, rfl⟩

/-- whether a frame may be answered at all -/
def AskOk (n : Int) (f : FrD) : Prop := n ≠ 0 ∧ f.kind = 6 ∧ 1 ≤ f.from_ ∧ f.from_ ≤ 6
instance (n : Int) (f : FrD) : Decidable (AskOk n f) := by unfold AskOk; infer_instance
def PlaceOk (b : List UInt8) (i : Int) : Prop := i = -1 ∨ 0 ≤ i ∧ i < (chunks b).length
/-- what Serve answers -/
inductive ServIs (K : List Int) (B0 : Nat) (bl : List (List UInt8)) (n : Int) (f : FrD) (w' : World) : Int → FrD → Bool → Prop
  | no (h : ¬ (AskOk n f ∧ (blobS K bl f.out).2 = true ∧ PlaceOk (blobS K bl f.out).1 f.at_)) : ServIs K B0 bl n f w' 0 zeroFr false
  | yes (b : List UInt8) (g : FrD) (h : AskOk n f) (hb : blobS K bl f.out = (b, true)) (hp : PlaceOk b f.at_) (hg : FoundIs K B0 b f w' g true) : ServIs K B0 bl n f w' f.from_ g true
theorem ServIs.fit {K : List Int} {B0 : Nat} {bl : List (List UInt8)} {n : Int} {f g : FrD} {w : World} {tt : Int} {is : Bool} (h : ServIs K B0 bl n f w tt g is) (hf : f.Fit) : g.Fit := by
  cases h with
  | no h => exact zeroFr_fit
  | yes b g h hb hp hg => exact hg.fit hf
theorem ServIs.only {K : List Int} {B0 : Nat} {bl : List (List UInt8)} {n : Int} {f g : FrD} {w w' : World} {tt : Int} {is : Bool} {bs : List Nat} (h : ServIs K B0 bl n f w tt g is) (ho : Only bs w w') (hbs : ∀ x ∈ bs, x < B0) : ServIs K B0 bl n f w' tt g is := by
  cases h with
  | no h => exact .no h
  | yes b g h hb hp hg => exact .yes b g h hb hp (hg.only ho hbs)
def left' (n : Int) (is : Bool) : Int := if is then n - 1 else n
def ServPost (K : List Int) (w : World) (q : HvP) (S : List Nat) (bl : List (List UInt8)) (r : Nat) (B n : Int) (f : FrD) (k : Nat) (e : Ending) (w' : World) : Prop :=
  ∃ tt g is, e = .returned (.tuple #[.agg (sentRow tt g), .bool is]) ∧ ServIs K w.heap.size bl n f w' tt g is ∧ StoreAt K w' q S bl k ∧ RatAt w' r B (left' n is) ∧ Only (r :: S) w w'
theorem built_zeroSent : Tryd.prog.built 50 [] = some (sentRow 0 zeroFr) := by
  obtain ⟨it, hit, hz⟩ := Option.map_eq_some_iff.1 sent_zero
  have hp : ∀ fs, Tryd.prog.underlying 50 = some (.struct fs) → fs.toList.mapM (fun f => (Tryd.prog.info? f.type).map fun i => (f.offset, i.size)) = some [(0, 1), (1, 237)] := by
    intro fs h
    obtain rfl := (TypeDesc.struct.inj (Option.some.inj (Tryd.underlying50.symm.trans h)))
    kernel_rfl
  unfold Program.built
  rw [hit]
  simp only [Tryd.underlying50]
  rw [hz, hp _ Tryd.underlying50]
  exact fill_nil _ _

set_option maxHeartbeats 4000000 in
set_option maxRecDepth 100000 in
theorem serve_no (K : List Int) (q : HvP) (S : List Nat) (bl : List (List UInt8)) (r : Nat) (B n : Int) (f : FrD) (k : Nat) (w : World) (h : StoreAt K w q S bl (k + 1)) (hr : RatAt w r B n) (hf : f.Fit) (hno : ¬ AskOk n f) :
    Calls Tryd.prog 29 #[.pointer (some ⟨r, 0, none⟩), .pointer (some ⟨q.p, 0, none⟩), .agg f.row] w (ServPost K w q S bl r B n f k) := by
  have HSl := Lib.hid h.lt
  obtain ⟨wf, hwf⟩ : ∃ y, y = w.alloc (.cells f.row 44) := ⟨_, rfl⟩
  obtain ⟨fb, hfb⟩ : ∃ y, y = w.heap.size := ⟨_, rfl⟩
  have hfr := heap_alloc_new w (.cells f.row 44)
  have hb1 := (Below.refl w.heap.size w).alloc (Nat.le_refl _) (.cells f.row 44)
  rw [← hwf] at hfr hb1
  rw [← hfb] at hfr
  have hz : (wf.alloc (.cells Tryd.zeroCells50 50)).heap[wf.heap.size]? = some (.cells Tryd.zeroCells50 50 (0, 0)) := heap_alloc_new wf _
  have hbz : Below wf.heap.size wf (wf.alloc (.cells Tryd.zeroCells50 50)) := (Below.refl _ wf).alloc (Nat.le_refl _) _
  have hzs : Tryd.zeroCells50.size = 238 := by rw [zero_sent, sentRow_size 0 zeroFr_fit]
  obtain ⟨g, hg⟩ : ∃ g, g = wf.heap.size := ⟨_, rfl⟩
  obtain ⟨w1, hw1⟩ : ∃ y, y = wf.alloc (.cells Tryd.zeroCells50 50) := ⟨_, rfl⟩
  have hsf : wf.heap.size = fb + 1 := by rw [hwf, hfb]; simp
  rw [← hw1] at hz hbz
  rw [← hg] at hz
  have hfr1 := below_keep hbz hfr
  have hb01 : Below w.heap.size w w1 := hb1.trans (hbz.mono hb1.size)
  have Hwf := Lib.hid hwf
  have Hfb := Lib.hid hfb
  have Hw1 := Lib.hid hw1
  have Hg := Lib.hid hg
  have hg1 : Hid (g = fb + 1) := Lib.hid (by rw [hg, hsf])
  have HB01 := Lib.hid hb01
  have Hfr1 := Lib.hid hfr1
  obtain ⟨Z, hZ⟩ : ∃ Z, Z = Tryd.zeroCells50 := ⟨_, rfl⟩
  rw [← hZ] at hz hzs
  have Hz := Lib.hid hz
  have Hf := Lib.hid hf
  have hgf : g ≠ fb := by rw [hg, hsf]; omega
  have Hgf := Lib.hid hgf
  have Hr1 := Lib.hid (hr.below hb01)
  have H1 := Lib.hid (h.below hb01)
  have Hrl := Lib.hid hr.lt
  have Hgw : Hid (w.heap.size ≤ g) := Lib.hid (by rw [hg]; exact hb1.size)
  clear h hr hwf hfb hw1 hg hsf hb01 hfr1 hz hbz hb1 hfr hZ hf hgf
  go_enter Tryd.func29, Tryd.ntmps29
  go_upto_region 1 with fail
  rw [← Hwf.out, ← Hfb.out, ← Hw1.out]
  rw [← hg1.out]
  have fa := fr_mem Hf.out Hfr1.out
  have fk := fa.kind
  have ff := fa.from_
  obtain ⟨kd, hkd⟩ : ∃ x, x = f.kind := ⟨_, rfl⟩
  obtain ⟨fm, hfm⟩ : ∃ x, x = f.from_ := ⟨_, rfl⟩
  rw [← hkd] at fk
  rw [← hfm] at ff
  have Hkd := Lib.hid hkd
  have Hfm := Lib.hid hfm
  clear fa hkd hfm
  go_wp2_with fail
  refine (rleft_any w1 r B n Hr1.out).mono ?_
  rintro e w2 ⟨rfl, hw2⟩
  subst hw2
  have hfs := sentRow_size 0 zeroFr_fit
  have hfo := sent_one 0 zeroFr_fit
  have hfi : (Tryd.prog.info? 50).map (·.size) = some (sentRow 0 zeroFr).size := by rw [hfs]; exact sent_info
  have hbm := built_zeroSent
  obtain ⟨F, hF⟩ : ∃ F, F = sentRow 0 zeroFr := ⟨_, rfl⟩
  rw [← hF] at hbm hfs hfo hfi
  have HF := Lib.hid hF
  clear hF
  have fin2 : ∀ w', w' = w2.setRow g F → ServPost K w q S bl r B n f k (.returned (.tuple #[.agg F, .bool false])) w' := by
    intro w' hw'
    subst hw'
    have hO : Only [g] w2 (w2.setRow g F) := (Only.refl [g] w2).setRow (by simp) F
    refine ⟨0, zeroFr, false, by rw [HF.out], .no (fun h => hno h.1), (H1.out.less (by omega)).keep (fun x hx => hO.block x (H1.out.lt x hx) (by simp; have := HSl.out x hx; have := Hgw.out; omega)), Hr1.out.keep (hO.block r Hr1.out.lt (by simp; have := Hrl.out; have := Hgw.out; omega)), (Only.of_below (HB01.out.trans (hO.below HB01.out.size (by simp; exact Hgw.out))))⟩
  have Fin2 := Lib.hid fin2
  clear fin2
  have hno' : n = 0 ∨ n ≠ 0 ∧ kd ≠ 6 ∨ n ≠ 0 ∧ kd = 6 ∧ fm < 1 ∨ n ≠ 0 ∧ kd = 6 ∧ ¬ fm < 1 ∧ 6 < fm := by
    have h2 : ¬ (n ≠ 0 ∧ kd = 6 ∧ 1 ≤ fm ∧ fm ≤ 6) := by rw [Hkd.out, Hfm.out]; exact hno
    omega
  clear hno
  rcases hno' with h1 | ⟨h1, h2⟩ | ⟨h1, h2, h3⟩ | ⟨h1, h2, h3, h4⟩
  · subst h1
    go_wp2_with (first
      | (refine wpList_build0 rfl 50 rfl F hbm ?_)
      | (refine wpList_store_row rfl 50 _ _ rfl g F rfl rfl 50 Z Hz.out hfi (by rw [hfs, hzs]) hfo ?_))
    (try simp only [Exit.inBlock, Exit.then])
    refine bodyPost_ret (results_cell_row2 rfl _ _ g 50 F (0, 0) _ rfl (setRow_heap _ _ _ _ _ _ Hz.out) Tryd.underlying50 rfl hfi) rfl ?_
    exact Fin2.out _ rfl
  · go_wp2_with (first
      | (refine wpList_build0 rfl 50 rfl F hbm ?_)
      | (refine wpList_store_row rfl 50 _ _ rfl g F rfl rfl 50 Z Hz.out hfi (by rw [hfs, hzs]) hfo ?_))
    (try simp only [Exit.inBlock, Exit.then])
    refine bodyPost_ret (results_cell_row2 rfl _ _ g 50 F (0, 0) _ rfl (setRow_heap _ _ _ _ _ _ Hz.out) Tryd.underlying50 rfl hfi) rfl ?_
    exact Fin2.out _ rfl
  · subst h2
    go_wp2_with (first
      | (refine wpList_build0 rfl 50 rfl F hbm ?_)
      | (refine wpList_store_row rfl 50 _ _ rfl g F rfl rfl 50 Z Hz.out hfi (by rw [hfs, hzs]) hfo ?_))
    (try simp only [Exit.inBlock, Exit.then])
    refine bodyPost_ret (results_cell_row2 rfl _ _ g 50 F (0, 0) _ rfl (setRow_heap _ _ _ _ _ _ Hz.out) Tryd.underlying50 rfl hfi) rfl ?_
    exact Fin2.out _ rfl
  · subst h2
    go_wp2_with (first
      | (refine wpList_build0 rfl 50 rfl F hbm ?_)
      | (refine wpList_store_row rfl 50 _ _ rfl g F rfl rfl 50 Z Hz.out hfi (by rw [hfs, hzs]) hfo ?_))
    (try simp only [Exit.inBlock, Exit.then])
    refine bodyPost_ret (results_cell_row2 rfl _ _ g 50 F (0, 0) _ rfl (setRow_heap _ _ _ _ _ _ Hz.out) Tryd.underlying50 rfl hfi) rfl ?_
    exact Fin2.out _ rfl

theorem FoundIs.less {K : List Int} {B0 B1 : Nat} {b : List UInt8} {f g : FrD} {is : Bool} {w : World} (h : FoundIs K B0 b f w g is) (hB : B1 ≤ B0) : FoundIs K B1 b f w g is := by
  cases h with
  | mani m h hm hk hup => exact .mani m h hm hk (fun a ha => Nat.le_trans hB (hup a ha))
  | part k h hk => exact .part k h hk
  | no h h2 => exact .no h h2
theorem StoreAt.small {K : List Int} {w : World} {q : HvP} {S : List Nat} {bl : List (List UInt8)} {k : Nat} (h : StoreAt K w q S bl k) : ∀ b ∈ bl, b.length ≤ 512 := by
  obtain ⟨d, -, hk, -⟩ := h
  intro b hb
  obtain ⟨i, hi, rfl⟩ := List.getElem_of_mem hb
  have hl : i < d.L.length := by rw [hk.lens]; exact hi
  obtain ⟨b', h1, -, -, -, -, h2, -⟩ := hk.ents i d.L[i] (List.getElem?_eq_getElem hl)
  rw [List.getElem?_eq_getElem hi] at h1
  injection h1 with h1
  rw [h1]; exact h2
theorem blobS_mem {K : List Int} {bl : List (List UInt8)} {dg b : List UInt8} (h : blobS K bl dg = (b, true)) : b ∈ bl ∧ hashB K b = dg := by
  unfold blobS at h
  cases hf : bl.find? (fun b => hashB K b == dg) with
  | none => rw [hf] at h; injection h with h1 h2; cases h2
  | some x =>
    rw [hf] at h; injection h with h1 h2
    subst h1
    exact ⟨List.mem_of_find?_eq_some hf, by simpa using List.find?_some hf⟩

set_option maxHeartbeats 4000000 in
set_option maxRecDepth 100000 in
theorem serve_ask (K : List Int) (q : HvP) (S : List Nat) (bl : List (List UInt8)) (r : Nat) (B n : Int) (f : FrD) (k : Nat) (w : World) (h : StoreAt K w q S bl (k + 1)) (hr : RatAt w r B n) (hf : f.Fit) (hL : Laid K w) (h0 : 0 ∉ S) (hrS : r ∉ S) (n0 : 0 ≤ n) (n1 : n ≤ 1000) (hok : AskOk n f) :
    Calls Tryd.prog 29 #[.pointer (some ⟨r, 0, none⟩), .pointer (some ⟨q.p, 0, none⟩), .agg f.row] w (ServPost K w q S bl r B n f k) := by
  have HSl := Lib.hid h.lt
  have HLw := Lib.hid hL
  have H0 := Lib.hid h0
  have HrS := Lib.hid hrS
  clear hL h0 hrS
  obtain ⟨wf, hwf⟩ : ∃ y, y = w.alloc (.cells f.row 44) := ⟨_, rfl⟩
  obtain ⟨fb, hfb⟩ : ∃ y, y = w.heap.size := ⟨_, rfl⟩
  have hfr := heap_alloc_new w (.cells f.row 44)
  have hb1 := (Below.refl w.heap.size w).alloc (Nat.le_refl _) (.cells f.row 44)
  rw [← hwf] at hfr hb1
  rw [← hfb] at hfr
  have hz : (wf.alloc (.cells Tryd.zeroCells50 50)).heap[wf.heap.size]? = some (.cells Tryd.zeroCells50 50 (0, 0)) := heap_alloc_new wf _
  have hbz : Below wf.heap.size wf (wf.alloc (.cells Tryd.zeroCells50 50)) := (Below.refl _ wf).alloc (Nat.le_refl _) _
  have hzs : Tryd.zeroCells50.size = 238 := by rw [zero_sent, sentRow_size 0 zeroFr_fit]
  obtain ⟨g, hg⟩ : ∃ g, g = wf.heap.size := ⟨_, rfl⟩
  obtain ⟨w1, hw1⟩ : ∃ y, y = wf.alloc (.cells Tryd.zeroCells50 50) := ⟨_, rfl⟩
  have hsf : wf.heap.size = fb + 1 := by rw [hwf, hfb]; simp
  rw [← hw1] at hz hbz
  rw [← hg] at hz
  have hfr1 := below_keep hbz hfr
  have hb01 : Below w.heap.size w w1 := hb1.trans (hbz.mono hb1.size)
  have Hwf := Lib.hid hwf
  have Hfb := Lib.hid hfb
  have Hw1 := Lib.hid hw1
  have Hg := Lib.hid hg
  have hg1 : Hid (g = fb + 1) := Lib.hid (by rw [hg, hsf])
  have HB01 := Lib.hid hb01
  have Hfr1 := Lib.hid hfr1
  obtain ⟨Z, hZ⟩ : ∃ Z, Z = Tryd.zeroCells50 := ⟨_, rfl⟩
  rw [← hZ] at hz hzs
  have Hz := Lib.hid hz
  have Hf := Lib.hid hf
  have hgf : g ≠ fb := by rw [hg, hsf]; omega
  have Hgf := Lib.hid hgf
  have Hr1 := Lib.hid (hr.below hb01)
  have H1 := Lib.hid (h.below hb01)
  have Hrl := Lib.hid hr.lt
  have Hgw : Hid (w.heap.size ≤ g) := Lib.hid (by rw [hg]; exact hb1.size)
  clear h hr hwf hfb hw1 hg hsf hb01 hfr1 hz hbz hb1 hfr hZ hf hgf
  go_enter Tryd.func29, Tryd.ntmps29
  go_upto_region 1 with fail
  rw [← Hwf.out, ← Hfb.out, ← Hw1.out]
  rw [← hg1.out]
  have fa := fr_mem Hf.out Hfr1.out
  have fk := fa.kind
  have ff := fa.from_
  obtain ⟨kd, hkd⟩ : ∃ x, x = f.kind := ⟨_, rfl⟩
  obtain ⟨fm, hfm⟩ : ∃ x, x = f.from_ := ⟨_, rfl⟩
  rw [← hkd] at fk
  rw [← hfm] at ff
  have Hkd := Lib.hid hkd
  have Hfm := Lib.hid hfm
  clear fa hkd hfm
  go_wp2_with fail
  refine (rleft_any w1 r B n Hr1.out).mono ?_
  rintro e w2 ⟨rfl, hw2⟩
  subst hw2
  have hfs := sentRow_size 0 zeroFr_fit
  have hfo := sent_one 0 zeroFr_fit
  have hfi : (Tryd.prog.info? 50).map (·.size) = some (sentRow 0 zeroFr).size := by rw [hfs]; exact sent_info
  have hbm := built_zeroSent
  obtain ⟨F, hF⟩ : ∃ F, F = sentRow 0 zeroFr := ⟨_, rfl⟩
  rw [← hF] at hbm hfs hfo hfi
  have HF := Lib.hid hF
  clear hF
  have hcond : n ≠ 0 ∧ kd = 6 ∧ 1 ≤ fm ∧ fm ≤ 6 := by rw [Hkd.out, Hfm.out]; exact hok
  have Hok := Lib.hid hok
  have Hgl := Lib.hid (heap_lt Hz.out)
  obtain ⟨c1, c2, c3, c4⟩ := hcond
  have d1 : (n == 0) = false := by simpa using c1
  have d3 : decide (fm < 1) = false := by simp; omega
  have d4 : decide (6 < fm) = false := by simp; omega
  have HL1 := Lib.hid (HLw.out.below HB01.out)
  have Hbl := Lib.hid (hblob_any K q S bl f.out k w2 H1.out HL1.out Hf.out.lo)
  have fout := (fr_mem Hf.out Hfr1.out).out
  obtain ⟨ow, how⟩ : ∃ ow, ow = f.out := ⟨_, rfl⟩
  have hol : ow.length = 32 := by rw [how]; exact Hf.out.lo
  rw [← how] at fout
  rw [← how] at Hbl
  have How := Lib.hid how
  have dix : (Tryd.prog.info? 23).map (·.size) = some (byV ow).length := by rw [dig_info, byV_length, hol]
  have dund := Tryd.underlying23
  have hsm := Lib.hid H1.out.small
  have hgS : g ∉ S := fun hx => by have := HSl.out g hx; have := Hgw.out; omega
  have hfS : fb ∉ S := fun hx => by have := HSl.out fb hx; have := Hfb.out; omega
  have HgS := Lib.hid hgS
  have HfS := Lib.hid hfS
  clear how hok hgS hfS
  subst c2
  go_wp2_with (refine wpList_load_mid rfl 23 _ rfl fb 102 rfl (byV ow) _ fout dund rfl dix ?_)
  refine Hbl.out.mono ?_
  rintro e w3 ⟨rfl, h3, hO3⟩
  obtain ⟨⟨b, is⟩, hbi⟩ : ∃ x, x = blobS K bl ow := ⟨_, rfl⟩
  rw [← hbi]
  have H3 := Lib.hid h3
  have HO3 := Lib.hid hO3
  have Hbi := Lib.hid hbi
  have Hz3 := Lib.hid (hO3.keep Hz.out HgS.out)
  have Hfr3 := Lib.hid (hO3.keep Hfr1.out HfS.out)
  have Hr3 := Lib.hid (Hr1.out.keep (hO3.block r Hr1.out.lt HrS.out))
  have ff3 : w3.cell? ⟨fb, 1, none⟩ = some (.int .i64 fm) := by rw [Hfm.out]; exact (fr_mem Hf.out Hfr3.out).from_
  clear h3 hO3 hbi Hbl fout ff fk
  have HO13 : Hid (Only S w w3) := Lib.hid ((Only.of_below HB01.out).trans HO3.out)
  cases is with
  | false =>
    have fin2 : ∀ w', w' = w3.setRow g F → ServPost K w q S bl r B n f k (.returned (.tuple #[.agg F, .bool false])) w' := by
      intro w' hw'
      subst hw'
      have hO : Only [g] w3 (w3.setRow g F) := (Only.refl [g] w3).setRow (by simp) F
      refine ⟨0, zeroFr, false, by rw [HF.out], .no (fun h => by have := h.2.1; rw [← How.out, ← Hbi.out] at this; simp at this), H3.out.keep (fun x hx => hO.block x (H3.out.lt x hx) (by simp; exact fun e => HgS.out (e ▸ hx))), Hr3.out.keep (hO.block r Hr3.out.lt (by simp; have := Hrl.out; have := Hgw.out; omega)), (HO13.out.mono (by simp; intro x hx; exact .inr hx)).trans' g Hgw.out F⟩
    have Fin2 := Lib.hid fin2
    clear fin2
    go_wp2_with (first
      | (refine wpList_build0 rfl 50 rfl F hbm ?_)
      | (refine wpList_store_row rfl 50 _ _ rfl g F rfl rfl 50 Z Hz3.out hfi (by rw [hfs, hzs]) hfo ?_))
    (try simp only [Exit.inBlock, Exit.then])
    refine bodyPost_ret (results_cell_row2 rfl _ _ g 50 F (0, 0) _ rfl (setRow_heap _ _ _ _ _ _ Hz3.out) Tryd.underlying50 rfl hfi) rfl ?_
    exact Fin2.out _ rfl
  | true =>
    have hbs : b.length ≤ 512 := hsm.out b (blobS_mem Hbi.out.symm).1
    have HL3 := Lib.hid (HL1.out.only HO3.out H0.out)
    have Hfd := Lib.hid (found_any K b f w3 HL3.out hbs Hf.out)
    have ffs := FrD.row_size Hf.out
    have ffi := fr_infoR Hf.out
    obtain ⟨FR, hFR⟩ : ∃ R, R = f.row := ⟨_, rfl⟩
    have Hfr3' : Hid (w3.heap[fb]? = some (.cells FR 44 (0, 0))) := Lib.hid (by rw [hFR]; exact Hfr3.out)
    rw [← hFR] at ffs ffi
    rw [← hFR] at Hfd
    clear hFR
    go_wp2_with (refine wpList_load_row rfl 44 _ rfl fb rfl 44 FR (0, 0) _ Hfr3'.out Tryd.underlying44 rfl ffi ?_)
    refine Hfd.out.mono ?_
    rintro e w4 ⟨g', is2, rfl, hfi', hB4⟩
    have H4 := Lib.hid (H3.out.below hB4)
    have hgf := hfi'.fit Hf.out
    have HFI := Lib.hid hfi'
    have HB4 := Lib.hid hB4
    have Hz4 := Lib.hid (below_keep hB4 Hz3.out)
    have Hr4 := Lib.hid (Hr3.out.below hB4)
    have Hfr4 := Lib.hid (below_keep hB4 Hfr3.out)
    have HO14 : Hid (Only S w w4) := Lib.hid (HO13.out.belowB (hB4.mono HO13.out.size))
    have gs := FrD.row_size hgf
    have go1 := FrD.row_one hgf
    have gi := fr_infoR hgf
    have hzf : Tryd.zeroCells44.size = 237 := by rw [zero_frame, FrD.row_size zeroFr_fit]
    have hbs2 := built_sent fm g' hgf
    have ss := sentRow_size fm hgf
    have so := sent_one fm hgf
    have si : (Tryd.prog.info? 50).map (·.size) = some (sentRow fm g').size := by rw [ss]; exact sent_info
    obtain ⟨GR, hGR⟩ : ∃ R, R = g'.row := ⟨_, rfl⟩
    obtain ⟨SR, hSR⟩ : ∃ R, R = sentRow fm g' := ⟨_, rfl⟩
    rw [← hGR] at gs go1 gi hbs2 ⊢
    rw [← hSR] at ss so si hbs2
    have HSR := Lib.hid hSR
    clear hfi' hB4 Hfd hGR hSR Hz3 Hfr3 Hfr3' ff3 hgf
    go_upto_region 7 with (refine wpList_store_row rfl 44 _ _ rfl w4.heap.size GR rfl rfl 44 _ (heap_alloc_new w4 _) gi (by rw [gs, hzf]) go1 ?_)
    show Code.wp _ _ _ _ ((w4.alloc (.cells Tryd.zeroCells44 44)).setRow w4.heap.size GR)
    have hq := setRow_heap _ _ _ GR _ _ (heap_alloc_new w4 (.cells Tryd.zeroCells44 44))
    have hB5 : Below w4.heap.size w4 ((w4.alloc (.cells Tryd.zeroCells44 44)).setRow w4.heap.size GR) := (Only.below (((Only.refl [w4.heap.size] w4).alloc _).setRow (by simp) _) (Nat.le_refl _) (by simp))
    obtain ⟨p5, hp5⟩ : ∃ q, q = w4.heap.size := ⟨_, rfl⟩
    obtain ⟨w5, hw5⟩ : ∃ y, y = ((w4.alloc (.cells Tryd.zeroCells44 44)).setRow w4.heap.size GR) := ⟨_, rfl⟩
    rw [← hw5] at hq hB5 ⊢
    rw [← hp5] at hq ⊢
    have HQ := Lib.hid hq
    have HB5 := Lib.hid hB5
    have Hz5 := Lib.hid (below_keep hB5 Hz4.out)
    have Hr5 := Lib.hid (Hr4.out.below hB5)
    have H5 := Lib.hid (H4.out.below hB5)
    have Hfr5 := Lib.hid (below_keep hB5 Hfr4.out)
    have HO15 : Hid (Only S w w5) := Lib.hid (HO14.out.belowB (hB5.mono HO14.out.size))
    have Hp5 : Hid (g < p5 ∧ r < p5) := Lib.hid ⟨by rw [hp5]; exact heap_lt Hz4.out, by rw [hp5]; exact Hr4.out.lt⟩
    clear hq hB5 hp5 hw5 Hz4 Hr4 Hfr4
    cases is2 with
    | false =>
      have hnp : ¬ PlaceOk b f.at_ := by
        have := HFI.out
        generalize g' = gg at this
        cases this with
        | no h1 h2 => rintro (h | h); exact h1 h; exact h2 h
      have fin2 : ∀ w', w' = w5.setRow g F → ServPost K w q S bl r B n f k (.returned (.tuple #[.agg F, .bool false])) w' := by
        intro w' hw'
        subst hw'
        have hO : Only [g] w5 (w5.setRow g F) := (Only.refl [g] w5).setRow (by simp) F
        refine ⟨0, zeroFr, false, by rw [HF.out], .no (fun h => hnp (by have := h.2.2; rw [← How.out, ← Hbi.out] at this; exact this)), H5.out.keep (fun x hx => hO.block x (H5.out.lt x hx) (by simp; exact fun e => HgS.out (e ▸ hx))), Hr5.out.keep (hO.block r Hr5.out.lt (by simp; have := Hrl.out; have := Hgw.out; omega)), (HO15.out.mono (by simp; intro x hx; exact .inr hx)).trans' g Hgw.out F⟩
      have Fin2 := Lib.hid fin2
      clear fin2 hnp
      go_wp2_with (first
        | (refine wpList_build0 rfl 50 rfl F hbm ?_)
        | (refine wpList_store_row rfl 50 _ _ rfl g F rfl rfl 50 Z Hz5.out hfi (by rw [hfs, hzs]) hfo ?_))
      (try simp only [Exit.inBlock, Exit.then])
      refine bodyPost_ret (results_cell_row2 rfl _ _ g 50 F (0, 0) _ rfl (setRow_heap _ _ _ _ _ _ Hz5.out) Tryd.underlying50 rfl hfi) rfl ?_
      exact Fin2.out _ rfl
    | true =>
      have hpl : PlaceOk b f.at_ := by
        have := HFI.out
        generalize g' = gg at this
        cases this with
        | mani m h1 h2 h3 h4 => exact .inl h1
        | part k h1 h2 => exact .inr ⟨by omega, by omega⟩
      have r1 : w5.cell? ⟨r, 1, none⟩ = some (.int .i64 n) := by rw [Lib.cell_of_heap Hr5.out]; rfl
      have zr : w5.frozen? ⟨r, 1, none⟩ = false := Lib.frozen_of_heap Hr5.out _
      have hwn : IntKind.i64.wrap (n - 1) = n - 1 := IntWalk.i64_in _ (by omega)
      have hO6 : Only [r] w5 (w5.setCell ⟨r, 1, none⟩ (.int .i64 (n - 1))) := (Only.refl [r] w5).setCell (p := ⟨r, 1, none⟩) (by simp) _
      have hr6 : RatAt (w5.setCell ⟨r, 1, none⟩ (.int .i64 (n - 1))) r B (n - 1) := heap_setCell_same _ r 1 _ _ (.int .i64 (n - 1)) Hr5.out
      have hrp : r ≠ p5 := by have := Hp5.out; omega
      have hrg : r ≠ g := by have := Hrl.out; have := Hgw.out; omega
      have hrf : r ≠ fb := by have := Hrl.out; have := Hfb.out; omega
      have Hrg := Lib.hid hrg
      have hQ6 := hO6.keep HQ.out (by simp; exact fun e => hrp e.symm)
      have hZ6 := hO6.keep Hz5.out (by simp; exact fun e => hrg e.symm)
      have hfr6 := hO6.keep Hfr5.out (by simp; exact fun e => hrf e.symm)
      have h6 := H5.out.keep (fun x hx => hO6.block x (H5.out.lt x hx) (by simp; exact fun e => HrS.out (e ▸ hx)))
      have ff6 := (fr_mem Hf.out hfr6).from_
      rw [← Hfm.out] at ff6
      have HQ6 := Lib.hid hQ6
      have HZ6 := Lib.hid hZ6
      have H6 := Lib.hid h6
      have Hr6 := Lib.hid hr6
      have HO6 := Lib.hid hO6
      have HO16 : Hid (Only (r :: S) w (w5.setCell ⟨r, 1, none⟩ (.int .i64 (n - 1)))) := Lib.hid ((HO15.out.mono (by simp; intro x hx; exact .inr hx)).trans (hO6.mono (by simp)))
      clear hpl hrp hrg hrf hQ6 hZ6 hfr6 h6 hr6 hO6
      have Hpl : Hid (PlaceOk b f.at_) := Lib.hid (by
        have := HFI.out
        generalize g' = gg at this
        cases this with
        | mani m h1 h2 h3 h4 => exact .inl h1
        | part k h1 h2 => exact .inr ⟨by omega, by omega⟩)
      go_upto_region 10 with fail
      obtain ⟨w6, hw6⟩ : ∃ y, y = (w5.setCell ⟨r, 1, none⟩ (.int .i64 (n - 1))) := ⟨_, rfl⟩
      rw [← hw6] at HQ6 HZ6 H6 Hr6 HO16 HO6 ff6 ⊢
      clear hw6
      go_wp2_with (first
        | (refine wpList_load_row rfl 44 _ rfl p5 rfl 44 GR (0, 0) _ HQ6.out Tryd.underlying44 rfl gi ?_)
        | (refine wpList_build2 rfl 50 _ _ _ _ rfl _ _ rfl rfl SR hbs2 ?_)
        | (refine wpList_store_row rfl 50 _ _ rfl g SR rfl rfl 50 Z HZ6.out si (by rw [ss, hzs]) so ?_))
      (try simp only [Exit.inBlock, Exit.then])
      refine bodyPost_ret (results_cell_row2 rfl _ _ g 50 SR (0, 0) _ rfl (setRow_heap _ _ _ _ _ _ HZ6.out) Tryd.underlying50 rfl si) rfl ?_
      have hO : Only [g] w6 (w6.setRow g SR) := (Only.refl [g] w6).setRow (by simp) SR
      refine ⟨fm, g', true, by rw [← HSR.out]; rfl, ?_, H6.out.keep (fun x hx => hO.block x (H6.out.lt x hx) (by simp; exact fun e => HgS.out (e ▸ hx))), Hr6.out.keep (hO.block r Hr6.out.lt (by simp; exact Hrg.out)), HO16.out.trans' g Hgw.out SR⟩
      have hO46 : Only [r, g] w4 (w6.setRow g SR) := ((Only.of_below (bs := [r, g]) HB5.out).trans (HO6.out.mono (by simp))).trans (hO.mono (by simp))
      have hfin := (HFI.out.only hO46 (by have h1 := HO3.out.size; have h2 := Hgl.out; have h3 := Hr1.out.lt; simp; omega)).less HO13.out.size
      rw [Hfm.out]
      exact .yes b g' Hok.out (by rw [← How.out]; exact Hbi.out.symm) Hpl.out hfin
theorem serve_any (K : List Int) (q : HvP) (S : List Nat) (bl : List (List UInt8)) (r : Nat) (B n : Int) (f : FrD) (k : Nat) (w : World) (h : StoreAt K w q S bl (k + 1)) (hr : RatAt w r B n) (hf : f.Fit) (hL : Laid K w) (h0 : 0 ∉ S) (hrS : r ∉ S) (n0 : 0 ≤ n) (n1 : n ≤ 1000) :
    Calls Tryd.prog 29 #[.pointer (some ⟨r, 0, none⟩), .pointer (some ⟨q.p, 0, none⟩), .agg f.row] w (ServPost K w q S bl r B n f k) := by
  by_cases hok : AskOk n f
  · exact serve_ask K q S bl r B n f k w h hr hf hL h0 hrS n0 n1 hok
  · exact serve_no K q S bl r B n f k w h hr hf hok
set_option maxHeartbeats 4000000 in
set_option maxRecDepth 100000 in
theorem serve_none (v : Value) (f : FrD) (w : World) (hf : f.Fit) :
    Calls Tryd.prog 29 #[.pointer none, v, .agg f.row] w fun e w' => e = .returned (.tuple #[.agg (sentRow 0 zeroFr), .bool false]) ∧ Below w.heap.size w w' := by
  obtain ⟨wf, hwf⟩ : ∃ y, y = w.alloc (.cells f.row 44) := ⟨_, rfl⟩
  obtain ⟨fb, hfb⟩ : ∃ y, y = w.heap.size := ⟨_, rfl⟩
  have hfr := heap_alloc_new w (.cells f.row 44)
  have hb1 := (Below.refl w.heap.size w).alloc (Nat.le_refl _) (.cells f.row 44)
  rw [← hwf] at hfr hb1
  rw [← hfb] at hfr
  have hz : (wf.alloc (.cells Tryd.zeroCells50 50)).heap[wf.heap.size]? = some (.cells Tryd.zeroCells50 50 (0, 0)) := heap_alloc_new wf _
  have hbz : Below wf.heap.size wf (wf.alloc (.cells Tryd.zeroCells50 50)) := (Below.refl _ wf).alloc (Nat.le_refl _) _
  have hzs : Tryd.zeroCells50.size = 238 := by rw [zero_sent, sentRow_size 0 zeroFr_fit]
  obtain ⟨g, hg⟩ : ∃ g, g = wf.heap.size := ⟨_, rfl⟩
  obtain ⟨w1, hw1⟩ : ∃ y, y = wf.alloc (.cells Tryd.zeroCells50 50) := ⟨_, rfl⟩
  have hsf : wf.heap.size = fb + 1 := by rw [hwf, hfb]; simp
  rw [← hw1] at hz hbz
  rw [← hg] at hz
  have hfr1 := below_keep hbz hfr
  have hb01 : Below w.heap.size w w1 := hb1.trans (hbz.mono hb1.size)
  have Hwf := Lib.hid hwf
  have Hfb := Lib.hid hfb
  have Hw1 := Lib.hid hw1
  have Hg := Lib.hid hg
  have hg1 : Hid (g = fb + 1) := Lib.hid (by rw [hg, hsf])
  have HB01 := Lib.hid hb01
  have Hfr1 := Lib.hid hfr1
  obtain ⟨Z, hZ⟩ : ∃ Z, Z = Tryd.zeroCells50 := ⟨_, rfl⟩
  rw [← hZ] at hz hzs
  have Hz := Lib.hid hz
  have Hf := Lib.hid hf
  have hgf : g ≠ fb := by rw [hg, hsf]; omega
  have Hgf := Lib.hid hgf
  have Hgw : Hid (w.heap.size ≤ g) := Lib.hid (by rw [hg]; exact hb1.size)
  clear hwf hfb hw1 hg hsf hb01 hfr1 hz hbz hb1 hfr hZ hf hgf
  go_enter Tryd.func29, Tryd.ntmps29
  go_upto_region 1 with fail
  rw [← Hwf.out, ← Hfb.out, ← Hw1.out]
  rw [← hg1.out]
  have fa := fr_mem Hf.out Hfr1.out
  have fk := fa.kind
  have ff := fa.from_
  obtain ⟨kd, hkd⟩ : ∃ x, x = f.kind := ⟨_, rfl⟩
  obtain ⟨fm, hfm⟩ : ∃ x, x = f.from_ := ⟨_, rfl⟩
  rw [← hkd] at fk
  rw [← hfm] at ff
  have Hkd := Lib.hid hkd
  have Hfm := Lib.hid hfm
  clear fa hkd hfm
  go_wp2_with fail
  refine (rleft_none w1).mono ?_
  rintro e w2 ⟨rfl, hw2⟩
  subst hw2
  have hfs := sentRow_size 0 zeroFr_fit
  have hfo := sent_one 0 zeroFr_fit
  have hfi : (Tryd.prog.info? 50).map (·.size) = some (sentRow 0 zeroFr).size := by rw [hfs]; exact sent_info
  have hbm := built_zeroSent
  obtain ⟨F, hF⟩ : ∃ F, F = sentRow 0 zeroFr := ⟨_, rfl⟩
  rw [← hF] at hbm hfs hfo hfi
  have HF := Lib.hid hF
  clear hF
  go_wp2_with (first
    | (refine wpList_build0 rfl 50 rfl F hbm ?_)
    | (refine wpList_store_row rfl 50 _ _ rfl g F rfl rfl 50 Z Hz.out hfi (by rw [hfs, hzs]) hfo ?_))
  (try simp only [Exit.inBlock, Exit.then])
  refine bodyPost_ret (results_cell_row2 rfl _ _ g 50 F (0, 0) _ rfl (setRow_heap _ _ _ _ _ _ Hz.out) Tryd.underlying50 rfl hfi) rfl ?_
  have hO : Only [g] w2 (w2.setRow g F) := (Only.refl [g] w2).setRow (by simp) F
  exact ⟨by rw [← HF.out]; rfl, HB01.out.trans (hO.below HB01.out.size (by simp; exact Hgw.out))⟩
end Go.Proofs.YtfbjbhddapoopaaDoor
