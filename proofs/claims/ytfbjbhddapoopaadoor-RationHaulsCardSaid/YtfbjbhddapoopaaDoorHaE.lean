/-
  Layer 17 (haul): the walk of Tick.
-/
import Derived.Test.YtfbjbhddapoopaaDoorHaD
set_option linter.unusedVariables false
set_option linter.unusedSimpArgs false
namespace Go.Proofs.YtfbjbhddapoopaaDoor
open Go.RowKit
attribute [local go_sem] Lb.ba_get Lb.ba_cut Lb.ba_add Lb.ba_size Lb.take_rest

namespace Hl
theorem fillAt_mem (t : Int) (cks : List Ck) (n : Nat) : ∀ j, ∀ c ∈ (fillAt t cks n j).1, ∃ c0 ∈ cks, c.data = c0.data ∧ (c.at_ = c0.at_ ∨ c.at_ = t)
  | 0, c, h => ⟨c, h, rfl, .inl rfl⟩
  | j + 1, c, h => by
    have ih := fillAt_mem t cks n j
    rw [fillAt] at h
    unfold fillStep at h
    split at h
    · rename_i x hx
      split at h
      · obtain ⟨x0, h0, e1, e2⟩ := ih x (List.mem_of_getElem? hx)
        rcases List.mem_or_eq_of_mem_set h with h | rfl
        · exact ih c h
        · exact ⟨x0, h0, e1, .inr rfl⟩
      · exact ih c h
    · exact ih c h
theorem againAt_mem (t : Int) (cks : List Ck) : ∀ j, ∀ c ∈ (againAt t cks j).1, ∃ c0 ∈ cks, c.data = c0.data ∧ (c.at_ = c0.at_ ∨ c.at_ = t)
  | 0, c, h => ⟨c, h, rfl, .inl rfl⟩
  | j + 1, c, h => by
    have ih := againAt_mem t cks j
    rw [againAt] at h
    unfold againStep at h
    split at h
    · rename_i x hx
      split at h
      · obtain ⟨x0, h0, e1, e2⟩ := ih x (List.mem_of_getElem? hx)
        rcases List.mem_or_eq_of_mem_set h with h | rfl
        · exact ih c h
        · exact ⟨x0, h0, e1, .inr rfl⟩
      · exact ih c h
    · exact ih c h
theorem fill_len (t : Int) (cks : List Ck) : (fill t cks).1.length = cks.length := fillAt_len _ _ _ _
theorem again_len (t : Int) (cks : List Ck) : (again t cks).1.length = cks.length := againAt_len _ _ _
theorem fill_ats (t : Int) (cks : List Ck) : (fill t cks).2.length ≤ cks.length := (fillAt_bound _ _ _ _).2.1
theorem again_ats (t : Int) (cks : List Ck) : (again t cks).2.length ≤ cks.length := againAt_bound _ _ _
/-- with other chunks of the same number -/
theorem Ok.cks {d : HlD} (h : Ok d) {cs : List Ck} (hl : cs.length = d.cks.length) (hm : ∀ c ∈ cs, (0 ≤ c.at_ ∧ c.at_ ≤ 15) ∧ c.data.length ≤ 64) : Ok { d with cks := cs } :=
  { h with
    len := by show cs.length ≤ 8; rw [hl]; exact h.len
    none := fun e => List.eq_nil_of_length_eq_zero (by show cs.length = 0; rw [hl, h.none e]; rfl)
    some := fun sp e => by obtain ⟨a, b, c⟩ := h.some sp e; exact ⟨a, b.trans hl.symm, c⟩
    asked := fun c hc => (hm c hc).1
    data := fun c hc => (hm c hc).2 }
theorem Ok.fill {d : HlD} (h : Ok d) : Ok { d with cks := (fill d.ticks d.cks).1 } := by
  refine h.cks (fill_len _ _) (fun c hc => ?_)
  obtain ⟨c0, h0, e1, e2⟩ := fillAt_mem _ _ _ _ c hc
  have := h.asked c0 h0
  have := h.data c0 h0
  have := h.tlo
  have := h.thi
  rw [e1]
  rcases e2 with e | e <;> rw [e] <;> exact ⟨⟨by omega, by omega⟩, by omega⟩
theorem Ok.again {d : HlD} (h : Ok d) : Ok { d with cks := (again d.ticks d.cks).1 } := by
  refine h.cks (again_len _ _) (fun c hc => ?_)
  obtain ⟨c0, h0, e1, e2⟩ := againAt_mem _ _ _ c hc
  have := h.asked c0 h0
  have := h.data c0 h0
  have := h.tlo
  have := h.thi
  rw [e1]
  rcases e2 with e | e <;> rw [e] <;> exact ⟨⟨by omega, by omega⟩, by omega⟩
theorem Ok.tick1 {d : HlD} (h : Ok d) (hf : d.failed = false) (ht : d.ticks + 1 ≤ 14) : Ok { d with ticks := d.ticks + 1 } :=
  { h with
    tlo := by have := h.tlo; show 0 ≤ d.ticks + 1; omega
    thi := by show d.ticks + 1 ≤ 15; omega
    open14 := fun _ => ht }
theorem Ok.tickF {d : HlD} (h : Ok d) (hf : d.failed = false) : Ok { d with ticks := d.ticks + 1, failed := true } :=
  { h with
    tlo := by have := h.tlo; show 0 ≤ d.ticks + 1; omega
    thi := by have := h.open14 hf; show d.ticks + 1 ≤ 15; omega
    open14 := fun e => by cases e }
theorem tick_ok {d : HlD} (h : Ok d) : Ok (tick d).1 := by
  unfold tick
  split
  · exact h
  · rename_i hc
    have hf : d.failed = false := by cases hq : d.failed <;> simp_all
    split
    · exact h.tickF hf
    · rename_i ht
      have h1 := h.tick1 hf (by omega)
      split
      · exact (h1.again).fill
      · split <;> exact h1
end Hl

theorem hl_set36 (d : HlD) (ho : d.out.length = 32) (mv cv : Value) (t : Int) : (hlCells d mv cv).toArray.setIfInBounds 36 (.int .i64 t) = (hlCells { d with ticks := t } mv cv).toArray := by
  rw [List.setIfInBounds_toArray]
  congr 1
  unfold hlCells
  rw [List.set_append_right _ _ (by simp), List.set_append_right _ _ (by simp [byV_length, ho])]
  simp [byV_length, ho]
theorem hl_set2 (d : HlD) (mv cv : Value) (b : Bool) : (hlCells d mv cv).toArray.setIfInBounds 2 (.bool b) = (hlCells { d with failed := b } mv cv).toArray := by
  rw [List.setIfInBounds_toArray]
  rfl
theorem asks_lit (w : World) (B : Nat) (hB : B ≤ w.heap.size) (pe : Int) (out : List UInt8) (ho : out.length = 32) (i : Int) : Asks (w.alloc (.cells (sentRow pe (askFr out i)) 50)) B (.slice (some ⟨w.heap.size, 0, none⟩) 1 1) pe out [i] := by
  have hg := heap_alloc_new w (.cells (sentRow pe (askFr out i)) 50)
  have hs := sentRow_size pe (askFr_fit out i ho)
  refine .inr ⟨w.heap.size, 1, rfl, hB, ⟨Nat.le_refl _, by unfold maxLen; omega, heap_lt hg, by simp [asksCells, sent_len pe (askFr_fit out i ho)], fun j u hu => ?_, fun j hj => ⟨?_, Lib.frozen_of_heap hg j⟩⟩⟩
  · rw [Lib.cell_of_heap hg]
    simpa [asksCells, sentRow] using hu
  · rw [Lib.cell_of_heap hg, Array.getElem?_eq_getElem (by rw [hs]; omega)]; rfl

theorem Bag0.lower {w : World} {B B' size m : Nat} {v : Value} {cs : List Value} (h : Bag0 w B size v m cs) (hB : B' ≤ B) : Bag0 w B' size v m cs := by
  rcases h with h | ⟨g, cap, hv, hg, hb⟩
  · exact .inl h
  · exact .inr ⟨g, cap, hv, Nat.le_trans hB hg, hb⟩
/-- behind a call that turns the chunks -/
theorem HasMani.chunks {w w' : World} {S : List Nat} {p : Nat} {d d' : HlD} {q c : Nat} {m : ManiD} {mv cv : Value} (h : HasMani w S p d q c m mv cv) (lt : ∀ k ∈ S, k < w.heap.size) (ho : Only [p, c] w w')
    (hc : w'.heap[c]? = some (.cells (ckCells d'.cks).toArray 125 (0, 0))) (hl : d'.cks.length = d.cks.length) (h1 : d'.mani = d.mani := by rfl) (h2 : d'.out = d.out := by rfl) : HasMani w' S p d' q c m mv cv :=
  { h with
    mani := h1.trans h.mani
    whole := h.whole.trans h2.symm
    cv := by rw [hl]; exact h.cv
    hq := ho.keep h.hq (by simp; exact ⟨h.pq, fun e => h.qc e.symm⟩)
    hc := hc
    digs := fun i hi => by
      obtain ⟨b, o, e, hb, hn, hr⟩ := h.digs i hi
      exact ⟨b, o, e, hb, hn, range_keep hr (ho.block b (lt b hb) hn)⟩ }
/-- of a fetch with a manifest nothing but its own block has turned -/
theorem HasMani.turn {w w' : World} {S : List Nat} {p : Nat} {d d' : HlD} {q c : Nat} {m : ManiD} {mv cv : Value} (h : HasMani w S p d q c m mv cv) (lt : ∀ k ∈ S, k < w.heap.size) (ho : Only [p] w w') (h1 : d'.mani = d.mani := by rfl) (h2 : d'.out = d.out := by rfl) (h3 : d'.cks = d.cks := by rfl) : HasMani w' S p d' q c m mv cv :=
  { h with
    mani := h1.trans h.mani
    whole := h.whole.trans h2.symm
    cv := by rw [h3]; exact h.cv
    hq := ho.keep h.hq (by simpa using h.pq)
    hc := by rw [h3]; exact ho.keep h.hc (by simpa using h.pc)
    digs := fun i hi => by
      obtain ⟨b, o, e, hb, hn, hr⟩ := h.digs i hi
      have hbl : b < w.heap.size := lt b hb
      exact ⟨b, o, e, hb, hn, range_keep hr (ho.block b hbl (by simp at hn; simpa using hn.1))⟩ }
/-- a slice that lies in none of the blocks S -/
def Apart (v : Value) (S : List Nat) : Prop := ∀ a n c, v = .slice (some a) n c → a.block ∉ S
theorem apart_nil (S : List Nat) (n c : Nat) : Apart (.slice none n c) S := fun a n c e => by cases e
theorem apart_of_bag {w : World} {B size m : Nat} {v : Value} {cs : List Value} {S : List Nat} (h : Bag0 w B size v m cs) (lt : ∀ k ∈ S, k < B) : Apart v S := fun a n c e hm => by
  rcases h with ⟨h1, -, -⟩ | ⟨g, cap, h1, hg, -⟩
  · rw [h1] at e; cases e
  · rw [h1] at e
    injection e with e1
    injection e1 with e1
    subst e1
    have := lt _ hm
    simp only at this
    omega
/-- what a call of a fetch leaves: what is sent; the fetch, its blocks -/
def ActPost (w : World) (S : List Nat) (p : Nat) (peer : Int) (out : List UInt8) (ats : List Int) (d : HlD) (e : Ending) (w' : World) : Prop :=
  ∃ v S', e = .returned v ∧ Asks w' w.heap.size v peer out ats ∧ HlAt w' S' p d ∧ Only S w w' ∧ (∀ k ∈ S', k ∈ S ∨ w.heap.size ≤ k) ∧ Apart v S'

set_option maxHeartbeats 4000000 in
set_option maxRecDepth 100000 in
theorem tick_any (p : Nat) (S : List Nat) (d : HlD) (w : World) (h : HlAt w S p d) :
    Calls Tryd.prog 17 #[.pointer (some ⟨p, 0, none⟩)] w (ActPost w S p d.peer d.out (Hl.tick d).2 (Hl.tick d).1) := by
  have H := Lib.hid h
  obtain ⟨ok, lt, pS, mv, cv, hm, hx⟩ := h
  have ho := ok.out
  have hopen := Lib.hid (open_any p d mv cv w ho hm)
  have HM := Lib.hid hm
  have OK := Lib.hid ok
  have HX := Lib.hid hx
  have HO := Lib.hid ho
  have LT := Lib.hid lt
  have PS := Lib.hid pS
  obtain ⟨-, -, c2, -, c36, c37, c38, -⟩ := hl_cells ho hm
  have z36 : w.frozen? ⟨p, 36, none⟩ = false := Lib.frozen_of_heap hm _
  have z2 : w.frozen? ⟨p, 2, none⟩ = false := Lib.frozen_of_heap hm _
  by_cases hc : d.done = true ∨ d.failed = true
  · have ht : Hl.tick d = (d, []) := by unfold Hl.tick; rw [if_pos hc]
    have hb : (!d.done && !d.failed) = false := by rcases hc with e | e <;> rw [e] <;> simp
    rw [hb] at hopen
    have HT := Lib.hid ht
    clear hm ok hx ho lt pS ht hb hc c2 c36 c37 c38 z36 z2
    go_enter Tryd.func17, Tryd.ntmps17
    go_wp2_with fail
    refine hopen.out.mono ?_
    rintro e w1 ⟨rfl, rfl⟩
    go_wp2_with fail
    go_ret
    rw [HT.out]
    exact ⟨_, S, rfl, Bag0.nil _ _ _, H.out, Only.refl _ _, fun k hk => .inl hk, apart_nil _ _ _⟩
  · have hd : d.done = false := by cases hq : d.done <;> simp_all
    have hf : d.failed = false := by cases hq : d.failed <;> simp_all
    have hb : (!d.done && !d.failed) = true := by rw [hd, hf]; rfl
    rw [hb] at hopen
    have tlo := ok.tlo
    have thi := ok.open14 hf
    have HF := Lib.hid hf
    have HD := Lib.hid hd
    have HC := Lib.hid hc
    obtain ⟨t, ht⟩ : ∃ t, t = d.ticks := ⟨_, rfl⟩
    rw [← ht] at c36 tlo thi
    have hm1 := heap_setCell_same _ p 36 _ _ (.int .i64 (t + 1)) hm
    rw [hl_set36 d ho mv cv (t + 1)] at hm1
    have hO1 : Only S w (w.setCell ⟨p, 36, none⟩ (.int .i64 (t + 1))) := (Only.refl _ _).setCell pS _
    have Ht := Lib.hid ht
    have Hm1 := Lib.hid hm1
    have HO1 := Lib.hid hO1
    clear hm ok hx ho lt pS hd hf hb hc ht hm1 hO1
    go_enter Tryd.func17, Tryd.ntmps17
    go_wp2_with fail
    refine hopen.out.mono ?_
    rintro e w1 ⟨rfl, rfl⟩
    by_cases h14 : 14 < t + 1
    · have ht : Hl.tick d = ({ d with ticks := d.ticks + 1, failed := true }, []) := by unfold Hl.tick; rw [if_neg HC.out, if_pos (by rw [← Ht.out]; exact h14)]
      have okf := OK.out.tickF HF.out
      have HT := Lib.hid ht
      clear ht
      go_wp2_with fail
      go_ret
      rw [HT.out]
      have hm2 := heap_setCell_same _ p 2 _ _ (.bool true) Hm1.out
      rw [hl_set2] at hm2
      have hO2 : Only [p] w ((w.setCell ⟨p, 36, none⟩ (.int .i64 (t + 1))).setCell ⟨p, 2, none⟩ (.bool true)) := ((Only.refl _ _).setCell (by simp) _).setCell (by simp) _
      refine ⟨_, S, rfl, Bag0.nil _ _ _, ⟨okf, fun k hk => Nat.lt_of_lt_of_le (LT.out k hk) hO2.size, PS.out, mv, cv, by rw [← Ht.out]; exact hm2, ?_⟩, hO2.mono (by intro k hk; simp at hk; subst hk; exact PS.out), fun k hk => .inl hk, apart_nil _ _ _⟩
      rcases HX.out with hx | ⟨q, c, m, hx⟩
      · exact .inl hx
      · exact .inr ⟨q, c, m, hx.turn LT.out hO2⟩
    · have d1 := OK.out.tick1 HF.out (by rw [← Ht.out]; omega)
      rw [← Ht.out] at d1
      have HD1 := Lib.hid d1
      clear d1
      rcases HX.out with hx | ⟨q, c, m, hx⟩
      · obtain ⟨hmn, rfl, rfl⟩ := hx
        clear HX
        have hO1 := HO1.out
        obtain ⟨w2, hw2⟩ : ∃ y, y = w.setCell ⟨p, 36, none⟩ (.int .i64 (t + 1)) := ⟨_, rfl⟩
        have Hw2 := Lib.hid hw2
        have hmod : (t + 1).tmod 3 = (t + 1) % 3 := Int.tmod_eq_emod_of_nonneg (by omega)
        by_cases h3 : (t + 1) % 3 = 1
        · have ht : Hl.tick d = ({ d with ticks := d.ticks + 1 }, [-1]) := by unfold Hl.tick; rw [if_neg HC.out, if_neg (by rw [← Ht.out]; exact h14), hmn, if_pos (by rw [← Ht.out]; exact h3)]
          have HT := Lib.hid ht
          have Hmn := Lib.hid hmn
          have hb3 : ((t + 1) % 3 == 1) = true := by simp [h3]
          clear ht hmn h3 hw2
          go_upto_region 10 with fail
          rw [← Hw2.out]
          have hm1 := Hm1.out
          rw [← Hw2.out] at hm1 hO1
          have Hask := Lib.hid (ask_any p { d with ticks := t + 1 } (.pointer none) (.slice none 0 0) (-1) w2 HO.out hm1)
          have Hm2 := Lib.hid hm1
          have HO2 := Lib.hid hO1
          clear hm1 hO1 Hm1 HO1 hopen
          go_wp2_with fail
          refine Hask.out.mono ?_
          rintro e w3 ⟨rfl, hB3⟩
          have hR := sentRow_size d.peer (askFr_fit d.out (-1) HO.out)
          have hA := Lib.hid (asks_lit w3 w.heap.size (by have := HO2.out.size; have := hB3.size; omega) d.peer d.out HO.out (-1))
          have hO3 : Only S w (w3.alloc (.cells (sentRow d.peer (askFr d.out (-1))) 50)) := (HO2.out.belowB (hB3.mono HO2.out.size)).alloc _
          have hm3 : (w3.alloc (.cells (sentRow d.peer (askFr d.out (-1))) 50)).heap[p]? = _ := below_keep ((Below.refl _ w3).alloc (Nat.le_refl _) _) (below_keep hB3 Hm2.out)
          have HO3 := Lib.hid hO3
          have Hm3 := Lib.hid hm3
          clear hO3 hm3 hB3
          go_wp2_with (refine wpList_sent1 rfl _ rfl _ rfl hR ?_)
          go_ret
          rw [HT.out]
          exact ⟨_, S, rfl, hA.out, ⟨by rw [← Ht.out]; exact HD1.out, fun k hk => Nat.lt_of_lt_of_le (LT.out k hk) HO3.out.size, PS.out, _, _, by rw [← Ht.out]; exact Hm3.out, .inl ⟨Hmn.out, rfl, rfl⟩⟩, HO3.out, fun k hk => .inl hk, apart_of_bag hA.out LT.out⟩
        · have ht : Hl.tick d = ({ d with ticks := d.ticks + 1 }, []) := by unfold Hl.tick; rw [if_neg HC.out, if_neg (by rw [← Ht.out]; exact h14), hmn, if_neg (by rw [← Ht.out]; exact h3)]
          have HT := Lib.hid ht
          have Hmn := Lib.hid hmn
          have hb3 : ((t + 1) % 3 == 1) = false := by simp [h3]
          clear ht hmn h3 hw2
          go_wp2_with fail
          go_ret
          rw [HT.out]
          exact ⟨_, S, rfl, Bag0.nil _ _ _, ⟨by rw [← Ht.out]; exact HD1.out, fun k hk => Nat.lt_of_lt_of_le (LT.out k hk) HO1.out.size, PS.out, _, _, by rw [← Ht.out]; exact Hm1.out, .inl ⟨Hmn.out, rfl, rfl⟩⟩, HO1.out, fun k hk => .inl hk, apart_nil _ _ _⟩
      · have hmn := hx.mani
        have hcv := hx.cv
        have hmv := hx.mv
        subst hmv
        subst hcv
        have ht : Hl.tick d = ({ d with ticks := d.ticks + 1, cks := (Hl.fill (d.ticks + 1) (Hl.again (d.ticks + 1) d.cks).1).1 }, (Hl.again (d.ticks + 1) d.cks).2 ++ (Hl.fill (d.ticks + 1) (Hl.again (d.ticks + 1) d.cks).1).2) := by unfold Hl.tick; rw [if_neg HC.out, if_neg (by rw [← Ht.out]; exact h14), hmn]
        rw [← Ht.out] at ht
        have hO1 := HO1.out
        have hO1p : Only [p] w (w.setCell ⟨p, 36, none⟩ (.int .i64 (t + 1))) := (Only.refl _ _).setCell (by simp) _
        have hm1 := Hm1.out
        obtain ⟨w2, hw2⟩ : ∃ y, y = w.setCell ⟨p, 36, none⟩ (.int .i64 (t + 1)) := ⟨_, rfl⟩
        rw [← hw2] at hm1 hO1 hO1p
        have hc1 := hO1p.keep hx.hc (by simpa using hx.pc)
        have hl8 := OK.out.len
        have hat : ∀ x ∈ ({ d with ticks := t + 1 } : HlD).cks, 0 ≤ x.at_ ∧ x.at_ ≤ 15 := OK.out.asked
        have hsz2 : w2.heap.size = w.heap.size := by rw [hw2]; simp [World.setCell]
        have hpc := hx.pc
        have Hag := Lib.hid (again_raw p c d.cks.length { d with ticks := t + 1 } _ w2 HO.out hm1 rfl hl8 hc1 hpc (by show 0 ≤ t + 1; omega) (by show t + 1 ≤ 15; omega) hat)
        have Hfi := Lib.hid (fun W ag (h1 : HlMem W p { d with ticks := t + 1, cks := ag } _ _) (h2 : ag.length = d.cks.length) h3 => fill_raw p c d.cks.length { d with ticks := t + 1, cks := ag } (.pointer (some ⟨q, 0, none⟩)) W HO.out h1 h2.symm hl8 h3 hpc)
        have okA := Lib.hid (HD1.out.again.fill)
        have la1 := Hl.again_len (t + 1) d.cks
        have la2 := Hl.again_ats (t + 1) d.cks
        have la3 := Hl.fill_ats (t + 1) (Hl.again (t + 1) d.cks).1
        have la4 := Hl.fill_len (t + 1) (Hl.again (t + 1) d.cks).1
        obtain ⟨ag, hag⟩ : ∃ y, y = Hl.again (t + 1) d.cks := ⟨_, rfl⟩
        obtain ⟨fi, hfi⟩ : ∃ y, y = Hl.fill (t + 1) ag.1 := ⟨_, rfl⟩
        simp only [← hag] at Hag okA ht la1 la2 la3 la4
        simp only [← hfi] at okA ht la3 la4
        have HT := Lib.hid ht
        have Hx := Lib.hid hx
        have HO2 := Lib.hid hO1
        have HO2p := Lib.hid hO1p
        have Hm2 := Lib.hid hm1
        have Hw2 := Lib.hid hw2
        have Hag2 := Lib.hid hag
        have Hfi2 := Lib.hid hfi
        have hcl : c < w.heap.size := heap_lt hx.hc
        have Hat := Lib.hid hat
        clear ht hx hO1 hO1p hm1 hc1 hw2 hag hfi HX HO1 Hm1 hmn hat
        go_upto_region 8 with fail
        rw [← Hw2.out]
        go_wp2_with fail
        refine Hag.out.mono ?_
        rintro e w3 ⟨v1, rfl, hA1, hC1, hO3⟩
        have hm3 : HlMem w3 p { d with ticks := t + 1, cks := ag.1 } _ _ := hO3.keep Hm2.out (by simp; exact fun e => hpc e.symm)
        have hf3 := Hfi.out w3 ag.1 hm3 la1 hC1
        simp only [← Hfi2.out] at hf3
        have Hf3 := Lib.hid hf3
        clear hf3
        obtain ⟨A1, k1, rfl, -, -⟩ := Bag0.shape hA1
        have HA1 := Lib.hid hA1
        have HO3 := Lib.hid hO3
        have Hm3 := Lib.hid hm3
        clear hA1 hC1 hO3 hm3 Hfi Hag
        go_wp2_with fail
        refine Hf3.out.mono ?_
        rintro e w4 ⟨v2, rfl, hA2, hC2, hO4⟩
        obtain ⟨A2, k2, rfl, -, -⟩ := Bag0.shape hA2
        have hO24 : Only [c] w2 w4 := HO3.out.trans hO4
        have hc2 : c < w2.heap.size := by rw [hsz2]; exact hcl
        have hA1' := (Bag0.only HA1.out hO4 (by simp; exact hc2)).lower (B' := w.heap.size) (by rw [hsz2]; exact Nat.le_refl _)
        have hA2' := Bag0.lower hA2 (B' := w.heap.size) (by have := HO3.out.size; omega)
        have hW5 : Below w4.heap.size w4 (w4.alloc (.cells #[.slice A1 ag.2.length k1, .slice A2 fi.2.length k2] 31)) := (Below.refl _ w4).alloc (Nat.le_refl _) _
        have hcc := Lib.hid (concat_any w4.heap.size w.heap.size _ _ d.peer d.out ag.2 fi.2 31 (w4.alloc (.cells #[.slice A1 ag.2.length k1, .slice A2 fi.2.length k2] 31)) HO.out (heap_alloc_new w4 _) (Bag0.below hA1' hW5) (Bag0.below hA2' hW5) (by omega) (by omega))
        have HO24 := Lib.hid hO24
        have HW5 := Lib.hid hW5
        have HC2 := Lib.hid hC2
        clear hA1' hA2' hA2 hC2 hO4 hO24 hW5 HA1 HO3 Hm3
        go_wp2_with fail
        refine hcc.out.mono ?_
        rintro e w6 ⟨v, rfl, hA, hB⟩
        have hB46 : Below w4.heap.size w4 w6 := HW5.out.trans (hB.mono HW5.out.size)
        have hO26 : Only [c] w2 w6 := HO24.out.belowB (hB46.mono HO24.out.size)
        have hOpc : Only [p, c] w w6 := (HO2p.out.mono (by simp)).trans (hO26.mono (by simp))
        have hA' := Bag0.lower hA (B' := w.heap.size) (by have := HO24.out.size; have := HW5.out.size; omega)
        have HA' := Lib.hid hA'
        have HOpc := Lib.hid hOpc
        have HC6 := Lib.hid (below_keep hB46 HC2.out)
        have Hm6 := Lib.hid (hO26.keep Hm2.out (by simp; exact fun e => hpc e.symm))
        clear hB46 hO26 hOpc hA hA' hB
        go_wp2_with fail
        go_ret
        rw [HT.out]
        refine ⟨_, S, rfl, ?_, ⟨okA.out, fun k hk => Nat.lt_of_lt_of_le (LT.out k hk) HOpc.out.size, PS.out, _, _, Hm6.out, .inr ⟨q, c, m, Hx.out.chunks LT.out HOpc.out HC6.out (by show fi.1.length = _; omega)⟩⟩, HOpc.out.mono (by intro k hk; simp at hk; rcases hk with rfl | rfl; exact PS.out; exact Hx.out.cS), fun k hk => .inl hk, apart_of_bag HA'.out LT.out⟩
        exact HA'.out
end Go.Proofs.YtfbjbhddapoopaaDoor
