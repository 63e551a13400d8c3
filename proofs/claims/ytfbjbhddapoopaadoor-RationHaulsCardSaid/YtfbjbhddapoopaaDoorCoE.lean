/-
  Layer 3 (comb): the walk of Join.
-/
import Derived.Test.YtfbjbhddapoopaaDoorCoD
import Derived.Test.YtfbjbhddapoopaaDoorShelf
set_option linter.unusedVariables false
set_option linter.unusedSimpArgs false
namespace Go.Proofs.YtfbjbhddapoopaaDoor
open Go.RowKit
attribute [local go_sem] Lb.ba_get Lb.ba_cut Lb.ba_add Lb.ba_size Lb.take_rest

def joinS (K : List Int) (m : ManiD) (ts : List (List UInt8)) : List UInt8 × Int :=
  if goodS m.size m.parts.length = true ∧ ts.length = m.parts.length then
    if (List.range ts.length).all (fun i => fitsS K m i (ts.getD i [])) = true then
      if hashB K ts.flatten = m.whole then (ts.flatten, 0) else ([], 5)
    else ([], 5)
  else ([], 1)

theorem join_flat (ts : List (List UInt8)) : Lib.join ts [] = ts.flatten := by
  cases ts with
  | nil => rfl
  | cons x r =>
    rw [Lib.join_cons]
    simp [Lib.joinTail]
theorem flat_le : ∀ (ts : List (List UInt8)) (B : Nat), (∀ t ∈ ts, t.length ≤ B) → ts.flatten.length ≤ ts.length * B
  | [], B, _ => by simp
  | t :: ts, B, h => by
    have h1 := h t (by simp)
    have h2 := flat_le ts B (fun x hx => h x (by simp [hx]))
    rw [List.flatten_cons, List.length_append, List.length_cons, Nat.add_mul]
    omega

theorem stringsJoin_any (A : Option Addr) (cap : Nat) (ts : List (List UInt8)) (w : World) (hS : Strs w w.heap.size A ts) (hcap : ts.length ≤ cap) (hn : ts.length ≤ 1000000) (ht : ∀ t ∈ ts, t.length ≤ 1000000) :
    Calls Tryd.prog 128 #[.slice A ts.length cap, .string ⟨#[]⟩] w fun e w' => e = .returned (.string ⟨ts.flatten.toArray⟩) ∧ Below w.heap.size w w' := by
  rcases Nat.eq_zero_or_pos ts.length with h0 | h0
  · have : ts = [] := List.eq_nil_of_length_eq_zero h0
    subst this
    refine (Tryd.strings_Join_none A cap ⟨#[]⟩ w).mono ?_
    rintro e w' ⟨rfl, rfl⟩
    exact ⟨rfl, Below.refl _ _⟩
  · obtain ⟨a, rfl, hb, hc⟩ := hS 0 h0
    have hsp : a.spot = none := by
      have h1 : w.cell? a = some (.string ⟨(ts[0]).toArray⟩) := by simpa [Addr.add] using hc
      unfold World.cell? at h1
      split at h1
      · by_cases hs : a.spot.isSome = true
        · rw [if_pos hs] at h1; cases h1
        · cases hsp : a.spot with
          | none => rfl
          | some x => rw [hsp] at hs; simp at hs
      · cases h1
    obtain ⟨b, o, s⟩ := a
    simp only at hsp
    subst hsp
    have hl : (ts.map fun t => (⟨t.toArray⟩ : ByteArray)).length = ts.length := by simp
    have hfl : ((ts.map fun t => (⟨t.toArray⟩ : ByteArray)).map (·.data.toList)) = ts := by
      rw [List.map_map]
      conv => rhs; rw [← List.map_id ts]
      exact List.map_congr_left fun x _ => by simp
    have h := Tryd.strings_Join b o cap (ts.map fun t => ⟨t.toArray⟩) ⟨#[]⟩ w (fun j x hx => ?_) hb (by rw [hl]; omega) (by rw [hl]; exact hcap) (by
      rw [hfl]
      show (Lib.join ts []).length ≤ _
      rw [join_flat]
      have := flat_le ts 1000000 ht
      have h2 : ts.length * 1000000 ≤ 1000000 * 1000000 := Nat.mul_le_mul_right _ hn
      omega)
    · rw [hl] at h
      refine h.mono ?_
      rintro e w' ⟨rfl, hB⟩
      rw [hfl]
      refine ⟨?_, hB⟩
      show Ending.returned (.string ⟨(Lib.join ts []).toArray⟩) = _
      rw [join_flat]
    · have hj : j < ts.length := by have := (List.getElem?_eq_some_iff.1 hx).1; simpa using this
      obtain ⟨a', e', _, hc'⟩ := hS j hj
      obtain rfl := Option.some.inj e'
      have hxe : x = ⟨(ts[j]).toArray⟩ := by
        have := (List.getElem?_eq_some_iff.1 hx).2
        simpa using this.symm
      rw [hxe, ← hc', Addr.add_lit]

set_option maxHeartbeats 4000000 in
set_option maxRecDepth 100000 in
theorem join_any (K : List Int) (m : ManiD) (A : Option Addr) (cap : Nat) (ts : List (List UInt8)) (w : World) (hL : Laid K w) (hm : m.Ok w w.heap.size) (hS : Strs w w.heap.size A ts) (hcap : ts.length ≤ cap) (hcx : cap ≤ maxLen)
    (hn : ts.length ≤ 1000000) (ht : ∀ t ∈ ts, t.length ≤ 1000000) :
    Calls Tryd.prog 106 #[.agg m.row, .slice A ts.length cap] w fun e w' => e = .returned (.tuple #[.string ⟨((joinS K m ts).1).toArray⟩, .int .i64 (joinS K m ts).2]) ∧ Below w.heap.size w w' := by
  have hmw := hm.whole
  have hinf : (Tryd.prog.info? 39).map (·.size) = some m.row.size := by rw [m.row_size hmw]; exact mani_info
  go_enter Tryd.func106, Tryd.ntmps106
  go_upto_region 1 with fail
  obtain ⟨q, hq⟩ : ∃ q, q = w.heap.size := ⟨_, rfl⟩
  have h0 : (w.alloc (.cells m.row 39)).heap[q]? = some (.cells m.row 39 (0, 0)) := by rw [hq]; exact heap_alloc_new w _
  have b0 : Below w.heap.size w (w.alloc (.cells m.row 39)) := (Below.refl _ w).alloc (Nat.le_refl _) _
  obtain ⟨w1, hw1⟩ : ∃ w1, w1 = w.alloc (.cells m.row 39) := ⟨_, rfl⟩
  rw [← hw1] at h0 b0 ⊢
  rw [← hq]
  have hg := good_any m w1 hm.whole hm.lo hm.hi hm.len
  have Hg := Lib.hid hg
  have H0 := Lib.hid h0
  have Hb0 := Lib.hid b0
  have HL1 := Lib.hid (hL.below b0)
  have Hm1 := Lib.hid ((hm.below b0 (Nat.le_refl _)).more b0.size)
  have HS1 := Lib.hid ((hS.below b0 (Nat.le_refl _)).more b0.size)
  have Hq := Lib.hid hq
  have hc33 := m.at33 hmw
  have hn2 : m.parts.length ≤ maxLen := hm.len
  have Ht := Lib.hid ht
  clear hw1 hq h0 b0 hg hm hL hS ht
  go_wp2_with (refine wpList_load_row rfl 39 _ rfl q rfl 39 _ (0, 0) _ H0.out Tryd.underlying39 rfl hinf ?_)
  refine Hg.out.mono ?_
  rintro e w2 ⟨rfl, hB2⟩
  obtain ⟨n, hnn⟩ : ∃ n, n = m.parts.length := ⟨_, rfl⟩
  have H2 : Hid (w2.heap[q]? = some (.cells m.row 39 (0, 0))) := Lib.hid (below_keep hB2 H0.out)
  have c33 : w2.cell? ⟨q, 33, none⟩ = some (.slice m.A n m.cap) := by rw [Lib.cell_of_heap H2.out, hnn]; exact hc33
  rw [← hnn] at hn2 ⊢
  have hnI : (n : Int) ≤ 9223372036854775807 := by unfold maxLen at hn2; omega
  have HL2 := Lib.hid (HL1.out.below hB2)
  have Hm2 := Lib.hid ((Hm1.out.below hB2 (Nat.le_refl _)).more hB2.size)
  have HS2 := Lib.hid ((HS1.out.below hB2 (Nat.le_refl _)).more hB2.size)
  have Hnn := Lib.hid hnn
  have HB2 := Lib.hid (Hb0.out.trans (hB2.mono Hb0.out.size))
  clear hnn hc33 hB2 Hg H0 HL1 Hm1 HS1
  obtain ⟨L, hL⟩ : ∃ L, L = ts.length := ⟨_, rfl⟩
  have hLm : L ≤ 1000000 := by omega
  have hLi : (L : Int) ≤ 1000000 := by omega
  rw [← hL]
  have HLt := Lib.hid hL
  clear hL hn
  by_cases hgood : goodS m.size n = true
  · rw [hgood]
    by_cases hln : L = n
    · subst hln
      have hbe : ((L : Int) != (L : Int)) = false := by simp
      go_wp2_with fail
      go_loopw [22] (fun c wr => ∃ j : Nat, j ≤ L ∧ c = .int .i64 j ∧ (∀ i, i < j → fitsS K m i (ts.getD i []) = true) ∧ Below w2.heap.size w2 wr) (fun c _ => L - (intOf c).toNat)
      case atStart => exact ⟨0, by omega, rfl, fun i hi => absurd hi (Nat.not_lt_zero _), Below.refl _ _⟩
      case round =>
        obtain ⟨j, hj, rfl, hF, hB⟩ := hrel
        have Hq3 := Lib.hid (below_keep hB H2.out)
        by_cases hjl : j < L
        · have hjt : j < ts.length := by rw [← HLt.out]; exact hjl
          obtain ⟨a, hA, ha, hc⟩ := (HS2.out.below hB (Nat.le_refl _)) j hjt
          subst hA
          obtain ⟨t, htd⟩ : ∃ t, t = ts[j] := ⟨_, rfl⟩
          rw [← htd] at hc
          have hgd : ts.getD j [] = t := by rw [List.getD_eq_getElem?_getD, List.getElem?_eq_getElem hjt, htd]; rfl
          have hf := fits_any K m (j : Int) t wr (HL2.out.below hB) ((Hm2.out.below hB (Nat.le_refl _)).more hB.size) (by omega) (by omega) (by have := Ht.out t (by rw [htd]; exact List.getElem_mem _); omega)
          have Hf := Lib.hid hf
          have HF := Lib.hid hF
          have HB := Lib.hid hB
          have Hgd := Lib.hid hgd
          have j0 : (0 : Int) ≤ (j : Int) := by omega
          have jl : (j : Int) < (L : Int) := by omega
          clear hf hF hB hgd htd hjt
          go_wp2_with (refine wpList_load_row rfl 39 _ rfl q rfl 39 _ (0, 0) _ Hq3.out Tryd.underlying39 rfl hinf ?_)
          refine Hf.out.mono ?_
          rintro e w3 ⟨rfl, hB3⟩
          have HB3 := Lib.hid (HB.out.trans (hB3.mono HB.out.size))
          clear hB3
          by_cases hft : fitsS K m (j : Int) t = true
          · rw [hft]
            have HF2 : Hid (∀ i, i < j + 1 → fitsS K m i (ts.getD i []) = true) := Lib.hid (fun i hi => by
              rcases Nat.lt_or_ge i j with h | h
              · exact HF.out i h
              · have : i = j := by omega
                subst this
                rw [Hgd.out]; exact hft)
            clear hft
            go_wp2_with fail
            go_roundw
            case rel => exact ⟨j + 1, by omega, by go_num, HF2.out, HB3.out⟩
            case measure => simp [intOf]; omega
          · have hff : fitsS K m (j : Int) t = false := by simpa using hft
            have hres : joinS K m ts = ([], 5) := by
              unfold joinS
              rw [if_pos ⟨by rw [← Hnn.out]; exact hgood, by rw [← Hnn.out]; exact HLt.out.symm⟩, if_neg]
              intro h
              have := List.all_eq_true.1 h j (List.mem_range.2 (by rw [← HLt.out]; exact hjl))
              rw [Hgd.out, hff] at this
              cases this
            rw [hff]
            have Hres := Lib.hid hres
            clear hft hff hres
            go_wp2_with fail
            go_ret2
            exact ⟨by rw [Hres.out]; rfl, HB2.out.trans (HB3.out.mono HB2.out.size)⟩
        · have hjL : j = L := by omega
          subst hjL
          have hsj := stringsJoin_any A cap ts wr (HS2.out.below hB (Nat.le_refl _) |>.more hB.size) hcap (by rw [← HLt.out]; exact hLm) Ht.out
          rw [← HLt.out] at hsj
          have hres : joinS K m ts = if hashB K ts.flatten = m.whole then (ts.flatten, 0) else ([], 5) := by
            unfold joinS
            rw [if_pos ⟨by rw [← Hnn.out]; exact hgood, by rw [← Hnn.out]; exact HLt.out.symm⟩, if_pos]
            rw [List.all_eq_true]
            intro i hi
            exact hF i (by rw [HLt.out]; exact List.mem_range.1 hi)
          obtain ⟨f, hf⟩ : ∃ f, f = ts.flatten := ⟨_, rfl⟩
          have hfl : f.length ≤ 281474976710656 := by
            rw [hf]
            have := flat_le ts 1000000 Ht.out
            have h2 : ts.length * 1000000 ≤ 1000000 * 1000000 := Nat.mul_le_mul_right _ (by rw [← HLt.out]; exact hLm)
            omega
          rw [← hf] at hsj hres
          have Hsj := Lib.hid hsj
          have Hres := Lib.hid hres
          have Hf := Lib.hid hf
          have HB := Lib.hid hB
          clear hsj hres hf hB hF
          go_wp2_with fail
          refine Hsj.out.mono ?_
          rintro e w5 ⟨rfl, hB5⟩
          have H5 := below_keep hB5 Hq3.out
          have hr5 : w5.rangeAt q 0 (byV m.whole) := fun k v hv => by
            rw [Nat.zero_add, Lib.cell_of_heap H5]
            unfold ManiD.row ManiD.cells
            rw [List.getElem?_toArray, List.getElem?_append_left (List.getElem?_eq_some_iff.1 hv).1]
            exact hv
          have hq5 := heap_lt H5
          have HL5 := Lib.hid ((HL2.out.below HB.out).below hB5)
          have HB5 := Lib.hid (HB.out.trans (hB5.mono HB.out.size))
          have hSB : ∀ w' : World, Below w5.heap.size w5 w' → (w'.rangeAt q 0 (byV m.whole) ∧ Below w5.heap.size w5 w') := fun w' h => ⟨range_below hr5 h hq5, h⟩
          have heq : ∀ W : World, (Op.equalIn 10000 23 (.agg (digV (hashB K f))) (.agg (byV m.whole).toArray)).run Tryd.prog W = .ok (hashB K f == m.whole) W := fun W => eqIn_dig W (hashB K f) m.whole (hashB_length K f) hmw
          have dinfo : (Tryd.prog.info? 23).map (·.size) = some (byV m.whole).length := by rw [dig_info, byV_length, hmw]
          have dund := Tryd.underlying23
          clear hB5 H5
          go_upto_region 10 with fail
          go_region_held3 (fun w' => w'.rangeAt q 0 (byV m.whole) ∧ Below w5.heap.size w5 w')
            ((go_split_ands; refine hSB _ ?_; (repeat' first | assumption | exact Below.refl _ _ | refine Below.drew ?_ | refine Below.alloc ?_ (by simp) _)))
            ((go_at_call 24; (with_reducible refine (of_hash K _ 1 f _ ?_ ?_ ?_).mono ?_); exact (HL5.out.drew).alloc _; exact fts_new w5.drew f _; exact hfl; rintro e w' ⟨rfl, hBw'⟩; have hz := (((Below.refl w5.heap.size w5).drew).alloc (Nat.le_refl _) (.cells #[.string ⟨f.toArray⟩] 9)).trans (hBw'.mono (by simp))))
          have HZ := Lib.hid hz
          clear hz hBw'
          by_cases hwh : hashB K f = m.whole
          · have hb : (hashB K f == m.whole) = true := by rw [hwh]; simp
            rw [hb]
            have hr : joinS K m ts = (f, 0) := by rw [Hres.out, if_pos hwh]
            have Hr := Lib.hid hr
            clear hr hwh hb heq
            go_wp2_with fail
            go_ret2
            exact ⟨by rw [Hr.out]; rfl, HB2.out.trans ((HB5.out.trans (HZ.out.mono HB5.out.size)).mono HB2.out.size)⟩
          · have hb : (hashB K f == m.whole) = false := by simpa using hwh
            rw [hb]
            have hr : joinS K m ts = ([], 5) := by rw [Hres.out, if_neg hwh]
            have Hr := Lib.hid hr
            clear hr hwh hb heq
            go_wp2_with fail
            go_ret2
            exact ⟨by rw [Hr.out]; rfl, HB2.out.trans ((HB5.out.trans (HZ.out.mono HB5.out.size)).mono HB2.out.size)⟩
    · have hres : joinS K m ts = ([], 1) := by
        unfold joinS
        rw [if_neg]
        rintro ⟨_, h⟩
        apply hln
        rw [HLt.out, Hnn.out]; exact h
      have hbe : ((L : Int) != (n : Int)) = true := by rw [bne_iff_ne]; omega
      have Hres := Lib.hid hres
      clear hres
      go_wp2_with fail
      go_ret2
      exact ⟨by rw [Hres.out]; rfl, HB2.out⟩
  · have hgf : goodS m.size n = false := by simpa using hgood
    have hres : joinS K m ts = ([], 1) := by
      unfold joinS
      rw [if_neg]
      rintro ⟨h, _⟩
      apply hgood
      rw [Hnn.out]; exact h
    rw [hgf]
    have Hres := Lib.hid hres
    clear hres hgf hgood
    go_wp2_with fail
    go_ret2
    exact ⟨by rw [Hres.out]; rfl, HB2.out⟩
end Go.Proofs.YtfbjbhddapoopaaDoor
