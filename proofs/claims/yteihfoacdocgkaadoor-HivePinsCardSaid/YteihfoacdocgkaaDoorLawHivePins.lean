/-
  HivePins: what is pinned stays, whatever is put. No condition: every input.
-/
import Derived.Test.YteihfoacdocgkaaDoorHwI
import Derived.Test.YteihfoacdocgkaaDoorRow
import Derived.Deep.Fields
import Derived.ChangeSame
import Derived.Test.YteihfoacdocgkaaDoorCards
import Derived.Test.YteihfoacdocgkaaDoorTie
set_option linter.unusedVariables false
set_option linter.unusedSimpArgs false
namespace Go.Proofs.YteihfoacdocgkaaDoor
open Go.RowKit Pl Sh
attribute [local go_sem] Lb.ba_get Lb.ba_cut Lb.ba_add Lb.ba_size Lb.take_rest

set_option maxHeartbeats 8000000 in
set_option maxRecDepth 100000 in
theorem hivePins_core (x : Int) (A : Option Addr) (cap : Nat) (ps : List (List UInt8)) (A2 : Option Addr) (cap2 : Nat) (ts : List (List UInt8)) (w : World) (hL : Laid KK w) (haw : Calls Tryd.prog 18 #[] w fun e w' => e = .returned (.bool true) ∧ Below w.heap.size w w')
    (xlo : -9223372036854775808 ≤ x) (xhi : x ≤ 9223372036854775807) (hS : Strs w w.heap.size A ps) (hl : ps.length ≤ maxLen) (hS2 : Strs w w.heap.size A2 ts) (hl2 : ts.length ≤ maxLen) :
    Calls Tryd.prog 6 #[.int .i64 x, .slice A ps.length cap, .slice A2 ts.length cap2] w fun e w' => e = .returned (.bool true) ∧ Below w.heap.size w w' := by
  have HL := Lib.hid hL
  have HS := Lib.hid hS
  have HS2 := Lib.hid hS2
  have haw' := Lib.hid haw
  obtain ⟨u, kb, hu, hub, hj, hjw, hjw2, hk10⟩ := u64_mod10b x ⟨xlo, xhi⟩
  have hwd := Lib.hid (fun W (hW : Below w.heap.size w W) => wide_any A cap ps W ((HS.out.below hW (Nat.le_refl _)).more hW.size) hl)
  have hwd2 := Lib.hid (fun W (hW : Below w.heap.size w W) => wide_any A2 cap2 ts W ((HS2.out.below hW (Nat.le_refl _)).more hW.size) hl2)
  obtain ⟨np, hnp⟩ : ∃ n, n = ps.length := ⟨_, rfl⟩
  obtain ⟨nt, hnt⟩ : ∃ n, n = ts.length := ⟨_, rfl⟩
  have hp63 : (np : Int) ≤ 9223372036854775807 := by unfold maxLen at hl; omega
  have ht63 : (nt : Int) ≤ 9223372036854775807 := by unfold maxLen at hl2; omega
  have hcl := Lib.hid (fun W (hW : Below w.heap.size w W) (h1 : np ≤ 20) (h2 : nt ≤ 70) (h3 : ∀ t ∈ ps ++ ts, t.length ≤ 512) => clash_any KK A cap ps A2 cap2 ts W (HL.out.below hW) ((HS.out.below hW (Nat.le_refl _)).more hW.size) ((HS2.out.below hW (Nat.le_refl _)).more hW.size) (by omega) (by omega) (fun t ht => by have := h3 t ht; omega))
  rw [← hnp] at hwd hcl ⊢
  rw [← hnt] at hwd2 hcl ⊢
  have Hnp := Lib.hid hnp
  have Hnt := Lib.hid hnt
  clear hL hS hS2 hl hl2 hnp hnt haw
  go_enter Tryd.func6, Tryd.ntmps6
  go_wp2_with fail
  refine haw'.out.mono ?_
  rintro e w1 ⟨rfl, hB1⟩
  have HB1 := Lib.hid hB1
  clear hB1 haw'
  go_wp2_with fail
  obtain ⟨n, hn⟩ : ∃ n : Nat, (kb : Int) + 1 = (n : Int) := ⟨kb + 1, by omega⟩
  rw [hn]
  have hn1 : 1 ≤ n := by omega
  have hn10 : n ≤ 10 := by omega
  clear hu hub hj hjw hjw2 hk10 hn
  refine (new_any n w1 (by omega)).mono ?_
  rintro e w2 ⟨rfl, h2, hB2⟩
  have hbn := Lib.hid (box_new KK n w1 w2 (by omega) h2)
  have HB2 := Lib.hid (HB1.out.trans (hB2.mono HB1.out.size))
  clear h2 hB2
  go_wp2_with fail
  refine hbn.out.mono ?_
  rintro e w3 ⟨q, S, rfl, hbox, hlo, hB3, -, -⟩
  have Hbox := Lib.hid hbox
  have HSlo : Hid (∀ x ∈ S, w.heap.size ≤ x) := Lib.hid (fun x hx => Nat.le_trans HB1.out.size (hlo x hx))
  have HB3 := Lib.hid (HB2.out.trans (hB3.mono HB2.out.size))
  clear hbox hlo hB3 hbn
  by_cases hp20 : (20 : Int) < (np : Int)
  · go_wp2_with fail
    go_ret
    exact ⟨rfl, HB3.out⟩
  by_cases ht70 : (70 : Int) < (nt : Int)
  · go_wp2_with fail
    go_ret
    exact ⟨rfl, HB3.out⟩
  have p20 : np ≤ 20 := by omega
  have t70 : nt ≤ 70 := by omega
  go_wp2_with fail
  refine (hwd.out w3 HB3.out).mono ?_
  rintro e w4 ⟨b1, rfl, hw1, rfl⟩
  have Hw1 := Lib.hid hw1
  clear hw1 hwd
  cases b1 with
  | true =>
    go_wp2_with fail
    go_ret
    exact ⟨rfl, HB3.out⟩
  | false =>
  go_wp2_with fail
  refine (hwd2.out w3 HB3.out).mono ?_
  rintro e w4 ⟨b2, rfl, hw2, rfl⟩
  have Hw2 := Lib.hid hw2
  clear hw2 hwd2
  cases b2 with
  | true =>
    go_wp2_with fail
    go_ret
    exact ⟨rfl, HB3.out⟩
  | false =>
  have h512 : ∀ t ∈ ps ++ ts, t.length ≤ 512 := fun t ht => by
    rcases List.mem_append.1 ht with h | h
    · first | exact Hw1.out rfl t h | exact Hw1.out trivial t h
    · first | exact Hw2.out rfl t h | exact Hw2.out trivial t h
  have H512 := Lib.hid h512
  clear h512
  go_wp2_with fail
  refine (hcl.out w3 HB3.out p20 t70 H512.out).mono ?_
  rintro e w5 ⟨b3, rfl, hal, hB5⟩
  have Hal := Lib.hid hal
  have HB5 := Lib.hid (HB3.out.trans (hB5.mono HB3.out.size))
  have Hbox5 := Lib.hid (Hbox.out.below hB5)
  clear hal hB5 hcl
  cases b3 with
  | true =>
    go_wp2_with fail
    go_ret
    exact ⟨rfl, HB5.out⟩
  | false =>
  have hinj : ∀ x ∈ ps ++ ts, ∀ y ∈ ps ++ ts, hashB KK x = hashB KK y → x = y := by
    intro x hx y hy hxy
    obtain ⟨i, hi, ei⟩ := List.getElem_of_mem hx
    obtain ⟨k, hk, ek⟩ := List.getElem_of_mem hy
    have ha : AloneH KK (ps ++ ts) (ps ++ ts).length := by first | exact Hal.out rfl | exact Hal.out trivial
    rw [getD_getH hi] at ei
    rw [getD_getH hk] at ek
    refine Classical.byContradiction fun hne => ?_
    rcases Nat.lt_trichotomy i k with h | h | h
    · exact ha k hk i h (by rw [ei, ek]; exact fun e => hne e.symm) (by rw [ei, ek]; exact hxy.symm)
    · subst h; exact hne (by rw [← ei, ← ek])
    · exact ha i hi k h (by rw [ei, ek]; exact hne) (by rw [ei, ek]; exact hxy)
  have Hinj := Lib.hid hinj
  have H0S : Hid (0 ∉ S) := Lib.hid (fun hx => by have := HSlo.out 0 hx; have := HL.out.lt; omega)
  clear hinj
  have hkv : KeptV (w5.alloc (.cells #[] 9)) w.heap.size (.slice (some ⟨w5.heap.size, 0, none⟩) 0 0) [] S := ⟨.inr ⟨_, _, rfl, HB5.out.size, ⟨Nat.le_refl _, by decide, by simp, rfl, fun j u hu => by simp [rowT] at hu, fun j hj => by omega⟩⟩, fun g m c e hx => by
    injection e with e1
    injection e1 with e1
    injection e1 with e1
    obtain ⟨d, -, -, -, -, h5⟩ := Hbox5.out
    have := h5 g hx
    omega⟩
  have Hkv := Lib.hid hkv
  have hb6 := (Below.refl w5.heap.size w5).alloc (Nat.le_refl _) (.cells #[] 9)
  have HB6 := Lib.hid (HB5.out.trans (hb6.mono HB5.out.size))
  have Hbox6 := Lib.hid (Hbox5.out.below hb6)
  clear hkv hb6
  go_wp2_with fail
  go_loopw [10, 11] (fun kv iv wr => ∃ (i : Nat) (kept line P : List (List UInt8)) (S' : List Nat), i ≤ np ∧ iv = .int .i64 i ∧ KeptV wr w.heap.size kv kept S' ∧ Laying KK n ps i kept line P ∧ BoxAt KK wr q n (200000 - 10 * i) line P S' ∧ (∀ x ∈ S', w.heap.size ≤ x) ∧ Below w.heap.size w wr) (fun _ iv _ => np - (intOf iv).toNat)
  case atStart => exact ⟨0, [], [], [], S, by omega, rfl, Hkv.out, laying_start _ _ _, Hbox6.out, HSlo.out, HB6.out⟩
  case round =>
    obtain ⟨i, kept, line, P, S', hi, rfl, hkv, hlay, hbox, hlo, hb⟩ := hrel
    have Hkv' := Lib.hid hkv
    have Hlay := Lib.hid hlay
    have Hbx := Lib.hid hbox
    have Hlo := Lib.hid hlo
    have Hb := Lib.hid hb
    clear hkv hlay hbox hlo hb Hkv Hbox6 Hbox5 Hbox
    by_cases hip : i < np
    · have j1 : (i : Int) < (np : Int) := by omega
      have hil : i < ps.length := by rw [← Hnp.out]; exact hip
      obtain ⟨a, rfl, hab, hc0⟩ := HS.out i hil
      have hc := (Hb.out.cell (p := a.add i) (by rw [block_add]; exact hab)).trans hc0
      obtain ⟨pt, hpt⟩ : ∃ t, t = ps[i] := ⟨_, rfl⟩
      have hpm : pt ∈ ps := by rw [hpt]; exact List.getElem_mem hil
      rw [← hpt] at hc hc0
      have Hpm := Lib.hid hpm
      have Hc0 := Lib.hid hc0
      have Hab := Lib.hid hab
      have hp512 : pt.length ≤ 512 := H512.out pt (List.mem_append_left _ hpm)
      have h0S' : 0 ∉ S' := fun hx => by have := Hlo.out 0 hx; have := HL.out.lt; omega
      have hput := Lib.hid (box_put (b := pt) (Hbx.out.less (k' := 200000 - 10 * i - 3 + 2) (by omega)) (HL.out.below Hb.out) h0S' (by omega) hp512 (fun x hx e => Hinj.out x (List.mem_append_left _ (Hlay.out.sub x (Hlay.out.perm.mem_iff.1 hx))) pt (List.mem_append_left _ hpm) e))
      have hok := Hlay.out.ok pt
      obtain ⟨e1, he1⟩ : ∃ e, e = (putA KK n P line pt).1 := ⟨_, rfl⟩
      unfold PutBoxPost at hput
      rw [← he1] at hput hok
      have He1 := Lib.hid he1
      have Hok := Lib.hid hok
      clear hpt hpm hc0 hab h0S' he1 hok
      go_wp2_with fail
      refine hput.out.mono ?_
      rintro r w8 ⟨rfl, S2, hbox, hO, hS2⟩
      have Hbox2 := Lib.hid hbox
      have Hkv8 := Lib.hid (Hkv'.out.step hO hS2)
      have HB8 := Lib.hid (Hb.out.trans (hO.below Hb.out.size Hlo.out))
      have Hlo2 : Hid (∀ x ∈ S2, w.heap.size ≤ x) := Lib.hid (fun x hx => by rcases hS2 x hx with h | h; exact Hlo.out x h; exact Nat.le_trans Hb.out.size h)
      obtain ⟨dg, hdg⟩ : ∃ v, v = (if e1 = 0 then hashB KK pt else List.replicate 32 0) := ⟨_, rfl⟩
      rw [← hdg]
      have hdl : dg.length = 32 := by rw [hdg]; split; exact hashB_length _ _; rfl
      have Hdg := Lib.hid hdg
      have Hdl := Lib.hid hdl
      obtain ⟨DV, hDV⟩ : ∃ v, v = digV dg := ⟨_, rfl⟩
      have dsz : DV.size = 32 := by rw [hDV]; simp [digV, byV_length, hdl]
      have dixA : (Tryd.prog.info? 23).map (·.size) = some DV.size := by rw [dig_info, dsz]
      have doneA : DV.all (·.oneCell') = true := by rw [hDV]; exact digV_one dg
      rw [← hDV]
      have HDV := Lib.hid hDV
      clear hbox hO hS2 hput hdg hdl hDV hc
      go_upto_region 12 with (first | (refine wpList_store_row rfl 23 _ _ rfl w8.heap.size DV rfl rfl 23 _ (heap_alloc_new w8 _) dixA (by rw [dsz]; rfl) doneA ?_))
      show Code.wp _ _ _ _ ((w8.alloc (.cells (digV (List.replicate 32 0)) 23)).setRow w8.heap.size DV)
      obtain ⟨hq_w9, hB_w9⟩ := put_newH w8 (digV (List.replicate 32 0)) DV 23
      obtain ⟨db, hp_w9⟩ : ∃ q, q = w8.heap.size := ⟨_, rfl⟩
      obtain ⟨w9, hw_w9⟩ : ∃ y, y = ((w8.alloc (.cells (digV (List.replicate 32 0)) 23)).setRow w8.heap.size DV) := ⟨_, rfl⟩
      rw [← hw_w9] at hq_w9 hB_w9 ⊢
      rw [← hp_w9] at hq_w9 ⊢
      have HQ_w9 := Lib.hid hq_w9
      have HB_w9 := Lib.hid hB_w9
      have Hp_w9 := Lib.hid hp_w9
      clear hq_w9 hB_w9 hp_w9 hw_w9
      have HB9 := Lib.hid (HB8.out.trans (HB_w9.out.mono HB8.out.size))
      have Hkv9 := Lib.hid (Hkv8.out.below HB_w9.out)
      have Hbox9 := Lib.hid (Hbox2.out.below HB_w9.out)
      have hc9 := (HB9.out.cell (p := a.add i) (by rw [block_add]; exact Hab.out)).trans Hc0.out
      obtain ⟨A9, c9, rfl, hs9⟩ := Hkv9.out.shape
      have hkl : kept.length ≤ 10 := by have := Hlay.out.len; omega
      have hha := Lib.hid (has_any A9 c9 kept pt w9 hs9 (by unfold maxLen; omega))
      obtain ⟨nk, hnk⟩ : ∃ n, n = kept.length := ⟨_, rfl⟩
      rw [← hnk] at hha hkl ⊢
      have Hnk := Lib.hid hnk
      clear hs9 hnk
      by_cases hz : e1 = 0
      · subst hz
        by_cases hk : pt ∈ kept
        · rw [decide_eq_true hk] at hha
          have Hk := Lib.hid hk
          clear hk hc9
          have hc9 := (HB9.out.cell (p := a.add i) (by rw [block_add]; exact Hab.out)).trans Hc0.out
          go_wp2_with fail
          refine hha.out.mono ?_
          rintro r w10 ⟨rfl, rfl⟩
          clear hha
          have hb10 := (Below.refl w9.heap.size w9).alloc (Nat.le_refl _) (.cells DV 23)
          have hD : Digs (w9.alloc (.cells DV 23)) (w9.alloc (.cells DV 23)).heap.size (some ⟨w9.heap.size, 0, none⟩) [dg] := fun i hi => by
            obtain rfl : i = 0 := by simpa using hi
            refine ⟨w9.heap.size, 0, rfl, by simp, fun k v hv => ?_⟩
            rw [Lib.cell_of_heap (heap_alloc_new w9 _), HDV.out]
            unfold digV
            rw [List.getElem?_toArray]
            simpa using hv
          have hpin := Lib.hid (box_pin (cap := 1) (Hbox9.out.below hb10) hD (fun a ha hm => by
            obtain ⟨d, -, -, -, -, h5⟩ := Hbox9.out
            have := h5 _ hm
            obtain rfl := Option.some.inj ha
            simp at this) (by show 1 ≤ maxLen; decide) (fun x hx => by simp only [List.mem_singleton] at hx; rw [hx]; exact Hdl.out))
          have HB10 := Lib.hid (HB9.out.trans (hb10.mono HB9.out.size))
          have Hkv10 := Lib.hid (Hkv9.out.below hb10)
          have hF := fold_dig dg Hdl.out
          rw [← HDV.out] at hF
          clear hD hb10
          go_wp2_with (refine wpList_load_row rfl 23 _ rfl db rfl 23 DV (0, 0) _ HQ_w9.out Tryd.underlying23 rfl dixA ?_)
          refine hpin.out.mono ?_
          rintro r w11 ⟨rfl, hbox, hO⟩
          clear hF
          have hlay := Hlay.out.step Hpm.out He1.out.symm
          have hdh : dg = hashB KK pt := by have := Hdg.out; simpa using this
          rw [← hdh] at hlay
          have Hlay2 : Hid (Laying KK n ps (i + 1) (keptAdd kept pt) (putA KK n P line pt).2 (pinsAt P [dg] [dg].length)) := Lib.hid hlay
          have Hb11 := Lib.hid hbox
          have Hkv11 := Lib.hid (Hkv10.out.step hO (fun x hx => .inl hx))
          have HB11 := Lib.hid (HB10.out.trans (hO.below HB10.out.size Hlo2.out))
          have hc11 := (HB11.out.cell (p := a.add i) (by rw [block_add]; exact Hab.out)).trans Hc0.out
          have hst11 : Strs w11 w11.heap.size A9 kept := Hkv11.out.strs.2
          have hha2 := Lib.hid (has_any A9 c9 kept pt w11 hst11 (by have := Hnk.out; unfold maxLen; omega))
          rw [← Hnk.out, decide_eq_true Hk.out] at hha2
          clear hbox hO hpin hlay hdh hst11
          go_wp2_with fail
          refine hha2.out.mono ?_
          rintro r w12 ⟨rfl, rfl⟩
          clear hha2
          go_wp2_with fail
          go_roundw
          case rel => exact ⟨i + 1, kept, _, _, S2, by omega, by go_num, by rw [Hnk.out]; exact Hkv11.out, by have h := Hlay2.out; unfold keptAdd at h; rw [if_pos Hk.out] at h; exact h, Hb11.out.less (by omega), Hlo2.out, HB11.out⟩
          case measure => simp [intOf]; omega
        · rw [decide_eq_false hk] at hha
          have Hk := Lib.hid hk
          have hnn : nk < n := by
            have h := Hok.out.1 rfl
            rcases h with h | h
            · exact absurd h Hk.out
            · have := Hnk.out; omega
          have jn : (nk : Int) < (n : Int) := by omega
          clear hk hnn
          go_wp2_with fail
          refine hha.out.mono ?_
          rintro r w10 ⟨rfl, rfl⟩
          clear hha
          have hb10 := (Below.refl w9.heap.size w9).alloc (Nat.le_refl _) (.cells DV 23)
          have hD : Digs (w9.alloc (.cells DV 23)) (w9.alloc (.cells DV 23)).heap.size (some ⟨w9.heap.size, 0, none⟩) [dg] := fun i hi => by
            obtain rfl : i = 0 := by simpa using hi
            refine ⟨w9.heap.size, 0, rfl, by simp, fun k v hv => ?_⟩
            rw [Lib.cell_of_heap (heap_alloc_new w9 _), HDV.out]
            unfold digV
            rw [List.getElem?_toArray]
            simpa using hv
          have hpin := Lib.hid (box_pin (cap := 1) (Hbox9.out.below hb10) hD (fun a ha hm => by
            obtain ⟨d, -, -, -, -, h5⟩ := Hbox9.out
            have := h5 _ hm
            obtain rfl := Option.some.inj ha
            simp at this) (by show 1 ≤ maxLen; decide) (fun x hx => by simp only [List.mem_singleton] at hx; rw [hx]; exact Hdl.out))
          have HB10 := Lib.hid (HB9.out.trans (hb10.mono HB9.out.size))
          have Hkv10 := Lib.hid (Hkv9.out.below hb10)
          have hF := fold_dig dg Hdl.out
          rw [← HDV.out] at hF
          clear hD hb10
          go_wp2_with (refine wpList_load_row rfl 23 _ rfl db rfl 23 DV (0, 0) _ HQ_w9.out Tryd.underlying23 rfl dixA ?_)
          refine hpin.out.mono ?_
          rintro r w11 ⟨rfl, hbox, hO⟩
          clear hF
          have hlay := Hlay.out.step Hpm.out He1.out.symm
          have hdh : dg = hashB KK pt := by have := Hdg.out; simpa using this
          rw [← hdh] at hlay
          have Hlay2 : Hid (Laying KK n ps (i + 1) (keptAdd kept pt) (putA KK n P line pt).2 (pinsAt P [dg] [dg].length)) := Lib.hid hlay
          have Hb11 := Lib.hid hbox
          have Hkv11 := Lib.hid (Hkv10.out.step hO (fun x hx => .inl hx))
          have HB11 := Lib.hid (HB10.out.trans (hO.below HB10.out.size Hlo2.out))
          have hc11 := (HB11.out.cell (p := a.add i) (by rw [block_add]; exact Hab.out)).trans Hc0.out
          have hst11 : Strs w11 w11.heap.size A9 kept := Hkv11.out.strs.2
          have hha2 := Lib.hid (has_any A9 c9 kept pt w11 hst11 (by have := Hnk.out; unfold maxLen; omega))
          rw [← Hnk.out, decide_eq_false Hk.out] at hha2
          clear hbox hO hpin hlay hdh hst11
          go_wp2_with fail
          refine hha2.out.mono ?_
          rintro r w12 ⟨rfl, rfl⟩
          clear hha2
          have hS2lt : ∀ z ∈ S2, z < w11.heap.size := by
            obtain ⟨d, -, -, -, -, h5⟩ := Hb11.out
            exact h5
          have hb13 := (Below.refl w11.heap.size w11).alloc (Nat.le_refl _) (.cells #[.string ⟨pt.toArray⟩] 9)
          have hkv13 : KeptV (w11.alloc (.cells #[.string ⟨pt.toArray⟩] 9)) w.heap.size (.slice A9 nk c9) kept S2 := by have h := Hkv11.out.below hb13; rw [← Hnk.out] at h; exact h
          have hsrc : Src Tryd.prog 1 49 (.slice (some ⟨w11.heap.size, 0, none⟩) 1 1) 1 [.string ⟨pt.toArray⟩] (w11.alloc (.cells #[.string ⟨pt.toArray⟩] 9)) := str_src _ 1 _ (by rw [Lib.cell_of_heap (heap_alloc_new w11 _)]; rfl)
          have HB13 := Lib.hid (HB11.out.trans (hb13.mono HB11.out.size))
          have Hb13 := Lib.hid (Hb11.out.below hb13)
          have hBw := HB13.out.size
          have hS13 : ∀ z ∈ S2, z < (w11.alloc (.cells #[.string ⟨pt.toArray⟩] 9)).heap.size := fun z hz => Nat.lt_of_lt_of_le (hS2lt z hz) hb13.size
          have hkl3 : kept.length ≤ 1000 := by have := Hnk.out; omega
          clear hS2lt hb13
          go_wp2_with (at_builtin; refine wpList_append_kept _ rfl _ _ rfl hBw rfl hkv13 hS13 hkl3 _ pt rfl hsrc ?_)
          intro v' w14 T hkv14 hT hTS
          have Hb14 := Lib.hid (Hb13.out.apart hT (fun x hx hx2 => (hTS x hx2).2 hx))
          have Hkv14 := Lib.hid hkv14
          have HB14 := Lib.hid (HB13.out.trans (hT.below HB13.out.size (fun z hz => (hTS z hz).1)))
          obtain ⟨A14, c14, hv14, -⟩ := hkv14.shape
          subst hv14
          clear hkv14 hT hTS hkv13 hsrc hBw hS13
          go_wp2_with fail
          go_roundw
          case rel => exact ⟨i + 1, kept ++ [pt], _, _, S2, by omega, by go_num, Hkv14.out, by have h := Hlay2.out; unfold keptAdd at h; rw [if_neg Hk.out] at h; exact h, Hb14.out.less (by omega), Hlo2.out, HB14.out⟩
          case measure => simp [intOf]; omega
      · have hst := Hlay.out.stay (b := pt) (by rw [← He1.out]; exact hz)
        obtain ⟨h11, hlay2⟩ := hst
        rw [← He1.out] at h11
        have Hlay2 := Lib.hid hlay2
        have hno : ¬ (pt ∈ kept ∨ kept.length < n) := fun h => hz (Hok.out.2 h)
        rw [decide_eq_false (fun h => hno (.inl h))] at hha
        have jn : ¬ (nk : Int) < (n : Int) := by have := Hnk.out; have h2 : ¬ kept.length < n := fun h => hno (.inr h); omega
        subst h11
        clear hno hlay2 hz
        go_wp2_with fail
        refine hha.out.mono ?_
        rintro r w10 ⟨rfl, rfl⟩
        clear hha
        go_wp2_with fail
        go_roundw
        case rel => exact ⟨i + 1, kept, _, P, S2, by omega, by go_num, by rw [Hnk.out]; exact Hkv9.out, Hlay2.out, Hbox9.out.less (by omega), Hlo2.out, HB9.out⟩
        case measure => simp [intOf]; omega
    · obtain rfl : i = np := by omega
      have j1 : ¬ (i : Int) < (i : Int) := by omega
      have hbes := Lib.hid (Beside.start (all := ps ++ ts) Hlay.out (fun x hx => List.mem_append_left _ hx))
      have Honly := Lib.hid Hlay.out.only
      obtain ⟨A9, c9, rfl, hs9⟩ := Hkv'.out.shape
      obtain ⟨nk, hnk⟩ : ∃ n, n = kept.length := ⟨_, rfl⟩
      have hkl : nk ≤ 10 := by have := Hlay.out.len; omega
      have Hkv0 : Hid (KeptV wr w.heap.size (.slice A9 nk c9) kept S') := Lib.hid (by rw [hnk]; exact Hkv'.out)
      rw [← hnk]
      have Hnk := Lib.hid hnk
      clear hs9 hnk Hkv'
      go_wp2_with fail
      go_loopw [14] (fun iv wq => ∃ (j : Nat) (line : List (List UInt8)) (S' : List Nat), j ≤ nt ∧ iv = .int .i64 j ∧ KeptV wq w.heap.size (.slice A9 nk c9) kept S' ∧ Beside KK n (ps ++ ts) kept line P ∧ BoxAt KK wq q n (100000 - 20 * j) line P S' ∧ (∀ x ∈ S', w.heap.size ≤ x) ∧ Below w.heap.size w wq) (fun iv _ => nt - (intOf iv).toNat)
      case atStart => exact ⟨0, line, S', by omega, rfl, Hkv0.out, hbes.out, Hbx.out.less (by omega), Hlo.out, Hb.out⟩
      case round =>
        obtain ⟨j, line2, S3, hj, rfl, hkv, hbs, hbox, hlo, hb⟩ := hrel
        have Hkq := Lib.hid hkv
        have Hbs := Lib.hid hbs
        have Hbq := Lib.hid hbox
        have Hlq := Lib.hid hlo
        have Hq := Lib.hid hb
        clear hkv hbs hbox hlo hb hbes Hkv0 Hbx Hlo Hb
        by_cases hjt : j < nt
        · have j2 : (j : Int) < (nt : Int) := by omega
          have hjl : j < ts.length := by rw [← Hnt.out]; exact hjt
          obtain ⟨a2, rfl, hab2, hc0⟩ := HS2.out j hjl
          have hc := (Hq.out.cell (p := a2.add j) (by rw [block_add]; exact hab2)).trans hc0
          obtain ⟨pt, hpt⟩ : ∃ t, t = ts[j] := ⟨_, rfl⟩
          have hpm : pt ∈ ts := by rw [hpt]; exact List.getElem_mem hjl
          rw [← hpt] at hc hc0
          have Hpm := Lib.hid hpm
          have Hc0 := Lib.hid hc0
          have Hab2 := Lib.hid hab2
          have hp512 : pt.length ≤ 512 := H512.out pt (List.mem_append_right _ hpm)
          have h0S3 : 0 ∉ S3 := fun hx => by have := Hlq.out 0 hx; have := HL.out.lt; omega
          have hput := Lib.hid (box_put (b := pt) (Hbq.out.less (k' := 100000 - 20 * j - 3 + 2) (by omega)) (HL.out.below Hq.out) h0S3 (by omega) hp512 (fun x hx e => Hinj.out x (Hbs.out.sub x hx) pt (List.mem_append_right _ hpm) e))
          have hbp := Hbs.out.put (b := pt) (List.mem_append_right _ hpm) Hinj.out Honly.out
          have hpl := put_len (K := KK) (pins := P) (b := pt) Hbs.out.nd Hbs.out.len
          have hlen := Lib.hid (box_len Hbq.out)
          obtain ⟨e1, he1⟩ : ∃ e, e = (putA KK n P line2 pt).1 := ⟨_, rfl⟩
          obtain ⟨L2, hL2⟩ : ∃ l, l = (putA KK n P line2 pt).2 := ⟨_, rfl⟩
          unfold PutBoxPost at hput
          rw [← he1, ← hL2] at hput hbp hpl
          obtain ⟨m2, hm2⟩ : ∃ m, m = line2.length := ⟨_, rfl⟩
          rw [← hm2] at hlen
          have Hm2 := Lib.hid hm2
          have Hbp := Lib.hid hbp
          have Hpl := Lib.hid hpl
          clear hpt hpm hc0 hab2 h0S3 he1 hL2 hm2 hbp hpl
          go_wp2_with fail
          refine hlen.out.mono ?_
          rintro r w6 ⟨rfl, rfl⟩
          go_wp2_with fail
          refine hput.out.mono ?_
          rintro r w8 ⟨rfl, S2, hbox, hO, hS2⟩
          have Hbox2 := Lib.hid hbox
          have Hkv8 := Lib.hid (Hkq.out.step hO hS2)
          have HB8 := Lib.hid (Hq.out.trans (hO.below Hq.out.size Hlq.out))
          have Hlo2 : Hid (∀ x ∈ S2, w.heap.size ≤ x) := Lib.hid (fun x hx => by rcases hS2 x hx with h | h; exact Hlq.out x h; exact Nat.le_trans Hq.out.size h)
          obtain ⟨dg, hdg⟩ : ∃ v, v = (if e1 = 0 then hashB KK pt else List.replicate 32 0) := ⟨_, rfl⟩
          rw [← hdg]
          have hdl : dg.length = 32 := by rw [hdg]; split; exact hashB_length _ _; rfl
          obtain ⟨DV, hDV⟩ : ∃ v, v = digV dg := ⟨_, rfl⟩
          have dsz : DV.size = 32 := by rw [hDV]; simp [digV, byV_length, hdl]
          have dixA : (Tryd.prog.info? 23).map (·.size) = some DV.size := by rw [dig_info, dsz]
          have doneA : DV.all (·.oneCell') = true := by rw [hDV]; exact digV_one dg
          rw [← hDV]
          clear hbox hO hS2 hput hdg hdl hDV hc hlen Hbq Hkq Hq Hlq
          go_upto_region 23 with (first | (refine wpList_store_row rfl 23 _ _ rfl w8.heap.size DV rfl rfl 23 _ (heap_alloc_new w8 _) dixA (by rw [dsz]; rfl) doneA ?_))
          show Code.wp _ _ _ _ ((w8.alloc (.cells (digV (List.replicate 32 0)) 23)).setRow w8.heap.size DV)
          obtain ⟨hq_w9, hB_w9⟩ := put_newH w8 (digV (List.replicate 32 0)) DV 23
          obtain ⟨db, hp_w9⟩ : ∃ q, q = w8.heap.size := ⟨_, rfl⟩
          obtain ⟨w9, hw_w9⟩ : ∃ y, y = ((w8.alloc (.cells (digV (List.replicate 32 0)) 23)).setRow w8.heap.size DV) := ⟨_, rfl⟩
          rw [← hw_w9] at hq_w9 hB_w9 ⊢
          rw [← hp_w9] at hq_w9 ⊢
          have HQ_w9 := Lib.hid hq_w9
          have HB_w9 := Lib.hid hB_w9
          have Hp_w9 := Lib.hid hp_w9
          clear hq_w9 hB_w9 hp_w9 hw_w9
          have HB9 := Lib.hid (HB8.out.trans (HB_w9.out.mono HB8.out.size))
          have Hkv9 := Lib.hid (Hkv8.out.below HB_w9.out)
          have Hbox9 := Lib.hid (Hbox2.out.below HB_w9.out)
          have hc9 := (HB9.out.cell (p := a2.add j) (by rw [block_add]; exact Hab2.out)).trans Hc0.out
          have hst9 : Strs w9 w9.heap.size A9 kept := Hkv9.out.strs.2
          have hha := Lib.hid (has_any A9 c9 kept pt w9 hst9 (by have := Hnk.out; unfold maxLen; omega))
          rw [← Hnk.out] at hha
          have hlen := Lib.hid (box_len Hbox9.out)
          obtain ⟨m3, hm3⟩ : ∃ m, m = L2.length := ⟨_, rfl⟩
          rw [← hm3] at hlen
          have hm3n : ¬ (n : Int) < (m3 : Int) := by have := Hpl.out.1; omega
          have Hm3 := Lib.hid hm3
          clear hst9 hm3 HB8 Hkv8 Hbox2
          go_cut [171] from 120 to 198 (fun v wx => v = .bool false ∧ wx = w9)
          case first =>
            by_cases hz : e1 = 0
            · subst hz
              by_cases hk : pt ∈ kept
              · rw [decide_eq_true hk] at hha
                clear hk
                go_wp2_with fail
                refine hha.out.mono ?_
                rintro r w10 ⟨rfl, rfl⟩
                go_wp2_with fail
                refine hlen.out.mono ?_
                rintro r w11 ⟨rfl, rfl⟩
                go_wp2_with fail
                go_meet
                case rel => exact ⟨(by simp; omega), rfl⟩
              · rw [decide_eq_false hk] at hha
                have jn : (nk : Int) < (n : Int) := by
                  rcases Hbp.out.1.1 rfl with h | h
                  · exact absurd h hk
                  · have := Hnk.out; omega
                clear hk
                go_wp2_with fail
                refine hha.out.mono ?_
                rintro r w10 ⟨rfl, rfl⟩
                go_wp2_with fail
                refine hlen.out.mono ?_
                rintro r w11 ⟨rfl, rfl⟩
                go_wp2_with fail
                go_meet
                case rel => exact ⟨(by simp; omega), rfl⟩
            · obtain ⟨h11, hLL⟩ := Hpl.out.2 hz
              have hno : ¬ (pt ∈ kept ∨ kept.length < n) := fun h => hz (Hbp.out.1.2 h)
              rw [decide_eq_false (fun h => hno (.inl h))] at hha
              have jn : ¬ (nk : Int) < (n : Int) := by have := Hnk.out; have h2 : ¬ kept.length < n := fun h => hno (.inr h); omega
              have hmm : ((m3 : Int) != (m2 : Int)) = false := by have h1 := Hm3.out; have h2 := Hm2.out; rw [hLL] at h1; simp [h1, h2]
              subst h11
              clear hno hz hLL
              go_wp2_with fail
              refine hha.out.mono ?_
              rintro r w10 ⟨rfl, rfl⟩
              go_wp2_with fail
              refine hlen.out.mono ?_
              rintro r w11 ⟨rfl, rfl⟩
              go_wp2_with fail
              refine hlen.out.mono ?_
              rintro r w11 ⟨rfl, rfl⟩
              go_wp2_with fail
              go_meet
              case rel => exact ⟨(by simp; omega), rfl⟩
          obtain ⟨rfl, rfl⟩ := hcut
          clear hha hlen hc9 dixA doneA dsz HQ_w9
          go_wp2_with fail
          have Hbs9 := Lib.hid Hbp.out.2
          go_loopw [18] (fun kv wz => ∃ (k : Nat) (line4 : List (List UInt8)), k ≤ nk ∧ kv = .int .i64 k ∧ KeptV wz w.heap.size (.slice A9 nk c9) kept S2 ∧ Beside KK n (ps ++ ts) kept line4 P ∧ BoxAt KK wz q n (100000 - 20 * j - 3 - k) line4 P S2 ∧ Below w.heap.size w wz) (fun kv _ => nk - (intOf kv).toNat)
          case atStart => exact ⟨0, L2, by omega, rfl, Hkv9.out, Hbs9.out, Hbox9.out, HB9.out⟩
          case round =>
            obtain ⟨k, line4, hk, rfl, hkv, hbs, hbox, hb⟩ := hrel
            have Hkz := Lib.hid hkv
            have Hbz := Lib.hid hbs
            have Hbox4 := Lib.hid hbox
            have Hz := Lib.hid hb
            clear hbs hbox hb Hbs9 Hkv9 Hbox9 HB9 HB_w9 Hbp Hpl Hm3 Hm2 hm3n
            by_cases hkn : k < nk
            · have j3 : (k : Int) < (nk : Int) := by omega
              have hkl2 : k < kept.length := by rw [← Hnk.out]; exact hkn
              obtain ⟨a3, rfl, hab3, hc3⟩ := hkv.strs.2 k hkl2
              obtain ⟨s, hs⟩ : ∃ t, t = kept[k] := ⟨_, rfl⟩
              have hsm : s ∈ kept := by rw [hs]; exact List.getElem_mem hkl2
              rw [← hs] at hc3
              have hsl := (Hbz.out.kept_in s hsm).1
              have hs512 : s.length ≤ 512 := H512.out s (Hbz.out.sub s hsl)
              have Hsl := Lib.hid hsl
              have Hs := Lib.hid hs
              have hlz : (a3.add k).block < wr.heap.size := by rw [block_add]; exact hab3
              have hb1s := (Below.refl wr.heap.size wr).alloc (Nat.le_refl _) (.cells #[.string ⟨s.toArray⟩] 9)
              have cb : (wr.alloc (.cells #[.string ⟨s.toArray⟩] 9)).cell? ⟨wr.heap.size, 0, none⟩ = some (.string ⟨s.toArray⟩) := by rw [Lib.cell_of_heap (heap_alloc_new wr _)]; rfl
              have hof := Lib.hid (of_hash KK (some ⟨wr.heap.size, 0, none⟩) 1 s _ ((HL.out.below Hz.out).below hb1s) ⟨_, rfl, cb⟩ (by omega))
              have Hb1s := Lib.hid hb1s
              have hh := hashB_length KK s
              clear hs hsm hsl hab3 hb1s cb hkv
              go_wp2_with fail
              refine hof.out.mono ?_
              rintro r wy ⟨rfl, hby⟩
              have hby2 : Below wr.heap.size wr wy := Hb1s.out.trans (hby.mono Hb1s.out.size)
              have Hby := Lib.hid hby2
              have hyes := Lib.hid (box_yes (k := 100000 - 20 * j - 3 - (k + 1)) ((Hbox4.out.below hby2).less (by omega)) ((HL.out.below Hz.out).below hby2) Hsl.out)
              obtain ⟨hd, hhd⟩ : ∃ x, x = digV (hashB KK s) := ⟨_, rfl⟩
              rw [← hhd] at hyes ⊢
              clear hof hby hby2 hhd hh
              go_wp2_with fail
              refine hyes.out.mono ?_
              rintro r wv ⟨rfl, hbox5, hO5⟩
              have Hbox5 := Lib.hid hbox5
              have Hbv := Lib.hid ((Hz.out.trans (Hby.out.mono Hz.out.size)).trans (hO5.below (Nat.le_trans Hz.out.size Hby.out.size) Hlo2.out))
              have Hkv5 := Lib.hid ((Hkz.out.below Hby.out).step hO5 (fun x hx => .inl hx))
              have hc5 : wv.cell? (a3.add k) = some (.string ⟨s.toArray⟩) := by
                obtain ⟨a4, e4, -, hc4⟩ := Hkv5.out.strs.2 k hkl2
                obtain rfl := Option.some.inj e4
                rw [← Hs.out] at hc4
                exact hc4
              have htt : (s != s) = false := by simp
              clear hbox5 hO5 hyes
              go_wp2_with fail
              go_roundw
              case rel => exact ⟨k + 1, _, by omega, by go_num, Hkv5.out, Hbz.out.mv Hsl.out, Hbox5.out, Hbv.out⟩
              case measure => simp [intOf]; omega
            · obtain rfl : k = nk := by omega
              have j3 : ¬ (k : Int) < (k : Int) := by omega
              go_wp2_with fail
              go_roundw
              case rel => exact ⟨j + 1, line4, S2, by omega, by go_num, Hkz.out, Hbz.out, Hbox4.out.less (by omega), Hlo2.out, Hz.out⟩
              case measure => simp [intOf]; omega
        · obtain rfl : j = nt := by omega
          have j2 : ¬ (j : Int) < (j : Int) := by omega
          go_wp2_with fail
          go_ret
          exact ⟨rfl, Hq.out⟩
theorem hivePins_law (x : Int) (A : Option Addr) (cap : Nat) (ps : List (List UInt8)) (A2 : Option Addr) (cap2 : Nat) (ts : List (List UInt8)) (w : World) (hL : Laid KK w) (xlo : -9223372036854775808 ≤ x) (xhi : x ≤ 9223372036854775807)
    (hS : Strs w w.heap.size A ps) (hl : ps.length ≤ maxLen) (he : ∀ s ∈ ps, s.length ≤ maxLen) (hS2 : Strs w w.heap.size A2 ts) (hl2 : ts.length ≤ maxLen) (he2 : ∀ s ∈ ts, s.length ≤ maxLen) :
    Calls Tryd.prog 6 #[.int .i64 x, .slice A ps.length cap, .slice A2 ts.length cap2] w fun e w' => e = .returned (.bool true) ∧ Below w.heap.size w w' :=
  hivePins_core x A cap ps A2 cap2 ts w hL (awake05_any w hL) xlo xhi hS hl hS2 hl2
namespace HivePinsLaw
open Go.ChangeShapes Go.WideShapes Go.ChangeAt
open Go.ChangeMaps (open_string shut_string)
set_option maxRecDepth 100000 in
theorem contract (H : Type) (enc : TypeId × Value → H) (W : World) (base : Nat) (args : Array Value) (ds gs : List (DataW H)) (before : List MemPlace)
    (hval : ∀ (j : Nat) t v, Tryd.f6.params[j]? = some t → args[j]? = some v → Value.okWide Tryd.prog W .any base t v)
    (hW : DataW.Whole enc Tryd.prog Tryd.f6.params.toList Rows.hivePinsSpec.vars false W args.toList ds gs before) (hsz0 : (DataW.weightsEach Tryd.prog (Tryd.f6.params.toList ++ Rows.hivePinsSpec.plain.varTypes Tryd.prog) (ds ++ gs)).all (· ≤ reachBytes) = true) (hLd : laidMetH Tryd.prog laid1 W) :
    Calls Tryd.prog 6 args W fun e W' => ∃ v, e = .returned v ∧ Rows.hivePinsSpec.post enc Tryd.prog Tryd.f6 false true false false W args v W' := by
  have hW' := hW
  obtain ⟨p, q, hA0, hV, rfl, hfz, hnd⟩ := hW
  have hA : DataW.TrodAll enc Tryd.prog W 0 (fun _ => true) true Tryd.f6.params.toList args.toList ds p := hA0
  rw [Tryd.params6] at hA hval
  obtain ⟨v0, vs0, d0, ds0, p0, q0, hargs, rfl, rfl, h0, r0⟩ := trodAll_cons hA
  obtain ⟨v1, vs1, d1, ds1, p1, q1, rfl, rfl, rfl, h1, r1⟩ := trodAll_cons r0
  obtain ⟨v2, vs2, d2, ds2, p2, q2, rfl, rfl, rfl, h2, r2⟩ := trodAll_cons r1
  obtain ⟨rfl, rfl, rfl⟩ := trodAll_nil r2
  obtain rfl : args = #[v0, v1, v2] := by cases args; simp_all
  obtain ⟨rfl, rfl⟩ := trodVars_none hV
  obtain ⟨x0, rfl, hd0, _, w0⟩ := open_int Tryd.underlying3 (hval 0 3 v0 rfl rfl) h0
  obtain ⟨A1, c1, x1, rfl, hS1, hl1, he1, hb1⟩ := open_strs Tryd.underlying49 Tryd.underlying9 (by kernel_rfl) (hval 1 49 v1 rfl rfl) h1
  obtain ⟨A2, c2, x2, rfl, hS2, hl2, he2, hb2⟩ := open_strs Tryd.underlying49 Tryd.underlying9 (by kernel_rfl) (hval 2 49 v2 rfl rfl) h2
  refine (hivePins_law x0 A1 c1 x1 A2 c2 x2 W (of_laid hLd) (wf_bounds w0).1 (wf_bounds w0).2 hS1 hl1 he1 hS2 hl2 he2).mono fun e W' ⟨he, hg⟩ => ?_
  subst he
  exact ⟨_, rfl, law_post (tb := 4) laidOut_ (of_decide_eq_true (by kernel_rfl)) Tryd.underlying4 (by kernel_rfl) rfl rfl hW' hg⟩

theorem door_met (os : Os) (args : Array Value) : laidMetH Tryd.prog laid1 ((World.doorLaid Tryd.prog 400 os).forCall (fun _ _ => 0) ⟨#[], args, []⟩).memory :=
  laidMetH_of_parts3 (fuel := 8) (laidMet_of_run' 8 (by kernel_rfl) (by kernel_rfl)) (by kernel_rfl) (by kernel_rfl)

set_option maxRecDepth 100000 in
theorem lifted (os : Os) (started : os.Started) (H : Type) (enc : TypeId × Value → H) :
    ReturnsInHanded {} Tryd.checked os 6 .any (fun w args => (Rows.hivePinsSpec.pre enc Tryd.prog Tryd.f6 [] false w args ∧ laidMetH Tryd.prog laid1 w) ∧ sizedMet enc Tryd.prog Tryd.f6 (OpenSpec.ofChange Rows.hivePinsSpec) false w args)
      (Rows.hivePinsSpec.post enc Tryd.prog Tryd.f6 false true false false) := by
  refine returnsInHanded_of_change_and (C := Tryd.checked) (X := fun w _ => laidMetH Tryd.prog laid1 w) (fun _ _ _ hh h => h.of_heap hh) ownKnob_ started (by kernel_rfl) Tryd.func6
    (ChangeSpec.witness_shaped (enc := enc) (C := Tryd.checked) (os := os) (X := fun w _ => laidMetH Tryd.prog laid1 w) false (World.doorLaid Tryd.prog 400 os) #[.int .i64 0, .slice none 0 0, .slice none 0 0] 8 rfl (World.shaped_of_RefB (by kernel_rfl) (by kernel_rfl)) (by kernel_rfl) (by kernel_rfl) (by kernel_rfl) (door_met os _)) ?_
  intro W base args ds gs before hval hW _ hsz hLd _
  exact contract H enc W base args ds gs before hval hW hsz hLd

theorem said : Rows.HivePinsSaid :=
  OpenClaim.holds_of_wide 6 Tryd.f6 rfl rfl rfl rfl rfl rfl rfl ⟨rfl, rfl, rfl, rfl, rfl⟩ rfl rfl rfl rfl rfl (by kernel_rfl) Tryd.func6 (by kernel_rfl)
    (of_decide_eq_true (by kernel_rfl)) (by unfold Func.isWrapper; first | (rw [if_pos (by decide +kernel)]; kernel_rfl) | (rw [if_neg (by decide +kernel)]; exact ⟨rfl, rfl⟩))
    (fun os started H enc _ => lifted os started H enc)

theorem proved : Rows.HivePinsCardSaid :=
  Claim7.holds_tied_plain_at .later [] [.data] true Rows.hivePinsCard.stood.harness false
    said (fun _ h => by cases h) (by kernel_rfl) (fun _ h => by cases h) hivePins_row_tie rfl ⟨rfl, rfl⟩ (by kernel_rfl) rfl
    (fun f fn hf hfn => by
      obtain rfl : f = 6 := Option.some.inj ((show Tryd.prog.funcNamed "apiary/apiarylaw05.HivePins" = some 6 by kernel_rfl).symm.trans hf) |>.symm
      obtain rfl : fn = Tryd.f6 := (Option.some.inj (Tryd.func6.symm.trans hfn)).symm
      exact ⟨by kernel_rfl, fun j t ht => by
        rw [Tryd.params6] at ht
        have hm : t ∈ [3, 49, 49] := by simpa using Array.mem_of_getElem? ht
        have hall : ([3, 49, 49].all fun u => !Tryd.prog.wantsStandIn u) = true := by kernel_rfl
        exact (show Tryd.prog.wantsStandIn t = false by simpa using List.all_eq_true.1 hall t hm)⟩)
    (by kernel_rfl)
end HivePinsLaw
end Go.Proofs.YteihfoacdocgkaaDoor
