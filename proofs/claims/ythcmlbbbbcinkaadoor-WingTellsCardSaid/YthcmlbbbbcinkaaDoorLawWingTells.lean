/-
  WingTells: a frame of which a byte is another one is told, wherever the byte stands; so is one that is cut off. No condition: every input.
-/
import Derived.Test.YthcmlbbbbcinkaaDoorWkE
import Derived.Test.YthcmlbbbbcinkaaDoorWkF
import Derived.IntWalk
import Derived.Laws.BitsAllLaws
import Derived.Test.YthcmlbbbbcinkaaDoorCards
import Derived.Test.YthcmlbbbbcinkaaDoorTie
set_option linter.unusedVariables false
set_option linter.unusedSimpArgs false
namespace Go.Proofs.YthcmlbbbbcinkaaDoor
open Go.RowKit Pl
attribute [local go_sem] Lb.ba_get Lb.ba_cut Lb.ba_add Lb.ba_size Lb.take_rest

theorem wf_u8 {n : Int} (h : (Lit.int .u8 n).wf = true) : 0 ≤ n ∧ n < 256 := wf_u8_ h
theorem u64_modL (x : Int) (L : Nat) (hL : 0 < L) (hL2 : L ≤ 5000) (h : -9223372036854775808 ≤ x ∧ x ≤ 9223372036854775807) : ∃ u k : Nat, IntKind.u64.wrap x = (u : Int) ∧ (u : Int) ≤ 18446744073709551615 ∧ (u : Int).tmod (L : Int) = (k : Int) ∧ IntKind.i64.wrap (k : Int) = (k : Int) ∧ k < L := by
  have hk : ∀ u : Nat, u % L < L := fun u => Nat.mod_lt _ hL
  by_cases hx : 0 ≤ x
  · obtain ⟨u, rfl⟩ : ∃ u : Nat, x = u := ⟨x.toNat, by omega⟩
    have := hk u
    exact ⟨u, u % L, by rw [IntWalk.u64_in _ (by omega)], by omega, rfl, IntWalk.i64_in _ (by omega), this⟩
  · have := hk (x + 18446744073709551616).toNat
    refine ⟨(x + 18446744073709551616).toNat, (x + 18446744073709551616).toNat % L, ?_, by omega, rfl, IntWalk.i64_in _ (by omega), this⟩
    simp only [IntKind.wrap_u64]; omega
theorem bag_set_rng {w : World} {g cap kk : Nat} {l : List UInt8} (h : Bag w 1 g cap l.length (byV l)) (hk : kk < l.length) (y : UInt8) :
    (w.setCell ⟨g, kk, none⟩ (.int .u8 ((y.toNat : Nat) : Int))).rangeAt g 0 (byV (l.set kk y)) := fun j v hv => by
  have hj : j < l.length := by have := (List.getElem?_eq_some_iff.1 hv).1; rw [byV_length] at this; simpa using this
  have hold : ∀ i, (hi : i < l.length) → w.cell? ⟨g, i, none⟩ = some (.int .u8 ((l[i].toNat : Nat) : Int)) := fun i hi => h.holds i _ (by simp [byV, hi])
  have e : (byV (l.set kk y))[j]? = some (.int .u8 ((((l.set kk y)[j]'(by simpa using hj)).toNat : Nat) : Int)) := by
    unfold byV
    rw [List.getElem?_map, List.getElem?_eq_getElem (by simpa using hj)]; rfl
  rw [e] at hv
  rw [Nat.zero_add, ← hv]
  by_cases hjk : j = kk
  · subst hjk
    rw [World.cell?_setCell_same w _ _ (hold j hj)]
    simp
  · rw [World.cell?_setCell_other w _ _ _ (by intro e; injection e with _ e2; omega), hold j hj, List.getElem_set_ne (by omega)]
theorem rng_drop {w : World} {g o k : Nat} {l : List UInt8} (h : w.rangeAt g o (byV l)) : w.rangeAt g (o + k) (byV (l.drop k)) := fun j v hv => by
  have := h (k + j) v (by unfold byV at hv ⊢; rw [List.map_drop, List.getElem?_drop] at hv; exact hv)
  rw [show o + k + j = o + (k + j) by omega]; exact this
theorem conv_rngC {w : World} {q o n cap : Nat} {d : List UInt8} (hd : d.length = n) (h : w.rangeAt q o (byV d)) (hq : q < w.heap.size) (W : World) (hW : Below w.heap.size w W) : (convert 45 9 (.slice (some ⟨q, o, none⟩) n cap)).run Tryd.prog W = .ok (.string ⟨d.toArray⟩) W := by
  have := run_convert_bytes_back W 45 9 5 ⟨q, o, none⟩ cap d Tryd.underlying45 Tryd.underlying5 Tryd.underlying9 (fun i hi => by
    rw [Addr.add_lit]
    exact range_below h hW hq i _ (by simp [byV, hi]))
  rwa [hd] at this
open Wi in
theorem tell_take {K : List Int} {f : Fm} (hw : f.Wf) (hg : good f = true) {kk : Nat} (hk : kk < (enc K f).length) (hne : 32 ≤ kk → hashB K (((enc K f).drop 32).take (kk - 32)) ≠ hashB K ((enc K f).drop 32)) {g : Fm} {y : Int} (h : DecAns K ((enc K f).take kk) g y) : y = 5 := by
  obtain ⟨l1, l2⟩ := enc_len K hw hg
  have hsum := sum_ok K f
  have hl : ((enc K f).take kk).length = kk := by simp; omega
  unfold DecAns at h
  rw [if_neg (by omega), if_pos (by
    rw [hl]
    by_cases h32 : kk < 32
    · exact .inl h32
    · refine .inr ?_
      rw [List.drop_take, List.take_take, Nat.min_eq_left (by omega), ← hsum]
      exact hne (by omega))] at h
  exact h.1
open Wi in
theorem tell_set {K : List Int} {f : Fm} (hw : f.Wf) (hg : good f = true) {kk : Nat} (hk : kk < (enc K f).length) {y : UInt8} (hy : y ≠ (enc K f)[kk]) (hne : 32 ≤ kk → hashB K (((enc K f).set kk y).drop 32) ≠ hashB K ((enc K f).drop 32)) {g : Fm} {e : Int} (h : DecAns K ((enc K f).set kk y) g e) : e = 5 := by
  obtain ⟨l1, l2⟩ := enc_len K hw hg
  have hsum := sum_ok K f
  unfold DecAns at h
  rw [if_neg (by simp; omega), if_pos (by
    refine .inr ?_
    by_cases h32 : 32 ≤ kk
    · rw [List.take_set_of_le h32, ← hsum]
      exact hne h32
    · rw [List.drop_set_of_lt (by omega), hsum]
      intro e
      have h1 := congrArg (fun l => l[kk]?) e
      simp only [List.getElem?_take_of_lt (show kk < 32 by omega), List.getElem?_set_self hk, List.getElem?_eq_getElem hk, Option.some.injEq] at h1
      exact hy h1.symm)] at h
  exact h.1
open Wi in
set_option maxHeartbeats 16000000 in
set_option maxRecDepth 100000 in
open Classical in
theorem wingTells_core (f : Fm) (x : Adr) (a m : Int) (w : World) (hL : Laid KK w) (hf : FmOk w w.heap.size f x) (alo : -9223372036854775808 ≤ a) (ahi : a ≤ 9223372036854775807) (mlo : 0 ≤ m) (mhi : m < 256) :
    Calls Tryd.prog 5 #[.agg (f.cells x).toArray, .int .i64 a, .int .u8 m] w fun e w' => e = .returned (.bool true) ∧ Below w.heap.size w w' := by
  have hfw := hf.wf
  have hif := fm_infoR hfw x
  have fund := Tryd.underlying36
  have hn1 := heap_alloc_new w (.cells (f.cells x).toArray 36)
  have hb1 := (Below.refl w.heap.size w).alloc (Nat.le_refl _) (.cells (f.cells x).toArray 36)
  obtain ⟨w1, hw1⟩ : ∃ y, y = w.alloc (.cells (f.cells x).toArray 36) := ⟨_, rfl⟩
  rw [← hw1] at hn1 hb1
  have HB := Lib.hid hb1
  have HL := Lib.hid (hL.below hb1)
  have HF := Lib.hid ((hf.below hb1 (Nat.le_refl _)).more hb1.size)
  have HX := Lib.hid hn1
  obtain ⟨RF, hRF⟩ : ∃ R, R = (f.cells x).toArray := ⟨_, rfl⟩
  rw [← hRF] at hif HX hw1 ⊢
  obtain ⟨q1, hq1⟩ : ∃ q, q = w.heap.size := ⟨_, rfl⟩
  rw [← hq1] at HX
  have Hw1 := Lib.hid hw1
  have Hq1 := Lib.hid hq1
  have HRF := Lib.hid hRF
  clear hn1 hb1 hw1 hq1 hL hf hRF
  go_enter Tryd.func5, Tryd.ntmps5
  go_upto_region 1 with fail
  rw [← Hw1.out, ← Hq1.out]
  have HAw := Lib.hid (wawake_any KK w1 HL.out)
  go_wp2_with fail
  refine HAw.out.mono ?_
  rintro e w2 ⟨rfl, hB⟩
  replace HB := Lib.hid (HB.out.trans (hB.mono HB.out.size))
  replace HL := Lib.hid (HL.out.below hB)
  replace HF := Lib.hid ((HF.out.below hB (Nat.le_refl _)).more hB.size)
  replace HX := Lib.hid (below_keep hB HX.out)
  clear hB
  clear HAw
  have HGr := Lib.hid (wgreat_any f x w2 HF.out)
  rw [← HRF.out] at HGr
  go_wp2_with (refine wpList_load_row rfl 36 _ rfl q1 rfl 36 RF (0, 0) _ HX.out fund rfl hif ?_)
  refine HGr.out.mono ?_
  rintro e w3 ⟨b1, rfl, hB⟩
  replace HB := Lib.hid (HB.out.trans (hB.mono HB.out.size))
  replace HL := Lib.hid (HL.out.below hB)
  replace HF := Lib.hid ((HF.out.below hB (Nat.le_refl _)).more hB.size)
  replace HX := Lib.hid (below_keep hB HX.out)
  clear hB
  clear HGr
  cases b1 with
  | true =>
    go_wp2_with fail
    go_ret
    exact ⟨rfl, HB.out⟩
  | false =>
  have HE := Lib.hid (wencode_any KK f x w3 HL.out HF.out)
  rw [← HRF.out] at HE
  obtain ⟨E, hE⟩ : ∃ E, E = (encAns KK f).1 := ⟨_, rfl⟩
  obtain ⟨c1, hc1⟩ : ∃ E, E = (encAns KK f).2 := ⟨_, rfl⟩
  rw [← hE, ← hc1] at HE
  go_wp2_with (refine wpList_load_row rfl 36 _ rfl q1 rfl 36 RF (0, 0) _ HX.out fund rfl hif ?_)
  refine HE.out.mono ?_
  rintro e w4 ⟨rfl, hB⟩
  replace HB := Lib.hid (HB.out.trans (hB.mono HB.out.size))
  replace HL := Lib.hid (HL.out.below hB)
  replace HF := Lib.hid ((HF.out.below hB (Nat.le_refl _)).more hB.size)
  replace HX := Lib.hid (below_keep hB HX.out)
  clear hB
  clear HE
  cases hgf : good f with
  | false =>
    have e2 : c1 = 1 := by rw [hc1]; unfold encAns; rw [if_neg (by rw [hgf]; simp)]
    subst e2
    clear hE hc1 hgf
    go_wp2_with fail
    go_ret
    exact ⟨rfl, HB.out⟩
  | true =>
  have e2 : c1 = 0 := by rw [hc1]; unfold encAns; rw [if_pos hgf]
  have e1 : E = enc KK f := by rw [hE]; unfold encAns; rw [if_pos hgf]
  obtain ⟨hlen, hlen2⟩ := enc_len KK hfw hgf
  rw [← e1] at hlen hlen2
  have He1 := Lib.hid e1
  have Hgf := Lib.hid hgf
  subst e2
  clear hE hc1 hgf e1
  obtain ⟨u, kk, hu, hub, hk, hkw, hkl⟩ := u64_modL a E.length (by omega) (by omega) ⟨alo, ahi⟩
  have hLI : (E.length : Int) ≤ 4096 := by omega
  have hL0 : (0 : Int) < (E.length : Int) := by omega
  have k0 : (0 : Int) ≤ (kk : Int) := by omega
  have kI : (kk : Int) < (E.length : Int) := by omega
  obtain ⟨xb, rfl⟩ : ∃ xb : Nat, m = (xb : Int) := ⟨m.toNat, by omega⟩
  obtain ⟨c, hc⟩ : ∃ c, c = E[kk] := ⟨_, rfl⟩
  obtain ⟨y, hy⟩ : ∃ y : UInt8, y = c ^^^ UInt8.ofNat xb := ⟨_, rfl⟩
  have hxb : xb < 256 := by omega
  have hxor : bits .xor .u8 ((c.toNat : Nat) : Int) (xb : Int) = ((y.toNat : Nat) : Int) := by
    rw [u8_xor_nat _ _ c.toNat_lt hxb, hy, UInt8.toNat_xor, UInt8.toNat_ofNat', Nat.mod_eq_of_lt hxb]
  obtain ⟨W8, bc, hconv, o8, hbag⟩ := bytes_bag E w4 (by omega)
  obtain ⟨gb, hgb⟩ : ∃ gb, gb = w4.heap.size := ⟨_, rfl⟩
  rw [← hgb] at hconv hbag
  have lk : W8.cell? ⟨gb, kk, none⟩ = some (.int .u8 ((c.toNat : Nat) : Int)) := hbag.holds kk _ (by simp [byV, hkl, hc])
  have zk : W8.frozen? ⟨gb, kk, none⟩ = false := (hbag.there kk (by have := hbag.le; omega)).2
  have hrng := bag_set_rng hbag hkl y
  have hgl := hbag.lt
  have hble := hbag.le
  have hset : y = c → E.set kk y = E := fun h => by rw [h, hc]; simp
  have hyc : y = c ↔ xb = 0 := by
    constructor
    · intro h
      have h1 : (c ^^^ UInt8.ofNat xb).toNat = c.toNat := by rw [← hy, h]
      rw [UInt8.toNat_xor, UInt8.toNat_ofNat', Nat.mod_eq_of_lt hxb] at h1
      have h2 : c.toNat ^^^ (c.toNat ^^^ xb) = c.toNat ^^^ c.toNat := by rw [h1]
      rw [← Nat.xor_assoc, Nat.xor_self, Nat.zero_xor] at h2
      exact h2
    · intro h
      rw [hy, h]
      apply UInt8.toNat_inj.1
      rw [UInt8.toNat_xor]
      simp
  obtain ⟨bl, hbl⟩ : ∃ bl, bl = E.set kk y := ⟨_, rfl⟩
  have hbll : bl.length = E.length := by rw [hbl]; simp
  rw [← hbl] at hrng
  have hs8 := o8.size
  have b8 : Below w4.heap.size w4 (W8.setCell ⟨gb, kk, none⟩ (.int .u8 ((y.toNat : Nat) : Int))) := (o8.mono (cs := [gb]) (by simp) |>.setCell (p := ⟨gb, kk, none⟩) (by simp) _).below (Nat.le_refl _) (by simp [hgb])
  have hDset : ∀ g e, (32 ≤ kk → hashB KK (bl.drop 32) ≠ hashB KK (E.drop 32)) → xb ≠ 0 → DecAns KK bl g e → e = 5 := fun g e h1 h2 h3 => by
    have e1 := He1.out
    subst e1
    exact tell_set hfw Hgf.out hkl (fun h => h2 (hyc.1 (h.trans hc.symm))) (by rw [← hbl]; exact h1) (by rw [← hbl]; exact h3)
  have hDtake : ∀ g e, (32 ≤ kk → hashB KK ((E.drop 32).take (kk - 32)) ≠ hashB KK (E.drop 32)) → DecAns KK (E.take kk) g e → e = 5 := fun g e h1 h3 => by
    have e1 := He1.out
    subst e1
    exact tell_take hfw Hgf.out hkl h1 h3
  have hD0 : ∀ g e, xb = 0 → DecAns KK bl g e → e = 0 := fun g e h1 h3 => by
    rw [hbl, hset (hyc.2 h1)] at h3
    have e1 := He1.out
    subst e1
    exact (ans_enc hfw Hgf.out h3).1
  have HDs := Lib.hid hDset
  have HDt := Lib.hid hDtake
  have HD0 := Lib.hid hD0
  have hb := b8
  have Hbll := Lib.hid hbll
  have Hhlen := Lib.hid hlen
  clear hset hyc hbl hbll b8 hgb hc hy hs8 hDset hDtake hD0 hbag o8 hxb
  go_upto_region 11 with fail
  obtain ⟨w9, hw9⟩ : ∃ w9, w9 = W8.setCell ⟨gb, kk, none⟩ (.int .u8 ((y.toNat : Nat) : Int)) := ⟨_, rfl⟩
  have hgl9 : gb < w9.heap.size := by rw [hw9]; simpa using hgl
  rw [← hw9] at hrng hb ⊢
  have hB := hb
  replace HB := Lib.hid (HB.out.trans (hB.mono HB.out.size))
  replace HL := Lib.hid (HL.out.below hB)
  replace HF := Lib.hid ((HF.out.below hB (Nat.le_refl _)).more hB.size)
  replace HX := Lib.hid (below_keep hB HX.out)
  clear hB
  clear hb hw9 hgl lk zk hxor hconv
  have Hrng := Lib.hid hrng
  have hcv := conv_rngC (cap := bc) Hbll.out hrng hgl9
  have Hcv := Lib.hid hcv
  clear hrng hcv
  obtain ⟨h0, hh0⟩ : ∃ h, h = hashB KK (E.drop 32) := ⟨_, rfl⟩
  obtain ⟨h1, hh1⟩ : ∃ h, h = hashB KK (bl.drop 32) := ⟨_, rfl⟩
  obtain ⟨h2, hh2⟩ : ∃ h, h = hashB KK ((E.drop 32).take (kk - 32)) := ⟨_, rfl⟩
  rw [← hh1, ← hh0] at HDs
  rw [← hh2, ← hh0] at HDt
  have l0 : h0.length = 32 := by rw [hh0]; exact hashB_length _ _
  have l1 : h1.length = 32 := by rw [hh1]; exact hashB_length _ _
  have l2 : h2.length = 32 := by rw [hh2]; exact hashB_length _ _
  have e1 : ∀ W : World, (Op.equalIn 10000 23 (.agg (digV h1)) (.agg (digV h0))).run Tryd.prog W = .ok (h1 == h0) W := fun W => eqIn_dig W _ _ l1 l0
  have e2 : ∀ W : World, (Op.equalIn 10000 23 (.agg (digV h2)) (.agg (digV h0))).run Tryd.prog W = .ok (h2 == h0) W := fun W => eqIn_dig W _ _ l2 l0
  obtain ⟨v1, hv1⟩ : ∃ b, b = (h1 == h0) := ⟨_, rfl⟩
  obtain ⟨v2, hv2⟩ : ∃ b, b = (h2 == h0) := ⟨_, rfl⟩
  rw [← hv1] at e1
  rw [← hv2] at e2
  have Hv1 : Hid (v1 = false → h1 ≠ h0) := Lib.hid (fun h e => by rw [hv1, e] at h; simp at h)
  have Hv2 : Hid (v2 = false → h2 ≠ h0) := Lib.hid (fun h e => by rw [hv2, e] at h; simp at h)
  have Hh0 := Lib.hid hh0
  have Hh1 := Lib.hid hh1
  have Hh2 := Lib.hid hh2
  obtain ⟨RES, hRES⟩ : ∃ b : Bool, b = (if 32 ≤ kk then (if xb = 0 then v2 else (v1 || v2)) else false) := ⟨_, rfl⟩
  have HRES := Lib.hid hRES
  clear hh0 hh1 hh2 hv1 hv2 hRES l0 l1 l2
  go_cut [77] from 44 to 77 (fun v wz => v = .bool RES ∧ Below w9.heap.size w9 wz)
  case first =>
    have HL0 := HL
    obtain ⟨T0, hT0⟩ : ∃ T, T = E.drop 32 := ⟨_, rfl⟩
    obtain ⟨T1, hT1⟩ : ∃ T, T = bl.drop 32 := ⟨_, rfl⟩
    obtain ⟨T2, hT2⟩ : ∃ T, T = T0.take (kk - 32) := ⟨_, rfl⟩
    have hsl : E.length = 32 + T0.length := by rw [hT0]; simp; omega
    have hT1l : T1.length = T0.length := by rw [hT1, hT0, List.length_drop, List.length_drop, Hbll.out]
    have hT2l : T2.length ≤ 4096 := by rw [hT2, List.length_take]; omega
    have hT0l : T0.length ≤ 4096 := by omega
    have hT1m : T1.length ≤ 4096 := by omega
    rw [← hT0] at Hh0 Hh2
    rw [← hT1] at Hh1
    rw [← hT2] at Hh2
    have hcut0 : E.drop 32 = T0 := hT0.symm
    have hcut2 : T0.take (kk - 32) = T2 := hT2.symm
    have K9 := Lib.hid (conv_rngC (cap := bc - 32) hT1l (by have := rng_drop (k := 32) Hrng.out; rw [← hT1] at this; simpa using this) hgl9)
    have i33 : (32 : Int) ≤ 32 + (T0.length : Int) := by omega
    rw [hsl] at hble
    clear hT0 hT1 hT2 HX HF
    by_cases hz : xb = 0
    · subst hz
      by_cases h32 : 32 ≤ kk
      · have g1 : (32 : Int) ≤ (kk : Int) := by omega
        have g2 : decide ((32 : Int) ≤ (kk : Int)) = true := by simp; omega
        have kI2 : (kk : Int) ≤ 32 + (T0.length : Int) := by omega
        have hr : RES = v2 := by rw [HRES.out, if_pos h32, if_pos rfl]
        subst hr
        clear h32 HRES
        refine wp_region_held_drew (S := fun w' => Below w9.heap.size w9 w') (by kernel_rfl) ((Below.refl _ _).drew) (fun hH0 => ?_)
        obtain ⟨W0, hW0⟩ : ∃ W, W = w9.drew := ⟨_, rfl⟩
        rw [← hW0] at hH0 ⊢
        clear hW0
        refine wpAnyH_take (i := 0) (v := ?_) rfl (by kernel_rfl) (by kernel_rfl) (by kernel_rfl) (fun _ _ _ h => h) (Or.inl ⟨by kernel_rfl, ?_⟩) hH0 ?_
        rotate_left 1
        · intro w hSw
          go_simp
          try with_reducible rfl
        try simp only [Act.put, List.getElem_toArray, List.getElem_cons_zero, List.getElem_cons_succ, List.setIfInBounds_toArray, List.set_cons_zero, List.set_cons_succ]
        refine wpAnyH_take (i := 1) (v := ?_) rfl (by kernel_rfl) (by kernel_rfl) (by kernel_rfl) (fun _ _ _ h => h) (Or.inl ⟨by kernel_rfl, ?_⟩) hH0 ?_
        rotate_left 1
        · intro w hSw
          go_simp
          try with_reducible rfl
        try simp only [Act.put, List.getElem_toArray, List.getElem_cons_zero, List.getElem_cons_succ, List.setIfInBounds_toArray, List.set_cons_zero, List.set_cons_succ]
        refine wpAnyH_take (i := 2) (v := ?_) rfl (by kernel_rfl) (by kernel_rfl) (by kernel_rfl) (fun _ _ _ h => h) (Or.inl ⟨by kernel_rfl, ?_⟩) hH0 ?_
        rotate_left 1
        · intro w hSw
          go_simp
          try with_reducible rfl
        try simp only [Act.put, List.getElem_toArray, List.getElem_cons_zero, List.getElem_cons_succ, List.setIfInBounds_toArray, List.set_cons_zero, List.set_cons_succ]
        refine wpAnyH_take (i := 3) (v := undef) rfl (by kernel_rfl) (by kernel_rfl) (by kernel_rfl) (fun _ _ _ h => h) (Or.inr ⟨by kernel_rfl, rfl⟩) hH0 ?_
        try simp only [Act.put, List.getElem_toArray, List.getElem_cons_zero, List.getElem_cons_succ, List.setIfInBounds_toArray, List.set_cons_zero, List.set_cons_succ]
        refine wpAnyH_take (i := 4) (v := undef) rfl (by kernel_rfl) (by kernel_rfl) (by kernel_rfl) (fun _ _ _ h => h) (Or.inr ⟨by kernel_rfl, rfl⟩) hH0 ?_
        try simp only [Act.put, List.getElem_toArray, List.getElem_cons_zero, List.getElem_cons_succ, List.setIfInBounds_toArray, List.set_cons_zero, List.set_cons_succ]
        refine wpAnyH_take (i := 5) (v := ?_) rfl (by kernel_rfl) (by kernel_rfl) (by kernel_rfl) (fun _ _ _ h => h) (Or.inl ⟨by kernel_rfl, ?_⟩) hH0 ?_
        rotate_left 1
        · intro w hSw
          go_simp
          try with_reducible rfl
        try simp only [Act.put, List.getElem_toArray, List.getElem_cons_zero, List.getElem_cons_succ, List.setIfInBounds_toArray, List.set_cons_zero, List.set_cons_succ]
        refine wpAnyH_take (i := 6) (v := ?_) rfl (by kernel_rfl) (by kernel_rfl) (by kernel_rfl) (fun _ _ _ h => h) (Or.inl ⟨by kernel_rfl, ?_⟩) hH0 ?_
        rotate_left 1
        · intro w hSw
          go_simp
          try with_reducible rfl
        try simp only [Act.put, List.getElem_toArray, List.getElem_cons_zero, List.getElem_cons_succ, List.setIfInBounds_toArray, List.set_cons_zero, List.set_cons_succ]
        refine wpAnyH_take (i := 7) (v := undef) rfl (by kernel_rfl) (by kernel_rfl) (by kernel_rfl) (fun _ _ _ h => h) (Or.inr ⟨by kernel_rfl, rfl⟩) hH0 ?_
        try simp only [Act.put, List.getElem_toArray, List.getElem_cons_zero, List.getElem_cons_succ, List.setIfInBounds_toArray, List.set_cons_zero, List.set_cons_succ]
        refine wpAnyH_take (i := 8) (v := undef) rfl (by kernel_rfl) (by kernel_rfl) (by kernel_rfl) (fun _ _ _ h => h) (Or.inr ⟨by kernel_rfl, rfl⟩) hH0 ?_
        try simp only [Act.put, List.getElem_toArray, List.getElem_cons_zero, List.getElem_cons_succ, List.setIfInBounds_toArray, List.set_cons_zero, List.set_cons_succ]
        refine wpAnyH_take (i := 9) (v := undef) rfl (by kernel_rfl) (by kernel_rfl) (by kernel_rfl) (fun _ _ _ h => h) (Or.inr ⟨by kernel_rfl, rfl⟩) hH0 ?_
        try simp only [Act.put, List.getElem_toArray, List.getElem_cons_zero, List.getElem_cons_succ, List.setIfInBounds_toArray, List.set_cons_zero, List.set_cons_succ]
        refine wpAnyH_take (i := 10) (v := undef) rfl (by kernel_rfl) (by kernel_rfl) (by kernel_rfl) (fun _ _ _ h => h) (Or.inr ⟨by kernel_rfl, rfl⟩) hH0 ?_
        try simp only [Act.put, List.getElem_toArray, List.getElem_cons_zero, List.getElem_cons_succ, List.setIfInBounds_toArray, List.set_cons_zero, List.set_cons_succ]
        refine wpAnyH_take (i := 11) (v := undef) rfl (by kernel_rfl) (by kernel_rfl) (by kernel_rfl) (fun _ _ _ h => h) (Or.inr ⟨by kernel_rfl, rfl⟩) hH0 ?_
        try simp only [Act.put, List.getElem_toArray, List.getElem_cons_zero, List.getElem_cons_succ, List.setIfInBounds_toArray, List.set_cons_zero, List.set_cons_succ]
        refine wpAnyH_take (i := 12) (v := undef) rfl (by kernel_rfl) (by kernel_rfl) (by kernel_rfl) (fun _ _ _ h => h) (Or.inr ⟨by kernel_rfl, rfl⟩) hH0 ?_
        try simp only [Act.put, List.getElem_toArray, List.getElem_cons_zero, List.getElem_cons_succ, List.setIfInBounds_toArray, List.set_cons_zero, List.set_cons_succ]
        refine wpAnyH_take (i := 13) (v := undef) rfl (by kernel_rfl) (by kernel_rfl) (by kernel_rfl) (fun _ _ _ h => h) (Or.inr ⟨by kernel_rfl, rfl⟩) hH0 ?_
        try simp only [Act.put, List.getElem_toArray, List.getElem_cons_zero, List.getElem_cons_succ, List.setIfInBounds_toArray, List.set_cons_zero, List.set_cons_succ]
        refine wpAnyH_take (i := 14) (v := undef) rfl (by kernel_rfl) (by kernel_rfl) (by kernel_rfl) (fun _ _ _ h => h) (Or.inr ⟨by kernel_rfl, rfl⟩) hH0 ?_
        try simp only [Act.put, List.getElem_toArray, List.getElem_cons_zero, List.getElem_cons_succ, List.setIfInBounds_toArray, List.set_cons_zero, List.set_cons_succ]
        refine wpAnyH_take (i := 15) (v := undef) rfl (by kernel_rfl) (by kernel_rfl) (by kernel_rfl) (fun _ _ _ h => h) (Or.inr ⟨by kernel_rfl, rfl⟩) hH0 ?_
        try simp only [Act.put, List.getElem_toArray, List.getElem_cons_zero, List.getElem_cons_succ, List.setIfInBounds_toArray, List.set_cons_zero, List.set_cons_succ]
        refine wpAnyH_take (i := 16) (v := undef) rfl (by kernel_rfl) (by kernel_rfl) (by kernel_rfl) (fun _ _ _ h => h) (Or.inr ⟨by kernel_rfl, rfl⟩) hH0 ?_
        try simp only [Act.put, List.getElem_toArray, List.getElem_cons_zero, List.getElem_cons_succ, List.setIfInBounds_toArray, List.set_cons_zero, List.set_cons_succ]
        refine wpAnyH_take (i := 17) (v := ?_) rfl (by kernel_rfl) (by kernel_rfl) (by kernel_rfl) (fun _ _ _ h => h) (Or.inl ⟨by kernel_rfl, ?_⟩) hH0 ?_
        rotate_left 1
        · intro w hSw
          go_simp
          try with_reducible rfl
        try simp only [Act.put, List.getElem_toArray, List.getElem_cons_zero, List.getElem_cons_succ, List.setIfInBounds_toArray, List.set_cons_zero, List.set_cons_succ]
        refine wpAnyH_take (i := 18) (v := ?_) rfl (by kernel_rfl) (by kernel_rfl) (by kernel_rfl) (fun _ _ _ h => h) (Or.inl ⟨by kernel_rfl, ?_⟩) hH0 ?_
        rotate_left 1
        · intro w hSw
          go_simp
          try with_reducible rfl
        try simp only [Act.put, List.getElem_toArray, List.getElem_cons_zero, List.getElem_cons_succ, List.setIfInBounds_toArray, List.set_cons_zero, List.set_cons_succ]
        refine wpAnyH_take (i := 19) (v := ?_) rfl (by kernel_rfl) (by kernel_rfl) (by kernel_rfl) (fun _ _ _ h => h) (Or.inl ⟨by kernel_rfl, ?_⟩) hH0 ?_
        rotate_left 1
        · intro w hSw
          go_simp
          try with_reducible rfl
        try simp only [Act.put, List.getElem_toArray, List.getElem_cons_zero, List.getElem_cons_succ, List.setIfInBounds_toArray, List.set_cons_zero, List.set_cons_succ]
        refine wpAnyH_take (i := 20) (v := ?_) rfl (by kernel_rfl) (by kernel_rfl) (by kernel_rfl) (fun _ _ _ h => h) (Or.inl ⟨by kernel_rfl, ?_⟩) hH0 ?_
        rotate_left 1
        · intro w hSw
          go_simp
          try with_reducible rfl
        try simp only [Act.put, List.getElem_toArray, List.getElem_cons_zero, List.getElem_cons_succ, List.setIfInBounds_toArray, List.set_cons_zero, List.set_cons_succ]
        refine wpAnyH_take (i := 21) (v := ?_) rfl (by kernel_rfl) (by kernel_rfl) (by kernel_rfl) (fun _ _ _ h => h) (Or.inl ⟨by kernel_rfl, ?_⟩) hH0 ?_
        rotate_left 1
        · intro w hSw
          go_simp
          try with_reducible rfl
        try simp only [Act.put, List.getElem_toArray, List.getElem_cons_zero, List.getElem_cons_succ, List.setIfInBounds_toArray, List.set_cons_zero, List.set_cons_succ]
        refine wpAnyH_take (i := 22) (v := ?_) rfl (by kernel_rfl) (by kernel_rfl) (by kernel_rfl) (fun _ _ _ h => h) (Or.inl ⟨by kernel_rfl, ?_⟩) hH0 ?_
        rotate_left 1
        · intro w hSw
          go_simp
          try with_reducible rfl
        try simp only [Act.put, List.getElem_toArray, List.getElem_cons_zero, List.getElem_cons_succ, List.setIfInBounds_toArray, List.set_cons_zero, List.set_cons_succ]
        refine wpAnyH_take (i := 23) (v := ?_) rfl (by kernel_rfl) (by kernel_rfl) (by kernel_rfl) (fun _ _ _ h => h) (Or.inl ⟨by kernel_rfl, ?_⟩) hH0 ?_
        rotate_left 1
        · intro w hSw
          go_simp
          try with_reducible rfl
        try simp only [Act.put, List.getElem_toArray, List.getElem_cons_zero, List.getElem_cons_succ, List.setIfInBounds_toArray, List.set_cons_zero, List.set_cons_succ]
        refine wpAnyH_take (i := 24) (v := ?_) rfl (by kernel_rfl) (by kernel_rfl) (by kernel_rfl) (fun _ _ _ h => h) (Or.inl ⟨by kernel_rfl, ?_⟩) hH0 ?_
        rotate_left 1
        · intro w hSw
          go_simp
          try with_reducible rfl
        try simp only [Act.put, List.getElem_toArray, List.getElem_cons_zero, List.getElem_cons_succ, List.setIfInBounds_toArray, List.set_cons_zero, List.set_cons_succ]
        refine wpAnyH_take (i := 27) (v := ?_) rfl (by kernel_rfl) (by kernel_rfl) (by kernel_rfl) (fun _ _ _ h => h) (Or.inl ⟨by kernel_rfl, ?_⟩) hH0 ?_
        rotate_left 1
        · intro w hSw
          go_simp
          try with_reducible rfl
        try simp only [Act.put, List.getElem_toArray, List.getElem_cons_zero, List.getElem_cons_succ, List.setIfInBounds_toArray, List.set_cons_zero, List.set_cons_succ]
        refine wpAnyH_take (i := 28) (v := ?_) rfl (by kernel_rfl) (by kernel_rfl) (by kernel_rfl) (fun _ _ _ h => h) (Or.inl ⟨by kernel_rfl, ?_⟩) hH0 ?_
        rotate_left 1
        · intro w hSw
          go_simp
          try with_reducible rfl
        try simp only [Act.put, List.getElem_toArray, List.getElem_cons_zero, List.getElem_cons_succ, List.setIfInBounds_toArray, List.set_cons_zero, List.set_cons_succ]
        refine wpAnyH_ready (rs := [25, 29]) (by kernel_rfl) (by simp) ?_
        refine AllReadyH.cons rfl (fun K_ hK => ?_) ?_
        · go_simp
          have hb1 := (Below.refl W0.heap.size W0).alloc (Nat.le_refl _) (.cells #[.string ⟨(T2).toArray⟩] 9)
          have cb1 : (W0.alloc (.cells #[.string ⟨(T2).toArray⟩] 9)).cell? ⟨W0.heap.size, 0, none⟩ = some (.string ⟨(T2).toArray⟩) := by rw [Lib.cell_of_heap (heap_alloc_new W0 _)]; rfl
          obtain ⟨W1, hW1⟩ : ∃ W, W = W0.alloc (.cells #[.string ⟨(T2).toArray⟩] 9) := ⟨_, rfl⟩
          have hl1 : W0.heap.size < W1.heap.size := by rw [hW1]; simp
          rw [← hW1] at hb1 cb1 ⊢
          clear hW1
          refine hK.out _ _ ((hH0).trans (hb1.mono (hH0).size)) (fun hH1 => ?_)
          clear hK K_
          try simp only [Act.put, List.getElem_toArray, List.getElem_cons_zero, List.getElem_cons_succ, List.setIfInBounds_toArray, List.set_cons_zero, List.set_cons_succ]
          refine wpAnyH_ready (rs := [26, 29]) (by kernel_rfl) (by simp) ?_
          refine AllReadyH.cons rfl (fun K_ hK => ?_) ?_
          · go_simp
            refine (of_hash KK _ 1 (T2) _ (HL0.out.below hH1) ⟨_, rfl, cb1⟩ (by omega)).mono ?_
            rintro e W2 ⟨rfl, hb2⟩
            rw [← Hh2.out]
            have c25_2 := (hb2.cell (p := ⟨W0.heap.size, 0, none⟩) hl1).trans cb1
            have l25_2 : (⟨W0.heap.size, 0, none⟩ : Addr).block < W2.heap.size := Nat.lt_of_lt_of_le hl1 hb2.size
            refine hK.out _ _ ((hH1).trans (hb2.mono (hH1).size)) (fun hH2 => ?_)
            clear hK K_
            try simp only [Act.put, List.getElem_toArray, List.getElem_cons_zero, List.getElem_cons_succ, List.setIfInBounds_toArray, List.set_cons_zero, List.set_cons_succ]
            refine wpAnyH_ready (rs := [29]) (by kernel_rfl) (by simp) ?_
            refine AllReadyH.cons rfl (fun K_ hK => ?_) ?_
            · go_simp
              have hb3 := (Below.refl W2.heap.size W2).alloc (Nat.le_refl _) (.cells #[.string ⟨(T0).toArray⟩] 9)
              have cb3 : (W2.alloc (.cells #[.string ⟨(T0).toArray⟩] 9)).cell? ⟨W2.heap.size, 0, none⟩ = some (.string ⟨(T0).toArray⟩) := by rw [Lib.cell_of_heap (heap_alloc_new W2 _)]; rfl
              obtain ⟨W3, hW3⟩ : ∃ W, W = W2.alloc (.cells #[.string ⟨(T0).toArray⟩] 9) := ⟨_, rfl⟩
              have hl3 : W2.heap.size < W3.heap.size := by rw [hW3]; simp
              rw [← hW3] at hb3 cb3 ⊢
              clear hW3
              have c25_3 := (hb3.cell (p := ⟨W0.heap.size, 0, none⟩) l25_2).trans c25_2
              have l25_3 : (⟨W0.heap.size, 0, none⟩ : Addr).block < W3.heap.size := Nat.lt_of_lt_of_le l25_2 hb3.size
              refine hK.out _ _ ((hH2).trans (hb3.mono (hH2).size)) (fun hH3 => ?_)
              clear hK K_
              try simp only [Act.put, List.getElem_toArray, List.getElem_cons_zero, List.getElem_cons_succ, List.setIfInBounds_toArray, List.set_cons_zero, List.set_cons_succ]
              refine wpAnyH_ready (rs := [30]) (by kernel_rfl) (by simp) ?_
              refine AllReadyH.cons rfl (fun K_ hK => ?_) ?_
              · go_simp
                refine (of_hash KK _ 1 (T0) _ (HL0.out.below hH3) ⟨_, rfl, cb3⟩ (by omega)).mono ?_
                rintro e W4 ⟨rfl, hb4⟩
                rw [← Hh0.out]
                have c25_4 := (hb4.cell (p := ⟨W0.heap.size, 0, none⟩) l25_3).trans c25_3
                have l25_4 : (⟨W0.heap.size, 0, none⟩ : Addr).block < W4.heap.size := Nat.lt_of_lt_of_le l25_3 hb4.size
                have c29_4 := (hb4.cell (p := ⟨W2.heap.size, 0, none⟩) hl3).trans cb3
                have l29_4 : (⟨W2.heap.size, 0, none⟩ : Addr).block < W4.heap.size := Nat.lt_of_lt_of_le hl3 hb4.size
                refine hK.out _ _ ((hH3).trans (hb4.mono (hH3).size)) (fun hH4 => ?_)
                clear hK K_
                try simp only [Act.put, List.getElem_toArray, List.getElem_cons_zero, List.getElem_cons_succ, List.setIfInBounds_toArray, List.set_cons_zero, List.set_cons_succ]
                refine wpAnyH_take (i := 31) (v := ?_) rfl (by kernel_rfl) (by kernel_rfl) (by kernel_rfl) (fun _ _ _ h => h) (Or.inl ⟨by kernel_rfl, ?_⟩) hH4 ?_
                rotate_left 1
                · intro w hSw
                  go_simp
                  try with_reducible rfl
                try simp only [Act.put, List.getElem_toArray, List.getElem_cons_zero, List.getElem_cons_succ, List.setIfInBounds_toArray, List.set_cons_zero, List.set_cons_succ]
                refine wpAnyH_take (i := 32) (v := ?_) rfl (by kernel_rfl) (by kernel_rfl) (by kernel_rfl) (fun _ _ _ h => h) (Or.inl ⟨by kernel_rfl, ?_⟩) hH4 ?_
                rotate_left 1
                · intro w hSw
                  go_simp
                  try with_reducible rfl
                try simp only [Act.put, List.getElem_toArray, List.getElem_cons_zero, List.getElem_cons_succ, List.setIfInBounds_toArray, List.set_cons_zero, List.set_cons_succ]
                refine wpAnyH_take (i := 33) (v := ?_) rfl (by kernel_rfl) (by kernel_rfl) (by kernel_rfl) (fun _ _ _ h => h) (Or.inl ⟨by kernel_rfl, ?_⟩) hH4 ?_
                rotate_left 1
                · intro w hSw
                  go_simp
                  try with_reducible rfl
                try simp only [Act.put, List.getElem_toArray, List.getElem_cons_zero, List.getElem_cons_succ, List.setIfInBounds_toArray, List.set_cons_zero, List.set_cons_succ]
                refine wpAnyH_done (by kernel_rfl) ?_ _
                have HH := Lib.hid hH4
                clear hH4
                go_wp2_with fail
                refine Met.intro ?_
                go_step
                (repeat apply Exists.intro)
                refine ⟨?rel, ?fr⟩
                case fr =>
                  simp only [hsl]
                  rfl
                case rel => exact ⟨rfl, HH.out⟩
              exact AllReadyH.nil
            exact AllReadyH.nil
          refine AllReadyH.cons rfl (fun K_ hK => ?_) ?_
          · go_simp
            have hb5 := (Below.refl W1.heap.size W1).alloc (Nat.le_refl _) (.cells #[.string ⟨(T0).toArray⟩] 9)
            have cb5 : (W1.alloc (.cells #[.string ⟨(T0).toArray⟩] 9)).cell? ⟨W1.heap.size, 0, none⟩ = some (.string ⟨(T0).toArray⟩) := by rw [Lib.cell_of_heap (heap_alloc_new W1 _)]; rfl
            obtain ⟨W5, hW5⟩ : ∃ W, W = W1.alloc (.cells #[.string ⟨(T0).toArray⟩] 9) := ⟨_, rfl⟩
            have hl5 : W1.heap.size < W5.heap.size := by rw [hW5]; simp
            rw [← hW5] at hb5 cb5 ⊢
            clear hW5
            have c25_5 := (hb5.cell (p := ⟨W0.heap.size, 0, none⟩) hl1).trans cb1
            have l25_5 : (⟨W0.heap.size, 0, none⟩ : Addr).block < W5.heap.size := Nat.lt_of_lt_of_le hl1 hb5.size
            refine hK.out _ _ ((hH1).trans (hb5.mono (hH1).size)) (fun hH5 => ?_)
            clear hK K_
            try simp only [Act.put, List.getElem_toArray, List.getElem_cons_zero, List.getElem_cons_succ, List.setIfInBounds_toArray, List.set_cons_zero, List.set_cons_succ]
            refine wpAnyH_ready (rs := [26]) (by kernel_rfl) (by simp) ?_
            refine AllReadyH.cons rfl (fun K_ hK => ?_) ?_
            · go_simp
              refine (of_hash KK _ 1 (T2) _ (HL0.out.below hH5) ⟨_, rfl, c25_5⟩ (by omega)).mono ?_
              rintro e W6 ⟨rfl, hb6⟩
              rw [← Hh2.out]
              have c25_6 := (hb6.cell (p := ⟨W0.heap.size, 0, none⟩) l25_5).trans c25_5
              have l25_6 : (⟨W0.heap.size, 0, none⟩ : Addr).block < W6.heap.size := Nat.lt_of_lt_of_le l25_5 hb6.size
              have c29_6 := (hb6.cell (p := ⟨W1.heap.size, 0, none⟩) hl5).trans cb5
              have l29_6 : (⟨W1.heap.size, 0, none⟩ : Addr).block < W6.heap.size := Nat.lt_of_lt_of_le hl5 hb6.size
              refine hK.out _ _ ((hH5).trans (hb6.mono (hH5).size)) (fun hH6 => ?_)
              clear hK K_
              try simp only [Act.put, List.getElem_toArray, List.getElem_cons_zero, List.getElem_cons_succ, List.setIfInBounds_toArray, List.set_cons_zero, List.set_cons_succ]
              refine wpAnyH_ready (rs := [30]) (by kernel_rfl) (by simp) ?_
              refine AllReadyH.cons rfl (fun K_ hK => ?_) ?_
              · go_simp
                refine (of_hash KK _ 1 (T0) _ (HL0.out.below hH6) ⟨_, rfl, c29_6⟩ (by omega)).mono ?_
                rintro e W7 ⟨rfl, hb7⟩
                rw [← Hh0.out]
                have c25_7 := (hb7.cell (p := ⟨W0.heap.size, 0, none⟩) l25_6).trans c25_6
                have l25_7 : (⟨W0.heap.size, 0, none⟩ : Addr).block < W7.heap.size := Nat.lt_of_lt_of_le l25_6 hb7.size
                have c29_7 := (hb7.cell (p := ⟨W1.heap.size, 0, none⟩) l29_6).trans c29_6
                have l29_7 : (⟨W1.heap.size, 0, none⟩ : Addr).block < W7.heap.size := Nat.lt_of_lt_of_le l29_6 hb7.size
                refine hK.out _ _ ((hH6).trans (hb7.mono (hH6).size)) (fun hH7 => ?_)
                clear hK K_
                try simp only [Act.put, List.getElem_toArray, List.getElem_cons_zero, List.getElem_cons_succ, List.setIfInBounds_toArray, List.set_cons_zero, List.set_cons_succ]
                refine wpAnyH_take (i := 31) (v := ?_) rfl (by kernel_rfl) (by kernel_rfl) (by kernel_rfl) (fun _ _ _ h => h) (Or.inl ⟨by kernel_rfl, ?_⟩) hH7 ?_
                rotate_left 1
                · intro w hSw
                  go_simp
                  try with_reducible rfl
                try simp only [Act.put, List.getElem_toArray, List.getElem_cons_zero, List.getElem_cons_succ, List.setIfInBounds_toArray, List.set_cons_zero, List.set_cons_succ]
                refine wpAnyH_take (i := 32) (v := ?_) rfl (by kernel_rfl) (by kernel_rfl) (by kernel_rfl) (fun _ _ _ h => h) (Or.inl ⟨by kernel_rfl, ?_⟩) hH7 ?_
                rotate_left 1
                · intro w hSw
                  go_simp
                  try with_reducible rfl
                try simp only [Act.put, List.getElem_toArray, List.getElem_cons_zero, List.getElem_cons_succ, List.setIfInBounds_toArray, List.set_cons_zero, List.set_cons_succ]
                refine wpAnyH_take (i := 33) (v := ?_) rfl (by kernel_rfl) (by kernel_rfl) (by kernel_rfl) (fun _ _ _ h => h) (Or.inl ⟨by kernel_rfl, ?_⟩) hH7 ?_
                rotate_left 1
                · intro w hSw
                  go_simp
                  try with_reducible rfl
                try simp only [Act.put, List.getElem_toArray, List.getElem_cons_zero, List.getElem_cons_succ, List.setIfInBounds_toArray, List.set_cons_zero, List.set_cons_succ]
                refine wpAnyH_done (by kernel_rfl) ?_ _
                have HH := Lib.hid hH7
                clear hH7
                go_wp2_with fail
                refine Met.intro ?_
                go_step
                (repeat apply Exists.intro)
                refine ⟨?rel, ?fr⟩
                case fr =>
                  simp only [hsl]
                  rfl
                case rel => exact ⟨rfl, HH.out⟩
              exact AllReadyH.nil
            exact AllReadyH.nil
          exact AllReadyH.nil
        refine AllReadyH.cons rfl (fun K_ hK => ?_) ?_
        · go_simp
          have hb8 := (Below.refl W0.heap.size W0).alloc (Nat.le_refl _) (.cells #[.string ⟨(T0).toArray⟩] 9)
          have cb8 : (W0.alloc (.cells #[.string ⟨(T0).toArray⟩] 9)).cell? ⟨W0.heap.size, 0, none⟩ = some (.string ⟨(T0).toArray⟩) := by rw [Lib.cell_of_heap (heap_alloc_new W0 _)]; rfl
          obtain ⟨W8, hW8⟩ : ∃ W, W = W0.alloc (.cells #[.string ⟨(T0).toArray⟩] 9) := ⟨_, rfl⟩
          have hl8 : W0.heap.size < W8.heap.size := by rw [hW8]; simp
          rw [← hW8] at hb8 cb8 ⊢
          clear hW8
          refine hK.out _ _ ((hH0).trans (hb8.mono (hH0).size)) (fun hH8 => ?_)
          clear hK K_
          try simp only [Act.put, List.getElem_toArray, List.getElem_cons_zero, List.getElem_cons_succ, List.setIfInBounds_toArray, List.set_cons_zero, List.set_cons_succ]
          refine wpAnyH_ready (rs := [25]) (by kernel_rfl) (by simp) ?_
          refine AllReadyH.cons rfl (fun K_ hK => ?_) ?_
          · go_simp
            have hb9 := (Below.refl W8.heap.size W8).alloc (Nat.le_refl _) (.cells #[.string ⟨(T2).toArray⟩] 9)
            have cb9 : (W8.alloc (.cells #[.string ⟨(T2).toArray⟩] 9)).cell? ⟨W8.heap.size, 0, none⟩ = some (.string ⟨(T2).toArray⟩) := by rw [Lib.cell_of_heap (heap_alloc_new W8 _)]; rfl
            obtain ⟨W9, hW9⟩ : ∃ W, W = W8.alloc (.cells #[.string ⟨(T2).toArray⟩] 9) := ⟨_, rfl⟩
            have hl9 : W8.heap.size < W9.heap.size := by rw [hW9]; simp
            rw [← hW9] at hb9 cb9 ⊢
            clear hW9
            have c29_9 := (hb9.cell (p := ⟨W0.heap.size, 0, none⟩) hl8).trans cb8
            have l29_9 : (⟨W0.heap.size, 0, none⟩ : Addr).block < W9.heap.size := Nat.lt_of_lt_of_le hl8 hb9.size
            refine hK.out _ _ ((hH8).trans (hb9.mono (hH8).size)) (fun hH9 => ?_)
            clear hK K_
            try simp only [Act.put, List.getElem_toArray, List.getElem_cons_zero, List.getElem_cons_succ, List.setIfInBounds_toArray, List.set_cons_zero, List.set_cons_succ]
            refine wpAnyH_ready (rs := [26]) (by kernel_rfl) (by simp) ?_
            refine AllReadyH.cons rfl (fun K_ hK => ?_) ?_
            · go_simp
              refine (of_hash KK _ 1 (T2) _ (HL0.out.below hH9) ⟨_, rfl, cb9⟩ (by omega)).mono ?_
              rintro e W10 ⟨rfl, hb10⟩
              rw [← Hh2.out]
              have c29_10 := (hb10.cell (p := ⟨W0.heap.size, 0, none⟩) l29_9).trans c29_9
              have l29_10 : (⟨W0.heap.size, 0, none⟩ : Addr).block < W10.heap.size := Nat.lt_of_lt_of_le l29_9 hb10.size
              have c25_10 := (hb10.cell (p := ⟨W8.heap.size, 0, none⟩) hl9).trans cb9
              have l25_10 : (⟨W8.heap.size, 0, none⟩ : Addr).block < W10.heap.size := Nat.lt_of_lt_of_le hl9 hb10.size
              refine hK.out _ _ ((hH9).trans (hb10.mono (hH9).size)) (fun hH10 => ?_)
              clear hK K_
              try simp only [Act.put, List.getElem_toArray, List.getElem_cons_zero, List.getElem_cons_succ, List.setIfInBounds_toArray, List.set_cons_zero, List.set_cons_succ]
              refine wpAnyH_ready (rs := [30]) (by kernel_rfl) (by simp) ?_
              refine AllReadyH.cons rfl (fun K_ hK => ?_) ?_
              · go_simp
                refine (of_hash KK _ 1 (T0) _ (HL0.out.below hH10) ⟨_, rfl, c29_10⟩ (by omega)).mono ?_
                rintro e W11 ⟨rfl, hb11⟩
                rw [← Hh0.out]
                have c29_11 := (hb11.cell (p := ⟨W0.heap.size, 0, none⟩) l29_10).trans c29_10
                have l29_11 : (⟨W0.heap.size, 0, none⟩ : Addr).block < W11.heap.size := Nat.lt_of_lt_of_le l29_10 hb11.size
                have c25_11 := (hb11.cell (p := ⟨W8.heap.size, 0, none⟩) l25_10).trans c25_10
                have l25_11 : (⟨W8.heap.size, 0, none⟩ : Addr).block < W11.heap.size := Nat.lt_of_lt_of_le l25_10 hb11.size
                refine hK.out _ _ ((hH10).trans (hb11.mono (hH10).size)) (fun hH11 => ?_)
                clear hK K_
                try simp only [Act.put, List.getElem_toArray, List.getElem_cons_zero, List.getElem_cons_succ, List.setIfInBounds_toArray, List.set_cons_zero, List.set_cons_succ]
                refine wpAnyH_take (i := 31) (v := ?_) rfl (by kernel_rfl) (by kernel_rfl) (by kernel_rfl) (fun _ _ _ h => h) (Or.inl ⟨by kernel_rfl, ?_⟩) hH11 ?_
                rotate_left 1
                · intro w hSw
                  go_simp
                  try with_reducible rfl
                try simp only [Act.put, List.getElem_toArray, List.getElem_cons_zero, List.getElem_cons_succ, List.setIfInBounds_toArray, List.set_cons_zero, List.set_cons_succ]
                refine wpAnyH_take (i := 32) (v := ?_) rfl (by kernel_rfl) (by kernel_rfl) (by kernel_rfl) (fun _ _ _ h => h) (Or.inl ⟨by kernel_rfl, ?_⟩) hH11 ?_
                rotate_left 1
                · intro w hSw
                  go_simp
                  try with_reducible rfl
                try simp only [Act.put, List.getElem_toArray, List.getElem_cons_zero, List.getElem_cons_succ, List.setIfInBounds_toArray, List.set_cons_zero, List.set_cons_succ]
                refine wpAnyH_take (i := 33) (v := ?_) rfl (by kernel_rfl) (by kernel_rfl) (by kernel_rfl) (fun _ _ _ h => h) (Or.inl ⟨by kernel_rfl, ?_⟩) hH11 ?_
                rotate_left 1
                · intro w hSw
                  go_simp
                  try with_reducible rfl
                try simp only [Act.put, List.getElem_toArray, List.getElem_cons_zero, List.getElem_cons_succ, List.setIfInBounds_toArray, List.set_cons_zero, List.set_cons_succ]
                refine wpAnyH_done (by kernel_rfl) ?_ _
                have HH := Lib.hid hH11
                clear hH11
                go_wp2_with fail
                refine Met.intro ?_
                go_step
                (repeat apply Exists.intro)
                refine ⟨?rel, ?fr⟩
                case fr =>
                  simp only [hsl]
                  rfl
                case rel => exact ⟨rfl, HH.out⟩
              exact AllReadyH.nil
            exact AllReadyH.nil
          exact AllReadyH.nil
        exact AllReadyH.nil
      · have g1 : ¬ (32 : Int) ≤ (kk : Int) := by omega
        have g2 : decide ((32 : Int) ≤ (kk : Int)) = false := by simp; omega
        have hr : RES = false := by rw [HRES.out, if_neg h32]
        subst hr
        clear h32 HRES
        refine wp_region_held_drew (S := fun w' => Below w9.heap.size w9 w') (by kernel_rfl) ((Below.refl _ _).drew) (fun hH0 => ?_)
        obtain ⟨W0, hW0⟩ : ∃ W, W = w9.drew := ⟨_, rfl⟩
        rw [← hW0] at hH0 ⊢
        clear hW0
        refine wpAnyH_take (i := 0) (v := ?_) rfl (by kernel_rfl) (by kernel_rfl) (by kernel_rfl) (fun _ _ _ h => h) (Or.inl ⟨by kernel_rfl, ?_⟩) hH0 ?_
        rotate_left 1
        · intro w hSw
          go_simp
          try with_reducible rfl
        try simp only [Act.put, List.getElem_toArray, List.getElem_cons_zero, List.getElem_cons_succ, List.setIfInBounds_toArray, List.set_cons_zero, List.set_cons_succ]
        refine wpAnyH_take (i := 1) (v := ?_) rfl (by kernel_rfl) (by kernel_rfl) (by kernel_rfl) (fun _ _ _ h => h) (Or.inl ⟨by kernel_rfl, ?_⟩) hH0 ?_
        rotate_left 1
        · intro w hSw
          go_simp
          try with_reducible rfl
        try simp only [Act.put, List.getElem_toArray, List.getElem_cons_zero, List.getElem_cons_succ, List.setIfInBounds_toArray, List.set_cons_zero, List.set_cons_succ]
        refine wpAnyH_take (i := 2) (v := ?_) rfl (by kernel_rfl) (by kernel_rfl) (by kernel_rfl) (fun _ _ _ h => h) (Or.inl ⟨by kernel_rfl, ?_⟩) hH0 ?_
        rotate_left 1
        · intro w hSw
          go_simp
          try with_reducible rfl
        try simp only [Act.put, List.getElem_toArray, List.getElem_cons_zero, List.getElem_cons_succ, List.setIfInBounds_toArray, List.set_cons_zero, List.set_cons_succ]
        refine wpAnyH_take (i := 3) (v := undef) rfl (by kernel_rfl) (by kernel_rfl) (by kernel_rfl) (fun _ _ _ h => h) (Or.inr ⟨by kernel_rfl, rfl⟩) hH0 ?_
        try simp only [Act.put, List.getElem_toArray, List.getElem_cons_zero, List.getElem_cons_succ, List.setIfInBounds_toArray, List.set_cons_zero, List.set_cons_succ]
        refine wpAnyH_take (i := 4) (v := undef) rfl (by kernel_rfl) (by kernel_rfl) (by kernel_rfl) (fun _ _ _ h => h) (Or.inr ⟨by kernel_rfl, rfl⟩) hH0 ?_
        try simp only [Act.put, List.getElem_toArray, List.getElem_cons_zero, List.getElem_cons_succ, List.setIfInBounds_toArray, List.set_cons_zero, List.set_cons_succ]
        refine wpAnyH_take (i := 5) (v := ?_) rfl (by kernel_rfl) (by kernel_rfl) (by kernel_rfl) (fun _ _ _ h => h) (Or.inl ⟨by kernel_rfl, ?_⟩) hH0 ?_
        rotate_left 1
        · intro w hSw
          go_simp
          try with_reducible rfl
        try simp only [Act.put, List.getElem_toArray, List.getElem_cons_zero, List.getElem_cons_succ, List.setIfInBounds_toArray, List.set_cons_zero, List.set_cons_succ]
        refine wpAnyH_take (i := 6) (v := ?_) rfl (by kernel_rfl) (by kernel_rfl) (by kernel_rfl) (fun _ _ _ h => h) (Or.inl ⟨by kernel_rfl, ?_⟩) hH0 ?_
        rotate_left 1
        · intro w hSw
          go_simp
          try with_reducible rfl
        try simp only [Act.put, List.getElem_toArray, List.getElem_cons_zero, List.getElem_cons_succ, List.setIfInBounds_toArray, List.set_cons_zero, List.set_cons_succ]
        refine wpAnyH_take (i := 7) (v := undef) rfl (by kernel_rfl) (by kernel_rfl) (by kernel_rfl) (fun _ _ _ h => h) (Or.inr ⟨by kernel_rfl, rfl⟩) hH0 ?_
        try simp only [Act.put, List.getElem_toArray, List.getElem_cons_zero, List.getElem_cons_succ, List.setIfInBounds_toArray, List.set_cons_zero, List.set_cons_succ]
        refine wpAnyH_take (i := 8) (v := undef) rfl (by kernel_rfl) (by kernel_rfl) (by kernel_rfl) (fun _ _ _ h => h) (Or.inr ⟨by kernel_rfl, rfl⟩) hH0 ?_
        try simp only [Act.put, List.getElem_toArray, List.getElem_cons_zero, List.getElem_cons_succ, List.setIfInBounds_toArray, List.set_cons_zero, List.set_cons_succ]
        refine wpAnyH_take (i := 9) (v := undef) rfl (by kernel_rfl) (by kernel_rfl) (by kernel_rfl) (fun _ _ _ h => h) (Or.inr ⟨by kernel_rfl, rfl⟩) hH0 ?_
        try simp only [Act.put, List.getElem_toArray, List.getElem_cons_zero, List.getElem_cons_succ, List.setIfInBounds_toArray, List.set_cons_zero, List.set_cons_succ]
        refine wpAnyH_take (i := 10) (v := undef) rfl (by kernel_rfl) (by kernel_rfl) (by kernel_rfl) (fun _ _ _ h => h) (Or.inr ⟨by kernel_rfl, rfl⟩) hH0 ?_
        try simp only [Act.put, List.getElem_toArray, List.getElem_cons_zero, List.getElem_cons_succ, List.setIfInBounds_toArray, List.set_cons_zero, List.set_cons_succ]
        refine wpAnyH_take (i := 11) (v := undef) rfl (by kernel_rfl) (by kernel_rfl) (by kernel_rfl) (fun _ _ _ h => h) (Or.inr ⟨by kernel_rfl, rfl⟩) hH0 ?_
        try simp only [Act.put, List.getElem_toArray, List.getElem_cons_zero, List.getElem_cons_succ, List.setIfInBounds_toArray, List.set_cons_zero, List.set_cons_succ]
        refine wpAnyH_take (i := 12) (v := undef) rfl (by kernel_rfl) (by kernel_rfl) (by kernel_rfl) (fun _ _ _ h => h) (Or.inr ⟨by kernel_rfl, rfl⟩) hH0 ?_
        try simp only [Act.put, List.getElem_toArray, List.getElem_cons_zero, List.getElem_cons_succ, List.setIfInBounds_toArray, List.set_cons_zero, List.set_cons_succ]
        refine wpAnyH_take (i := 13) (v := undef) rfl (by kernel_rfl) (by kernel_rfl) (by kernel_rfl) (fun _ _ _ h => h) (Or.inr ⟨by kernel_rfl, rfl⟩) hH0 ?_
        try simp only [Act.put, List.getElem_toArray, List.getElem_cons_zero, List.getElem_cons_succ, List.setIfInBounds_toArray, List.set_cons_zero, List.set_cons_succ]
        refine wpAnyH_take (i := 14) (v := undef) rfl (by kernel_rfl) (by kernel_rfl) (by kernel_rfl) (fun _ _ _ h => h) (Or.inr ⟨by kernel_rfl, rfl⟩) hH0 ?_
        try simp only [Act.put, List.getElem_toArray, List.getElem_cons_zero, List.getElem_cons_succ, List.setIfInBounds_toArray, List.set_cons_zero, List.set_cons_succ]
        refine wpAnyH_take (i := 15) (v := undef) rfl (by kernel_rfl) (by kernel_rfl) (by kernel_rfl) (fun _ _ _ h => h) (Or.inr ⟨by kernel_rfl, rfl⟩) hH0 ?_
        try simp only [Act.put, List.getElem_toArray, List.getElem_cons_zero, List.getElem_cons_succ, List.setIfInBounds_toArray, List.set_cons_zero, List.set_cons_succ]
        refine wpAnyH_take (i := 16) (v := undef) rfl (by kernel_rfl) (by kernel_rfl) (by kernel_rfl) (fun _ _ _ h => h) (Or.inr ⟨by kernel_rfl, rfl⟩) hH0 ?_
        try simp only [Act.put, List.getElem_toArray, List.getElem_cons_zero, List.getElem_cons_succ, List.setIfInBounds_toArray, List.set_cons_zero, List.set_cons_succ]
        refine wpAnyH_take (i := 17) (v := ?_) rfl (by kernel_rfl) (by kernel_rfl) (by kernel_rfl) (fun _ _ _ h => h) (Or.inl ⟨by kernel_rfl, ?_⟩) hH0 ?_
        rotate_left 1
        · intro w hSw
          go_simp
          try with_reducible rfl
        try simp only [Act.put, List.getElem_toArray, List.getElem_cons_zero, List.getElem_cons_succ, List.setIfInBounds_toArray, List.set_cons_zero, List.set_cons_succ]
        refine wpAnyH_take (i := 18) (v := ?_) rfl (by kernel_rfl) (by kernel_rfl) (by kernel_rfl) (fun _ _ _ h => h) (Or.inl ⟨by kernel_rfl, ?_⟩) hH0 ?_
        rotate_left 1
        · intro w hSw
          go_simp
          try with_reducible rfl
        try simp only [Act.put, List.getElem_toArray, List.getElem_cons_zero, List.getElem_cons_succ, List.setIfInBounds_toArray, List.set_cons_zero, List.set_cons_succ]
        refine wpAnyH_take (i := 19) (v := ?_) rfl (by kernel_rfl) (by kernel_rfl) (by kernel_rfl) (fun _ _ _ h => h) (Or.inl ⟨by kernel_rfl, ?_⟩) hH0 ?_
        rotate_left 1
        · intro w hSw
          go_simp
          try with_reducible rfl
        try simp only [Act.put, List.getElem_toArray, List.getElem_cons_zero, List.getElem_cons_succ, List.setIfInBounds_toArray, List.set_cons_zero, List.set_cons_succ]
        refine wpAnyH_take (i := 20) (v := ?_) rfl (by kernel_rfl) (by kernel_rfl) (by kernel_rfl) (fun _ _ _ h => h) (Or.inl ⟨by kernel_rfl, ?_⟩) hH0 ?_
        rotate_left 1
        · intro w hSw
          go_simp
          try with_reducible rfl
        try simp only [Act.put, List.getElem_toArray, List.getElem_cons_zero, List.getElem_cons_succ, List.setIfInBounds_toArray, List.set_cons_zero, List.set_cons_succ]
        refine wpAnyH_take (i := 21) (v := ?_) rfl (by kernel_rfl) (by kernel_rfl) (by kernel_rfl) (fun _ _ _ h => h) (Or.inl ⟨by kernel_rfl, ?_⟩) hH0 ?_
        rotate_left 1
        · intro w hSw
          go_simp
          try with_reducible rfl
        try simp only [Act.put, List.getElem_toArray, List.getElem_cons_zero, List.getElem_cons_succ, List.setIfInBounds_toArray, List.set_cons_zero, List.set_cons_succ]
        refine wpAnyH_take (i := 22) (v := undef) rfl (by kernel_rfl) (by kernel_rfl) (by kernel_rfl) (fun _ _ _ h => h) (Or.inr ⟨by kernel_rfl, rfl⟩) hH0 ?_
        try simp only [Act.put, List.getElem_toArray, List.getElem_cons_zero, List.getElem_cons_succ, List.setIfInBounds_toArray, List.set_cons_zero, List.set_cons_succ]
        refine wpAnyH_take (i := 23) (v := undef) rfl (by kernel_rfl) (by kernel_rfl) (by kernel_rfl) (fun _ _ _ h => h) (Or.inr ⟨by kernel_rfl, rfl⟩) hH0 ?_
        try simp only [Act.put, List.getElem_toArray, List.getElem_cons_zero, List.getElem_cons_succ, List.setIfInBounds_toArray, List.set_cons_zero, List.set_cons_succ]
        refine wpAnyH_take (i := 24) (v := undef) rfl (by kernel_rfl) (by kernel_rfl) (by kernel_rfl) (fun _ _ _ h => h) (Or.inr ⟨by kernel_rfl, rfl⟩) hH0 ?_
        try simp only [Act.put, List.getElem_toArray, List.getElem_cons_zero, List.getElem_cons_succ, List.setIfInBounds_toArray, List.set_cons_zero, List.set_cons_succ]
        refine wpAnyH_take (i := 25) (v := undef) rfl (by kernel_rfl) (by kernel_rfl) (by kernel_rfl) (fun _ _ _ h => h) (Or.inr ⟨by kernel_rfl, rfl⟩) hH0 ?_
        try simp only [Act.put, List.getElem_toArray, List.getElem_cons_zero, List.getElem_cons_succ, List.setIfInBounds_toArray, List.set_cons_zero, List.set_cons_succ]
        refine wpAnyH_take (i := 26) (v := undef) rfl (by kernel_rfl) (by kernel_rfl) (by kernel_rfl) (fun _ _ _ h => h) (Or.inr ⟨by kernel_rfl, rfl⟩) hH0 ?_
        try simp only [Act.put, List.getElem_toArray, List.getElem_cons_zero, List.getElem_cons_succ, List.setIfInBounds_toArray, List.set_cons_zero, List.set_cons_succ]
        refine wpAnyH_take (i := 27) (v := undef) rfl (by kernel_rfl) (by kernel_rfl) (by kernel_rfl) (fun _ _ _ h => h) (Or.inr ⟨by kernel_rfl, rfl⟩) hH0 ?_
        try simp only [Act.put, List.getElem_toArray, List.getElem_cons_zero, List.getElem_cons_succ, List.setIfInBounds_toArray, List.set_cons_zero, List.set_cons_succ]
        refine wpAnyH_take (i := 28) (v := undef) rfl (by kernel_rfl) (by kernel_rfl) (by kernel_rfl) (fun _ _ _ h => h) (Or.inr ⟨by kernel_rfl, rfl⟩) hH0 ?_
        try simp only [Act.put, List.getElem_toArray, List.getElem_cons_zero, List.getElem_cons_succ, List.setIfInBounds_toArray, List.set_cons_zero, List.set_cons_succ]
        refine wpAnyH_take (i := 29) (v := undef) rfl (by kernel_rfl) (by kernel_rfl) (by kernel_rfl) (fun _ _ _ h => h) (Or.inr ⟨by kernel_rfl, rfl⟩) hH0 ?_
        try simp only [Act.put, List.getElem_toArray, List.getElem_cons_zero, List.getElem_cons_succ, List.setIfInBounds_toArray, List.set_cons_zero, List.set_cons_succ]
        refine wpAnyH_take (i := 30) (v := undef) rfl (by kernel_rfl) (by kernel_rfl) (by kernel_rfl) (fun _ _ _ h => h) (Or.inr ⟨by kernel_rfl, rfl⟩) hH0 ?_
        try simp only [Act.put, List.getElem_toArray, List.getElem_cons_zero, List.getElem_cons_succ, List.setIfInBounds_toArray, List.set_cons_zero, List.set_cons_succ]
        refine wpAnyH_take (i := 31) (v := undef) rfl (by kernel_rfl) (by kernel_rfl) (by kernel_rfl) (fun _ _ _ h => h) (Or.inr ⟨by kernel_rfl, rfl⟩) hH0 ?_
        try simp only [Act.put, List.getElem_toArray, List.getElem_cons_zero, List.getElem_cons_succ, List.setIfInBounds_toArray, List.set_cons_zero, List.set_cons_succ]
        refine wpAnyH_take (i := 32) (v := ?_) rfl (by kernel_rfl) (by kernel_rfl) (by kernel_rfl) (fun _ _ _ h => h) (Or.inl ⟨by kernel_rfl, ?_⟩) hH0 ?_
        rotate_left 1
        · intro w hSw
          go_simp
          try with_reducible rfl
        try simp only [Act.put, List.getElem_toArray, List.getElem_cons_zero, List.getElem_cons_succ, List.setIfInBounds_toArray, List.set_cons_zero, List.set_cons_succ]
        refine wpAnyH_take (i := 33) (v := ?_) rfl (by kernel_rfl) (by kernel_rfl) (by kernel_rfl) (fun _ _ _ h => h) (Or.inl ⟨by kernel_rfl, ?_⟩) hH0 ?_
        rotate_left 1
        · intro w hSw
          go_simp
          try with_reducible rfl
        try simp only [Act.put, List.getElem_toArray, List.getElem_cons_zero, List.getElem_cons_succ, List.setIfInBounds_toArray, List.set_cons_zero, List.set_cons_succ]
        refine wpAnyH_done (by kernel_rfl) ?_ _
        have HH := Lib.hid hH0
        clear hH0
        go_wp2_with fail
        refine Met.intro ?_
        go_step
        (repeat apply Exists.intro)
        refine ⟨?rel, ?fr⟩
        case fr =>
          simp only [hsl]
          rfl
        case rel => exact ⟨rfl, HH.out⟩
    · have z1 : ((xb : Int) != 0) = true := by simp; omega
      have z2 : ((xb : Int) == 0) = false := by simp; omega
      by_cases h32 : 32 ≤ kk
      · have g1 : (32 : Int) ≤ (kk : Int) := by omega
        have g2 : decide ((32 : Int) ≤ (kk : Int)) = true := by simp; omega
        have kI2 : (kk : Int) ≤ 32 + (T0.length : Int) := by omega
        have hc32 : ¬ bc = 32 := by omega
        cases v1 with
        | true =>
          have hr : RES = true := by rw [HRES.out, if_pos h32, if_neg hz]; rfl
          subst hr
          clear h32 HRES hz
          refine wp_region_held_drew (S := fun w' => Below w9.heap.size w9 w') (by kernel_rfl) ((Below.refl _ _).drew) (fun hH0 => ?_)
          obtain ⟨W0, hW0⟩ : ∃ W, W = w9.drew := ⟨_, rfl⟩
          rw [← hW0] at hH0 ⊢
          clear hW0
          refine wpAnyH_take (i := 0) (v := ?_) rfl (by kernel_rfl) (by kernel_rfl) (by kernel_rfl) (fun _ _ _ h => h) (Or.inl ⟨by kernel_rfl, ?_⟩) hH0 ?_
          rotate_left 1
          · intro w hSw
            go_simp
            try with_reducible rfl
          try simp only [Act.put, List.getElem_toArray, List.getElem_cons_zero, List.getElem_cons_succ, List.setIfInBounds_toArray, List.set_cons_zero, List.set_cons_succ]
          refine wpAnyH_take (i := 1) (v := ?_) rfl (by kernel_rfl) (by kernel_rfl) (by kernel_rfl) (fun _ _ _ h => h) (Or.inl ⟨by kernel_rfl, ?_⟩) hH0 ?_
          rotate_left 1
          · intro w hSw
            go_simp
            try with_reducible rfl
          try simp only [Act.put, List.getElem_toArray, List.getElem_cons_zero, List.getElem_cons_succ, List.setIfInBounds_toArray, List.set_cons_zero, List.set_cons_succ]
          refine wpAnyH_take (i := 2) (v := ?_) rfl (by kernel_rfl) (by kernel_rfl) (by kernel_rfl) (fun _ _ _ h => h) (Or.inl ⟨by kernel_rfl, ?_⟩) hH0 ?_
          rotate_left 1
          · intro w hSw
            go_simp
            try with_reducible rfl
          try simp only [Act.put, List.getElem_toArray, List.getElem_cons_zero, List.getElem_cons_succ, List.setIfInBounds_toArray, List.set_cons_zero, List.set_cons_succ]
          refine wpAnyH_take (i := 3) (v := ?_) rfl (by kernel_rfl) (by kernel_rfl) (by kernel_rfl) (fun _ _ _ h => h) (Or.inl ⟨by kernel_rfl, ?_⟩) hH0 ?_
          rotate_left 1
          · intro w hSw
            go_simp
            try with_reducible rfl
          try simp only [Act.put, List.getElem_toArray, List.getElem_cons_zero, List.getElem_cons_succ, List.setIfInBounds_toArray, List.set_cons_zero, List.set_cons_succ]
          refine wpAnyH_take (i := 4) (v := ?_) rfl (by kernel_rfl) (by kernel_rfl) (by kernel_rfl) (fun _ _ _ h => h) (Or.inl ⟨by kernel_rfl, ?_⟩) hH0 ?_
          rotate_left 1
          · intro w hSw
            go_simp
            try with_reducible rfl
          try simp only [Act.put, List.getElem_toArray, List.getElem_cons_zero, List.getElem_cons_succ, List.setIfInBounds_toArray, List.set_cons_zero, List.set_cons_succ]
          refine wpAnyH_take (i := 5) (v := ?_) rfl (by kernel_rfl) (by kernel_rfl) (by kernel_rfl) (fun _ _ _ h => h) (Or.inl ⟨by kernel_rfl, ?_⟩) hH0 ?_
          rotate_left 1
          · intro w hSw
            go_simp
            try with_reducible rfl
          try simp only [Act.put, List.getElem_toArray, List.getElem_cons_zero, List.getElem_cons_succ, List.setIfInBounds_toArray, List.set_cons_zero, List.set_cons_succ]
          refine wpAnyH_take (i := 6) (v := ?_) rfl (by kernel_rfl) (by kernel_rfl) (by kernel_rfl) (fun _ _ _ h => h) (Or.inl ⟨by kernel_rfl, ?_⟩) hH0 ?_
          rotate_left 1
          · intro w hSw
            go_simp
            try with_reducible rfl
          try simp only [Act.put, List.getElem_toArray, List.getElem_cons_zero, List.getElem_cons_succ, List.setIfInBounds_toArray, List.set_cons_zero, List.set_cons_succ]
          refine wpAnyH_take (i := 7) (v := ?_) rfl (by kernel_rfl) (by kernel_rfl) (by kernel_rfl) (fun _ _ _ h => h) (Or.inl ⟨by kernel_rfl, ?_⟩) hH0 ?_
          rotate_left 1
          · intro w hSw
            go_simp
            try with_reducible rfl
          try simp only [Act.put, List.getElem_toArray, List.getElem_cons_zero, List.getElem_cons_succ, List.setIfInBounds_toArray, List.set_cons_zero, List.set_cons_succ]
          refine wpAnyH_take (i := 8) (v := ?_) rfl (by kernel_rfl) (by kernel_rfl) (by kernel_rfl) (fun _ _ _ h => h) (Or.inl ⟨by kernel_rfl, ?_⟩) hH0 ?_
          rotate_left 1
          · intro w hSw
            go_simp
            try with_reducible rfl
          try simp only [Act.put, List.getElem_toArray, List.getElem_cons_zero, List.getElem_cons_succ, List.setIfInBounds_toArray, List.set_cons_zero, List.set_cons_succ]
          refine wpAnyH_take (i := 9) (v := ?_) rfl (by kernel_rfl) (by kernel_rfl) (by kernel_rfl) (fun _ _ _ h => h) (Or.inl ⟨by kernel_rfl, ?_⟩) hH0 ?_
          rotate_left 1
          · intro w hSw
            go_simp
            rw [K9.out w hSw]
            rfl
            try with_reducible rfl
          try simp only [Act.put, List.getElem_toArray, List.getElem_cons_zero, List.getElem_cons_succ, List.setIfInBounds_toArray, List.set_cons_zero, List.set_cons_succ]
          refine wpAnyH_take (i := 12) (v := ?_) rfl (by kernel_rfl) (by kernel_rfl) (by kernel_rfl) (fun _ _ _ h => h) (Or.inl ⟨by kernel_rfl, ?_⟩) hH0 ?_
          rotate_left 1
          · intro w hSw
            go_simp
            try with_reducible rfl
          try simp only [Act.put, List.getElem_toArray, List.getElem_cons_zero, List.getElem_cons_succ, List.setIfInBounds_toArray, List.set_cons_zero, List.set_cons_succ]
          refine wpAnyH_take (i := 13) (v := ?_) rfl (by kernel_rfl) (by kernel_rfl) (by kernel_rfl) (fun _ _ _ h => h) (Or.inl ⟨by kernel_rfl, ?_⟩) hH0 ?_
          rotate_left 1
          · intro w hSw
            go_simp
            try with_reducible rfl
          try simp only [Act.put, List.getElem_toArray, List.getElem_cons_zero, List.getElem_cons_succ, List.setIfInBounds_toArray, List.set_cons_zero, List.set_cons_succ]
          refine wpAnyH_ready (rs := [10, 14]) (by kernel_rfl) (by simp) ?_
          refine AllReadyH.cons rfl (fun K_ hK => ?_) ?_
          · go_simp
            have hb1 := (Below.refl W0.heap.size W0).alloc (Nat.le_refl _) (.cells #[.string ⟨(T1).toArray⟩] 9)
            have cb1 : (W0.alloc (.cells #[.string ⟨(T1).toArray⟩] 9)).cell? ⟨W0.heap.size, 0, none⟩ = some (.string ⟨(T1).toArray⟩) := by rw [Lib.cell_of_heap (heap_alloc_new W0 _)]; rfl
            obtain ⟨W1, hW1⟩ : ∃ W, W = W0.alloc (.cells #[.string ⟨(T1).toArray⟩] 9) := ⟨_, rfl⟩
            have hl1 : W0.heap.size < W1.heap.size := by rw [hW1]; simp
            rw [← hW1] at hb1 cb1 ⊢
            clear hW1
            refine hK.out _ _ ((hH0).trans (hb1.mono (hH0).size)) (fun hH1 => ?_)
            clear hK K_
            try simp only [Act.put, List.getElem_toArray, List.getElem_cons_zero, List.getElem_cons_succ, List.setIfInBounds_toArray, List.set_cons_zero, List.set_cons_succ]
            refine wpAnyH_ready (rs := [11, 14]) (by kernel_rfl) (by simp) ?_
            refine AllReadyH.cons rfl (fun K_ hK => ?_) ?_
            · go_simp
              refine (of_hash KK _ 1 (T1) _ (HL0.out.below hH1) ⟨_, rfl, cb1⟩ (by omega)).mono ?_
              rintro e W2 ⟨rfl, hb2⟩
              rw [← Hh1.out]
              have c10_2 := (hb2.cell (p := ⟨W0.heap.size, 0, none⟩) hl1).trans cb1
              have l10_2 : (⟨W0.heap.size, 0, none⟩ : Addr).block < W2.heap.size := Nat.lt_of_lt_of_le hl1 hb2.size
              refine hK.out _ _ ((hH1).trans (hb2.mono (hH1).size)) (fun hH2 => ?_)
              clear hK K_
              try simp only [Act.put, List.getElem_toArray, List.getElem_cons_zero, List.getElem_cons_succ, List.setIfInBounds_toArray, List.set_cons_zero, List.set_cons_succ]
              refine wpAnyH_ready (rs := [14]) (by kernel_rfl) (by simp) ?_
              refine AllReadyH.cons rfl (fun K_ hK => ?_) ?_
              · go_simp
                have hb3 := (Below.refl W2.heap.size W2).alloc (Nat.le_refl _) (.cells #[.string ⟨(T0).toArray⟩] 9)
                have cb3 : (W2.alloc (.cells #[.string ⟨(T0).toArray⟩] 9)).cell? ⟨W2.heap.size, 0, none⟩ = some (.string ⟨(T0).toArray⟩) := by rw [Lib.cell_of_heap (heap_alloc_new W2 _)]; rfl
                obtain ⟨W3, hW3⟩ : ∃ W, W = W2.alloc (.cells #[.string ⟨(T0).toArray⟩] 9) := ⟨_, rfl⟩
                have hl3 : W2.heap.size < W3.heap.size := by rw [hW3]; simp
                rw [← hW3] at hb3 cb3 ⊢
                clear hW3
                have c10_3 := (hb3.cell (p := ⟨W0.heap.size, 0, none⟩) l10_2).trans c10_2
                have l10_3 : (⟨W0.heap.size, 0, none⟩ : Addr).block < W3.heap.size := Nat.lt_of_lt_of_le l10_2 hb3.size
                refine hK.out _ _ ((hH2).trans (hb3.mono (hH2).size)) (fun hH3 => ?_)
                clear hK K_
                try simp only [Act.put, List.getElem_toArray, List.getElem_cons_zero, List.getElem_cons_succ, List.setIfInBounds_toArray, List.set_cons_zero, List.set_cons_succ]
                refine wpAnyH_ready (rs := [15]) (by kernel_rfl) (by simp) ?_
                refine AllReadyH.cons rfl (fun K_ hK => ?_) ?_
                · go_simp
                  refine (of_hash KK _ 1 (T0) _ (HL0.out.below hH3) ⟨_, rfl, cb3⟩ (by omega)).mono ?_
                  rintro e W4 ⟨rfl, hb4⟩
                  rw [← Hh0.out]
                  have c10_4 := (hb4.cell (p := ⟨W0.heap.size, 0, none⟩) l10_3).trans c10_3
                  have l10_4 : (⟨W0.heap.size, 0, none⟩ : Addr).block < W4.heap.size := Nat.lt_of_lt_of_le l10_3 hb4.size
                  have c14_4 := (hb4.cell (p := ⟨W2.heap.size, 0, none⟩) hl3).trans cb3
                  have l14_4 : (⟨W2.heap.size, 0, none⟩ : Addr).block < W4.heap.size := Nat.lt_of_lt_of_le hl3 hb4.size
                  refine hK.out _ _ ((hH3).trans (hb4.mono (hH3).size)) (fun hH4 => ?_)
                  clear hK K_
                  try simp only [Act.put, List.getElem_toArray, List.getElem_cons_zero, List.getElem_cons_succ, List.setIfInBounds_toArray, List.set_cons_zero, List.set_cons_succ]
                  refine wpAnyH_take (i := 16) (v := ?_) rfl (by kernel_rfl) (by kernel_rfl) (by kernel_rfl) (fun _ _ _ h => h) (Or.inl ⟨by kernel_rfl, ?_⟩) hH4 ?_
                  rotate_left 1
                  · intro w hSw
                    go_simp
                    try with_reducible rfl
                  try simp only [Act.put, List.getElem_toArray, List.getElem_cons_zero, List.getElem_cons_succ, List.setIfInBounds_toArray, List.set_cons_zero, List.set_cons_succ]
                  refine wpAnyH_take (i := 17) (v := ?_) rfl (by kernel_rfl) (by kernel_rfl) (by kernel_rfl) (fun _ _ _ h => h) (Or.inl ⟨by kernel_rfl, ?_⟩) hH4 ?_
                  rotate_left 1
                  · intro w hSw
                    go_simp
                    try with_reducible rfl
                  try simp only [Act.put, List.getElem_toArray, List.getElem_cons_zero, List.getElem_cons_succ, List.setIfInBounds_toArray, List.set_cons_zero, List.set_cons_succ]
                  refine wpAnyH_take (i := 18) (v := ?_) rfl (by kernel_rfl) (by kernel_rfl) (by kernel_rfl) (fun _ _ _ h => h) (Or.inl ⟨by kernel_rfl, ?_⟩) hH4 ?_
                  rotate_left 1
                  · intro w hSw
                    go_simp
                    try with_reducible rfl
                  try simp only [Act.put, List.getElem_toArray, List.getElem_cons_zero, List.getElem_cons_succ, List.setIfInBounds_toArray, List.set_cons_zero, List.set_cons_succ]
                  refine wpAnyH_take (i := 19) (v := undef) rfl (by kernel_rfl) (by kernel_rfl) (by kernel_rfl) (fun _ _ _ h => h) (Or.inr ⟨by kernel_rfl, rfl⟩) hH4 ?_
                  try simp only [Act.put, List.getElem_toArray, List.getElem_cons_zero, List.getElem_cons_succ, List.setIfInBounds_toArray, List.set_cons_zero, List.set_cons_succ]
                  refine wpAnyH_take (i := 20) (v := undef) rfl (by kernel_rfl) (by kernel_rfl) (by kernel_rfl) (fun _ _ _ h => h) (Or.inr ⟨by kernel_rfl, rfl⟩) hH4 ?_
                  try simp only [Act.put, List.getElem_toArray, List.getElem_cons_zero, List.getElem_cons_succ, List.setIfInBounds_toArray, List.set_cons_zero, List.set_cons_succ]
                  refine wpAnyH_take (i := 21) (v := undef) rfl (by kernel_rfl) (by kernel_rfl) (by kernel_rfl) (fun _ _ _ h => h) (Or.inr ⟨by kernel_rfl, rfl⟩) hH4 ?_
                  try simp only [Act.put, List.getElem_toArray, List.getElem_cons_zero, List.getElem_cons_succ, List.setIfInBounds_toArray, List.set_cons_zero, List.set_cons_succ]
                  refine wpAnyH_take (i := 22) (v := undef) rfl (by kernel_rfl) (by kernel_rfl) (by kernel_rfl) (fun _ _ _ h => h) (Or.inr ⟨by kernel_rfl, rfl⟩) hH4 ?_
                  try simp only [Act.put, List.getElem_toArray, List.getElem_cons_zero, List.getElem_cons_succ, List.setIfInBounds_toArray, List.set_cons_zero, List.set_cons_succ]
                  refine wpAnyH_take (i := 23) (v := undef) rfl (by kernel_rfl) (by kernel_rfl) (by kernel_rfl) (fun _ _ _ h => h) (Or.inr ⟨by kernel_rfl, rfl⟩) hH4 ?_
                  try simp only [Act.put, List.getElem_toArray, List.getElem_cons_zero, List.getElem_cons_succ, List.setIfInBounds_toArray, List.set_cons_zero, List.set_cons_succ]
                  refine wpAnyH_take (i := 24) (v := undef) rfl (by kernel_rfl) (by kernel_rfl) (by kernel_rfl) (fun _ _ _ h => h) (Or.inr ⟨by kernel_rfl, rfl⟩) hH4 ?_
                  try simp only [Act.put, List.getElem_toArray, List.getElem_cons_zero, List.getElem_cons_succ, List.setIfInBounds_toArray, List.set_cons_zero, List.set_cons_succ]
                  refine wpAnyH_take (i := 25) (v := undef) rfl (by kernel_rfl) (by kernel_rfl) (by kernel_rfl) (fun _ _ _ h => h) (Or.inr ⟨by kernel_rfl, rfl⟩) hH4 ?_
                  try simp only [Act.put, List.getElem_toArray, List.getElem_cons_zero, List.getElem_cons_succ, List.setIfInBounds_toArray, List.set_cons_zero, List.set_cons_succ]
                  refine wpAnyH_take (i := 26) (v := undef) rfl (by kernel_rfl) (by kernel_rfl) (by kernel_rfl) (fun _ _ _ h => h) (Or.inr ⟨by kernel_rfl, rfl⟩) hH4 ?_
                  try simp only [Act.put, List.getElem_toArray, List.getElem_cons_zero, List.getElem_cons_succ, List.setIfInBounds_toArray, List.set_cons_zero, List.set_cons_succ]
                  refine wpAnyH_take (i := 27) (v := undef) rfl (by kernel_rfl) (by kernel_rfl) (by kernel_rfl) (fun _ _ _ h => h) (Or.inr ⟨by kernel_rfl, rfl⟩) hH4 ?_
                  try simp only [Act.put, List.getElem_toArray, List.getElem_cons_zero, List.getElem_cons_succ, List.setIfInBounds_toArray, List.set_cons_zero, List.set_cons_succ]
                  refine wpAnyH_take (i := 28) (v := undef) rfl (by kernel_rfl) (by kernel_rfl) (by kernel_rfl) (fun _ _ _ h => h) (Or.inr ⟨by kernel_rfl, rfl⟩) hH4 ?_
                  try simp only [Act.put, List.getElem_toArray, List.getElem_cons_zero, List.getElem_cons_succ, List.setIfInBounds_toArray, List.set_cons_zero, List.set_cons_succ]
                  refine wpAnyH_take (i := 29) (v := undef) rfl (by kernel_rfl) (by kernel_rfl) (by kernel_rfl) (fun _ _ _ h => h) (Or.inr ⟨by kernel_rfl, rfl⟩) hH4 ?_
                  try simp only [Act.put, List.getElem_toArray, List.getElem_cons_zero, List.getElem_cons_succ, List.setIfInBounds_toArray, List.set_cons_zero, List.set_cons_succ]
                  refine wpAnyH_take (i := 30) (v := undef) rfl (by kernel_rfl) (by kernel_rfl) (by kernel_rfl) (fun _ _ _ h => h) (Or.inr ⟨by kernel_rfl, rfl⟩) hH4 ?_
                  try simp only [Act.put, List.getElem_toArray, List.getElem_cons_zero, List.getElem_cons_succ, List.setIfInBounds_toArray, List.set_cons_zero, List.set_cons_succ]
                  refine wpAnyH_take (i := 31) (v := undef) rfl (by kernel_rfl) (by kernel_rfl) (by kernel_rfl) (fun _ _ _ h => h) (Or.inr ⟨by kernel_rfl, rfl⟩) hH4 ?_
                  try simp only [Act.put, List.getElem_toArray, List.getElem_cons_zero, List.getElem_cons_succ, List.setIfInBounds_toArray, List.set_cons_zero, List.set_cons_succ]
                  refine wpAnyH_take (i := 32) (v := undef) rfl (by kernel_rfl) (by kernel_rfl) (by kernel_rfl) (fun _ _ _ h => h) (Or.inr ⟨by kernel_rfl, rfl⟩) hH4 ?_
                  try simp only [Act.put, List.getElem_toArray, List.getElem_cons_zero, List.getElem_cons_succ, List.setIfInBounds_toArray, List.set_cons_zero, List.set_cons_succ]
                  refine wpAnyH_take (i := 33) (v := ?_) rfl (by kernel_rfl) (by kernel_rfl) (by kernel_rfl) (fun _ _ _ h => h) (Or.inl ⟨by kernel_rfl, ?_⟩) hH4 ?_
                  rotate_left 1
                  · intro w hSw
                    go_simp
                    try with_reducible rfl
                  try simp only [Act.put, List.getElem_toArray, List.getElem_cons_zero, List.getElem_cons_succ, List.setIfInBounds_toArray, List.set_cons_zero, List.set_cons_succ]
                  refine wpAnyH_done (by kernel_rfl) ?_ _
                  have HH := Lib.hid hH4
                  clear hH4
                  go_wp2_with fail
                  refine Met.intro ?_
                  go_step
                  (repeat apply Exists.intro)
                  refine ⟨?rel, ?fr⟩
                  case fr =>
                    simp only [hsl]
                    rfl
                  case rel => exact ⟨rfl, HH.out⟩
                exact AllReadyH.nil
              exact AllReadyH.nil
            refine AllReadyH.cons rfl (fun K_ hK => ?_) ?_
            · go_simp
              have hb5 := (Below.refl W1.heap.size W1).alloc (Nat.le_refl _) (.cells #[.string ⟨(T0).toArray⟩] 9)
              have cb5 : (W1.alloc (.cells #[.string ⟨(T0).toArray⟩] 9)).cell? ⟨W1.heap.size, 0, none⟩ = some (.string ⟨(T0).toArray⟩) := by rw [Lib.cell_of_heap (heap_alloc_new W1 _)]; rfl
              obtain ⟨W5, hW5⟩ : ∃ W, W = W1.alloc (.cells #[.string ⟨(T0).toArray⟩] 9) := ⟨_, rfl⟩
              have hl5 : W1.heap.size < W5.heap.size := by rw [hW5]; simp
              rw [← hW5] at hb5 cb5 ⊢
              clear hW5
              have c10_5 := (hb5.cell (p := ⟨W0.heap.size, 0, none⟩) hl1).trans cb1
              have l10_5 : (⟨W0.heap.size, 0, none⟩ : Addr).block < W5.heap.size := Nat.lt_of_lt_of_le hl1 hb5.size
              refine hK.out _ _ ((hH1).trans (hb5.mono (hH1).size)) (fun hH5 => ?_)
              clear hK K_
              try simp only [Act.put, List.getElem_toArray, List.getElem_cons_zero, List.getElem_cons_succ, List.setIfInBounds_toArray, List.set_cons_zero, List.set_cons_succ]
              refine wpAnyH_ready (rs := [11]) (by kernel_rfl) (by simp) ?_
              refine AllReadyH.cons rfl (fun K_ hK => ?_) ?_
              · go_simp
                refine (of_hash KK _ 1 (T1) _ (HL0.out.below hH5) ⟨_, rfl, c10_5⟩ (by omega)).mono ?_
                rintro e W6 ⟨rfl, hb6⟩
                rw [← Hh1.out]
                have c10_6 := (hb6.cell (p := ⟨W0.heap.size, 0, none⟩) l10_5).trans c10_5
                have l10_6 : (⟨W0.heap.size, 0, none⟩ : Addr).block < W6.heap.size := Nat.lt_of_lt_of_le l10_5 hb6.size
                have c14_6 := (hb6.cell (p := ⟨W1.heap.size, 0, none⟩) hl5).trans cb5
                have l14_6 : (⟨W1.heap.size, 0, none⟩ : Addr).block < W6.heap.size := Nat.lt_of_lt_of_le hl5 hb6.size
                refine hK.out _ _ ((hH5).trans (hb6.mono (hH5).size)) (fun hH6 => ?_)
                clear hK K_
                try simp only [Act.put, List.getElem_toArray, List.getElem_cons_zero, List.getElem_cons_succ, List.setIfInBounds_toArray, List.set_cons_zero, List.set_cons_succ]
                refine wpAnyH_ready (rs := [15]) (by kernel_rfl) (by simp) ?_
                refine AllReadyH.cons rfl (fun K_ hK => ?_) ?_
                · go_simp
                  refine (of_hash KK _ 1 (T0) _ (HL0.out.below hH6) ⟨_, rfl, c14_6⟩ (by omega)).mono ?_
                  rintro e W7 ⟨rfl, hb7⟩
                  rw [← Hh0.out]
                  have c10_7 := (hb7.cell (p := ⟨W0.heap.size, 0, none⟩) l10_6).trans c10_6
                  have l10_7 : (⟨W0.heap.size, 0, none⟩ : Addr).block < W7.heap.size := Nat.lt_of_lt_of_le l10_6 hb7.size
                  have c14_7 := (hb7.cell (p := ⟨W1.heap.size, 0, none⟩) l14_6).trans c14_6
                  have l14_7 : (⟨W1.heap.size, 0, none⟩ : Addr).block < W7.heap.size := Nat.lt_of_lt_of_le l14_6 hb7.size
                  refine hK.out _ _ ((hH6).trans (hb7.mono (hH6).size)) (fun hH7 => ?_)
                  clear hK K_
                  try simp only [Act.put, List.getElem_toArray, List.getElem_cons_zero, List.getElem_cons_succ, List.setIfInBounds_toArray, List.set_cons_zero, List.set_cons_succ]
                  refine wpAnyH_take (i := 16) (v := ?_) rfl (by kernel_rfl) (by kernel_rfl) (by kernel_rfl) (fun _ _ _ h => h) (Or.inl ⟨by kernel_rfl, ?_⟩) hH7 ?_
                  rotate_left 1
                  · intro w hSw
                    go_simp
                    try with_reducible rfl
                  try simp only [Act.put, List.getElem_toArray, List.getElem_cons_zero, List.getElem_cons_succ, List.setIfInBounds_toArray, List.set_cons_zero, List.set_cons_succ]
                  refine wpAnyH_take (i := 17) (v := ?_) rfl (by kernel_rfl) (by kernel_rfl) (by kernel_rfl) (fun _ _ _ h => h) (Or.inl ⟨by kernel_rfl, ?_⟩) hH7 ?_
                  rotate_left 1
                  · intro w hSw
                    go_simp
                    try with_reducible rfl
                  try simp only [Act.put, List.getElem_toArray, List.getElem_cons_zero, List.getElem_cons_succ, List.setIfInBounds_toArray, List.set_cons_zero, List.set_cons_succ]
                  refine wpAnyH_take (i := 18) (v := ?_) rfl (by kernel_rfl) (by kernel_rfl) (by kernel_rfl) (fun _ _ _ h => h) (Or.inl ⟨by kernel_rfl, ?_⟩) hH7 ?_
                  rotate_left 1
                  · intro w hSw
                    go_simp
                    try with_reducible rfl
                  try simp only [Act.put, List.getElem_toArray, List.getElem_cons_zero, List.getElem_cons_succ, List.setIfInBounds_toArray, List.set_cons_zero, List.set_cons_succ]
                  refine wpAnyH_take (i := 19) (v := undef) rfl (by kernel_rfl) (by kernel_rfl) (by kernel_rfl) (fun _ _ _ h => h) (Or.inr ⟨by kernel_rfl, rfl⟩) hH7 ?_
                  try simp only [Act.put, List.getElem_toArray, List.getElem_cons_zero, List.getElem_cons_succ, List.setIfInBounds_toArray, List.set_cons_zero, List.set_cons_succ]
                  refine wpAnyH_take (i := 20) (v := undef) rfl (by kernel_rfl) (by kernel_rfl) (by kernel_rfl) (fun _ _ _ h => h) (Or.inr ⟨by kernel_rfl, rfl⟩) hH7 ?_
                  try simp only [Act.put, List.getElem_toArray, List.getElem_cons_zero, List.getElem_cons_succ, List.setIfInBounds_toArray, List.set_cons_zero, List.set_cons_succ]
                  refine wpAnyH_take (i := 21) (v := undef) rfl (by kernel_rfl) (by kernel_rfl) (by kernel_rfl) (fun _ _ _ h => h) (Or.inr ⟨by kernel_rfl, rfl⟩) hH7 ?_
                  try simp only [Act.put, List.getElem_toArray, List.getElem_cons_zero, List.getElem_cons_succ, List.setIfInBounds_toArray, List.set_cons_zero, List.set_cons_succ]
                  refine wpAnyH_take (i := 22) (v := undef) rfl (by kernel_rfl) (by kernel_rfl) (by kernel_rfl) (fun _ _ _ h => h) (Or.inr ⟨by kernel_rfl, rfl⟩) hH7 ?_
                  try simp only [Act.put, List.getElem_toArray, List.getElem_cons_zero, List.getElem_cons_succ, List.setIfInBounds_toArray, List.set_cons_zero, List.set_cons_succ]
                  refine wpAnyH_take (i := 23) (v := undef) rfl (by kernel_rfl) (by kernel_rfl) (by kernel_rfl) (fun _ _ _ h => h) (Or.inr ⟨by kernel_rfl, rfl⟩) hH7 ?_
                  try simp only [Act.put, List.getElem_toArray, List.getElem_cons_zero, List.getElem_cons_succ, List.setIfInBounds_toArray, List.set_cons_zero, List.set_cons_succ]
                  refine wpAnyH_take (i := 24) (v := undef) rfl (by kernel_rfl) (by kernel_rfl) (by kernel_rfl) (fun _ _ _ h => h) (Or.inr ⟨by kernel_rfl, rfl⟩) hH7 ?_
                  try simp only [Act.put, List.getElem_toArray, List.getElem_cons_zero, List.getElem_cons_succ, List.setIfInBounds_toArray, List.set_cons_zero, List.set_cons_succ]
                  refine wpAnyH_take (i := 25) (v := undef) rfl (by kernel_rfl) (by kernel_rfl) (by kernel_rfl) (fun _ _ _ h => h) (Or.inr ⟨by kernel_rfl, rfl⟩) hH7 ?_
                  try simp only [Act.put, List.getElem_toArray, List.getElem_cons_zero, List.getElem_cons_succ, List.setIfInBounds_toArray, List.set_cons_zero, List.set_cons_succ]
                  refine wpAnyH_take (i := 26) (v := undef) rfl (by kernel_rfl) (by kernel_rfl) (by kernel_rfl) (fun _ _ _ h => h) (Or.inr ⟨by kernel_rfl, rfl⟩) hH7 ?_
                  try simp only [Act.put, List.getElem_toArray, List.getElem_cons_zero, List.getElem_cons_succ, List.setIfInBounds_toArray, List.set_cons_zero, List.set_cons_succ]
                  refine wpAnyH_take (i := 27) (v := undef) rfl (by kernel_rfl) (by kernel_rfl) (by kernel_rfl) (fun _ _ _ h => h) (Or.inr ⟨by kernel_rfl, rfl⟩) hH7 ?_
                  try simp only [Act.put, List.getElem_toArray, List.getElem_cons_zero, List.getElem_cons_succ, List.setIfInBounds_toArray, List.set_cons_zero, List.set_cons_succ]
                  refine wpAnyH_take (i := 28) (v := undef) rfl (by kernel_rfl) (by kernel_rfl) (by kernel_rfl) (fun _ _ _ h => h) (Or.inr ⟨by kernel_rfl, rfl⟩) hH7 ?_
                  try simp only [Act.put, List.getElem_toArray, List.getElem_cons_zero, List.getElem_cons_succ, List.setIfInBounds_toArray, List.set_cons_zero, List.set_cons_succ]
                  refine wpAnyH_take (i := 29) (v := undef) rfl (by kernel_rfl) (by kernel_rfl) (by kernel_rfl) (fun _ _ _ h => h) (Or.inr ⟨by kernel_rfl, rfl⟩) hH7 ?_
                  try simp only [Act.put, List.getElem_toArray, List.getElem_cons_zero, List.getElem_cons_succ, List.setIfInBounds_toArray, List.set_cons_zero, List.set_cons_succ]
                  refine wpAnyH_take (i := 30) (v := undef) rfl (by kernel_rfl) (by kernel_rfl) (by kernel_rfl) (fun _ _ _ h => h) (Or.inr ⟨by kernel_rfl, rfl⟩) hH7 ?_
                  try simp only [Act.put, List.getElem_toArray, List.getElem_cons_zero, List.getElem_cons_succ, List.setIfInBounds_toArray, List.set_cons_zero, List.set_cons_succ]
                  refine wpAnyH_take (i := 31) (v := undef) rfl (by kernel_rfl) (by kernel_rfl) (by kernel_rfl) (fun _ _ _ h => h) (Or.inr ⟨by kernel_rfl, rfl⟩) hH7 ?_
                  try simp only [Act.put, List.getElem_toArray, List.getElem_cons_zero, List.getElem_cons_succ, List.setIfInBounds_toArray, List.set_cons_zero, List.set_cons_succ]
                  refine wpAnyH_take (i := 32) (v := undef) rfl (by kernel_rfl) (by kernel_rfl) (by kernel_rfl) (fun _ _ _ h => h) (Or.inr ⟨by kernel_rfl, rfl⟩) hH7 ?_
                  try simp only [Act.put, List.getElem_toArray, List.getElem_cons_zero, List.getElem_cons_succ, List.setIfInBounds_toArray, List.set_cons_zero, List.set_cons_succ]
                  refine wpAnyH_take (i := 33) (v := ?_) rfl (by kernel_rfl) (by kernel_rfl) (by kernel_rfl) (fun _ _ _ h => h) (Or.inl ⟨by kernel_rfl, ?_⟩) hH7 ?_
                  rotate_left 1
                  · intro w hSw
                    go_simp
                    try with_reducible rfl
                  try simp only [Act.put, List.getElem_toArray, List.getElem_cons_zero, List.getElem_cons_succ, List.setIfInBounds_toArray, List.set_cons_zero, List.set_cons_succ]
                  refine wpAnyH_done (by kernel_rfl) ?_ _
                  have HH := Lib.hid hH7
                  clear hH7
                  go_wp2_with fail
                  refine Met.intro ?_
                  go_step
                  (repeat apply Exists.intro)
                  refine ⟨?rel, ?fr⟩
                  case fr =>
                    simp only [hsl]
                    rfl
                  case rel => exact ⟨rfl, HH.out⟩
                exact AllReadyH.nil
              exact AllReadyH.nil
            exact AllReadyH.nil
          refine AllReadyH.cons rfl (fun K_ hK => ?_) ?_
          · go_simp
            have hb8 := (Below.refl W0.heap.size W0).alloc (Nat.le_refl _) (.cells #[.string ⟨(T0).toArray⟩] 9)
            have cb8 : (W0.alloc (.cells #[.string ⟨(T0).toArray⟩] 9)).cell? ⟨W0.heap.size, 0, none⟩ = some (.string ⟨(T0).toArray⟩) := by rw [Lib.cell_of_heap (heap_alloc_new W0 _)]; rfl
            obtain ⟨W8, hW8⟩ : ∃ W, W = W0.alloc (.cells #[.string ⟨(T0).toArray⟩] 9) := ⟨_, rfl⟩
            have hl8 : W0.heap.size < W8.heap.size := by rw [hW8]; simp
            rw [← hW8] at hb8 cb8 ⊢
            clear hW8
            refine hK.out _ _ ((hH0).trans (hb8.mono (hH0).size)) (fun hH8 => ?_)
            clear hK K_
            try simp only [Act.put, List.getElem_toArray, List.getElem_cons_zero, List.getElem_cons_succ, List.setIfInBounds_toArray, List.set_cons_zero, List.set_cons_succ]
            refine wpAnyH_ready (rs := [10]) (by kernel_rfl) (by simp) ?_
            refine AllReadyH.cons rfl (fun K_ hK => ?_) ?_
            · go_simp
              have hb9 := (Below.refl W8.heap.size W8).alloc (Nat.le_refl _) (.cells #[.string ⟨(T1).toArray⟩] 9)
              have cb9 : (W8.alloc (.cells #[.string ⟨(T1).toArray⟩] 9)).cell? ⟨W8.heap.size, 0, none⟩ = some (.string ⟨(T1).toArray⟩) := by rw [Lib.cell_of_heap (heap_alloc_new W8 _)]; rfl
              obtain ⟨W9, hW9⟩ : ∃ W, W = W8.alloc (.cells #[.string ⟨(T1).toArray⟩] 9) := ⟨_, rfl⟩
              have hl9 : W8.heap.size < W9.heap.size := by rw [hW9]; simp
              rw [← hW9] at hb9 cb9 ⊢
              clear hW9
              have c14_9 := (hb9.cell (p := ⟨W0.heap.size, 0, none⟩) hl8).trans cb8
              have l14_9 : (⟨W0.heap.size, 0, none⟩ : Addr).block < W9.heap.size := Nat.lt_of_lt_of_le hl8 hb9.size
              refine hK.out _ _ ((hH8).trans (hb9.mono (hH8).size)) (fun hH9 => ?_)
              clear hK K_
              try simp only [Act.put, List.getElem_toArray, List.getElem_cons_zero, List.getElem_cons_succ, List.setIfInBounds_toArray, List.set_cons_zero, List.set_cons_succ]
              refine wpAnyH_ready (rs := [11]) (by kernel_rfl) (by simp) ?_
              refine AllReadyH.cons rfl (fun K_ hK => ?_) ?_
              · go_simp
                refine (of_hash KK _ 1 (T1) _ (HL0.out.below hH9) ⟨_, rfl, cb9⟩ (by omega)).mono ?_
                rintro e W10 ⟨rfl, hb10⟩
                rw [← Hh1.out]
                have c14_10 := (hb10.cell (p := ⟨W0.heap.size, 0, none⟩) l14_9).trans c14_9
                have l14_10 : (⟨W0.heap.size, 0, none⟩ : Addr).block < W10.heap.size := Nat.lt_of_lt_of_le l14_9 hb10.size
                have c10_10 := (hb10.cell (p := ⟨W8.heap.size, 0, none⟩) hl9).trans cb9
                have l10_10 : (⟨W8.heap.size, 0, none⟩ : Addr).block < W10.heap.size := Nat.lt_of_lt_of_le hl9 hb10.size
                refine hK.out _ _ ((hH9).trans (hb10.mono (hH9).size)) (fun hH10 => ?_)
                clear hK K_
                try simp only [Act.put, List.getElem_toArray, List.getElem_cons_zero, List.getElem_cons_succ, List.setIfInBounds_toArray, List.set_cons_zero, List.set_cons_succ]
                refine wpAnyH_ready (rs := [15]) (by kernel_rfl) (by simp) ?_
                refine AllReadyH.cons rfl (fun K_ hK => ?_) ?_
                · go_simp
                  refine (of_hash KK _ 1 (T0) _ (HL0.out.below hH10) ⟨_, rfl, c14_10⟩ (by omega)).mono ?_
                  rintro e W11 ⟨rfl, hb11⟩
                  rw [← Hh0.out]
                  have c14_11 := (hb11.cell (p := ⟨W0.heap.size, 0, none⟩) l14_10).trans c14_10
                  have l14_11 : (⟨W0.heap.size, 0, none⟩ : Addr).block < W11.heap.size := Nat.lt_of_lt_of_le l14_10 hb11.size
                  have c10_11 := (hb11.cell (p := ⟨W8.heap.size, 0, none⟩) l10_10).trans c10_10
                  have l10_11 : (⟨W8.heap.size, 0, none⟩ : Addr).block < W11.heap.size := Nat.lt_of_lt_of_le l10_10 hb11.size
                  refine hK.out _ _ ((hH10).trans (hb11.mono (hH10).size)) (fun hH11 => ?_)
                  clear hK K_
                  try simp only [Act.put, List.getElem_toArray, List.getElem_cons_zero, List.getElem_cons_succ, List.setIfInBounds_toArray, List.set_cons_zero, List.set_cons_succ]
                  refine wpAnyH_take (i := 16) (v := ?_) rfl (by kernel_rfl) (by kernel_rfl) (by kernel_rfl) (fun _ _ _ h => h) (Or.inl ⟨by kernel_rfl, ?_⟩) hH11 ?_
                  rotate_left 1
                  · intro w hSw
                    go_simp
                    try with_reducible rfl
                  try simp only [Act.put, List.getElem_toArray, List.getElem_cons_zero, List.getElem_cons_succ, List.setIfInBounds_toArray, List.set_cons_zero, List.set_cons_succ]
                  refine wpAnyH_take (i := 17) (v := ?_) rfl (by kernel_rfl) (by kernel_rfl) (by kernel_rfl) (fun _ _ _ h => h) (Or.inl ⟨by kernel_rfl, ?_⟩) hH11 ?_
                  rotate_left 1
                  · intro w hSw
                    go_simp
                    try with_reducible rfl
                  try simp only [Act.put, List.getElem_toArray, List.getElem_cons_zero, List.getElem_cons_succ, List.setIfInBounds_toArray, List.set_cons_zero, List.set_cons_succ]
                  refine wpAnyH_take (i := 18) (v := ?_) rfl (by kernel_rfl) (by kernel_rfl) (by kernel_rfl) (fun _ _ _ h => h) (Or.inl ⟨by kernel_rfl, ?_⟩) hH11 ?_
                  rotate_left 1
                  · intro w hSw
                    go_simp
                    try with_reducible rfl
                  try simp only [Act.put, List.getElem_toArray, List.getElem_cons_zero, List.getElem_cons_succ, List.setIfInBounds_toArray, List.set_cons_zero, List.set_cons_succ]
                  refine wpAnyH_take (i := 19) (v := undef) rfl (by kernel_rfl) (by kernel_rfl) (by kernel_rfl) (fun _ _ _ h => h) (Or.inr ⟨by kernel_rfl, rfl⟩) hH11 ?_
                  try simp only [Act.put, List.getElem_toArray, List.getElem_cons_zero, List.getElem_cons_succ, List.setIfInBounds_toArray, List.set_cons_zero, List.set_cons_succ]
                  refine wpAnyH_take (i := 20) (v := undef) rfl (by kernel_rfl) (by kernel_rfl) (by kernel_rfl) (fun _ _ _ h => h) (Or.inr ⟨by kernel_rfl, rfl⟩) hH11 ?_
                  try simp only [Act.put, List.getElem_toArray, List.getElem_cons_zero, List.getElem_cons_succ, List.setIfInBounds_toArray, List.set_cons_zero, List.set_cons_succ]
                  refine wpAnyH_take (i := 21) (v := undef) rfl (by kernel_rfl) (by kernel_rfl) (by kernel_rfl) (fun _ _ _ h => h) (Or.inr ⟨by kernel_rfl, rfl⟩) hH11 ?_
                  try simp only [Act.put, List.getElem_toArray, List.getElem_cons_zero, List.getElem_cons_succ, List.setIfInBounds_toArray, List.set_cons_zero, List.set_cons_succ]
                  refine wpAnyH_take (i := 22) (v := undef) rfl (by kernel_rfl) (by kernel_rfl) (by kernel_rfl) (fun _ _ _ h => h) (Or.inr ⟨by kernel_rfl, rfl⟩) hH11 ?_
                  try simp only [Act.put, List.getElem_toArray, List.getElem_cons_zero, List.getElem_cons_succ, List.setIfInBounds_toArray, List.set_cons_zero, List.set_cons_succ]
                  refine wpAnyH_take (i := 23) (v := undef) rfl (by kernel_rfl) (by kernel_rfl) (by kernel_rfl) (fun _ _ _ h => h) (Or.inr ⟨by kernel_rfl, rfl⟩) hH11 ?_
                  try simp only [Act.put, List.getElem_toArray, List.getElem_cons_zero, List.getElem_cons_succ, List.setIfInBounds_toArray, List.set_cons_zero, List.set_cons_succ]
                  refine wpAnyH_take (i := 24) (v := undef) rfl (by kernel_rfl) (by kernel_rfl) (by kernel_rfl) (fun _ _ _ h => h) (Or.inr ⟨by kernel_rfl, rfl⟩) hH11 ?_
                  try simp only [Act.put, List.getElem_toArray, List.getElem_cons_zero, List.getElem_cons_succ, List.setIfInBounds_toArray, List.set_cons_zero, List.set_cons_succ]
                  refine wpAnyH_take (i := 25) (v := undef) rfl (by kernel_rfl) (by kernel_rfl) (by kernel_rfl) (fun _ _ _ h => h) (Or.inr ⟨by kernel_rfl, rfl⟩) hH11 ?_
                  try simp only [Act.put, List.getElem_toArray, List.getElem_cons_zero, List.getElem_cons_succ, List.setIfInBounds_toArray, List.set_cons_zero, List.set_cons_succ]
                  refine wpAnyH_take (i := 26) (v := undef) rfl (by kernel_rfl) (by kernel_rfl) (by kernel_rfl) (fun _ _ _ h => h) (Or.inr ⟨by kernel_rfl, rfl⟩) hH11 ?_
                  try simp only [Act.put, List.getElem_toArray, List.getElem_cons_zero, List.getElem_cons_succ, List.setIfInBounds_toArray, List.set_cons_zero, List.set_cons_succ]
                  refine wpAnyH_take (i := 27) (v := undef) rfl (by kernel_rfl) (by kernel_rfl) (by kernel_rfl) (fun _ _ _ h => h) (Or.inr ⟨by kernel_rfl, rfl⟩) hH11 ?_
                  try simp only [Act.put, List.getElem_toArray, List.getElem_cons_zero, List.getElem_cons_succ, List.setIfInBounds_toArray, List.set_cons_zero, List.set_cons_succ]
                  refine wpAnyH_take (i := 28) (v := undef) rfl (by kernel_rfl) (by kernel_rfl) (by kernel_rfl) (fun _ _ _ h => h) (Or.inr ⟨by kernel_rfl, rfl⟩) hH11 ?_
                  try simp only [Act.put, List.getElem_toArray, List.getElem_cons_zero, List.getElem_cons_succ, List.setIfInBounds_toArray, List.set_cons_zero, List.set_cons_succ]
                  refine wpAnyH_take (i := 29) (v := undef) rfl (by kernel_rfl) (by kernel_rfl) (by kernel_rfl) (fun _ _ _ h => h) (Or.inr ⟨by kernel_rfl, rfl⟩) hH11 ?_
                  try simp only [Act.put, List.getElem_toArray, List.getElem_cons_zero, List.getElem_cons_succ, List.setIfInBounds_toArray, List.set_cons_zero, List.set_cons_succ]
                  refine wpAnyH_take (i := 30) (v := undef) rfl (by kernel_rfl) (by kernel_rfl) (by kernel_rfl) (fun _ _ _ h => h) (Or.inr ⟨by kernel_rfl, rfl⟩) hH11 ?_
                  try simp only [Act.put, List.getElem_toArray, List.getElem_cons_zero, List.getElem_cons_succ, List.setIfInBounds_toArray, List.set_cons_zero, List.set_cons_succ]
                  refine wpAnyH_take (i := 31) (v := undef) rfl (by kernel_rfl) (by kernel_rfl) (by kernel_rfl) (fun _ _ _ h => h) (Or.inr ⟨by kernel_rfl, rfl⟩) hH11 ?_
                  try simp only [Act.put, List.getElem_toArray, List.getElem_cons_zero, List.getElem_cons_succ, List.setIfInBounds_toArray, List.set_cons_zero, List.set_cons_succ]
                  refine wpAnyH_take (i := 32) (v := undef) rfl (by kernel_rfl) (by kernel_rfl) (by kernel_rfl) (fun _ _ _ h => h) (Or.inr ⟨by kernel_rfl, rfl⟩) hH11 ?_
                  try simp only [Act.put, List.getElem_toArray, List.getElem_cons_zero, List.getElem_cons_succ, List.setIfInBounds_toArray, List.set_cons_zero, List.set_cons_succ]
                  refine wpAnyH_take (i := 33) (v := ?_) rfl (by kernel_rfl) (by kernel_rfl) (by kernel_rfl) (fun _ _ _ h => h) (Or.inl ⟨by kernel_rfl, ?_⟩) hH11 ?_
                  rotate_left 1
                  · intro w hSw
                    go_simp
                    try with_reducible rfl
                  try simp only [Act.put, List.getElem_toArray, List.getElem_cons_zero, List.getElem_cons_succ, List.setIfInBounds_toArray, List.set_cons_zero, List.set_cons_succ]
                  refine wpAnyH_done (by kernel_rfl) ?_ _
                  have HH := Lib.hid hH11
                  clear hH11
                  go_wp2_with fail
                  refine Met.intro ?_
                  go_step
                  (repeat apply Exists.intro)
                  refine ⟨?rel, ?fr⟩
                  case fr =>
                    simp only [hsl]
                    rfl
                  case rel => exact ⟨rfl, HH.out⟩
                exact AllReadyH.nil
              exact AllReadyH.nil
            exact AllReadyH.nil
          exact AllReadyH.nil
        | false =>
          have hr : RES = v2 := by rw [HRES.out, if_pos h32, if_neg hz]; rfl
          subst hr
          clear h32 HRES hz
          refine wp_region_held_drew (S := fun w' => Below w9.heap.size w9 w') (by kernel_rfl) ((Below.refl _ _).drew) (fun hH0 => ?_)
          obtain ⟨W0, hW0⟩ : ∃ W, W = w9.drew := ⟨_, rfl⟩
          rw [← hW0] at hH0 ⊢
          clear hW0
          refine wpAnyH_take (i := 0) (v := ?_) rfl (by kernel_rfl) (by kernel_rfl) (by kernel_rfl) (fun _ _ _ h => h) (Or.inl ⟨by kernel_rfl, ?_⟩) hH0 ?_
          rotate_left 1
          · intro w hSw
            go_simp
            try with_reducible rfl
          try simp only [Act.put, List.getElem_toArray, List.getElem_cons_zero, List.getElem_cons_succ, List.setIfInBounds_toArray, List.set_cons_zero, List.set_cons_succ]
          refine wpAnyH_take (i := 1) (v := ?_) rfl (by kernel_rfl) (by kernel_rfl) (by kernel_rfl) (fun _ _ _ h => h) (Or.inl ⟨by kernel_rfl, ?_⟩) hH0 ?_
          rotate_left 1
          · intro w hSw
            go_simp
            try with_reducible rfl
          try simp only [Act.put, List.getElem_toArray, List.getElem_cons_zero, List.getElem_cons_succ, List.setIfInBounds_toArray, List.set_cons_zero, List.set_cons_succ]
          refine wpAnyH_take (i := 2) (v := ?_) rfl (by kernel_rfl) (by kernel_rfl) (by kernel_rfl) (fun _ _ _ h => h) (Or.inl ⟨by kernel_rfl, ?_⟩) hH0 ?_
          rotate_left 1
          · intro w hSw
            go_simp
            try with_reducible rfl
          try simp only [Act.put, List.getElem_toArray, List.getElem_cons_zero, List.getElem_cons_succ, List.setIfInBounds_toArray, List.set_cons_zero, List.set_cons_succ]
          refine wpAnyH_take (i := 3) (v := ?_) rfl (by kernel_rfl) (by kernel_rfl) (by kernel_rfl) (fun _ _ _ h => h) (Or.inl ⟨by kernel_rfl, ?_⟩) hH0 ?_
          rotate_left 1
          · intro w hSw
            go_simp
            try with_reducible rfl
          try simp only [Act.put, List.getElem_toArray, List.getElem_cons_zero, List.getElem_cons_succ, List.setIfInBounds_toArray, List.set_cons_zero, List.set_cons_succ]
          refine wpAnyH_take (i := 4) (v := ?_) rfl (by kernel_rfl) (by kernel_rfl) (by kernel_rfl) (fun _ _ _ h => h) (Or.inl ⟨by kernel_rfl, ?_⟩) hH0 ?_
          rotate_left 1
          · intro w hSw
            go_simp
            try with_reducible rfl
          try simp only [Act.put, List.getElem_toArray, List.getElem_cons_zero, List.getElem_cons_succ, List.setIfInBounds_toArray, List.set_cons_zero, List.set_cons_succ]
          refine wpAnyH_take (i := 5) (v := ?_) rfl (by kernel_rfl) (by kernel_rfl) (by kernel_rfl) (fun _ _ _ h => h) (Or.inl ⟨by kernel_rfl, ?_⟩) hH0 ?_
          rotate_left 1
          · intro w hSw
            go_simp
            try with_reducible rfl
          try simp only [Act.put, List.getElem_toArray, List.getElem_cons_zero, List.getElem_cons_succ, List.setIfInBounds_toArray, List.set_cons_zero, List.set_cons_succ]
          refine wpAnyH_take (i := 6) (v := ?_) rfl (by kernel_rfl) (by kernel_rfl) (by kernel_rfl) (fun _ _ _ h => h) (Or.inl ⟨by kernel_rfl, ?_⟩) hH0 ?_
          rotate_left 1
          · intro w hSw
            go_simp
            try with_reducible rfl
          try simp only [Act.put, List.getElem_toArray, List.getElem_cons_zero, List.getElem_cons_succ, List.setIfInBounds_toArray, List.set_cons_zero, List.set_cons_succ]
          refine wpAnyH_take (i := 7) (v := ?_) rfl (by kernel_rfl) (by kernel_rfl) (by kernel_rfl) (fun _ _ _ h => h) (Or.inl ⟨by kernel_rfl, ?_⟩) hH0 ?_
          rotate_left 1
          · intro w hSw
            go_simp
            try with_reducible rfl
          try simp only [Act.put, List.getElem_toArray, List.getElem_cons_zero, List.getElem_cons_succ, List.setIfInBounds_toArray, List.set_cons_zero, List.set_cons_succ]
          refine wpAnyH_take (i := 8) (v := ?_) rfl (by kernel_rfl) (by kernel_rfl) (by kernel_rfl) (fun _ _ _ h => h) (Or.inl ⟨by kernel_rfl, ?_⟩) hH0 ?_
          rotate_left 1
          · intro w hSw
            go_simp
            try with_reducible rfl
          try simp only [Act.put, List.getElem_toArray, List.getElem_cons_zero, List.getElem_cons_succ, List.setIfInBounds_toArray, List.set_cons_zero, List.set_cons_succ]
          refine wpAnyH_take (i := 9) (v := ?_) rfl (by kernel_rfl) (by kernel_rfl) (by kernel_rfl) (fun _ _ _ h => h) (Or.inl ⟨by kernel_rfl, ?_⟩) hH0 ?_
          rotate_left 1
          · intro w hSw
            go_simp
            rw [K9.out w hSw]
            rfl
            try with_reducible rfl
          try simp only [Act.put, List.getElem_toArray, List.getElem_cons_zero, List.getElem_cons_succ, List.setIfInBounds_toArray, List.set_cons_zero, List.set_cons_succ]
          refine wpAnyH_take (i := 12) (v := ?_) rfl (by kernel_rfl) (by kernel_rfl) (by kernel_rfl) (fun _ _ _ h => h) (Or.inl ⟨by kernel_rfl, ?_⟩) hH0 ?_
          rotate_left 1
          · intro w hSw
            go_simp
            try with_reducible rfl
          try simp only [Act.put, List.getElem_toArray, List.getElem_cons_zero, List.getElem_cons_succ, List.setIfInBounds_toArray, List.set_cons_zero, List.set_cons_succ]
          refine wpAnyH_take (i := 13) (v := ?_) rfl (by kernel_rfl) (by kernel_rfl) (by kernel_rfl) (fun _ _ _ h => h) (Or.inl ⟨by kernel_rfl, ?_⟩) hH0 ?_
          rotate_left 1
          · intro w hSw
            go_simp
            try with_reducible rfl
          try simp only [Act.put, List.getElem_toArray, List.getElem_cons_zero, List.getElem_cons_succ, List.setIfInBounds_toArray, List.set_cons_zero, List.set_cons_succ]
          refine wpAnyH_ready (rs := [10, 14]) (by kernel_rfl) (by simp) ?_
          refine AllReadyH.cons rfl (fun K_ hK => ?_) ?_
          · go_simp
            have hb1 := (Below.refl W0.heap.size W0).alloc (Nat.le_refl _) (.cells #[.string ⟨(T1).toArray⟩] 9)
            have cb1 : (W0.alloc (.cells #[.string ⟨(T1).toArray⟩] 9)).cell? ⟨W0.heap.size, 0, none⟩ = some (.string ⟨(T1).toArray⟩) := by rw [Lib.cell_of_heap (heap_alloc_new W0 _)]; rfl
            obtain ⟨W1, hW1⟩ : ∃ W, W = W0.alloc (.cells #[.string ⟨(T1).toArray⟩] 9) := ⟨_, rfl⟩
            have hl1 : W0.heap.size < W1.heap.size := by rw [hW1]; simp
            rw [← hW1] at hb1 cb1 ⊢
            clear hW1
            refine hK.out _ _ ((hH0).trans (hb1.mono (hH0).size)) (fun hH1 => ?_)
            clear hK K_
            try simp only [Act.put, List.getElem_toArray, List.getElem_cons_zero, List.getElem_cons_succ, List.setIfInBounds_toArray, List.set_cons_zero, List.set_cons_succ]
            refine wpAnyH_ready (rs := [11, 14]) (by kernel_rfl) (by simp) ?_
            refine AllReadyH.cons rfl (fun K_ hK => ?_) ?_
            · go_simp
              refine (of_hash KK _ 1 (T1) _ (HL0.out.below hH1) ⟨_, rfl, cb1⟩ (by omega)).mono ?_
              rintro e W2 ⟨rfl, hb2⟩
              rw [← Hh1.out]
              have c10_2 := (hb2.cell (p := ⟨W0.heap.size, 0, none⟩) hl1).trans cb1
              have l10_2 : (⟨W0.heap.size, 0, none⟩ : Addr).block < W2.heap.size := Nat.lt_of_lt_of_le hl1 hb2.size
              refine hK.out _ _ ((hH1).trans (hb2.mono (hH1).size)) (fun hH2 => ?_)
              clear hK K_
              try simp only [Act.put, List.getElem_toArray, List.getElem_cons_zero, List.getElem_cons_succ, List.setIfInBounds_toArray, List.set_cons_zero, List.set_cons_succ]
              refine wpAnyH_ready (rs := [14]) (by kernel_rfl) (by simp) ?_
              refine AllReadyH.cons rfl (fun K_ hK => ?_) ?_
              · go_simp
                have hb3 := (Below.refl W2.heap.size W2).alloc (Nat.le_refl _) (.cells #[.string ⟨(T0).toArray⟩] 9)
                have cb3 : (W2.alloc (.cells #[.string ⟨(T0).toArray⟩] 9)).cell? ⟨W2.heap.size, 0, none⟩ = some (.string ⟨(T0).toArray⟩) := by rw [Lib.cell_of_heap (heap_alloc_new W2 _)]; rfl
                obtain ⟨W3, hW3⟩ : ∃ W, W = W2.alloc (.cells #[.string ⟨(T0).toArray⟩] 9) := ⟨_, rfl⟩
                have hl3 : W2.heap.size < W3.heap.size := by rw [hW3]; simp
                rw [← hW3] at hb3 cb3 ⊢
                clear hW3
                have c10_3 := (hb3.cell (p := ⟨W0.heap.size, 0, none⟩) l10_2).trans c10_2
                have l10_3 : (⟨W0.heap.size, 0, none⟩ : Addr).block < W3.heap.size := Nat.lt_of_lt_of_le l10_2 hb3.size
                refine hK.out _ _ ((hH2).trans (hb3.mono (hH2).size)) (fun hH3 => ?_)
                clear hK K_
                try simp only [Act.put, List.getElem_toArray, List.getElem_cons_zero, List.getElem_cons_succ, List.setIfInBounds_toArray, List.set_cons_zero, List.set_cons_succ]
                refine wpAnyH_ready (rs := [15]) (by kernel_rfl) (by simp) ?_
                refine AllReadyH.cons rfl (fun K_ hK => ?_) ?_
                · go_simp
                  refine (of_hash KK _ 1 (T0) _ (HL0.out.below hH3) ⟨_, rfl, cb3⟩ (by omega)).mono ?_
                  rintro e W4 ⟨rfl, hb4⟩
                  rw [← Hh0.out]
                  have c10_4 := (hb4.cell (p := ⟨W0.heap.size, 0, none⟩) l10_3).trans c10_3
                  have l10_4 : (⟨W0.heap.size, 0, none⟩ : Addr).block < W4.heap.size := Nat.lt_of_lt_of_le l10_3 hb4.size
                  have c14_4 := (hb4.cell (p := ⟨W2.heap.size, 0, none⟩) hl3).trans cb3
                  have l14_4 : (⟨W2.heap.size, 0, none⟩ : Addr).block < W4.heap.size := Nat.lt_of_lt_of_le hl3 hb4.size
                  refine hK.out _ _ ((hH3).trans (hb4.mono (hH3).size)) (fun hH4 => ?_)
                  clear hK K_
                  try simp only [Act.put, List.getElem_toArray, List.getElem_cons_zero, List.getElem_cons_succ, List.setIfInBounds_toArray, List.set_cons_zero, List.set_cons_succ]
                  refine wpAnyH_take (i := 16) (v := ?_) rfl (by kernel_rfl) (by kernel_rfl) (by kernel_rfl) (fun _ _ _ h => h) (Or.inl ⟨by kernel_rfl, ?_⟩) hH4 ?_
                  rotate_left 1
                  · intro w hSw
                    go_simp
                    try with_reducible rfl
                  try simp only [Act.put, List.getElem_toArray, List.getElem_cons_zero, List.getElem_cons_succ, List.setIfInBounds_toArray, List.set_cons_zero, List.set_cons_succ]
                  refine wpAnyH_take (i := 17) (v := ?_) rfl (by kernel_rfl) (by kernel_rfl) (by kernel_rfl) (fun _ _ _ h => h) (Or.inl ⟨by kernel_rfl, ?_⟩) hH4 ?_
                  rotate_left 1
                  · intro w hSw
                    go_simp
                    try with_reducible rfl
                  try simp only [Act.put, List.getElem_toArray, List.getElem_cons_zero, List.getElem_cons_succ, List.setIfInBounds_toArray, List.set_cons_zero, List.set_cons_succ]
                  refine wpAnyH_take (i := 18) (v := ?_) rfl (by kernel_rfl) (by kernel_rfl) (by kernel_rfl) (fun _ _ _ h => h) (Or.inl ⟨by kernel_rfl, ?_⟩) hH4 ?_
                  rotate_left 1
                  · intro w hSw
                    go_simp
                    try with_reducible rfl
                  try simp only [Act.put, List.getElem_toArray, List.getElem_cons_zero, List.getElem_cons_succ, List.setIfInBounds_toArray, List.set_cons_zero, List.set_cons_succ]
                  refine wpAnyH_take (i := 19) (v := ?_) rfl (by kernel_rfl) (by kernel_rfl) (by kernel_rfl) (fun _ _ _ h => h) (Or.inl ⟨by kernel_rfl, ?_⟩) hH4 ?_
                  rotate_left 1
                  · intro w hSw
                    go_simp
                    try with_reducible rfl
                  try simp only [Act.put, List.getElem_toArray, List.getElem_cons_zero, List.getElem_cons_succ, List.setIfInBounds_toArray, List.set_cons_zero, List.set_cons_succ]
                  refine wpAnyH_take (i := 20) (v := ?_) rfl (by kernel_rfl) (by kernel_rfl) (by kernel_rfl) (fun _ _ _ h => h) (Or.inl ⟨by kernel_rfl, ?_⟩) hH4 ?_
                  rotate_left 1
                  · intro w hSw
                    go_simp
                    try with_reducible rfl
                  try simp only [Act.put, List.getElem_toArray, List.getElem_cons_zero, List.getElem_cons_succ, List.setIfInBounds_toArray, List.set_cons_zero, List.set_cons_succ]
                  refine wpAnyH_take (i := 21) (v := ?_) rfl (by kernel_rfl) (by kernel_rfl) (by kernel_rfl) (fun _ _ _ h => h) (Or.inl ⟨by kernel_rfl, ?_⟩) hH4 ?_
                  rotate_left 1
                  · intro w hSw
                    go_simp
                    try with_reducible rfl
                  try simp only [Act.put, List.getElem_toArray, List.getElem_cons_zero, List.getElem_cons_succ, List.setIfInBounds_toArray, List.set_cons_zero, List.set_cons_succ]
                  refine wpAnyH_take (i := 22) (v := ?_) rfl (by kernel_rfl) (by kernel_rfl) (by kernel_rfl) (fun _ _ _ h => h) (Or.inl ⟨by kernel_rfl, ?_⟩) hH4 ?_
                  rotate_left 1
                  · intro w hSw
                    go_simp
                    try with_reducible rfl
                  try simp only [Act.put, List.getElem_toArray, List.getElem_cons_zero, List.getElem_cons_succ, List.setIfInBounds_toArray, List.set_cons_zero, List.set_cons_succ]
                  refine wpAnyH_take (i := 23) (v := ?_) rfl (by kernel_rfl) (by kernel_rfl) (by kernel_rfl) (fun _ _ _ h => h) (Or.inl ⟨by kernel_rfl, ?_⟩) hH4 ?_
                  rotate_left 1
                  · intro w hSw
                    go_simp
                    try with_reducible rfl
                  try simp only [Act.put, List.getElem_toArray, List.getElem_cons_zero, List.getElem_cons_succ, List.setIfInBounds_toArray, List.set_cons_zero, List.set_cons_succ]
                  refine wpAnyH_take (i := 24) (v := ?_) rfl (by kernel_rfl) (by kernel_rfl) (by kernel_rfl) (fun _ _ _ h => h) (Or.inl ⟨by kernel_rfl, ?_⟩) hH4 ?_
                  rotate_left 1
                  · intro w hSw
                    go_simp
                    try with_reducible rfl
                  try simp only [Act.put, List.getElem_toArray, List.getElem_cons_zero, List.getElem_cons_succ, List.setIfInBounds_toArray, List.set_cons_zero, List.set_cons_succ]
                  refine wpAnyH_take (i := 27) (v := ?_) rfl (by kernel_rfl) (by kernel_rfl) (by kernel_rfl) (fun _ _ _ h => h) (Or.inl ⟨by kernel_rfl, ?_⟩) hH4 ?_
                  rotate_left 1
                  · intro w hSw
                    go_simp
                    try with_reducible rfl
                  try simp only [Act.put, List.getElem_toArray, List.getElem_cons_zero, List.getElem_cons_succ, List.setIfInBounds_toArray, List.set_cons_zero, List.set_cons_succ]
                  refine wpAnyH_take (i := 28) (v := ?_) rfl (by kernel_rfl) (by kernel_rfl) (by kernel_rfl) (fun _ _ _ h => h) (Or.inl ⟨by kernel_rfl, ?_⟩) hH4 ?_
                  rotate_left 1
                  · intro w hSw
                    go_simp
                    try with_reducible rfl
                  try simp only [Act.put, List.getElem_toArray, List.getElem_cons_zero, List.getElem_cons_succ, List.setIfInBounds_toArray, List.set_cons_zero, List.set_cons_succ]
                  refine wpAnyH_ready (rs := [25, 29]) (by kernel_rfl) (by simp) ?_
                  refine AllReadyH.cons rfl (fun K_ hK => ?_) ?_
                  · go_simp
                    have hb5 := (Below.refl W4.heap.size W4).alloc (Nat.le_refl _) (.cells #[.string ⟨(T2).toArray⟩] 9)
                    have cb5 : (W4.alloc (.cells #[.string ⟨(T2).toArray⟩] 9)).cell? ⟨W4.heap.size, 0, none⟩ = some (.string ⟨(T2).toArray⟩) := by rw [Lib.cell_of_heap (heap_alloc_new W4 _)]; rfl
                    obtain ⟨W5, hW5⟩ : ∃ W, W = W4.alloc (.cells #[.string ⟨(T2).toArray⟩] 9) := ⟨_, rfl⟩
                    have hl5 : W4.heap.size < W5.heap.size := by rw [hW5]; simp
                    rw [← hW5] at hb5 cb5 ⊢
                    clear hW5
                    have c10_5 := (hb5.cell (p := ⟨W0.heap.size, 0, none⟩) l10_4).trans c10_4
                    have l10_5 : (⟨W0.heap.size, 0, none⟩ : Addr).block < W5.heap.size := Nat.lt_of_lt_of_le l10_4 hb5.size
                    have c14_5 := (hb5.cell (p := ⟨W2.heap.size, 0, none⟩) l14_4).trans c14_4
                    have l14_5 : (⟨W2.heap.size, 0, none⟩ : Addr).block < W5.heap.size := Nat.lt_of_lt_of_le l14_4 hb5.size
                    refine hK.out _ _ ((hH4).trans (hb5.mono (hH4).size)) (fun hH5 => ?_)
                    clear hK K_
                    try simp only [Act.put, List.getElem_toArray, List.getElem_cons_zero, List.getElem_cons_succ, List.setIfInBounds_toArray, List.set_cons_zero, List.set_cons_succ]
                    refine wpAnyH_ready (rs := [26, 29]) (by kernel_rfl) (by simp) ?_
                    refine AllReadyH.cons rfl (fun K_ hK => ?_) ?_
                    · go_simp
                      refine (of_hash KK _ 1 (T2) _ (HL0.out.below hH5) ⟨_, rfl, cb5⟩ (by omega)).mono ?_
                      rintro e W6 ⟨rfl, hb6⟩
                      rw [← Hh2.out]
                      have c10_6 := (hb6.cell (p := ⟨W0.heap.size, 0, none⟩) l10_5).trans c10_5
                      have l10_6 : (⟨W0.heap.size, 0, none⟩ : Addr).block < W6.heap.size := Nat.lt_of_lt_of_le l10_5 hb6.size
                      have c14_6 := (hb6.cell (p := ⟨W2.heap.size, 0, none⟩) l14_5).trans c14_5
                      have l14_6 : (⟨W2.heap.size, 0, none⟩ : Addr).block < W6.heap.size := Nat.lt_of_lt_of_le l14_5 hb6.size
                      have c25_6 := (hb6.cell (p := ⟨W4.heap.size, 0, none⟩) hl5).trans cb5
                      have l25_6 : (⟨W4.heap.size, 0, none⟩ : Addr).block < W6.heap.size := Nat.lt_of_lt_of_le hl5 hb6.size
                      refine hK.out _ _ ((hH5).trans (hb6.mono (hH5).size)) (fun hH6 => ?_)
                      clear hK K_
                      try simp only [Act.put, List.getElem_toArray, List.getElem_cons_zero, List.getElem_cons_succ, List.setIfInBounds_toArray, List.set_cons_zero, List.set_cons_succ]
                      refine wpAnyH_ready (rs := [29]) (by kernel_rfl) (by simp) ?_
                      refine AllReadyH.cons rfl (fun K_ hK => ?_) ?_
                      · go_simp
                        have hb7 := (Below.refl W6.heap.size W6).alloc (Nat.le_refl _) (.cells #[.string ⟨(T0).toArray⟩] 9)
                        have cb7 : (W6.alloc (.cells #[.string ⟨(T0).toArray⟩] 9)).cell? ⟨W6.heap.size, 0, none⟩ = some (.string ⟨(T0).toArray⟩) := by rw [Lib.cell_of_heap (heap_alloc_new W6 _)]; rfl
                        obtain ⟨W7, hW7⟩ : ∃ W, W = W6.alloc (.cells #[.string ⟨(T0).toArray⟩] 9) := ⟨_, rfl⟩
                        have hl7 : W6.heap.size < W7.heap.size := by rw [hW7]; simp
                        rw [← hW7] at hb7 cb7 ⊢
                        clear hW7
                        have c10_7 := (hb7.cell (p := ⟨W0.heap.size, 0, none⟩) l10_6).trans c10_6
                        have l10_7 : (⟨W0.heap.size, 0, none⟩ : Addr).block < W7.heap.size := Nat.lt_of_lt_of_le l10_6 hb7.size
                        have c14_7 := (hb7.cell (p := ⟨W2.heap.size, 0, none⟩) l14_6).trans c14_6
                        have l14_7 : (⟨W2.heap.size, 0, none⟩ : Addr).block < W7.heap.size := Nat.lt_of_lt_of_le l14_6 hb7.size
                        have c25_7 := (hb7.cell (p := ⟨W4.heap.size, 0, none⟩) l25_6).trans c25_6
                        have l25_7 : (⟨W4.heap.size, 0, none⟩ : Addr).block < W7.heap.size := Nat.lt_of_lt_of_le l25_6 hb7.size
                        refine hK.out _ _ ((hH6).trans (hb7.mono (hH6).size)) (fun hH7 => ?_)
                        clear hK K_
                        try simp only [Act.put, List.getElem_toArray, List.getElem_cons_zero, List.getElem_cons_succ, List.setIfInBounds_toArray, List.set_cons_zero, List.set_cons_succ]
                        refine wpAnyH_ready (rs := [30]) (by kernel_rfl) (by simp) ?_
                        refine AllReadyH.cons rfl (fun K_ hK => ?_) ?_
                        · go_simp
                          refine (of_hash KK _ 1 (T0) _ (HL0.out.below hH7) ⟨_, rfl, cb7⟩ (by omega)).mono ?_
                          rintro e W8 ⟨rfl, hb8⟩
                          rw [← Hh0.out]
                          have c10_8 := (hb8.cell (p := ⟨W0.heap.size, 0, none⟩) l10_7).trans c10_7
                          have l10_8 : (⟨W0.heap.size, 0, none⟩ : Addr).block < W8.heap.size := Nat.lt_of_lt_of_le l10_7 hb8.size
                          have c14_8 := (hb8.cell (p := ⟨W2.heap.size, 0, none⟩) l14_7).trans c14_7
                          have l14_8 : (⟨W2.heap.size, 0, none⟩ : Addr).block < W8.heap.size := Nat.lt_of_lt_of_le l14_7 hb8.size
                          have c25_8 := (hb8.cell (p := ⟨W4.heap.size, 0, none⟩) l25_7).trans c25_7
                          have l25_8 : (⟨W4.heap.size, 0, none⟩ : Addr).block < W8.heap.size := Nat.lt_of_lt_of_le l25_7 hb8.size
                          have c29_8 := (hb8.cell (p := ⟨W6.heap.size, 0, none⟩) hl7).trans cb7
                          have l29_8 : (⟨W6.heap.size, 0, none⟩ : Addr).block < W8.heap.size := Nat.lt_of_lt_of_le hl7 hb8.size
                          refine hK.out _ _ ((hH7).trans (hb8.mono (hH7).size)) (fun hH8 => ?_)
                          clear hK K_
                          try simp only [Act.put, List.getElem_toArray, List.getElem_cons_zero, List.getElem_cons_succ, List.setIfInBounds_toArray, List.set_cons_zero, List.set_cons_succ]
                          refine wpAnyH_take (i := 31) (v := ?_) rfl (by kernel_rfl) (by kernel_rfl) (by kernel_rfl) (fun _ _ _ h => h) (Or.inl ⟨by kernel_rfl, ?_⟩) hH8 ?_
                          rotate_left 1
                          · intro w hSw
                            go_simp
                            try with_reducible rfl
                          try simp only [Act.put, List.getElem_toArray, List.getElem_cons_zero, List.getElem_cons_succ, List.setIfInBounds_toArray, List.set_cons_zero, List.set_cons_succ]
                          refine wpAnyH_take (i := 32) (v := ?_) rfl (by kernel_rfl) (by kernel_rfl) (by kernel_rfl) (fun _ _ _ h => h) (Or.inl ⟨by kernel_rfl, ?_⟩) hH8 ?_
                          rotate_left 1
                          · intro w hSw
                            go_simp
                            try with_reducible rfl
                          try simp only [Act.put, List.getElem_toArray, List.getElem_cons_zero, List.getElem_cons_succ, List.setIfInBounds_toArray, List.set_cons_zero, List.set_cons_succ]
                          refine wpAnyH_take (i := 33) (v := ?_) rfl (by kernel_rfl) (by kernel_rfl) (by kernel_rfl) (fun _ _ _ h => h) (Or.inl ⟨by kernel_rfl, ?_⟩) hH8 ?_
                          rotate_left 1
                          · intro w hSw
                            go_simp
                            try with_reducible rfl
                          try simp only [Act.put, List.getElem_toArray, List.getElem_cons_zero, List.getElem_cons_succ, List.setIfInBounds_toArray, List.set_cons_zero, List.set_cons_succ]
                          refine wpAnyH_done (by kernel_rfl) ?_ _
                          have HH := Lib.hid hH8
                          clear hH8
                          go_wp2_with fail
                          refine Met.intro ?_
                          go_step
                          (repeat apply Exists.intro)
                          refine ⟨?rel, ?fr⟩
                          case fr =>
                            simp only [hsl]
                            rfl
                          case rel => exact ⟨rfl, HH.out⟩
                        exact AllReadyH.nil
                      exact AllReadyH.nil
                    refine AllReadyH.cons rfl (fun K_ hK => ?_) ?_
                    · go_simp
                      have hb9 := (Below.refl W5.heap.size W5).alloc (Nat.le_refl _) (.cells #[.string ⟨(T0).toArray⟩] 9)
                      have cb9 : (W5.alloc (.cells #[.string ⟨(T0).toArray⟩] 9)).cell? ⟨W5.heap.size, 0, none⟩ = some (.string ⟨(T0).toArray⟩) := by rw [Lib.cell_of_heap (heap_alloc_new W5 _)]; rfl
                      obtain ⟨W9, hW9⟩ : ∃ W, W = W5.alloc (.cells #[.string ⟨(T0).toArray⟩] 9) := ⟨_, rfl⟩
                      have hl9 : W5.heap.size < W9.heap.size := by rw [hW9]; simp
                      rw [← hW9] at hb9 cb9 ⊢
                      clear hW9
                      have c10_9 := (hb9.cell (p := ⟨W0.heap.size, 0, none⟩) l10_5).trans c10_5
                      have l10_9 : (⟨W0.heap.size, 0, none⟩ : Addr).block < W9.heap.size := Nat.lt_of_lt_of_le l10_5 hb9.size
                      have c14_9 := (hb9.cell (p := ⟨W2.heap.size, 0, none⟩) l14_5).trans c14_5
                      have l14_9 : (⟨W2.heap.size, 0, none⟩ : Addr).block < W9.heap.size := Nat.lt_of_lt_of_le l14_5 hb9.size
                      have c25_9 := (hb9.cell (p := ⟨W4.heap.size, 0, none⟩) hl5).trans cb5
                      have l25_9 : (⟨W4.heap.size, 0, none⟩ : Addr).block < W9.heap.size := Nat.lt_of_lt_of_le hl5 hb9.size
                      refine hK.out _ _ ((hH5).trans (hb9.mono (hH5).size)) (fun hH9 => ?_)
                      clear hK K_
                      try simp only [Act.put, List.getElem_toArray, List.getElem_cons_zero, List.getElem_cons_succ, List.setIfInBounds_toArray, List.set_cons_zero, List.set_cons_succ]
                      refine wpAnyH_ready (rs := [26]) (by kernel_rfl) (by simp) ?_
                      refine AllReadyH.cons rfl (fun K_ hK => ?_) ?_
                      · go_simp
                        refine (of_hash KK _ 1 (T2) _ (HL0.out.below hH9) ⟨_, rfl, c25_9⟩ (by omega)).mono ?_
                        rintro e W10 ⟨rfl, hb10⟩
                        rw [← Hh2.out]
                        have c10_10 := (hb10.cell (p := ⟨W0.heap.size, 0, none⟩) l10_9).trans c10_9
                        have l10_10 : (⟨W0.heap.size, 0, none⟩ : Addr).block < W10.heap.size := Nat.lt_of_lt_of_le l10_9 hb10.size
                        have c14_10 := (hb10.cell (p := ⟨W2.heap.size, 0, none⟩) l14_9).trans c14_9
                        have l14_10 : (⟨W2.heap.size, 0, none⟩ : Addr).block < W10.heap.size := Nat.lt_of_lt_of_le l14_9 hb10.size
                        have c25_10 := (hb10.cell (p := ⟨W4.heap.size, 0, none⟩) l25_9).trans c25_9
                        have l25_10 : (⟨W4.heap.size, 0, none⟩ : Addr).block < W10.heap.size := Nat.lt_of_lt_of_le l25_9 hb10.size
                        have c29_10 := (hb10.cell (p := ⟨W5.heap.size, 0, none⟩) hl9).trans cb9
                        have l29_10 : (⟨W5.heap.size, 0, none⟩ : Addr).block < W10.heap.size := Nat.lt_of_lt_of_le hl9 hb10.size
                        refine hK.out _ _ ((hH9).trans (hb10.mono (hH9).size)) (fun hH10 => ?_)
                        clear hK K_
                        try simp only [Act.put, List.getElem_toArray, List.getElem_cons_zero, List.getElem_cons_succ, List.setIfInBounds_toArray, List.set_cons_zero, List.set_cons_succ]
                        refine wpAnyH_ready (rs := [30]) (by kernel_rfl) (by simp) ?_
                        refine AllReadyH.cons rfl (fun K_ hK => ?_) ?_
                        · go_simp
                          refine (of_hash KK _ 1 (T0) _ (HL0.out.below hH10) ⟨_, rfl, c29_10⟩ (by omega)).mono ?_
                          rintro e W11 ⟨rfl, hb11⟩
                          rw [← Hh0.out]
                          have c10_11 := (hb11.cell (p := ⟨W0.heap.size, 0, none⟩) l10_10).trans c10_10
                          have l10_11 : (⟨W0.heap.size, 0, none⟩ : Addr).block < W11.heap.size := Nat.lt_of_lt_of_le l10_10 hb11.size
                          have c14_11 := (hb11.cell (p := ⟨W2.heap.size, 0, none⟩) l14_10).trans c14_10
                          have l14_11 : (⟨W2.heap.size, 0, none⟩ : Addr).block < W11.heap.size := Nat.lt_of_lt_of_le l14_10 hb11.size
                          have c25_11 := (hb11.cell (p := ⟨W4.heap.size, 0, none⟩) l25_10).trans c25_10
                          have l25_11 : (⟨W4.heap.size, 0, none⟩ : Addr).block < W11.heap.size := Nat.lt_of_lt_of_le l25_10 hb11.size
                          have c29_11 := (hb11.cell (p := ⟨W5.heap.size, 0, none⟩) l29_10).trans c29_10
                          have l29_11 : (⟨W5.heap.size, 0, none⟩ : Addr).block < W11.heap.size := Nat.lt_of_lt_of_le l29_10 hb11.size
                          refine hK.out _ _ ((hH10).trans (hb11.mono (hH10).size)) (fun hH11 => ?_)
                          clear hK K_
                          try simp only [Act.put, List.getElem_toArray, List.getElem_cons_zero, List.getElem_cons_succ, List.setIfInBounds_toArray, List.set_cons_zero, List.set_cons_succ]
                          refine wpAnyH_take (i := 31) (v := ?_) rfl (by kernel_rfl) (by kernel_rfl) (by kernel_rfl) (fun _ _ _ h => h) (Or.inl ⟨by kernel_rfl, ?_⟩) hH11 ?_
                          rotate_left 1
                          · intro w hSw
                            go_simp
                            try with_reducible rfl
                          try simp only [Act.put, List.getElem_toArray, List.getElem_cons_zero, List.getElem_cons_succ, List.setIfInBounds_toArray, List.set_cons_zero, List.set_cons_succ]
                          refine wpAnyH_take (i := 32) (v := ?_) rfl (by kernel_rfl) (by kernel_rfl) (by kernel_rfl) (fun _ _ _ h => h) (Or.inl ⟨by kernel_rfl, ?_⟩) hH11 ?_
                          rotate_left 1
                          · intro w hSw
                            go_simp
                            try with_reducible rfl
                          try simp only [Act.put, List.getElem_toArray, List.getElem_cons_zero, List.getElem_cons_succ, List.setIfInBounds_toArray, List.set_cons_zero, List.set_cons_succ]
                          refine wpAnyH_take (i := 33) (v := ?_) rfl (by kernel_rfl) (by kernel_rfl) (by kernel_rfl) (fun _ _ _ h => h) (Or.inl ⟨by kernel_rfl, ?_⟩) hH11 ?_
                          rotate_left 1
                          · intro w hSw
                            go_simp
                            try with_reducible rfl
                          try simp only [Act.put, List.getElem_toArray, List.getElem_cons_zero, List.getElem_cons_succ, List.setIfInBounds_toArray, List.set_cons_zero, List.set_cons_succ]
                          refine wpAnyH_done (by kernel_rfl) ?_ _
                          have HH := Lib.hid hH11
                          clear hH11
                          go_wp2_with fail
                          refine Met.intro ?_
                          go_step
                          (repeat apply Exists.intro)
                          refine ⟨?rel, ?fr⟩
                          case fr =>
                            simp only [hsl]
                            rfl
                          case rel => exact ⟨rfl, HH.out⟩
                        exact AllReadyH.nil
                      exact AllReadyH.nil
                    exact AllReadyH.nil
                  refine AllReadyH.cons rfl (fun K_ hK => ?_) ?_
                  · go_simp
                    have hb12 := (Below.refl W4.heap.size W4).alloc (Nat.le_refl _) (.cells #[.string ⟨(T0).toArray⟩] 9)
                    have cb12 : (W4.alloc (.cells #[.string ⟨(T0).toArray⟩] 9)).cell? ⟨W4.heap.size, 0, none⟩ = some (.string ⟨(T0).toArray⟩) := by rw [Lib.cell_of_heap (heap_alloc_new W4 _)]; rfl
                    obtain ⟨W12, hW12⟩ : ∃ W, W = W4.alloc (.cells #[.string ⟨(T0).toArray⟩] 9) := ⟨_, rfl⟩
                    have hl12 : W4.heap.size < W12.heap.size := by rw [hW12]; simp
                    rw [← hW12] at hb12 cb12 ⊢
                    clear hW12
                    have c10_12 := (hb12.cell (p := ⟨W0.heap.size, 0, none⟩) l10_4).trans c10_4
                    have l10_12 : (⟨W0.heap.size, 0, none⟩ : Addr).block < W12.heap.size := Nat.lt_of_lt_of_le l10_4 hb12.size
                    have c14_12 := (hb12.cell (p := ⟨W2.heap.size, 0, none⟩) l14_4).trans c14_4
                    have l14_12 : (⟨W2.heap.size, 0, none⟩ : Addr).block < W12.heap.size := Nat.lt_of_lt_of_le l14_4 hb12.size
                    refine hK.out _ _ ((hH4).trans (hb12.mono (hH4).size)) (fun hH12 => ?_)
                    clear hK K_
                    try simp only [Act.put, List.getElem_toArray, List.getElem_cons_zero, List.getElem_cons_succ, List.setIfInBounds_toArray, List.set_cons_zero, List.set_cons_succ]
                    refine wpAnyH_ready (rs := [25]) (by kernel_rfl) (by simp) ?_
                    refine AllReadyH.cons rfl (fun K_ hK => ?_) ?_
                    · go_simp
                      have hb13 := (Below.refl W12.heap.size W12).alloc (Nat.le_refl _) (.cells #[.string ⟨(T2).toArray⟩] 9)
                      have cb13 : (W12.alloc (.cells #[.string ⟨(T2).toArray⟩] 9)).cell? ⟨W12.heap.size, 0, none⟩ = some (.string ⟨(T2).toArray⟩) := by rw [Lib.cell_of_heap (heap_alloc_new W12 _)]; rfl
                      obtain ⟨W13, hW13⟩ : ∃ W, W = W12.alloc (.cells #[.string ⟨(T2).toArray⟩] 9) := ⟨_, rfl⟩
                      have hl13 : W12.heap.size < W13.heap.size := by rw [hW13]; simp
                      rw [← hW13] at hb13 cb13 ⊢
                      clear hW13
                      have c10_13 := (hb13.cell (p := ⟨W0.heap.size, 0, none⟩) l10_12).trans c10_12
                      have l10_13 : (⟨W0.heap.size, 0, none⟩ : Addr).block < W13.heap.size := Nat.lt_of_lt_of_le l10_12 hb13.size
                      have c14_13 := (hb13.cell (p := ⟨W2.heap.size, 0, none⟩) l14_12).trans c14_12
                      have l14_13 : (⟨W2.heap.size, 0, none⟩ : Addr).block < W13.heap.size := Nat.lt_of_lt_of_le l14_12 hb13.size
                      have c29_13 := (hb13.cell (p := ⟨W4.heap.size, 0, none⟩) hl12).trans cb12
                      have l29_13 : (⟨W4.heap.size, 0, none⟩ : Addr).block < W13.heap.size := Nat.lt_of_lt_of_le hl12 hb13.size
                      refine hK.out _ _ ((hH12).trans (hb13.mono (hH12).size)) (fun hH13 => ?_)
                      clear hK K_
                      try simp only [Act.put, List.getElem_toArray, List.getElem_cons_zero, List.getElem_cons_succ, List.setIfInBounds_toArray, List.set_cons_zero, List.set_cons_succ]
                      refine wpAnyH_ready (rs := [26]) (by kernel_rfl) (by simp) ?_
                      refine AllReadyH.cons rfl (fun K_ hK => ?_) ?_
                      · go_simp
                        refine (of_hash KK _ 1 (T2) _ (HL0.out.below hH13) ⟨_, rfl, cb13⟩ (by omega)).mono ?_
                        rintro e W14 ⟨rfl, hb14⟩
                        rw [← Hh2.out]
                        have c10_14 := (hb14.cell (p := ⟨W0.heap.size, 0, none⟩) l10_13).trans c10_13
                        have l10_14 : (⟨W0.heap.size, 0, none⟩ : Addr).block < W14.heap.size := Nat.lt_of_lt_of_le l10_13 hb14.size
                        have c14_14 := (hb14.cell (p := ⟨W2.heap.size, 0, none⟩) l14_13).trans c14_13
                        have l14_14 : (⟨W2.heap.size, 0, none⟩ : Addr).block < W14.heap.size := Nat.lt_of_lt_of_le l14_13 hb14.size
                        have c29_14 := (hb14.cell (p := ⟨W4.heap.size, 0, none⟩) l29_13).trans c29_13
                        have l29_14 : (⟨W4.heap.size, 0, none⟩ : Addr).block < W14.heap.size := Nat.lt_of_lt_of_le l29_13 hb14.size
                        have c25_14 := (hb14.cell (p := ⟨W12.heap.size, 0, none⟩) hl13).trans cb13
                        have l25_14 : (⟨W12.heap.size, 0, none⟩ : Addr).block < W14.heap.size := Nat.lt_of_lt_of_le hl13 hb14.size
                        refine hK.out _ _ ((hH13).trans (hb14.mono (hH13).size)) (fun hH14 => ?_)
                        clear hK K_
                        try simp only [Act.put, List.getElem_toArray, List.getElem_cons_zero, List.getElem_cons_succ, List.setIfInBounds_toArray, List.set_cons_zero, List.set_cons_succ]
                        refine wpAnyH_ready (rs := [30]) (by kernel_rfl) (by simp) ?_
                        refine AllReadyH.cons rfl (fun K_ hK => ?_) ?_
                        · go_simp
                          refine (of_hash KK _ 1 (T0) _ (HL0.out.below hH14) ⟨_, rfl, c29_14⟩ (by omega)).mono ?_
                          rintro e W15 ⟨rfl, hb15⟩
                          rw [← Hh0.out]
                          have c10_15 := (hb15.cell (p := ⟨W0.heap.size, 0, none⟩) l10_14).trans c10_14
                          have l10_15 : (⟨W0.heap.size, 0, none⟩ : Addr).block < W15.heap.size := Nat.lt_of_lt_of_le l10_14 hb15.size
                          have c14_15 := (hb15.cell (p := ⟨W2.heap.size, 0, none⟩) l14_14).trans c14_14
                          have l14_15 : (⟨W2.heap.size, 0, none⟩ : Addr).block < W15.heap.size := Nat.lt_of_lt_of_le l14_14 hb15.size
                          have c29_15 := (hb15.cell (p := ⟨W4.heap.size, 0, none⟩) l29_14).trans c29_14
                          have l29_15 : (⟨W4.heap.size, 0, none⟩ : Addr).block < W15.heap.size := Nat.lt_of_lt_of_le l29_14 hb15.size
                          have c25_15 := (hb15.cell (p := ⟨W12.heap.size, 0, none⟩) l25_14).trans c25_14
                          have l25_15 : (⟨W12.heap.size, 0, none⟩ : Addr).block < W15.heap.size := Nat.lt_of_lt_of_le l25_14 hb15.size
                          refine hK.out _ _ ((hH14).trans (hb15.mono (hH14).size)) (fun hH15 => ?_)
                          clear hK K_
                          try simp only [Act.put, List.getElem_toArray, List.getElem_cons_zero, List.getElem_cons_succ, List.setIfInBounds_toArray, List.set_cons_zero, List.set_cons_succ]
                          refine wpAnyH_take (i := 31) (v := ?_) rfl (by kernel_rfl) (by kernel_rfl) (by kernel_rfl) (fun _ _ _ h => h) (Or.inl ⟨by kernel_rfl, ?_⟩) hH15 ?_
                          rotate_left 1
                          · intro w hSw
                            go_simp
                            try with_reducible rfl
                          try simp only [Act.put, List.getElem_toArray, List.getElem_cons_zero, List.getElem_cons_succ, List.setIfInBounds_toArray, List.set_cons_zero, List.set_cons_succ]
                          refine wpAnyH_take (i := 32) (v := ?_) rfl (by kernel_rfl) (by kernel_rfl) (by kernel_rfl) (fun _ _ _ h => h) (Or.inl ⟨by kernel_rfl, ?_⟩) hH15 ?_
                          rotate_left 1
                          · intro w hSw
                            go_simp
                            try with_reducible rfl
                          try simp only [Act.put, List.getElem_toArray, List.getElem_cons_zero, List.getElem_cons_succ, List.setIfInBounds_toArray, List.set_cons_zero, List.set_cons_succ]
                          refine wpAnyH_take (i := 33) (v := ?_) rfl (by kernel_rfl) (by kernel_rfl) (by kernel_rfl) (fun _ _ _ h => h) (Or.inl ⟨by kernel_rfl, ?_⟩) hH15 ?_
                          rotate_left 1
                          · intro w hSw
                            go_simp
                            try with_reducible rfl
                          try simp only [Act.put, List.getElem_toArray, List.getElem_cons_zero, List.getElem_cons_succ, List.setIfInBounds_toArray, List.set_cons_zero, List.set_cons_succ]
                          refine wpAnyH_done (by kernel_rfl) ?_ _
                          have HH := Lib.hid hH15
                          clear hH15
                          go_wp2_with fail
                          refine Met.intro ?_
                          go_step
                          (repeat apply Exists.intro)
                          refine ⟨?rel, ?fr⟩
                          case fr =>
                            simp only [hsl]
                            rfl
                          case rel => exact ⟨rfl, HH.out⟩
                        exact AllReadyH.nil
                      exact AllReadyH.nil
                    exact AllReadyH.nil
                  exact AllReadyH.nil
                exact AllReadyH.nil
              exact AllReadyH.nil
            refine AllReadyH.cons rfl (fun K_ hK => ?_) ?_
            · go_simp
              have hb16 := (Below.refl W1.heap.size W1).alloc (Nat.le_refl _) (.cells #[.string ⟨(T0).toArray⟩] 9)
              have cb16 : (W1.alloc (.cells #[.string ⟨(T0).toArray⟩] 9)).cell? ⟨W1.heap.size, 0, none⟩ = some (.string ⟨(T0).toArray⟩) := by rw [Lib.cell_of_heap (heap_alloc_new W1 _)]; rfl
              obtain ⟨W16, hW16⟩ : ∃ W, W = W1.alloc (.cells #[.string ⟨(T0).toArray⟩] 9) := ⟨_, rfl⟩
              have hl16 : W1.heap.size < W16.heap.size := by rw [hW16]; simp
              rw [← hW16] at hb16 cb16 ⊢
              clear hW16
              have c10_16 := (hb16.cell (p := ⟨W0.heap.size, 0, none⟩) hl1).trans cb1
              have l10_16 : (⟨W0.heap.size, 0, none⟩ : Addr).block < W16.heap.size := Nat.lt_of_lt_of_le hl1 hb16.size
              refine hK.out _ _ ((hH1).trans (hb16.mono (hH1).size)) (fun hH16 => ?_)
              clear hK K_
              try simp only [Act.put, List.getElem_toArray, List.getElem_cons_zero, List.getElem_cons_succ, List.setIfInBounds_toArray, List.set_cons_zero, List.set_cons_succ]
              refine wpAnyH_ready (rs := [11]) (by kernel_rfl) (by simp) ?_
              refine AllReadyH.cons rfl (fun K_ hK => ?_) ?_
              · go_simp
                refine (of_hash KK _ 1 (T1) _ (HL0.out.below hH16) ⟨_, rfl, c10_16⟩ (by omega)).mono ?_
                rintro e W17 ⟨rfl, hb17⟩
                rw [← Hh1.out]
                have c10_17 := (hb17.cell (p := ⟨W0.heap.size, 0, none⟩) l10_16).trans c10_16
                have l10_17 : (⟨W0.heap.size, 0, none⟩ : Addr).block < W17.heap.size := Nat.lt_of_lt_of_le l10_16 hb17.size
                have c14_17 := (hb17.cell (p := ⟨W1.heap.size, 0, none⟩) hl16).trans cb16
                have l14_17 : (⟨W1.heap.size, 0, none⟩ : Addr).block < W17.heap.size := Nat.lt_of_lt_of_le hl16 hb17.size
                refine hK.out _ _ ((hH16).trans (hb17.mono (hH16).size)) (fun hH17 => ?_)
                clear hK K_
                try simp only [Act.put, List.getElem_toArray, List.getElem_cons_zero, List.getElem_cons_succ, List.setIfInBounds_toArray, List.set_cons_zero, List.set_cons_succ]
                refine wpAnyH_ready (rs := [15]) (by kernel_rfl) (by simp) ?_
                refine AllReadyH.cons rfl (fun K_ hK => ?_) ?_
                · go_simp
                  refine (of_hash KK _ 1 (T0) _ (HL0.out.below hH17) ⟨_, rfl, c14_17⟩ (by omega)).mono ?_
                  rintro e W18 ⟨rfl, hb18⟩
                  rw [← Hh0.out]
                  have c10_18 := (hb18.cell (p := ⟨W0.heap.size, 0, none⟩) l10_17).trans c10_17
                  have l10_18 : (⟨W0.heap.size, 0, none⟩ : Addr).block < W18.heap.size := Nat.lt_of_lt_of_le l10_17 hb18.size
                  have c14_18 := (hb18.cell (p := ⟨W1.heap.size, 0, none⟩) l14_17).trans c14_17
                  have l14_18 : (⟨W1.heap.size, 0, none⟩ : Addr).block < W18.heap.size := Nat.lt_of_lt_of_le l14_17 hb18.size
                  refine hK.out _ _ ((hH17).trans (hb18.mono (hH17).size)) (fun hH18 => ?_)
                  clear hK K_
                  try simp only [Act.put, List.getElem_toArray, List.getElem_cons_zero, List.getElem_cons_succ, List.setIfInBounds_toArray, List.set_cons_zero, List.set_cons_succ]
                  refine wpAnyH_take (i := 16) (v := ?_) rfl (by kernel_rfl) (by kernel_rfl) (by kernel_rfl) (fun _ _ _ h => h) (Or.inl ⟨by kernel_rfl, ?_⟩) hH18 ?_
                  rotate_left 1
                  · intro w hSw
                    go_simp
                    try with_reducible rfl
                  try simp only [Act.put, List.getElem_toArray, List.getElem_cons_zero, List.getElem_cons_succ, List.setIfInBounds_toArray, List.set_cons_zero, List.set_cons_succ]
                  refine wpAnyH_take (i := 17) (v := ?_) rfl (by kernel_rfl) (by kernel_rfl) (by kernel_rfl) (fun _ _ _ h => h) (Or.inl ⟨by kernel_rfl, ?_⟩) hH18 ?_
                  rotate_left 1
                  · intro w hSw
                    go_simp
                    try with_reducible rfl
                  try simp only [Act.put, List.getElem_toArray, List.getElem_cons_zero, List.getElem_cons_succ, List.setIfInBounds_toArray, List.set_cons_zero, List.set_cons_succ]
                  refine wpAnyH_take (i := 18) (v := ?_) rfl (by kernel_rfl) (by kernel_rfl) (by kernel_rfl) (fun _ _ _ h => h) (Or.inl ⟨by kernel_rfl, ?_⟩) hH18 ?_
                  rotate_left 1
                  · intro w hSw
                    go_simp
                    try with_reducible rfl
                  try simp only [Act.put, List.getElem_toArray, List.getElem_cons_zero, List.getElem_cons_succ, List.setIfInBounds_toArray, List.set_cons_zero, List.set_cons_succ]
                  refine wpAnyH_take (i := 19) (v := ?_) rfl (by kernel_rfl) (by kernel_rfl) (by kernel_rfl) (fun _ _ _ h => h) (Or.inl ⟨by kernel_rfl, ?_⟩) hH18 ?_
                  rotate_left 1
                  · intro w hSw
                    go_simp
                    try with_reducible rfl
                  try simp only [Act.put, List.getElem_toArray, List.getElem_cons_zero, List.getElem_cons_succ, List.setIfInBounds_toArray, List.set_cons_zero, List.set_cons_succ]
                  refine wpAnyH_take (i := 20) (v := ?_) rfl (by kernel_rfl) (by kernel_rfl) (by kernel_rfl) (fun _ _ _ h => h) (Or.inl ⟨by kernel_rfl, ?_⟩) hH18 ?_
                  rotate_left 1
                  · intro w hSw
                    go_simp
                    try with_reducible rfl
                  try simp only [Act.put, List.getElem_toArray, List.getElem_cons_zero, List.getElem_cons_succ, List.setIfInBounds_toArray, List.set_cons_zero, List.set_cons_succ]
                  refine wpAnyH_take (i := 21) (v := ?_) rfl (by kernel_rfl) (by kernel_rfl) (by kernel_rfl) (fun _ _ _ h => h) (Or.inl ⟨by kernel_rfl, ?_⟩) hH18 ?_
                  rotate_left 1
                  · intro w hSw
                    go_simp
                    try with_reducible rfl
                  try simp only [Act.put, List.getElem_toArray, List.getElem_cons_zero, List.getElem_cons_succ, List.setIfInBounds_toArray, List.set_cons_zero, List.set_cons_succ]
                  refine wpAnyH_take (i := 22) (v := ?_) rfl (by kernel_rfl) (by kernel_rfl) (by kernel_rfl) (fun _ _ _ h => h) (Or.inl ⟨by kernel_rfl, ?_⟩) hH18 ?_
                  rotate_left 1
                  · intro w hSw
                    go_simp
                    try with_reducible rfl
                  try simp only [Act.put, List.getElem_toArray, List.getElem_cons_zero, List.getElem_cons_succ, List.setIfInBounds_toArray, List.set_cons_zero, List.set_cons_succ]
                  refine wpAnyH_take (i := 23) (v := ?_) rfl (by kernel_rfl) (by kernel_rfl) (by kernel_rfl) (fun _ _ _ h => h) (Or.inl ⟨by kernel_rfl, ?_⟩) hH18 ?_
                  rotate_left 1
                  · intro w hSw
                    go_simp
                    try with_reducible rfl
                  try simp only [Act.put, List.getElem_toArray, List.getElem_cons_zero, List.getElem_cons_succ, List.setIfInBounds_toArray, List.set_cons_zero, List.set_cons_succ]
                  refine wpAnyH_take (i := 24) (v := ?_) rfl (by kernel_rfl) (by kernel_rfl) (by kernel_rfl) (fun _ _ _ h => h) (Or.inl ⟨by kernel_rfl, ?_⟩) hH18 ?_
                  rotate_left 1
                  · intro w hSw
                    go_simp
                    try with_reducible rfl
                  try simp only [Act.put, List.getElem_toArray, List.getElem_cons_zero, List.getElem_cons_succ, List.setIfInBounds_toArray, List.set_cons_zero, List.set_cons_succ]
                  refine wpAnyH_take (i := 27) (v := ?_) rfl (by kernel_rfl) (by kernel_rfl) (by kernel_rfl) (fun _ _ _ h => h) (Or.inl ⟨by kernel_rfl, ?_⟩) hH18 ?_
                  rotate_left 1
                  · intro w hSw
                    go_simp
                    try with_reducible rfl
                  try simp only [Act.put, List.getElem_toArray, List.getElem_cons_zero, List.getElem_cons_succ, List.setIfInBounds_toArray, List.set_cons_zero, List.set_cons_succ]
                  refine wpAnyH_take (i := 28) (v := ?_) rfl (by kernel_rfl) (by kernel_rfl) (by kernel_rfl) (fun _ _ _ h => h) (Or.inl ⟨by kernel_rfl, ?_⟩) hH18 ?_
                  rotate_left 1
                  · intro w hSw
                    go_simp
                    try with_reducible rfl
                  try simp only [Act.put, List.getElem_toArray, List.getElem_cons_zero, List.getElem_cons_succ, List.setIfInBounds_toArray, List.set_cons_zero, List.set_cons_succ]
                  refine wpAnyH_ready (rs := [25, 29]) (by kernel_rfl) (by simp) ?_
                  refine AllReadyH.cons rfl (fun K_ hK => ?_) ?_
                  · go_simp
                    have hb19 := (Below.refl W18.heap.size W18).alloc (Nat.le_refl _) (.cells #[.string ⟨(T2).toArray⟩] 9)
                    have cb19 : (W18.alloc (.cells #[.string ⟨(T2).toArray⟩] 9)).cell? ⟨W18.heap.size, 0, none⟩ = some (.string ⟨(T2).toArray⟩) := by rw [Lib.cell_of_heap (heap_alloc_new W18 _)]; rfl
                    obtain ⟨W19, hW19⟩ : ∃ W, W = W18.alloc (.cells #[.string ⟨(T2).toArray⟩] 9) := ⟨_, rfl⟩
                    have hl19 : W18.heap.size < W19.heap.size := by rw [hW19]; simp
                    rw [← hW19] at hb19 cb19 ⊢
                    clear hW19
                    have c10_19 := (hb19.cell (p := ⟨W0.heap.size, 0, none⟩) l10_18).trans c10_18
                    have l10_19 : (⟨W0.heap.size, 0, none⟩ : Addr).block < W19.heap.size := Nat.lt_of_lt_of_le l10_18 hb19.size
                    have c14_19 := (hb19.cell (p := ⟨W1.heap.size, 0, none⟩) l14_18).trans c14_18
                    have l14_19 : (⟨W1.heap.size, 0, none⟩ : Addr).block < W19.heap.size := Nat.lt_of_lt_of_le l14_18 hb19.size
                    refine hK.out _ _ ((hH18).trans (hb19.mono (hH18).size)) (fun hH19 => ?_)
                    clear hK K_
                    try simp only [Act.put, List.getElem_toArray, List.getElem_cons_zero, List.getElem_cons_succ, List.setIfInBounds_toArray, List.set_cons_zero, List.set_cons_succ]
                    refine wpAnyH_ready (rs := [26, 29]) (by kernel_rfl) (by simp) ?_
                    refine AllReadyH.cons rfl (fun K_ hK => ?_) ?_
                    · go_simp
                      refine (of_hash KK _ 1 (T2) _ (HL0.out.below hH19) ⟨_, rfl, cb19⟩ (by omega)).mono ?_
                      rintro e W20 ⟨rfl, hb20⟩
                      rw [← Hh2.out]
                      have c10_20 := (hb20.cell (p := ⟨W0.heap.size, 0, none⟩) l10_19).trans c10_19
                      have l10_20 : (⟨W0.heap.size, 0, none⟩ : Addr).block < W20.heap.size := Nat.lt_of_lt_of_le l10_19 hb20.size
                      have c14_20 := (hb20.cell (p := ⟨W1.heap.size, 0, none⟩) l14_19).trans c14_19
                      have l14_20 : (⟨W1.heap.size, 0, none⟩ : Addr).block < W20.heap.size := Nat.lt_of_lt_of_le l14_19 hb20.size
                      have c25_20 := (hb20.cell (p := ⟨W18.heap.size, 0, none⟩) hl19).trans cb19
                      have l25_20 : (⟨W18.heap.size, 0, none⟩ : Addr).block < W20.heap.size := Nat.lt_of_lt_of_le hl19 hb20.size
                      refine hK.out _ _ ((hH19).trans (hb20.mono (hH19).size)) (fun hH20 => ?_)
                      clear hK K_
                      try simp only [Act.put, List.getElem_toArray, List.getElem_cons_zero, List.getElem_cons_succ, List.setIfInBounds_toArray, List.set_cons_zero, List.set_cons_succ]
                      refine wpAnyH_ready (rs := [29]) (by kernel_rfl) (by simp) ?_
                      refine AllReadyH.cons rfl (fun K_ hK => ?_) ?_
                      · go_simp
                        have hb21 := (Below.refl W20.heap.size W20).alloc (Nat.le_refl _) (.cells #[.string ⟨(T0).toArray⟩] 9)
                        have cb21 : (W20.alloc (.cells #[.string ⟨(T0).toArray⟩] 9)).cell? ⟨W20.heap.size, 0, none⟩ = some (.string ⟨(T0).toArray⟩) := by rw [Lib.cell_of_heap (heap_alloc_new W20 _)]; rfl
                        obtain ⟨W21, hW21⟩ : ∃ W, W = W20.alloc (.cells #[.string ⟨(T0).toArray⟩] 9) := ⟨_, rfl⟩
                        have hl21 : W20.heap.size < W21.heap.size := by rw [hW21]; simp
                        rw [← hW21] at hb21 cb21 ⊢
                        clear hW21
                        have c10_21 := (hb21.cell (p := ⟨W0.heap.size, 0, none⟩) l10_20).trans c10_20
                        have l10_21 : (⟨W0.heap.size, 0, none⟩ : Addr).block < W21.heap.size := Nat.lt_of_lt_of_le l10_20 hb21.size
                        have c14_21 := (hb21.cell (p := ⟨W1.heap.size, 0, none⟩) l14_20).trans c14_20
                        have l14_21 : (⟨W1.heap.size, 0, none⟩ : Addr).block < W21.heap.size := Nat.lt_of_lt_of_le l14_20 hb21.size
                        have c25_21 := (hb21.cell (p := ⟨W18.heap.size, 0, none⟩) l25_20).trans c25_20
                        have l25_21 : (⟨W18.heap.size, 0, none⟩ : Addr).block < W21.heap.size := Nat.lt_of_lt_of_le l25_20 hb21.size
                        refine hK.out _ _ ((hH20).trans (hb21.mono (hH20).size)) (fun hH21 => ?_)
                        clear hK K_
                        try simp only [Act.put, List.getElem_toArray, List.getElem_cons_zero, List.getElem_cons_succ, List.setIfInBounds_toArray, List.set_cons_zero, List.set_cons_succ]
                        refine wpAnyH_ready (rs := [30]) (by kernel_rfl) (by simp) ?_
                        refine AllReadyH.cons rfl (fun K_ hK => ?_) ?_
                        · go_simp
                          refine (of_hash KK _ 1 (T0) _ (HL0.out.below hH21) ⟨_, rfl, cb21⟩ (by omega)).mono ?_
                          rintro e W22 ⟨rfl, hb22⟩
                          rw [← Hh0.out]
                          have c10_22 := (hb22.cell (p := ⟨W0.heap.size, 0, none⟩) l10_21).trans c10_21
                          have l10_22 : (⟨W0.heap.size, 0, none⟩ : Addr).block < W22.heap.size := Nat.lt_of_lt_of_le l10_21 hb22.size
                          have c14_22 := (hb22.cell (p := ⟨W1.heap.size, 0, none⟩) l14_21).trans c14_21
                          have l14_22 : (⟨W1.heap.size, 0, none⟩ : Addr).block < W22.heap.size := Nat.lt_of_lt_of_le l14_21 hb22.size
                          have c25_22 := (hb22.cell (p := ⟨W18.heap.size, 0, none⟩) l25_21).trans c25_21
                          have l25_22 : (⟨W18.heap.size, 0, none⟩ : Addr).block < W22.heap.size := Nat.lt_of_lt_of_le l25_21 hb22.size
                          have c29_22 := (hb22.cell (p := ⟨W20.heap.size, 0, none⟩) hl21).trans cb21
                          have l29_22 : (⟨W20.heap.size, 0, none⟩ : Addr).block < W22.heap.size := Nat.lt_of_lt_of_le hl21 hb22.size
                          refine hK.out _ _ ((hH21).trans (hb22.mono (hH21).size)) (fun hH22 => ?_)
                          clear hK K_
                          try simp only [Act.put, List.getElem_toArray, List.getElem_cons_zero, List.getElem_cons_succ, List.setIfInBounds_toArray, List.set_cons_zero, List.set_cons_succ]
                          refine wpAnyH_take (i := 31) (v := ?_) rfl (by kernel_rfl) (by kernel_rfl) (by kernel_rfl) (fun _ _ _ h => h) (Or.inl ⟨by kernel_rfl, ?_⟩) hH22 ?_
                          rotate_left 1
                          · intro w hSw
                            go_simp
                            try with_reducible rfl
                          try simp only [Act.put, List.getElem_toArray, List.getElem_cons_zero, List.getElem_cons_succ, List.setIfInBounds_toArray, List.set_cons_zero, List.set_cons_succ]
                          refine wpAnyH_take (i := 32) (v := ?_) rfl (by kernel_rfl) (by kernel_rfl) (by kernel_rfl) (fun _ _ _ h => h) (Or.inl ⟨by kernel_rfl, ?_⟩) hH22 ?_
                          rotate_left 1
                          · intro w hSw
                            go_simp
                            try with_reducible rfl
                          try simp only [Act.put, List.getElem_toArray, List.getElem_cons_zero, List.getElem_cons_succ, List.setIfInBounds_toArray, List.set_cons_zero, List.set_cons_succ]
                          refine wpAnyH_take (i := 33) (v := ?_) rfl (by kernel_rfl) (by kernel_rfl) (by kernel_rfl) (fun _ _ _ h => h) (Or.inl ⟨by kernel_rfl, ?_⟩) hH22 ?_
                          rotate_left 1
                          · intro w hSw
                            go_simp
                            try with_reducible rfl
                          try simp only [Act.put, List.getElem_toArray, List.getElem_cons_zero, List.getElem_cons_succ, List.setIfInBounds_toArray, List.set_cons_zero, List.set_cons_succ]
                          refine wpAnyH_done (by kernel_rfl) ?_ _
                          have HH := Lib.hid hH22
                          clear hH22
                          go_wp2_with fail
                          refine Met.intro ?_
                          go_step
                          (repeat apply Exists.intro)
                          refine ⟨?rel, ?fr⟩
                          case fr =>
                            simp only [hsl]
                            rfl
                          case rel => exact ⟨rfl, HH.out⟩
                        exact AllReadyH.nil
                      exact AllReadyH.nil
                    refine AllReadyH.cons rfl (fun K_ hK => ?_) ?_
                    · go_simp
                      have hb23 := (Below.refl W19.heap.size W19).alloc (Nat.le_refl _) (.cells #[.string ⟨(T0).toArray⟩] 9)
                      have cb23 : (W19.alloc (.cells #[.string ⟨(T0).toArray⟩] 9)).cell? ⟨W19.heap.size, 0, none⟩ = some (.string ⟨(T0).toArray⟩) := by rw [Lib.cell_of_heap (heap_alloc_new W19 _)]; rfl
                      obtain ⟨W23, hW23⟩ : ∃ W, W = W19.alloc (.cells #[.string ⟨(T0).toArray⟩] 9) := ⟨_, rfl⟩
                      have hl23 : W19.heap.size < W23.heap.size := by rw [hW23]; simp
                      rw [← hW23] at hb23 cb23 ⊢
                      clear hW23
                      have c10_23 := (hb23.cell (p := ⟨W0.heap.size, 0, none⟩) l10_19).trans c10_19
                      have l10_23 : (⟨W0.heap.size, 0, none⟩ : Addr).block < W23.heap.size := Nat.lt_of_lt_of_le l10_19 hb23.size
                      have c14_23 := (hb23.cell (p := ⟨W1.heap.size, 0, none⟩) l14_19).trans c14_19
                      have l14_23 : (⟨W1.heap.size, 0, none⟩ : Addr).block < W23.heap.size := Nat.lt_of_lt_of_le l14_19 hb23.size
                      have c25_23 := (hb23.cell (p := ⟨W18.heap.size, 0, none⟩) hl19).trans cb19
                      have l25_23 : (⟨W18.heap.size, 0, none⟩ : Addr).block < W23.heap.size := Nat.lt_of_lt_of_le hl19 hb23.size
                      refine hK.out _ _ ((hH19).trans (hb23.mono (hH19).size)) (fun hH23 => ?_)
                      clear hK K_
                      try simp only [Act.put, List.getElem_toArray, List.getElem_cons_zero, List.getElem_cons_succ, List.setIfInBounds_toArray, List.set_cons_zero, List.set_cons_succ]
                      refine wpAnyH_ready (rs := [26]) (by kernel_rfl) (by simp) ?_
                      refine AllReadyH.cons rfl (fun K_ hK => ?_) ?_
                      · go_simp
                        refine (of_hash KK _ 1 (T2) _ (HL0.out.below hH23) ⟨_, rfl, c25_23⟩ (by omega)).mono ?_
                        rintro e W24 ⟨rfl, hb24⟩
                        rw [← Hh2.out]
                        have c10_24 := (hb24.cell (p := ⟨W0.heap.size, 0, none⟩) l10_23).trans c10_23
                        have l10_24 : (⟨W0.heap.size, 0, none⟩ : Addr).block < W24.heap.size := Nat.lt_of_lt_of_le l10_23 hb24.size
                        have c14_24 := (hb24.cell (p := ⟨W1.heap.size, 0, none⟩) l14_23).trans c14_23
                        have l14_24 : (⟨W1.heap.size, 0, none⟩ : Addr).block < W24.heap.size := Nat.lt_of_lt_of_le l14_23 hb24.size
                        have c25_24 := (hb24.cell (p := ⟨W18.heap.size, 0, none⟩) l25_23).trans c25_23
                        have l25_24 : (⟨W18.heap.size, 0, none⟩ : Addr).block < W24.heap.size := Nat.lt_of_lt_of_le l25_23 hb24.size
                        have c29_24 := (hb24.cell (p := ⟨W19.heap.size, 0, none⟩) hl23).trans cb23
                        have l29_24 : (⟨W19.heap.size, 0, none⟩ : Addr).block < W24.heap.size := Nat.lt_of_lt_of_le hl23 hb24.size
                        refine hK.out _ _ ((hH23).trans (hb24.mono (hH23).size)) (fun hH24 => ?_)
                        clear hK K_
                        try simp only [Act.put, List.getElem_toArray, List.getElem_cons_zero, List.getElem_cons_succ, List.setIfInBounds_toArray, List.set_cons_zero, List.set_cons_succ]
                        refine wpAnyH_ready (rs := [30]) (by kernel_rfl) (by simp) ?_
                        refine AllReadyH.cons rfl (fun K_ hK => ?_) ?_
                        · go_simp
                          refine (of_hash KK _ 1 (T0) _ (HL0.out.below hH24) ⟨_, rfl, c29_24⟩ (by omega)).mono ?_
                          rintro e W25 ⟨rfl, hb25⟩
                          rw [← Hh0.out]
                          have c10_25 := (hb25.cell (p := ⟨W0.heap.size, 0, none⟩) l10_24).trans c10_24
                          have l10_25 : (⟨W0.heap.size, 0, none⟩ : Addr).block < W25.heap.size := Nat.lt_of_lt_of_le l10_24 hb25.size
                          have c14_25 := (hb25.cell (p := ⟨W1.heap.size, 0, none⟩) l14_24).trans c14_24
                          have l14_25 : (⟨W1.heap.size, 0, none⟩ : Addr).block < W25.heap.size := Nat.lt_of_lt_of_le l14_24 hb25.size
                          have c25_25 := (hb25.cell (p := ⟨W18.heap.size, 0, none⟩) l25_24).trans c25_24
                          have l25_25 : (⟨W18.heap.size, 0, none⟩ : Addr).block < W25.heap.size := Nat.lt_of_lt_of_le l25_24 hb25.size
                          have c29_25 := (hb25.cell (p := ⟨W19.heap.size, 0, none⟩) l29_24).trans c29_24
                          have l29_25 : (⟨W19.heap.size, 0, none⟩ : Addr).block < W25.heap.size := Nat.lt_of_lt_of_le l29_24 hb25.size
                          refine hK.out _ _ ((hH24).trans (hb25.mono (hH24).size)) (fun hH25 => ?_)
                          clear hK K_
                          try simp only [Act.put, List.getElem_toArray, List.getElem_cons_zero, List.getElem_cons_succ, List.setIfInBounds_toArray, List.set_cons_zero, List.set_cons_succ]
                          refine wpAnyH_take (i := 31) (v := ?_) rfl (by kernel_rfl) (by kernel_rfl) (by kernel_rfl) (fun _ _ _ h => h) (Or.inl ⟨by kernel_rfl, ?_⟩) hH25 ?_
                          rotate_left 1
                          · intro w hSw
                            go_simp
                            try with_reducible rfl
                          try simp only [Act.put, List.getElem_toArray, List.getElem_cons_zero, List.getElem_cons_succ, List.setIfInBounds_toArray, List.set_cons_zero, List.set_cons_succ]
                          refine wpAnyH_take (i := 32) (v := ?_) rfl (by kernel_rfl) (by kernel_rfl) (by kernel_rfl) (fun _ _ _ h => h) (Or.inl ⟨by kernel_rfl, ?_⟩) hH25 ?_
                          rotate_left 1
                          · intro w hSw
                            go_simp
                            try with_reducible rfl
                          try simp only [Act.put, List.getElem_toArray, List.getElem_cons_zero, List.getElem_cons_succ, List.setIfInBounds_toArray, List.set_cons_zero, List.set_cons_succ]
                          refine wpAnyH_take (i := 33) (v := ?_) rfl (by kernel_rfl) (by kernel_rfl) (by kernel_rfl) (fun _ _ _ h => h) (Or.inl ⟨by kernel_rfl, ?_⟩) hH25 ?_
                          rotate_left 1
                          · intro w hSw
                            go_simp
                            try with_reducible rfl
                          try simp only [Act.put, List.getElem_toArray, List.getElem_cons_zero, List.getElem_cons_succ, List.setIfInBounds_toArray, List.set_cons_zero, List.set_cons_succ]
                          refine wpAnyH_done (by kernel_rfl) ?_ _
                          have HH := Lib.hid hH25
                          clear hH25
                          go_wp2_with fail
                          refine Met.intro ?_
                          go_step
                          (repeat apply Exists.intro)
                          refine ⟨?rel, ?fr⟩
                          case fr =>
                            simp only [hsl]
                            rfl
                          case rel => exact ⟨rfl, HH.out⟩
                        exact AllReadyH.nil
                      exact AllReadyH.nil
                    exact AllReadyH.nil
                  refine AllReadyH.cons rfl (fun K_ hK => ?_) ?_
                  · go_simp
                    have hb26 := (Below.refl W18.heap.size W18).alloc (Nat.le_refl _) (.cells #[.string ⟨(T0).toArray⟩] 9)
                    have cb26 : (W18.alloc (.cells #[.string ⟨(T0).toArray⟩] 9)).cell? ⟨W18.heap.size, 0, none⟩ = some (.string ⟨(T0).toArray⟩) := by rw [Lib.cell_of_heap (heap_alloc_new W18 _)]; rfl
                    obtain ⟨W26, hW26⟩ : ∃ W, W = W18.alloc (.cells #[.string ⟨(T0).toArray⟩] 9) := ⟨_, rfl⟩
                    have hl26 : W18.heap.size < W26.heap.size := by rw [hW26]; simp
                    rw [← hW26] at hb26 cb26 ⊢
                    clear hW26
                    have c10_26 := (hb26.cell (p := ⟨W0.heap.size, 0, none⟩) l10_18).trans c10_18
                    have l10_26 : (⟨W0.heap.size, 0, none⟩ : Addr).block < W26.heap.size := Nat.lt_of_lt_of_le l10_18 hb26.size
                    have c14_26 := (hb26.cell (p := ⟨W1.heap.size, 0, none⟩) l14_18).trans c14_18
                    have l14_26 : (⟨W1.heap.size, 0, none⟩ : Addr).block < W26.heap.size := Nat.lt_of_lt_of_le l14_18 hb26.size
                    refine hK.out _ _ ((hH18).trans (hb26.mono (hH18).size)) (fun hH26 => ?_)
                    clear hK K_
                    try simp only [Act.put, List.getElem_toArray, List.getElem_cons_zero, List.getElem_cons_succ, List.setIfInBounds_toArray, List.set_cons_zero, List.set_cons_succ]
                    refine wpAnyH_ready (rs := [25]) (by kernel_rfl) (by simp) ?_
                    refine AllReadyH.cons rfl (fun K_ hK => ?_) ?_
                    · go_simp
                      have hb27 := (Below.refl W26.heap.size W26).alloc (Nat.le_refl _) (.cells #[.string ⟨(T2).toArray⟩] 9)
                      have cb27 : (W26.alloc (.cells #[.string ⟨(T2).toArray⟩] 9)).cell? ⟨W26.heap.size, 0, none⟩ = some (.string ⟨(T2).toArray⟩) := by rw [Lib.cell_of_heap (heap_alloc_new W26 _)]; rfl
                      obtain ⟨W27, hW27⟩ : ∃ W, W = W26.alloc (.cells #[.string ⟨(T2).toArray⟩] 9) := ⟨_, rfl⟩
                      have hl27 : W26.heap.size < W27.heap.size := by rw [hW27]; simp
                      rw [← hW27] at hb27 cb27 ⊢
                      clear hW27
                      have c10_27 := (hb27.cell (p := ⟨W0.heap.size, 0, none⟩) l10_26).trans c10_26
                      have l10_27 : (⟨W0.heap.size, 0, none⟩ : Addr).block < W27.heap.size := Nat.lt_of_lt_of_le l10_26 hb27.size
                      have c14_27 := (hb27.cell (p := ⟨W1.heap.size, 0, none⟩) l14_26).trans c14_26
                      have l14_27 : (⟨W1.heap.size, 0, none⟩ : Addr).block < W27.heap.size := Nat.lt_of_lt_of_le l14_26 hb27.size
                      have c29_27 := (hb27.cell (p := ⟨W18.heap.size, 0, none⟩) hl26).trans cb26
                      have l29_27 : (⟨W18.heap.size, 0, none⟩ : Addr).block < W27.heap.size := Nat.lt_of_lt_of_le hl26 hb27.size
                      refine hK.out _ _ ((hH26).trans (hb27.mono (hH26).size)) (fun hH27 => ?_)
                      clear hK K_
                      try simp only [Act.put, List.getElem_toArray, List.getElem_cons_zero, List.getElem_cons_succ, List.setIfInBounds_toArray, List.set_cons_zero, List.set_cons_succ]
                      refine wpAnyH_ready (rs := [26]) (by kernel_rfl) (by simp) ?_
                      refine AllReadyH.cons rfl (fun K_ hK => ?_) ?_
                      · go_simp
                        refine (of_hash KK _ 1 (T2) _ (HL0.out.below hH27) ⟨_, rfl, cb27⟩ (by omega)).mono ?_
                        rintro e W28 ⟨rfl, hb28⟩
                        rw [← Hh2.out]
                        have c10_28 := (hb28.cell (p := ⟨W0.heap.size, 0, none⟩) l10_27).trans c10_27
                        have l10_28 : (⟨W0.heap.size, 0, none⟩ : Addr).block < W28.heap.size := Nat.lt_of_lt_of_le l10_27 hb28.size
                        have c14_28 := (hb28.cell (p := ⟨W1.heap.size, 0, none⟩) l14_27).trans c14_27
                        have l14_28 : (⟨W1.heap.size, 0, none⟩ : Addr).block < W28.heap.size := Nat.lt_of_lt_of_le l14_27 hb28.size
                        have c29_28 := (hb28.cell (p := ⟨W18.heap.size, 0, none⟩) l29_27).trans c29_27
                        have l29_28 : (⟨W18.heap.size, 0, none⟩ : Addr).block < W28.heap.size := Nat.lt_of_lt_of_le l29_27 hb28.size
                        have c25_28 := (hb28.cell (p := ⟨W26.heap.size, 0, none⟩) hl27).trans cb27
                        have l25_28 : (⟨W26.heap.size, 0, none⟩ : Addr).block < W28.heap.size := Nat.lt_of_lt_of_le hl27 hb28.size
                        refine hK.out _ _ ((hH27).trans (hb28.mono (hH27).size)) (fun hH28 => ?_)
                        clear hK K_
                        try simp only [Act.put, List.getElem_toArray, List.getElem_cons_zero, List.getElem_cons_succ, List.setIfInBounds_toArray, List.set_cons_zero, List.set_cons_succ]
                        refine wpAnyH_ready (rs := [30]) (by kernel_rfl) (by simp) ?_
                        refine AllReadyH.cons rfl (fun K_ hK => ?_) ?_
                        · go_simp
                          refine (of_hash KK _ 1 (T0) _ (HL0.out.below hH28) ⟨_, rfl, c29_28⟩ (by omega)).mono ?_
                          rintro e W29 ⟨rfl, hb29⟩
                          rw [← Hh0.out]
                          have c10_29 := (hb29.cell (p := ⟨W0.heap.size, 0, none⟩) l10_28).trans c10_28
                          have l10_29 : (⟨W0.heap.size, 0, none⟩ : Addr).block < W29.heap.size := Nat.lt_of_lt_of_le l10_28 hb29.size
                          have c14_29 := (hb29.cell (p := ⟨W1.heap.size, 0, none⟩) l14_28).trans c14_28
                          have l14_29 : (⟨W1.heap.size, 0, none⟩ : Addr).block < W29.heap.size := Nat.lt_of_lt_of_le l14_28 hb29.size
                          have c29_29 := (hb29.cell (p := ⟨W18.heap.size, 0, none⟩) l29_28).trans c29_28
                          have l29_29 : (⟨W18.heap.size, 0, none⟩ : Addr).block < W29.heap.size := Nat.lt_of_lt_of_le l29_28 hb29.size
                          have c25_29 := (hb29.cell (p := ⟨W26.heap.size, 0, none⟩) l25_28).trans c25_28
                          have l25_29 : (⟨W26.heap.size, 0, none⟩ : Addr).block < W29.heap.size := Nat.lt_of_lt_of_le l25_28 hb29.size
                          refine hK.out _ _ ((hH28).trans (hb29.mono (hH28).size)) (fun hH29 => ?_)
                          clear hK K_
                          try simp only [Act.put, List.getElem_toArray, List.getElem_cons_zero, List.getElem_cons_succ, List.setIfInBounds_toArray, List.set_cons_zero, List.set_cons_succ]
                          refine wpAnyH_take (i := 31) (v := ?_) rfl (by kernel_rfl) (by kernel_rfl) (by kernel_rfl) (fun _ _ _ h => h) (Or.inl ⟨by kernel_rfl, ?_⟩) hH29 ?_
                          rotate_left 1
                          · intro w hSw
                            go_simp
                            try with_reducible rfl
                          try simp only [Act.put, List.getElem_toArray, List.getElem_cons_zero, List.getElem_cons_succ, List.setIfInBounds_toArray, List.set_cons_zero, List.set_cons_succ]
                          refine wpAnyH_take (i := 32) (v := ?_) rfl (by kernel_rfl) (by kernel_rfl) (by kernel_rfl) (fun _ _ _ h => h) (Or.inl ⟨by kernel_rfl, ?_⟩) hH29 ?_
                          rotate_left 1
                          · intro w hSw
                            go_simp
                            try with_reducible rfl
                          try simp only [Act.put, List.getElem_toArray, List.getElem_cons_zero, List.getElem_cons_succ, List.setIfInBounds_toArray, List.set_cons_zero, List.set_cons_succ]
                          refine wpAnyH_take (i := 33) (v := ?_) rfl (by kernel_rfl) (by kernel_rfl) (by kernel_rfl) (fun _ _ _ h => h) (Or.inl ⟨by kernel_rfl, ?_⟩) hH29 ?_
                          rotate_left 1
                          · intro w hSw
                            go_simp
                            try with_reducible rfl
                          try simp only [Act.put, List.getElem_toArray, List.getElem_cons_zero, List.getElem_cons_succ, List.setIfInBounds_toArray, List.set_cons_zero, List.set_cons_succ]
                          refine wpAnyH_done (by kernel_rfl) ?_ _
                          have HH := Lib.hid hH29
                          clear hH29
                          go_wp2_with fail
                          refine Met.intro ?_
                          go_step
                          (repeat apply Exists.intro)
                          refine ⟨?rel, ?fr⟩
                          case fr =>
                            simp only [hsl]
                            rfl
                          case rel => exact ⟨rfl, HH.out⟩
                        exact AllReadyH.nil
                      exact AllReadyH.nil
                    exact AllReadyH.nil
                  exact AllReadyH.nil
                exact AllReadyH.nil
              exact AllReadyH.nil
            exact AllReadyH.nil
          refine AllReadyH.cons rfl (fun K_ hK => ?_) ?_
          · go_simp
            have hb30 := (Below.refl W0.heap.size W0).alloc (Nat.le_refl _) (.cells #[.string ⟨(T0).toArray⟩] 9)
            have cb30 : (W0.alloc (.cells #[.string ⟨(T0).toArray⟩] 9)).cell? ⟨W0.heap.size, 0, none⟩ = some (.string ⟨(T0).toArray⟩) := by rw [Lib.cell_of_heap (heap_alloc_new W0 _)]; rfl
            obtain ⟨W30, hW30⟩ : ∃ W, W = W0.alloc (.cells #[.string ⟨(T0).toArray⟩] 9) := ⟨_, rfl⟩
            have hl30 : W0.heap.size < W30.heap.size := by rw [hW30]; simp
            rw [← hW30] at hb30 cb30 ⊢
            clear hW30
            refine hK.out _ _ ((hH0).trans (hb30.mono (hH0).size)) (fun hH30 => ?_)
            clear hK K_
            try simp only [Act.put, List.getElem_toArray, List.getElem_cons_zero, List.getElem_cons_succ, List.setIfInBounds_toArray, List.set_cons_zero, List.set_cons_succ]
            refine wpAnyH_ready (rs := [10]) (by kernel_rfl) (by simp) ?_
            refine AllReadyH.cons rfl (fun K_ hK => ?_) ?_
            · go_simp
              have hb31 := (Below.refl W30.heap.size W30).alloc (Nat.le_refl _) (.cells #[.string ⟨(T1).toArray⟩] 9)
              have cb31 : (W30.alloc (.cells #[.string ⟨(T1).toArray⟩] 9)).cell? ⟨W30.heap.size, 0, none⟩ = some (.string ⟨(T1).toArray⟩) := by rw [Lib.cell_of_heap (heap_alloc_new W30 _)]; rfl
              obtain ⟨W31, hW31⟩ : ∃ W, W = W30.alloc (.cells #[.string ⟨(T1).toArray⟩] 9) := ⟨_, rfl⟩
              have hl31 : W30.heap.size < W31.heap.size := by rw [hW31]; simp
              rw [← hW31] at hb31 cb31 ⊢
              clear hW31
              have c14_31 := (hb31.cell (p := ⟨W0.heap.size, 0, none⟩) hl30).trans cb30
              have l14_31 : (⟨W0.heap.size, 0, none⟩ : Addr).block < W31.heap.size := Nat.lt_of_lt_of_le hl30 hb31.size
              refine hK.out _ _ ((hH30).trans (hb31.mono (hH30).size)) (fun hH31 => ?_)
              clear hK K_
              try simp only [Act.put, List.getElem_toArray, List.getElem_cons_zero, List.getElem_cons_succ, List.setIfInBounds_toArray, List.set_cons_zero, List.set_cons_succ]
              refine wpAnyH_ready (rs := [11]) (by kernel_rfl) (by simp) ?_
              refine AllReadyH.cons rfl (fun K_ hK => ?_) ?_
              · go_simp
                refine (of_hash KK _ 1 (T1) _ (HL0.out.below hH31) ⟨_, rfl, cb31⟩ (by omega)).mono ?_
                rintro e W32 ⟨rfl, hb32⟩
                rw [← Hh1.out]
                have c14_32 := (hb32.cell (p := ⟨W0.heap.size, 0, none⟩) l14_31).trans c14_31
                have l14_32 : (⟨W0.heap.size, 0, none⟩ : Addr).block < W32.heap.size := Nat.lt_of_lt_of_le l14_31 hb32.size
                have c10_32 := (hb32.cell (p := ⟨W30.heap.size, 0, none⟩) hl31).trans cb31
                have l10_32 : (⟨W30.heap.size, 0, none⟩ : Addr).block < W32.heap.size := Nat.lt_of_lt_of_le hl31 hb32.size
                refine hK.out _ _ ((hH31).trans (hb32.mono (hH31).size)) (fun hH32 => ?_)
                clear hK K_
                try simp only [Act.put, List.getElem_toArray, List.getElem_cons_zero, List.getElem_cons_succ, List.setIfInBounds_toArray, List.set_cons_zero, List.set_cons_succ]
                refine wpAnyH_ready (rs := [15]) (by kernel_rfl) (by simp) ?_
                refine AllReadyH.cons rfl (fun K_ hK => ?_) ?_
                · go_simp
                  refine (of_hash KK _ 1 (T0) _ (HL0.out.below hH32) ⟨_, rfl, c14_32⟩ (by omega)).mono ?_
                  rintro e W33 ⟨rfl, hb33⟩
                  rw [← Hh0.out]
                  have c14_33 := (hb33.cell (p := ⟨W0.heap.size, 0, none⟩) l14_32).trans c14_32
                  have l14_33 : (⟨W0.heap.size, 0, none⟩ : Addr).block < W33.heap.size := Nat.lt_of_lt_of_le l14_32 hb33.size
                  have c10_33 := (hb33.cell (p := ⟨W30.heap.size, 0, none⟩) l10_32).trans c10_32
                  have l10_33 : (⟨W30.heap.size, 0, none⟩ : Addr).block < W33.heap.size := Nat.lt_of_lt_of_le l10_32 hb33.size
                  refine hK.out _ _ ((hH32).trans (hb33.mono (hH32).size)) (fun hH33 => ?_)
                  clear hK K_
                  try simp only [Act.put, List.getElem_toArray, List.getElem_cons_zero, List.getElem_cons_succ, List.setIfInBounds_toArray, List.set_cons_zero, List.set_cons_succ]
                  refine wpAnyH_take (i := 16) (v := ?_) rfl (by kernel_rfl) (by kernel_rfl) (by kernel_rfl) (fun _ _ _ h => h) (Or.inl ⟨by kernel_rfl, ?_⟩) hH33 ?_
                  rotate_left 1
                  · intro w hSw
                    go_simp
                    try with_reducible rfl
                  try simp only [Act.put, List.getElem_toArray, List.getElem_cons_zero, List.getElem_cons_succ, List.setIfInBounds_toArray, List.set_cons_zero, List.set_cons_succ]
                  refine wpAnyH_take (i := 17) (v := ?_) rfl (by kernel_rfl) (by kernel_rfl) (by kernel_rfl) (fun _ _ _ h => h) (Or.inl ⟨by kernel_rfl, ?_⟩) hH33 ?_
                  rotate_left 1
                  · intro w hSw
                    go_simp
                    try with_reducible rfl
                  try simp only [Act.put, List.getElem_toArray, List.getElem_cons_zero, List.getElem_cons_succ, List.setIfInBounds_toArray, List.set_cons_zero, List.set_cons_succ]
                  refine wpAnyH_take (i := 18) (v := ?_) rfl (by kernel_rfl) (by kernel_rfl) (by kernel_rfl) (fun _ _ _ h => h) (Or.inl ⟨by kernel_rfl, ?_⟩) hH33 ?_
                  rotate_left 1
                  · intro w hSw
                    go_simp
                    try with_reducible rfl
                  try simp only [Act.put, List.getElem_toArray, List.getElem_cons_zero, List.getElem_cons_succ, List.setIfInBounds_toArray, List.set_cons_zero, List.set_cons_succ]
                  refine wpAnyH_take (i := 19) (v := ?_) rfl (by kernel_rfl) (by kernel_rfl) (by kernel_rfl) (fun _ _ _ h => h) (Or.inl ⟨by kernel_rfl, ?_⟩) hH33 ?_
                  rotate_left 1
                  · intro w hSw
                    go_simp
                    try with_reducible rfl
                  try simp only [Act.put, List.getElem_toArray, List.getElem_cons_zero, List.getElem_cons_succ, List.setIfInBounds_toArray, List.set_cons_zero, List.set_cons_succ]
                  refine wpAnyH_take (i := 20) (v := ?_) rfl (by kernel_rfl) (by kernel_rfl) (by kernel_rfl) (fun _ _ _ h => h) (Or.inl ⟨by kernel_rfl, ?_⟩) hH33 ?_
                  rotate_left 1
                  · intro w hSw
                    go_simp
                    try with_reducible rfl
                  try simp only [Act.put, List.getElem_toArray, List.getElem_cons_zero, List.getElem_cons_succ, List.setIfInBounds_toArray, List.set_cons_zero, List.set_cons_succ]
                  refine wpAnyH_take (i := 21) (v := ?_) rfl (by kernel_rfl) (by kernel_rfl) (by kernel_rfl) (fun _ _ _ h => h) (Or.inl ⟨by kernel_rfl, ?_⟩) hH33 ?_
                  rotate_left 1
                  · intro w hSw
                    go_simp
                    try with_reducible rfl
                  try simp only [Act.put, List.getElem_toArray, List.getElem_cons_zero, List.getElem_cons_succ, List.setIfInBounds_toArray, List.set_cons_zero, List.set_cons_succ]
                  refine wpAnyH_take (i := 22) (v := ?_) rfl (by kernel_rfl) (by kernel_rfl) (by kernel_rfl) (fun _ _ _ h => h) (Or.inl ⟨by kernel_rfl, ?_⟩) hH33 ?_
                  rotate_left 1
                  · intro w hSw
                    go_simp
                    try with_reducible rfl
                  try simp only [Act.put, List.getElem_toArray, List.getElem_cons_zero, List.getElem_cons_succ, List.setIfInBounds_toArray, List.set_cons_zero, List.set_cons_succ]
                  refine wpAnyH_take (i := 23) (v := ?_) rfl (by kernel_rfl) (by kernel_rfl) (by kernel_rfl) (fun _ _ _ h => h) (Or.inl ⟨by kernel_rfl, ?_⟩) hH33 ?_
                  rotate_left 1
                  · intro w hSw
                    go_simp
                    try with_reducible rfl
                  try simp only [Act.put, List.getElem_toArray, List.getElem_cons_zero, List.getElem_cons_succ, List.setIfInBounds_toArray, List.set_cons_zero, List.set_cons_succ]
                  refine wpAnyH_take (i := 24) (v := ?_) rfl (by kernel_rfl) (by kernel_rfl) (by kernel_rfl) (fun _ _ _ h => h) (Or.inl ⟨by kernel_rfl, ?_⟩) hH33 ?_
                  rotate_left 1
                  · intro w hSw
                    go_simp
                    try with_reducible rfl
                  try simp only [Act.put, List.getElem_toArray, List.getElem_cons_zero, List.getElem_cons_succ, List.setIfInBounds_toArray, List.set_cons_zero, List.set_cons_succ]
                  refine wpAnyH_take (i := 27) (v := ?_) rfl (by kernel_rfl) (by kernel_rfl) (by kernel_rfl) (fun _ _ _ h => h) (Or.inl ⟨by kernel_rfl, ?_⟩) hH33 ?_
                  rotate_left 1
                  · intro w hSw
                    go_simp
                    try with_reducible rfl
                  try simp only [Act.put, List.getElem_toArray, List.getElem_cons_zero, List.getElem_cons_succ, List.setIfInBounds_toArray, List.set_cons_zero, List.set_cons_succ]
                  refine wpAnyH_take (i := 28) (v := ?_) rfl (by kernel_rfl) (by kernel_rfl) (by kernel_rfl) (fun _ _ _ h => h) (Or.inl ⟨by kernel_rfl, ?_⟩) hH33 ?_
                  rotate_left 1
                  · intro w hSw
                    go_simp
                    try with_reducible rfl
                  try simp only [Act.put, List.getElem_toArray, List.getElem_cons_zero, List.getElem_cons_succ, List.setIfInBounds_toArray, List.set_cons_zero, List.set_cons_succ]
                  refine wpAnyH_ready (rs := [25, 29]) (by kernel_rfl) (by simp) ?_
                  refine AllReadyH.cons rfl (fun K_ hK => ?_) ?_
                  · go_simp
                    have hb34 := (Below.refl W33.heap.size W33).alloc (Nat.le_refl _) (.cells #[.string ⟨(T2).toArray⟩] 9)
                    have cb34 : (W33.alloc (.cells #[.string ⟨(T2).toArray⟩] 9)).cell? ⟨W33.heap.size, 0, none⟩ = some (.string ⟨(T2).toArray⟩) := by rw [Lib.cell_of_heap (heap_alloc_new W33 _)]; rfl
                    obtain ⟨W34, hW34⟩ : ∃ W, W = W33.alloc (.cells #[.string ⟨(T2).toArray⟩] 9) := ⟨_, rfl⟩
                    have hl34 : W33.heap.size < W34.heap.size := by rw [hW34]; simp
                    rw [← hW34] at hb34 cb34 ⊢
                    clear hW34
                    have c14_34 := (hb34.cell (p := ⟨W0.heap.size, 0, none⟩) l14_33).trans c14_33
                    have l14_34 : (⟨W0.heap.size, 0, none⟩ : Addr).block < W34.heap.size := Nat.lt_of_lt_of_le l14_33 hb34.size
                    have c10_34 := (hb34.cell (p := ⟨W30.heap.size, 0, none⟩) l10_33).trans c10_33
                    have l10_34 : (⟨W30.heap.size, 0, none⟩ : Addr).block < W34.heap.size := Nat.lt_of_lt_of_le l10_33 hb34.size
                    refine hK.out _ _ ((hH33).trans (hb34.mono (hH33).size)) (fun hH34 => ?_)
                    clear hK K_
                    try simp only [Act.put, List.getElem_toArray, List.getElem_cons_zero, List.getElem_cons_succ, List.setIfInBounds_toArray, List.set_cons_zero, List.set_cons_succ]
                    refine wpAnyH_ready (rs := [26, 29]) (by kernel_rfl) (by simp) ?_
                    refine AllReadyH.cons rfl (fun K_ hK => ?_) ?_
                    · go_simp
                      refine (of_hash KK _ 1 (T2) _ (HL0.out.below hH34) ⟨_, rfl, cb34⟩ (by omega)).mono ?_
                      rintro e W35 ⟨rfl, hb35⟩
                      rw [← Hh2.out]
                      have c14_35 := (hb35.cell (p := ⟨W0.heap.size, 0, none⟩) l14_34).trans c14_34
                      have l14_35 : (⟨W0.heap.size, 0, none⟩ : Addr).block < W35.heap.size := Nat.lt_of_lt_of_le l14_34 hb35.size
                      have c10_35 := (hb35.cell (p := ⟨W30.heap.size, 0, none⟩) l10_34).trans c10_34
                      have l10_35 : (⟨W30.heap.size, 0, none⟩ : Addr).block < W35.heap.size := Nat.lt_of_lt_of_le l10_34 hb35.size
                      have c25_35 := (hb35.cell (p := ⟨W33.heap.size, 0, none⟩) hl34).trans cb34
                      have l25_35 : (⟨W33.heap.size, 0, none⟩ : Addr).block < W35.heap.size := Nat.lt_of_lt_of_le hl34 hb35.size
                      refine hK.out _ _ ((hH34).trans (hb35.mono (hH34).size)) (fun hH35 => ?_)
                      clear hK K_
                      try simp only [Act.put, List.getElem_toArray, List.getElem_cons_zero, List.getElem_cons_succ, List.setIfInBounds_toArray, List.set_cons_zero, List.set_cons_succ]
                      refine wpAnyH_ready (rs := [29]) (by kernel_rfl) (by simp) ?_
                      refine AllReadyH.cons rfl (fun K_ hK => ?_) ?_
                      · go_simp
                        have hb36 := (Below.refl W35.heap.size W35).alloc (Nat.le_refl _) (.cells #[.string ⟨(T0).toArray⟩] 9)
                        have cb36 : (W35.alloc (.cells #[.string ⟨(T0).toArray⟩] 9)).cell? ⟨W35.heap.size, 0, none⟩ = some (.string ⟨(T0).toArray⟩) := by rw [Lib.cell_of_heap (heap_alloc_new W35 _)]; rfl
                        obtain ⟨W36, hW36⟩ : ∃ W, W = W35.alloc (.cells #[.string ⟨(T0).toArray⟩] 9) := ⟨_, rfl⟩
                        have hl36 : W35.heap.size < W36.heap.size := by rw [hW36]; simp
                        rw [← hW36] at hb36 cb36 ⊢
                        clear hW36
                        have c14_36 := (hb36.cell (p := ⟨W0.heap.size, 0, none⟩) l14_35).trans c14_35
                        have l14_36 : (⟨W0.heap.size, 0, none⟩ : Addr).block < W36.heap.size := Nat.lt_of_lt_of_le l14_35 hb36.size
                        have c10_36 := (hb36.cell (p := ⟨W30.heap.size, 0, none⟩) l10_35).trans c10_35
                        have l10_36 : (⟨W30.heap.size, 0, none⟩ : Addr).block < W36.heap.size := Nat.lt_of_lt_of_le l10_35 hb36.size
                        have c25_36 := (hb36.cell (p := ⟨W33.heap.size, 0, none⟩) l25_35).trans c25_35
                        have l25_36 : (⟨W33.heap.size, 0, none⟩ : Addr).block < W36.heap.size := Nat.lt_of_lt_of_le l25_35 hb36.size
                        refine hK.out _ _ ((hH35).trans (hb36.mono (hH35).size)) (fun hH36 => ?_)
                        clear hK K_
                        try simp only [Act.put, List.getElem_toArray, List.getElem_cons_zero, List.getElem_cons_succ, List.setIfInBounds_toArray, List.set_cons_zero, List.set_cons_succ]
                        refine wpAnyH_ready (rs := [30]) (by kernel_rfl) (by simp) ?_
                        refine AllReadyH.cons rfl (fun K_ hK => ?_) ?_
                        · go_simp
                          refine (of_hash KK _ 1 (T0) _ (HL0.out.below hH36) ⟨_, rfl, cb36⟩ (by omega)).mono ?_
                          rintro e W37 ⟨rfl, hb37⟩
                          rw [← Hh0.out]
                          have c14_37 := (hb37.cell (p := ⟨W0.heap.size, 0, none⟩) l14_36).trans c14_36
                          have l14_37 : (⟨W0.heap.size, 0, none⟩ : Addr).block < W37.heap.size := Nat.lt_of_lt_of_le l14_36 hb37.size
                          have c10_37 := (hb37.cell (p := ⟨W30.heap.size, 0, none⟩) l10_36).trans c10_36
                          have l10_37 : (⟨W30.heap.size, 0, none⟩ : Addr).block < W37.heap.size := Nat.lt_of_lt_of_le l10_36 hb37.size
                          have c25_37 := (hb37.cell (p := ⟨W33.heap.size, 0, none⟩) l25_36).trans c25_36
                          have l25_37 : (⟨W33.heap.size, 0, none⟩ : Addr).block < W37.heap.size := Nat.lt_of_lt_of_le l25_36 hb37.size
                          have c29_37 := (hb37.cell (p := ⟨W35.heap.size, 0, none⟩) hl36).trans cb36
                          have l29_37 : (⟨W35.heap.size, 0, none⟩ : Addr).block < W37.heap.size := Nat.lt_of_lt_of_le hl36 hb37.size
                          refine hK.out _ _ ((hH36).trans (hb37.mono (hH36).size)) (fun hH37 => ?_)
                          clear hK K_
                          try simp only [Act.put, List.getElem_toArray, List.getElem_cons_zero, List.getElem_cons_succ, List.setIfInBounds_toArray, List.set_cons_zero, List.set_cons_succ]
                          refine wpAnyH_take (i := 31) (v := ?_) rfl (by kernel_rfl) (by kernel_rfl) (by kernel_rfl) (fun _ _ _ h => h) (Or.inl ⟨by kernel_rfl, ?_⟩) hH37 ?_
                          rotate_left 1
                          · intro w hSw
                            go_simp
                            try with_reducible rfl
                          try simp only [Act.put, List.getElem_toArray, List.getElem_cons_zero, List.getElem_cons_succ, List.setIfInBounds_toArray, List.set_cons_zero, List.set_cons_succ]
                          refine wpAnyH_take (i := 32) (v := ?_) rfl (by kernel_rfl) (by kernel_rfl) (by kernel_rfl) (fun _ _ _ h => h) (Or.inl ⟨by kernel_rfl, ?_⟩) hH37 ?_
                          rotate_left 1
                          · intro w hSw
                            go_simp
                            try with_reducible rfl
                          try simp only [Act.put, List.getElem_toArray, List.getElem_cons_zero, List.getElem_cons_succ, List.setIfInBounds_toArray, List.set_cons_zero, List.set_cons_succ]
                          refine wpAnyH_take (i := 33) (v := ?_) rfl (by kernel_rfl) (by kernel_rfl) (by kernel_rfl) (fun _ _ _ h => h) (Or.inl ⟨by kernel_rfl, ?_⟩) hH37 ?_
                          rotate_left 1
                          · intro w hSw
                            go_simp
                            try with_reducible rfl
                          try simp only [Act.put, List.getElem_toArray, List.getElem_cons_zero, List.getElem_cons_succ, List.setIfInBounds_toArray, List.set_cons_zero, List.set_cons_succ]
                          refine wpAnyH_done (by kernel_rfl) ?_ _
                          have HH := Lib.hid hH37
                          clear hH37
                          go_wp2_with fail
                          refine Met.intro ?_
                          go_step
                          (repeat apply Exists.intro)
                          refine ⟨?rel, ?fr⟩
                          case fr =>
                            simp only [hsl]
                            rfl
                          case rel => exact ⟨rfl, HH.out⟩
                        exact AllReadyH.nil
                      exact AllReadyH.nil
                    refine AllReadyH.cons rfl (fun K_ hK => ?_) ?_
                    · go_simp
                      have hb38 := (Below.refl W34.heap.size W34).alloc (Nat.le_refl _) (.cells #[.string ⟨(T0).toArray⟩] 9)
                      have cb38 : (W34.alloc (.cells #[.string ⟨(T0).toArray⟩] 9)).cell? ⟨W34.heap.size, 0, none⟩ = some (.string ⟨(T0).toArray⟩) := by rw [Lib.cell_of_heap (heap_alloc_new W34 _)]; rfl
                      obtain ⟨W38, hW38⟩ : ∃ W, W = W34.alloc (.cells #[.string ⟨(T0).toArray⟩] 9) := ⟨_, rfl⟩
                      have hl38 : W34.heap.size < W38.heap.size := by rw [hW38]; simp
                      rw [← hW38] at hb38 cb38 ⊢
                      clear hW38
                      have c14_38 := (hb38.cell (p := ⟨W0.heap.size, 0, none⟩) l14_34).trans c14_34
                      have l14_38 : (⟨W0.heap.size, 0, none⟩ : Addr).block < W38.heap.size := Nat.lt_of_lt_of_le l14_34 hb38.size
                      have c10_38 := (hb38.cell (p := ⟨W30.heap.size, 0, none⟩) l10_34).trans c10_34
                      have l10_38 : (⟨W30.heap.size, 0, none⟩ : Addr).block < W38.heap.size := Nat.lt_of_lt_of_le l10_34 hb38.size
                      have c25_38 := (hb38.cell (p := ⟨W33.heap.size, 0, none⟩) hl34).trans cb34
                      have l25_38 : (⟨W33.heap.size, 0, none⟩ : Addr).block < W38.heap.size := Nat.lt_of_lt_of_le hl34 hb38.size
                      refine hK.out _ _ ((hH34).trans (hb38.mono (hH34).size)) (fun hH38 => ?_)
                      clear hK K_
                      try simp only [Act.put, List.getElem_toArray, List.getElem_cons_zero, List.getElem_cons_succ, List.setIfInBounds_toArray, List.set_cons_zero, List.set_cons_succ]
                      refine wpAnyH_ready (rs := [26]) (by kernel_rfl) (by simp) ?_
                      refine AllReadyH.cons rfl (fun K_ hK => ?_) ?_
                      · go_simp
                        refine (of_hash KK _ 1 (T2) _ (HL0.out.below hH38) ⟨_, rfl, c25_38⟩ (by omega)).mono ?_
                        rintro e W39 ⟨rfl, hb39⟩
                        rw [← Hh2.out]
                        have c14_39 := (hb39.cell (p := ⟨W0.heap.size, 0, none⟩) l14_38).trans c14_38
                        have l14_39 : (⟨W0.heap.size, 0, none⟩ : Addr).block < W39.heap.size := Nat.lt_of_lt_of_le l14_38 hb39.size
                        have c10_39 := (hb39.cell (p := ⟨W30.heap.size, 0, none⟩) l10_38).trans c10_38
                        have l10_39 : (⟨W30.heap.size, 0, none⟩ : Addr).block < W39.heap.size := Nat.lt_of_lt_of_le l10_38 hb39.size
                        have c25_39 := (hb39.cell (p := ⟨W33.heap.size, 0, none⟩) l25_38).trans c25_38
                        have l25_39 : (⟨W33.heap.size, 0, none⟩ : Addr).block < W39.heap.size := Nat.lt_of_lt_of_le l25_38 hb39.size
                        have c29_39 := (hb39.cell (p := ⟨W34.heap.size, 0, none⟩) hl38).trans cb38
                        have l29_39 : (⟨W34.heap.size, 0, none⟩ : Addr).block < W39.heap.size := Nat.lt_of_lt_of_le hl38 hb39.size
                        refine hK.out _ _ ((hH38).trans (hb39.mono (hH38).size)) (fun hH39 => ?_)
                        clear hK K_
                        try simp only [Act.put, List.getElem_toArray, List.getElem_cons_zero, List.getElem_cons_succ, List.setIfInBounds_toArray, List.set_cons_zero, List.set_cons_succ]
                        refine wpAnyH_ready (rs := [30]) (by kernel_rfl) (by simp) ?_
                        refine AllReadyH.cons rfl (fun K_ hK => ?_) ?_
                        · go_simp
                          refine (of_hash KK _ 1 (T0) _ (HL0.out.below hH39) ⟨_, rfl, c29_39⟩ (by omega)).mono ?_
                          rintro e W40 ⟨rfl, hb40⟩
                          rw [← Hh0.out]
                          have c14_40 := (hb40.cell (p := ⟨W0.heap.size, 0, none⟩) l14_39).trans c14_39
                          have l14_40 : (⟨W0.heap.size, 0, none⟩ : Addr).block < W40.heap.size := Nat.lt_of_lt_of_le l14_39 hb40.size
                          have c10_40 := (hb40.cell (p := ⟨W30.heap.size, 0, none⟩) l10_39).trans c10_39
                          have l10_40 : (⟨W30.heap.size, 0, none⟩ : Addr).block < W40.heap.size := Nat.lt_of_lt_of_le l10_39 hb40.size
                          have c25_40 := (hb40.cell (p := ⟨W33.heap.size, 0, none⟩) l25_39).trans c25_39
                          have l25_40 : (⟨W33.heap.size, 0, none⟩ : Addr).block < W40.heap.size := Nat.lt_of_lt_of_le l25_39 hb40.size
                          have c29_40 := (hb40.cell (p := ⟨W34.heap.size, 0, none⟩) l29_39).trans c29_39
                          have l29_40 : (⟨W34.heap.size, 0, none⟩ : Addr).block < W40.heap.size := Nat.lt_of_lt_of_le l29_39 hb40.size
                          refine hK.out _ _ ((hH39).trans (hb40.mono (hH39).size)) (fun hH40 => ?_)
                          clear hK K_
                          try simp only [Act.put, List.getElem_toArray, List.getElem_cons_zero, List.getElem_cons_succ, List.setIfInBounds_toArray, List.set_cons_zero, List.set_cons_succ]
                          refine wpAnyH_take (i := 31) (v := ?_) rfl (by kernel_rfl) (by kernel_rfl) (by kernel_rfl) (fun _ _ _ h => h) (Or.inl ⟨by kernel_rfl, ?_⟩) hH40 ?_
                          rotate_left 1
                          · intro w hSw
                            go_simp
                            try with_reducible rfl
                          try simp only [Act.put, List.getElem_toArray, List.getElem_cons_zero, List.getElem_cons_succ, List.setIfInBounds_toArray, List.set_cons_zero, List.set_cons_succ]
                          refine wpAnyH_take (i := 32) (v := ?_) rfl (by kernel_rfl) (by kernel_rfl) (by kernel_rfl) (fun _ _ _ h => h) (Or.inl ⟨by kernel_rfl, ?_⟩) hH40 ?_
                          rotate_left 1
                          · intro w hSw
                            go_simp
                            try with_reducible rfl
                          try simp only [Act.put, List.getElem_toArray, List.getElem_cons_zero, List.getElem_cons_succ, List.setIfInBounds_toArray, List.set_cons_zero, List.set_cons_succ]
                          refine wpAnyH_take (i := 33) (v := ?_) rfl (by kernel_rfl) (by kernel_rfl) (by kernel_rfl) (fun _ _ _ h => h) (Or.inl ⟨by kernel_rfl, ?_⟩) hH40 ?_
                          rotate_left 1
                          · intro w hSw
                            go_simp
                            try with_reducible rfl
                          try simp only [Act.put, List.getElem_toArray, List.getElem_cons_zero, List.getElem_cons_succ, List.setIfInBounds_toArray, List.set_cons_zero, List.set_cons_succ]
                          refine wpAnyH_done (by kernel_rfl) ?_ _
                          have HH := Lib.hid hH40
                          clear hH40
                          go_wp2_with fail
                          refine Met.intro ?_
                          go_step
                          (repeat apply Exists.intro)
                          refine ⟨?rel, ?fr⟩
                          case fr =>
                            simp only [hsl]
                            rfl
                          case rel => exact ⟨rfl, HH.out⟩
                        exact AllReadyH.nil
                      exact AllReadyH.nil
                    exact AllReadyH.nil
                  refine AllReadyH.cons rfl (fun K_ hK => ?_) ?_
                  · go_simp
                    have hb41 := (Below.refl W33.heap.size W33).alloc (Nat.le_refl _) (.cells #[.string ⟨(T0).toArray⟩] 9)
                    have cb41 : (W33.alloc (.cells #[.string ⟨(T0).toArray⟩] 9)).cell? ⟨W33.heap.size, 0, none⟩ = some (.string ⟨(T0).toArray⟩) := by rw [Lib.cell_of_heap (heap_alloc_new W33 _)]; rfl
                    obtain ⟨W41, hW41⟩ : ∃ W, W = W33.alloc (.cells #[.string ⟨(T0).toArray⟩] 9) := ⟨_, rfl⟩
                    have hl41 : W33.heap.size < W41.heap.size := by rw [hW41]; simp
                    rw [← hW41] at hb41 cb41 ⊢
                    clear hW41
                    have c14_41 := (hb41.cell (p := ⟨W0.heap.size, 0, none⟩) l14_33).trans c14_33
                    have l14_41 : (⟨W0.heap.size, 0, none⟩ : Addr).block < W41.heap.size := Nat.lt_of_lt_of_le l14_33 hb41.size
                    have c10_41 := (hb41.cell (p := ⟨W30.heap.size, 0, none⟩) l10_33).trans c10_33
                    have l10_41 : (⟨W30.heap.size, 0, none⟩ : Addr).block < W41.heap.size := Nat.lt_of_lt_of_le l10_33 hb41.size
                    refine hK.out _ _ ((hH33).trans (hb41.mono (hH33).size)) (fun hH41 => ?_)
                    clear hK K_
                    try simp only [Act.put, List.getElem_toArray, List.getElem_cons_zero, List.getElem_cons_succ, List.setIfInBounds_toArray, List.set_cons_zero, List.set_cons_succ]
                    refine wpAnyH_ready (rs := [25]) (by kernel_rfl) (by simp) ?_
                    refine AllReadyH.cons rfl (fun K_ hK => ?_) ?_
                    · go_simp
                      have hb42 := (Below.refl W41.heap.size W41).alloc (Nat.le_refl _) (.cells #[.string ⟨(T2).toArray⟩] 9)
                      have cb42 : (W41.alloc (.cells #[.string ⟨(T2).toArray⟩] 9)).cell? ⟨W41.heap.size, 0, none⟩ = some (.string ⟨(T2).toArray⟩) := by rw [Lib.cell_of_heap (heap_alloc_new W41 _)]; rfl
                      obtain ⟨W42, hW42⟩ : ∃ W, W = W41.alloc (.cells #[.string ⟨(T2).toArray⟩] 9) := ⟨_, rfl⟩
                      have hl42 : W41.heap.size < W42.heap.size := by rw [hW42]; simp
                      rw [← hW42] at hb42 cb42 ⊢
                      clear hW42
                      have c14_42 := (hb42.cell (p := ⟨W0.heap.size, 0, none⟩) l14_41).trans c14_41
                      have l14_42 : (⟨W0.heap.size, 0, none⟩ : Addr).block < W42.heap.size := Nat.lt_of_lt_of_le l14_41 hb42.size
                      have c10_42 := (hb42.cell (p := ⟨W30.heap.size, 0, none⟩) l10_41).trans c10_41
                      have l10_42 : (⟨W30.heap.size, 0, none⟩ : Addr).block < W42.heap.size := Nat.lt_of_lt_of_le l10_41 hb42.size
                      have c29_42 := (hb42.cell (p := ⟨W33.heap.size, 0, none⟩) hl41).trans cb41
                      have l29_42 : (⟨W33.heap.size, 0, none⟩ : Addr).block < W42.heap.size := Nat.lt_of_lt_of_le hl41 hb42.size
                      refine hK.out _ _ ((hH41).trans (hb42.mono (hH41).size)) (fun hH42 => ?_)
                      clear hK K_
                      try simp only [Act.put, List.getElem_toArray, List.getElem_cons_zero, List.getElem_cons_succ, List.setIfInBounds_toArray, List.set_cons_zero, List.set_cons_succ]
                      refine wpAnyH_ready (rs := [26]) (by kernel_rfl) (by simp) ?_
                      refine AllReadyH.cons rfl (fun K_ hK => ?_) ?_
                      · go_simp
                        refine (of_hash KK _ 1 (T2) _ (HL0.out.below hH42) ⟨_, rfl, cb42⟩ (by omega)).mono ?_
                        rintro e W43 ⟨rfl, hb43⟩
                        rw [← Hh2.out]
                        have c14_43 := (hb43.cell (p := ⟨W0.heap.size, 0, none⟩) l14_42).trans c14_42
                        have l14_43 : (⟨W0.heap.size, 0, none⟩ : Addr).block < W43.heap.size := Nat.lt_of_lt_of_le l14_42 hb43.size
                        have c10_43 := (hb43.cell (p := ⟨W30.heap.size, 0, none⟩) l10_42).trans c10_42
                        have l10_43 : (⟨W30.heap.size, 0, none⟩ : Addr).block < W43.heap.size := Nat.lt_of_lt_of_le l10_42 hb43.size
                        have c29_43 := (hb43.cell (p := ⟨W33.heap.size, 0, none⟩) l29_42).trans c29_42
                        have l29_43 : (⟨W33.heap.size, 0, none⟩ : Addr).block < W43.heap.size := Nat.lt_of_lt_of_le l29_42 hb43.size
                        have c25_43 := (hb43.cell (p := ⟨W41.heap.size, 0, none⟩) hl42).trans cb42
                        have l25_43 : (⟨W41.heap.size, 0, none⟩ : Addr).block < W43.heap.size := Nat.lt_of_lt_of_le hl42 hb43.size
                        refine hK.out _ _ ((hH42).trans (hb43.mono (hH42).size)) (fun hH43 => ?_)
                        clear hK K_
                        try simp only [Act.put, List.getElem_toArray, List.getElem_cons_zero, List.getElem_cons_succ, List.setIfInBounds_toArray, List.set_cons_zero, List.set_cons_succ]
                        refine wpAnyH_ready (rs := [30]) (by kernel_rfl) (by simp) ?_
                        refine AllReadyH.cons rfl (fun K_ hK => ?_) ?_
                        · go_simp
                          refine (of_hash KK _ 1 (T0) _ (HL0.out.below hH43) ⟨_, rfl, c29_43⟩ (by omega)).mono ?_
                          rintro e W44 ⟨rfl, hb44⟩
                          rw [← Hh0.out]
                          have c14_44 := (hb44.cell (p := ⟨W0.heap.size, 0, none⟩) l14_43).trans c14_43
                          have l14_44 : (⟨W0.heap.size, 0, none⟩ : Addr).block < W44.heap.size := Nat.lt_of_lt_of_le l14_43 hb44.size
                          have c10_44 := (hb44.cell (p := ⟨W30.heap.size, 0, none⟩) l10_43).trans c10_43
                          have l10_44 : (⟨W30.heap.size, 0, none⟩ : Addr).block < W44.heap.size := Nat.lt_of_lt_of_le l10_43 hb44.size
                          have c29_44 := (hb44.cell (p := ⟨W33.heap.size, 0, none⟩) l29_43).trans c29_43
                          have l29_44 : (⟨W33.heap.size, 0, none⟩ : Addr).block < W44.heap.size := Nat.lt_of_lt_of_le l29_43 hb44.size
                          have c25_44 := (hb44.cell (p := ⟨W41.heap.size, 0, none⟩) l25_43).trans c25_43
                          have l25_44 : (⟨W41.heap.size, 0, none⟩ : Addr).block < W44.heap.size := Nat.lt_of_lt_of_le l25_43 hb44.size
                          refine hK.out _ _ ((hH43).trans (hb44.mono (hH43).size)) (fun hH44 => ?_)
                          clear hK K_
                          try simp only [Act.put, List.getElem_toArray, List.getElem_cons_zero, List.getElem_cons_succ, List.setIfInBounds_toArray, List.set_cons_zero, List.set_cons_succ]
                          refine wpAnyH_take (i := 31) (v := ?_) rfl (by kernel_rfl) (by kernel_rfl) (by kernel_rfl) (fun _ _ _ h => h) (Or.inl ⟨by kernel_rfl, ?_⟩) hH44 ?_
                          rotate_left 1
                          · intro w hSw
                            go_simp
                            try with_reducible rfl
                          try simp only [Act.put, List.getElem_toArray, List.getElem_cons_zero, List.getElem_cons_succ, List.setIfInBounds_toArray, List.set_cons_zero, List.set_cons_succ]
                          refine wpAnyH_take (i := 32) (v := ?_) rfl (by kernel_rfl) (by kernel_rfl) (by kernel_rfl) (fun _ _ _ h => h) (Or.inl ⟨by kernel_rfl, ?_⟩) hH44 ?_
                          rotate_left 1
                          · intro w hSw
                            go_simp
                            try with_reducible rfl
                          try simp only [Act.put, List.getElem_toArray, List.getElem_cons_zero, List.getElem_cons_succ, List.setIfInBounds_toArray, List.set_cons_zero, List.set_cons_succ]
                          refine wpAnyH_take (i := 33) (v := ?_) rfl (by kernel_rfl) (by kernel_rfl) (by kernel_rfl) (fun _ _ _ h => h) (Or.inl ⟨by kernel_rfl, ?_⟩) hH44 ?_
                          rotate_left 1
                          · intro w hSw
                            go_simp
                            try with_reducible rfl
                          try simp only [Act.put, List.getElem_toArray, List.getElem_cons_zero, List.getElem_cons_succ, List.setIfInBounds_toArray, List.set_cons_zero, List.set_cons_succ]
                          refine wpAnyH_done (by kernel_rfl) ?_ _
                          have HH := Lib.hid hH44
                          clear hH44
                          go_wp2_with fail
                          refine Met.intro ?_
                          go_step
                          (repeat apply Exists.intro)
                          refine ⟨?rel, ?fr⟩
                          case fr =>
                            simp only [hsl]
                            rfl
                          case rel => exact ⟨rfl, HH.out⟩
                        exact AllReadyH.nil
                      exact AllReadyH.nil
                    exact AllReadyH.nil
                  exact AllReadyH.nil
                exact AllReadyH.nil
              exact AllReadyH.nil
            exact AllReadyH.nil
          exact AllReadyH.nil
      · have g1 : ¬ (32 : Int) ≤ (kk : Int) := by omega
        have g2 : decide ((32 : Int) ≤ (kk : Int)) = false := by simp; omega
        have hr : RES = false := by rw [HRES.out, if_neg h32]
        subst hr
        clear h32 HRES hz
        refine wp_region_held_drew (S := fun w' => Below w9.heap.size w9 w') (by kernel_rfl) ((Below.refl _ _).drew) (fun hH0 => ?_)
        obtain ⟨W0, hW0⟩ : ∃ W, W = w9.drew := ⟨_, rfl⟩
        rw [← hW0] at hH0 ⊢
        clear hW0
        refine wpAnyH_take (i := 0) (v := ?_) rfl (by kernel_rfl) (by kernel_rfl) (by kernel_rfl) (fun _ _ _ h => h) (Or.inl ⟨by kernel_rfl, ?_⟩) hH0 ?_
        rotate_left 1
        · intro w hSw
          go_simp
          try with_reducible rfl
        try simp only [Act.put, List.getElem_toArray, List.getElem_cons_zero, List.getElem_cons_succ, List.setIfInBounds_toArray, List.set_cons_zero, List.set_cons_succ]
        refine wpAnyH_take (i := 1) (v := ?_) rfl (by kernel_rfl) (by kernel_rfl) (by kernel_rfl) (fun _ _ _ h => h) (Or.inl ⟨by kernel_rfl, ?_⟩) hH0 ?_
        rotate_left 1
        · intro w hSw
          go_simp
          try with_reducible rfl
        try simp only [Act.put, List.getElem_toArray, List.getElem_cons_zero, List.getElem_cons_succ, List.setIfInBounds_toArray, List.set_cons_zero, List.set_cons_succ]
        refine wpAnyH_take (i := 2) (v := ?_) rfl (by kernel_rfl) (by kernel_rfl) (by kernel_rfl) (fun _ _ _ h => h) (Or.inl ⟨by kernel_rfl, ?_⟩) hH0 ?_
        rotate_left 1
        · intro w hSw
          go_simp
          try with_reducible rfl
        try simp only [Act.put, List.getElem_toArray, List.getElem_cons_zero, List.getElem_cons_succ, List.setIfInBounds_toArray, List.set_cons_zero, List.set_cons_succ]
        refine wpAnyH_take (i := 3) (v := ?_) rfl (by kernel_rfl) (by kernel_rfl) (by kernel_rfl) (fun _ _ _ h => h) (Or.inl ⟨by kernel_rfl, ?_⟩) hH0 ?_
        rotate_left 1
        · intro w hSw
          go_simp
          try with_reducible rfl
        try simp only [Act.put, List.getElem_toArray, List.getElem_cons_zero, List.getElem_cons_succ, List.setIfInBounds_toArray, List.set_cons_zero, List.set_cons_succ]
        refine wpAnyH_take (i := 4) (v := ?_) rfl (by kernel_rfl) (by kernel_rfl) (by kernel_rfl) (fun _ _ _ h => h) (Or.inl ⟨by kernel_rfl, ?_⟩) hH0 ?_
        rotate_left 1
        · intro w hSw
          go_simp
          try with_reducible rfl
        try simp only [Act.put, List.getElem_toArray, List.getElem_cons_zero, List.getElem_cons_succ, List.setIfInBounds_toArray, List.set_cons_zero, List.set_cons_succ]
        refine wpAnyH_take (i := 5) (v := ?_) rfl (by kernel_rfl) (by kernel_rfl) (by kernel_rfl) (fun _ _ _ h => h) (Or.inl ⟨by kernel_rfl, ?_⟩) hH0 ?_
        rotate_left 1
        · intro w hSw
          go_simp
          try with_reducible rfl
        try simp only [Act.put, List.getElem_toArray, List.getElem_cons_zero, List.getElem_cons_succ, List.setIfInBounds_toArray, List.set_cons_zero, List.set_cons_succ]
        refine wpAnyH_take (i := 6) (v := ?_) rfl (by kernel_rfl) (by kernel_rfl) (by kernel_rfl) (fun _ _ _ h => h) (Or.inl ⟨by kernel_rfl, ?_⟩) hH0 ?_
        rotate_left 1
        · intro w hSw
          go_simp
          try with_reducible rfl
        try simp only [Act.put, List.getElem_toArray, List.getElem_cons_zero, List.getElem_cons_succ, List.setIfInBounds_toArray, List.set_cons_zero, List.set_cons_succ]
        refine wpAnyH_take (i := 7) (v := undef) rfl (by kernel_rfl) (by kernel_rfl) (by kernel_rfl) (fun _ _ _ h => h) (Or.inr ⟨by kernel_rfl, rfl⟩) hH0 ?_
        try simp only [Act.put, List.getElem_toArray, List.getElem_cons_zero, List.getElem_cons_succ, List.setIfInBounds_toArray, List.set_cons_zero, List.set_cons_succ]
        refine wpAnyH_take (i := 8) (v := undef) rfl (by kernel_rfl) (by kernel_rfl) (by kernel_rfl) (fun _ _ _ h => h) (Or.inr ⟨by kernel_rfl, rfl⟩) hH0 ?_
        try simp only [Act.put, List.getElem_toArray, List.getElem_cons_zero, List.getElem_cons_succ, List.setIfInBounds_toArray, List.set_cons_zero, List.set_cons_succ]
        refine wpAnyH_take (i := 9) (v := undef) rfl (by kernel_rfl) (by kernel_rfl) (by kernel_rfl) (fun _ _ _ h => h) (Or.inr ⟨by kernel_rfl, rfl⟩) hH0 ?_
        try simp only [Act.put, List.getElem_toArray, List.getElem_cons_zero, List.getElem_cons_succ, List.setIfInBounds_toArray, List.set_cons_zero, List.set_cons_succ]
        refine wpAnyH_take (i := 10) (v := undef) rfl (by kernel_rfl) (by kernel_rfl) (by kernel_rfl) (fun _ _ _ h => h) (Or.inr ⟨by kernel_rfl, rfl⟩) hH0 ?_
        try simp only [Act.put, List.getElem_toArray, List.getElem_cons_zero, List.getElem_cons_succ, List.setIfInBounds_toArray, List.set_cons_zero, List.set_cons_succ]
        refine wpAnyH_take (i := 11) (v := undef) rfl (by kernel_rfl) (by kernel_rfl) (by kernel_rfl) (fun _ _ _ h => h) (Or.inr ⟨by kernel_rfl, rfl⟩) hH0 ?_
        try simp only [Act.put, List.getElem_toArray, List.getElem_cons_zero, List.getElem_cons_succ, List.setIfInBounds_toArray, List.set_cons_zero, List.set_cons_succ]
        refine wpAnyH_take (i := 12) (v := undef) rfl (by kernel_rfl) (by kernel_rfl) (by kernel_rfl) (fun _ _ _ h => h) (Or.inr ⟨by kernel_rfl, rfl⟩) hH0 ?_
        try simp only [Act.put, List.getElem_toArray, List.getElem_cons_zero, List.getElem_cons_succ, List.setIfInBounds_toArray, List.set_cons_zero, List.set_cons_succ]
        refine wpAnyH_take (i := 13) (v := undef) rfl (by kernel_rfl) (by kernel_rfl) (by kernel_rfl) (fun _ _ _ h => h) (Or.inr ⟨by kernel_rfl, rfl⟩) hH0 ?_
        try simp only [Act.put, List.getElem_toArray, List.getElem_cons_zero, List.getElem_cons_succ, List.setIfInBounds_toArray, List.set_cons_zero, List.set_cons_succ]
        refine wpAnyH_take (i := 14) (v := undef) rfl (by kernel_rfl) (by kernel_rfl) (by kernel_rfl) (fun _ _ _ h => h) (Or.inr ⟨by kernel_rfl, rfl⟩) hH0 ?_
        try simp only [Act.put, List.getElem_toArray, List.getElem_cons_zero, List.getElem_cons_succ, List.setIfInBounds_toArray, List.set_cons_zero, List.set_cons_succ]
        refine wpAnyH_take (i := 15) (v := undef) rfl (by kernel_rfl) (by kernel_rfl) (by kernel_rfl) (fun _ _ _ h => h) (Or.inr ⟨by kernel_rfl, rfl⟩) hH0 ?_
        try simp only [Act.put, List.getElem_toArray, List.getElem_cons_zero, List.getElem_cons_succ, List.setIfInBounds_toArray, List.set_cons_zero, List.set_cons_succ]
        refine wpAnyH_take (i := 16) (v := undef) rfl (by kernel_rfl) (by kernel_rfl) (by kernel_rfl) (fun _ _ _ h => h) (Or.inr ⟨by kernel_rfl, rfl⟩) hH0 ?_
        try simp only [Act.put, List.getElem_toArray, List.getElem_cons_zero, List.getElem_cons_succ, List.setIfInBounds_toArray, List.set_cons_zero, List.set_cons_succ]
        refine wpAnyH_take (i := 17) (v := ?_) rfl (by kernel_rfl) (by kernel_rfl) (by kernel_rfl) (fun _ _ _ h => h) (Or.inl ⟨by kernel_rfl, ?_⟩) hH0 ?_
        rotate_left 1
        · intro w hSw
          go_simp
          try with_reducible rfl
        try simp only [Act.put, List.getElem_toArray, List.getElem_cons_zero, List.getElem_cons_succ, List.setIfInBounds_toArray, List.set_cons_zero, List.set_cons_succ]
        refine wpAnyH_take (i := 18) (v := ?_) rfl (by kernel_rfl) (by kernel_rfl) (by kernel_rfl) (fun _ _ _ h => h) (Or.inl ⟨by kernel_rfl, ?_⟩) hH0 ?_
        rotate_left 1
        · intro w hSw
          go_simp
          try with_reducible rfl
        try simp only [Act.put, List.getElem_toArray, List.getElem_cons_zero, List.getElem_cons_succ, List.setIfInBounds_toArray, List.set_cons_zero, List.set_cons_succ]
        refine wpAnyH_take (i := 19) (v := ?_) rfl (by kernel_rfl) (by kernel_rfl) (by kernel_rfl) (fun _ _ _ h => h) (Or.inl ⟨by kernel_rfl, ?_⟩) hH0 ?_
        rotate_left 1
        · intro w hSw
          go_simp
          try with_reducible rfl
        try simp only [Act.put, List.getElem_toArray, List.getElem_cons_zero, List.getElem_cons_succ, List.setIfInBounds_toArray, List.set_cons_zero, List.set_cons_succ]
        refine wpAnyH_take (i := 20) (v := ?_) rfl (by kernel_rfl) (by kernel_rfl) (by kernel_rfl) (fun _ _ _ h => h) (Or.inl ⟨by kernel_rfl, ?_⟩) hH0 ?_
        rotate_left 1
        · intro w hSw
          go_simp
          try with_reducible rfl
        try simp only [Act.put, List.getElem_toArray, List.getElem_cons_zero, List.getElem_cons_succ, List.setIfInBounds_toArray, List.set_cons_zero, List.set_cons_succ]
        refine wpAnyH_take (i := 21) (v := ?_) rfl (by kernel_rfl) (by kernel_rfl) (by kernel_rfl) (fun _ _ _ h => h) (Or.inl ⟨by kernel_rfl, ?_⟩) hH0 ?_
        rotate_left 1
        · intro w hSw
          go_simp
          try with_reducible rfl
        try simp only [Act.put, List.getElem_toArray, List.getElem_cons_zero, List.getElem_cons_succ, List.setIfInBounds_toArray, List.set_cons_zero, List.set_cons_succ]
        refine wpAnyH_take (i := 22) (v := undef) rfl (by kernel_rfl) (by kernel_rfl) (by kernel_rfl) (fun _ _ _ h => h) (Or.inr ⟨by kernel_rfl, rfl⟩) hH0 ?_
        try simp only [Act.put, List.getElem_toArray, List.getElem_cons_zero, List.getElem_cons_succ, List.setIfInBounds_toArray, List.set_cons_zero, List.set_cons_succ]
        refine wpAnyH_take (i := 23) (v := undef) rfl (by kernel_rfl) (by kernel_rfl) (by kernel_rfl) (fun _ _ _ h => h) (Or.inr ⟨by kernel_rfl, rfl⟩) hH0 ?_
        try simp only [Act.put, List.getElem_toArray, List.getElem_cons_zero, List.getElem_cons_succ, List.setIfInBounds_toArray, List.set_cons_zero, List.set_cons_succ]
        refine wpAnyH_take (i := 24) (v := undef) rfl (by kernel_rfl) (by kernel_rfl) (by kernel_rfl) (fun _ _ _ h => h) (Or.inr ⟨by kernel_rfl, rfl⟩) hH0 ?_
        try simp only [Act.put, List.getElem_toArray, List.getElem_cons_zero, List.getElem_cons_succ, List.setIfInBounds_toArray, List.set_cons_zero, List.set_cons_succ]
        refine wpAnyH_take (i := 25) (v := undef) rfl (by kernel_rfl) (by kernel_rfl) (by kernel_rfl) (fun _ _ _ h => h) (Or.inr ⟨by kernel_rfl, rfl⟩) hH0 ?_
        try simp only [Act.put, List.getElem_toArray, List.getElem_cons_zero, List.getElem_cons_succ, List.setIfInBounds_toArray, List.set_cons_zero, List.set_cons_succ]
        refine wpAnyH_take (i := 26) (v := undef) rfl (by kernel_rfl) (by kernel_rfl) (by kernel_rfl) (fun _ _ _ h => h) (Or.inr ⟨by kernel_rfl, rfl⟩) hH0 ?_
        try simp only [Act.put, List.getElem_toArray, List.getElem_cons_zero, List.getElem_cons_succ, List.setIfInBounds_toArray, List.set_cons_zero, List.set_cons_succ]
        refine wpAnyH_take (i := 27) (v := undef) rfl (by kernel_rfl) (by kernel_rfl) (by kernel_rfl) (fun _ _ _ h => h) (Or.inr ⟨by kernel_rfl, rfl⟩) hH0 ?_
        try simp only [Act.put, List.getElem_toArray, List.getElem_cons_zero, List.getElem_cons_succ, List.setIfInBounds_toArray, List.set_cons_zero, List.set_cons_succ]
        refine wpAnyH_take (i := 28) (v := undef) rfl (by kernel_rfl) (by kernel_rfl) (by kernel_rfl) (fun _ _ _ h => h) (Or.inr ⟨by kernel_rfl, rfl⟩) hH0 ?_
        try simp only [Act.put, List.getElem_toArray, List.getElem_cons_zero, List.getElem_cons_succ, List.setIfInBounds_toArray, List.set_cons_zero, List.set_cons_succ]
        refine wpAnyH_take (i := 29) (v := undef) rfl (by kernel_rfl) (by kernel_rfl) (by kernel_rfl) (fun _ _ _ h => h) (Or.inr ⟨by kernel_rfl, rfl⟩) hH0 ?_
        try simp only [Act.put, List.getElem_toArray, List.getElem_cons_zero, List.getElem_cons_succ, List.setIfInBounds_toArray, List.set_cons_zero, List.set_cons_succ]
        refine wpAnyH_take (i := 30) (v := undef) rfl (by kernel_rfl) (by kernel_rfl) (by kernel_rfl) (fun _ _ _ h => h) (Or.inr ⟨by kernel_rfl, rfl⟩) hH0 ?_
        try simp only [Act.put, List.getElem_toArray, List.getElem_cons_zero, List.getElem_cons_succ, List.setIfInBounds_toArray, List.set_cons_zero, List.set_cons_succ]
        refine wpAnyH_take (i := 31) (v := undef) rfl (by kernel_rfl) (by kernel_rfl) (by kernel_rfl) (fun _ _ _ h => h) (Or.inr ⟨by kernel_rfl, rfl⟩) hH0 ?_
        try simp only [Act.put, List.getElem_toArray, List.getElem_cons_zero, List.getElem_cons_succ, List.setIfInBounds_toArray, List.set_cons_zero, List.set_cons_succ]
        refine wpAnyH_take (i := 32) (v := ?_) rfl (by kernel_rfl) (by kernel_rfl) (by kernel_rfl) (fun _ _ _ h => h) (Or.inl ⟨by kernel_rfl, ?_⟩) hH0 ?_
        rotate_left 1
        · intro w hSw
          go_simp
          try with_reducible rfl
        try simp only [Act.put, List.getElem_toArray, List.getElem_cons_zero, List.getElem_cons_succ, List.setIfInBounds_toArray, List.set_cons_zero, List.set_cons_succ]
        refine wpAnyH_take (i := 33) (v := ?_) rfl (by kernel_rfl) (by kernel_rfl) (by kernel_rfl) (fun _ _ _ h => h) (Or.inl ⟨by kernel_rfl, ?_⟩) hH0 ?_
        rotate_left 1
        · intro w hSw
          go_simp
          try with_reducible rfl
        try simp only [Act.put, List.getElem_toArray, List.getElem_cons_zero, List.getElem_cons_succ, List.setIfInBounds_toArray, List.set_cons_zero, List.set_cons_succ]
        refine wpAnyH_done (by kernel_rfl) ?_ _
        have HH := Lib.hid hH0
        clear hH0
        go_wp2_with fail
        refine Met.intro ?_
        go_step
        (repeat apply Exists.intro)
        refine ⟨?rel, ?fr⟩
        case fr =>
          simp only [hsl]
          rfl
        case rel => exact ⟨rfl, HH.out⟩
  obtain ⟨rfl, hbc⟩ := hcut
  cases RES with
  | true =>
    go_wp2_with fail
    go_ret
    exact ⟨rfl, HB.out.trans (hbc.mono HB.out.size)⟩
  | false =>
  have HBc := Lib.hid (HB.out.trans (hbc.mono HB.out.size))
  have HLc := Lib.hid (HL.out.below hbc)
  have hcc := Hcv.out wc hbc
  have HDec := Lib.hid (wdecode_any KK bl wc HLc.out (by have := Hbll.out; omega))
  go_wp2_with fail
  refine HDec.out.mono ?_
  rintro e w20 ⟨f5, x5, y5, rfl, ha5, hok5, hB⟩
  have HB20 := Lib.hid (HBc.out.trans (hB.mono HBc.out.size))
  have HL20 := Lib.hid (HLc.out.below hB)
  have Hy5 : Hid ((xb = 0 ∧ y5 = 0) ∨ (xb ≠ 0 ∧ y5 = 5)) := Lib.hid (by
    by_cases hz : xb = 0
    · exact .inl ⟨hz, HD0.out f5 y5 hz ha5⟩
    · refine .inr ⟨hz, HDs.out f5 y5 (fun h32 => Hv1.out ?_) hz ha5⟩
      have hr := HRES.out
      rw [if_pos h32, if_neg hz] at hr
      cases v1 with
      | true => simp at hr
      | false => rfl)
  have Hy6 : Hid (∀ g e, DecAns KK (E.take kk) g e → e = 5) := Lib.hid (fun g e h => HDt.out g e (fun h32 => Hv2.out (by
    have hr := HRES.out
    rw [if_pos h32] at hr
    by_cases hz : xb = 0
    · rw [if_pos hz] at hr; exact hr.symm
    · rw [if_neg hz] at hr
      cases v2 with
      | true => simp at hr
      | false => rfl)) h)
  have hi5 := fm_infoR hok5.wf x5
  have ho5 : (f5.cells x5).toArray.all (·.oneCell') = true := by rw [List.all_toArray]; exact Fm.one _ _
  have hz5 : Tryd.zeroCells36.size = (f5.cells x5).toArray.size := by rw [zero_fm, List.size_toArray, List.size_toArray, Fm.len zFm_wf, Fm.len hok5.wf]
  have hn5 := heap_alloc_new w20 (.cells Tryd.zeroCells36 36)
  obtain ⟨R5, hR5⟩ : ∃ R, R = (f5.cells x5).toArray := ⟨_, rfl⟩
  rw [← hR5] at hi5 ho5 hz5
  rw [← hR5]
  have HEl : Hid ((E.take kk).length ≤ 140737488351232) := Lib.hid (by rw [List.length_take]; omega)
  clear ha5 hok5 hB hR5 HB HL HF HX HDec hcc Hcv HRES Hv1 Hv2 HDs HDt HD0 Hh0 Hh1 Hh2 e1 e2 hbc HBc HLc
  go_upto_region 14 with (refine wpList_store_row rfl 36 _ _ rfl w20.heap.size R5 rfl rfl 36 _ hn5 hi5 hz5 ho5 ?_)
  obtain ⟨w21, hw21⟩ : ∃ y, y = (w20.alloc (.cells Tryd.zeroCells36 36)).setRow w20.heap.size R5 := ⟨_, rfl⟩
  obtain ⟨q5, hq5⟩ : ∃ g, g = w20.heap.size := ⟨_, rfl⟩
  have o6 := ((Only.refl [q5] w20).alloc (.cells Tryd.zeroCells36 36)).setRow (g := q5) (by simp) R5
  rw [← hq5] at hw21 ⊢
  rw [← hw21] at o6 ⊢
  have b6 : Below w20.heap.size w20 w21 := o6.below (Nat.le_refl _) (by simp; omega)
  have HB21 := Lib.hid (HB20.out.trans (b6.mono HB20.out.size))
  have HL21 := Lib.hid (HL20.out.below b6)
  have HDec := Lib.hid (wdecode_any KK (E.take kk) w21 HL21.out HEl.out)
  clear hw21 hq5 o6 b6 hn5 hz5 ho5 hi5 HB20 HL20 HEl
  go_wp2_with fail
  refine HDec.out.mono ?_
  rintro e w22 ⟨f6, x6, y6, rfl, ha6, hok6, hB⟩
  have HB22 := Lib.hid (HB21.out.trans (hB.mono HB21.out.size))
  obtain rfl := Hy6.out f6 y6 ha6
  have hi6 := fm_infoR hok6.wf x6
  have ho6 : (f6.cells x6).toArray.all (·.oneCell') = true := by rw [List.all_toArray]; exact Fm.one _ _
  have hz6 : Tryd.zeroCells36.size = (f6.cells x6).toArray.size := by rw [zero_fm, List.size_toArray, List.size_toArray, Fm.len zFm_wf, Fm.len hok6.wf]
  have hn6 := heap_alloc_new w22 (.cells Tryd.zeroCells36 36)
  obtain ⟨R6, hR6⟩ : ∃ R, R = (f6.cells x6).toArray := ⟨_, rfl⟩
  rw [← hR6] at hi6 ho6 hz6
  rw [← hR6]
  clear ha6 hok6 hB hR6 HB21 HL21 HDec Hy6
  go_upto_region 15 with (refine wpList_store_row rfl 36 _ _ rfl w22.heap.size R6 rfl rfl 36 _ hn6 hi6 hz6 ho6 ?_)
  obtain ⟨w23, hw23⟩ : ∃ y, y = (w22.alloc (.cells Tryd.zeroCells36 36)).setRow w22.heap.size R6 := ⟨_, rfl⟩
  obtain ⟨q6, hq6⟩ : ∃ g, g = w22.heap.size := ⟨_, rfl⟩
  have o7 := ((Only.refl [q6] w22).alloc (.cells Tryd.zeroCells36 36)).setRow (g := q6) (by simp) R6
  rw [← hq6] at hw23 ⊢
  rw [← hw23] at o7 ⊢
  have b7 : Below w22.heap.size w22 w23 := o7.below (Nat.le_refl _) (by simp; omega)
  have HB23 := Lib.hid (HB22.out.trans (b7.mono HB22.out.size))
  clear hw23 hq6 o7 b7 hn6 hz6 ho6 hi6 HB22
  obtain ⟨hz, rfl⟩ | ⟨hz, rfl⟩ := Hy5.out
  · subst hz
    go_wp2_with fail
    go_ret
    exact ⟨rfl, HB23.out⟩
  · have z1 : ((xb : Int) != 0) = true := by simp; omega
    go_wp2_with fail
    go_ret
    exact ⟨rfl, HB23.out⟩

namespace WingTellsLaw
open Go.ChangeShapes Go.WideShapes Go.ChangeAt
open Go.ChangeMaps (open_string shut_string)
set_option maxRecDepth 100000 in
theorem contract (H : Type) (enc : TypeId × Value → H) (W : World) (base : Nat) (args : Array Value) (ds gs : List (DataW H)) (before : List MemPlace)
    (hval : ∀ (j : Nat) t v, Tryd.f5.params[j]? = some t → args[j]? = some v → Value.okWide Tryd.prog W .any base t v)
    (hW : DataW.Whole enc Tryd.prog Tryd.f5.params.toList Rows.wingTellsSpec.vars false W args.toList ds gs before) (hsz0 : (DataW.weightsEach Tryd.prog (Tryd.f5.params.toList ++ Rows.wingTellsSpec.plain.varTypes Tryd.prog) (ds ++ gs)).all (· ≤ reachBytes) = true) (hLd : laidMetH Tryd.prog laid1 W) :
    Calls Tryd.prog 5 args W fun e W' => ∃ v, e = .returned v ∧ Rows.wingTellsSpec.post enc Tryd.prog Tryd.f5 false true false false W args v W' := by
  have hW' := hW
  obtain ⟨p, q, hA0, hV, rfl, hfz, hnd⟩ := hW
  have hA : DataW.TrodAll enc Tryd.prog W 0 (fun _ => true) true Tryd.f5.params.toList args.toList ds p := hA0
  rw [Tryd.params5] at hA hval
  obtain ⟨v0, vs0, d0, ds0, p0, q0, hargs, rfl, rfl, h0, r0⟩ := trodAll_cons hA
  obtain ⟨v1, vs1, d1, ds1, p1, q1, rfl, rfl, rfl, h1, r1⟩ := trodAll_cons r0
  obtain ⟨v2, vs2, d2, ds2, p2, q2, rfl, rfl, rfl, h2, r2⟩ := trodAll_cons r1
  obtain ⟨rfl, rfl, rfl⟩ := trodAll_nil r2
  obtain rfl : args = #[v0, v1, v2] := by cases args; simp_all
  obtain ⟨rfl, rfl⟩ := trodVars_none hV
  obtain ⟨f0, y0, rfl, hm0⟩ := Wi.open_fm (hval 0 36 v0 rfl rfl) h0
  obtain ⟨x1, rfl, hd1, _, w1⟩ := open_int Tryd.underlying3 (hval 1 3 v1 rfl rfl) h1
  obtain ⟨x2, rfl, hd2, _, w2⟩ := open_int Tryd.underlying5 (hval 2 5 v2 rfl rfl) h2
  refine (wingTells_core f0 y0 x1 x2 W (of_laid hLd) hm0 (wf_bounds w1).1 (wf_bounds w1).2 (wf_u8 w2).1 (wf_u8 w2).2).mono fun e W' ⟨he, hg⟩ => ?_
  subst he
  exact ⟨_, rfl, law_post (tb := 4) laidOut_ (of_decide_eq_true (by kernel_rfl)) Tryd.underlying4 (by kernel_rfl) rfl rfl hW' hg⟩

theorem door_met (os : Os) (args : Array Value) : laidMetH Tryd.prog laid1 ((World.doorLaid Tryd.prog 400 os).forCall (fun _ _ => 0) ⟨#[], args, []⟩).memory :=
  laidMetH_of_parts3 (fuel := 8) (laidMet_of_run' 8 (by kernel_rfl) (by kernel_rfl)) (by kernel_rfl) (by kernel_rfl)

set_option maxRecDepth 100000 in
theorem lifted (os : Os) (started : os.Started) (H : Type) (enc : TypeId × Value → H) :
    ReturnsInHanded {} Tryd.checked os 5 .any (fun w args => (Rows.wingTellsSpec.pre enc Tryd.prog Tryd.f5 [] false w args ∧ laidMetH Tryd.prog laid1 w) ∧ sizedMet enc Tryd.prog Tryd.f5 (OpenSpec.ofChange Rows.wingTellsSpec) false w args)
      (Rows.wingTellsSpec.post enc Tryd.prog Tryd.f5 false true false false) := by
  refine returnsInHanded_of_change_and (C := Tryd.checked) (X := fun w _ => laidMetH Tryd.prog laid1 w) (fun _ _ _ hh h => h.of_heap hh) ownKnob_ started (by kernel_rfl) Tryd.func5
    (ChangeSpec.witness_shaped (enc := enc) (C := Tryd.checked) (os := os) (X := fun w _ => laidMetH Tryd.prog laid1 w) false (World.doorLaid Tryd.prog 400 os) #[.agg (Wi.zFm.cells Wi.Adr.zero).toArray, .int .i64 0, .int .u8 0] 8 rfl (World.shaped_of_RefB (by kernel_rfl) (by kernel_rfl)) (by kernel_rfl) (by kernel_rfl) (by kernel_rfl) (door_met os _)) ?_
  intro W base args ds gs before hval hW _ hsz hLd _
  exact contract H enc W base args ds gs before hval hW hsz hLd

theorem said : Rows.WingTellsSaid :=
  OpenClaim.holds_of_wide 5 Tryd.f5 rfl rfl rfl rfl rfl rfl rfl ⟨rfl, rfl, rfl, rfl, rfl⟩ rfl rfl rfl rfl rfl (by kernel_rfl) Tryd.func5 (by kernel_rfl)
    (of_decide_eq_true (by kernel_rfl)) (by unfold Func.isWrapper; first | (rw [if_pos (by decide +kernel)]; kernel_rfl) | (rw [if_neg (by decide +kernel)]; exact ⟨rfl, rfl⟩))
    (fun os started H enc _ => lifted os started H enc)

theorem proved : Rows.WingTellsCardSaid :=
  Claim7.holds_tied_plain_at .later [] [.data] true Rows.wingTellsCard.stood.harness false
    said (fun _ h => by cases h) (by kernel_rfl) (fun _ h => by cases h) wingTells_row_tie rfl ⟨rfl, rfl⟩ (by kernel_rfl) rfl
    (fun f fn hf hfn => by
      obtain rfl : f = 5 := Option.some.inj ((show Tryd.prog.funcNamed "apiary/apiarylaw19.WingTells" = some 5 by kernel_rfl).symm.trans hf) |>.symm
      obtain rfl : fn = Tryd.f5 := (Option.some.inj (Tryd.func5.symm.trans hfn)).symm
      exact ⟨by kernel_rfl, fun j t ht => by
        rw [Tryd.params5] at ht
        have hm : t ∈ [36, 3, 5] := by simpa using Array.mem_of_getElem? ht
        have hall : ([36, 3, 5].all fun u => !Tryd.prog.wantsStandIn u) = true := by kernel_rfl
        exact (show Tryd.prog.wantsStandIn t = false by simpa using List.all_eq_true.1 hall t hm)⟩)
    (by kernel_rfl)
end WingTellsLaw

end Go.Proofs.YthcmlbbbbcinkaaDoor
