/-
  Layer 5's laws: HivePower's loop over the calls.
-/
import Derived.Test.YteihfoacdocgkaaDoorHyTX
set_option linter.unusedVariables false
set_option linter.unusedSimpArgs false
namespace Go.Proofs.YteihfoacdocgkaaDoor
open Go.RowKit Pl Sh
attribute [local go_sem] Lb.ba_get Lb.ba_cut Lb.ba_add Lb.ba_size Lb.take_rest

set_option maxHeartbeats 8000000 in
set_option maxRecDepth 100000 in
theorem power_loop (A : Option Addr) (cap nd : Nat) (A2 : Option Addr) (np cap2 : Nat) (ps : List Int) (ds : List ActH) (w wx : World) (q : HvP) (sb sg : Nat) (vs0 vb0 vf0 vr0 : Value)
    (HL : Hid (Laid KK w)) (HS : Hid (ActsH w w.heap.size A ds)) (Hnd : Hid (nd = ds.length)) (hd63 : (nd : Int) ≤ 9223372036854775807) (Hsm1 : Hid (SmallActs ds)) (HP : Hid (Ints w w.heap.size A2 ps)) (Hnp : Hid (np = ps.length)) (Hpb : Hid (∀ p ∈ ps, -9223372036854775808 ≤ p ∧ p ≤ 9223372036854775807)) (hnp63 : (np : Int) ≤ 9223372036854775807)
    (H00 : Hid (0 ≠ sb ∧ 0 ≠ sg)) (Hsw : Hid (w.heap.size ≤ sb ∧ w.heap.size ≤ sg)) (Hinj : Hid (InjT KK ds)) (Hrun : Hid (RunSt w wx q sb sg ds 0 48000 vs0 vb0 vf0 vr0))
    (u2 u3 u7 u13 u14 u15 u16 u17 u18 u19 u20 u21 u22 u23 u24 u25 u26 u27 u28 u29 u30 u31 u32 u33 u34 u35 u36 u37 u38 u39 u40 u41 u42 u43 u44 u45 u46 u47 u48 u49 u50 u51 u52 u53 u54 u55 u56 u57 u58 u59 u60 u61 u62 u63 u64 u65 u66 u67 u68 u69 u70 u71 u72 u73 u74 u75 u76 u77 u78 u79 u80 u81 u82 u83 u84 u85 u86 u87 u88 u89 u90 u91 u92 u93 u94 u95 u96 u97 u98 u99 u100 u101 u102 u103 u104 u105 u106 u107 u108 u109 u110 u111 u112 u113 u114 u115 u116 u117 u118 u119 u120 u121 u122 u123 u124 u125 u126 u127 u128 u129 u130 u131 u132 u133 u134 u135 u136 u137 u138 u139 u140 u141 u142 u143 u144 u145 u146 u147 u148 u149 u150 u151 u152 u153 u154 u155 u156 u157 u158 u159 u160 u161 u162 u163 u164 u165 u166 u167 u168 u169 u170 u171 u172 u173 u174 u175 u176 u177 u178 u179 u180 u181 u182 u183 u184 u185 u186 u187 u188 u189 u190 u191 u192 u193 u194 u195 u196 u197 u198 u199 u200 u201 u202 u203 u204 u205 u206 u207 u208 u209 u210 u211 u212 u213 u214 u215 u216 u217 u218 u219 u220 u221 u222 u223 u224 u225 u226 u227 u228 u229 u230 u231 u232 u233 u234 u235 u236 u237 u238 u239 u240 u241 u242 u243 u244 u245 u246 u247 u248 u249 u250 u251 u252 u253 u254 u255 u256 u257 u258 u259 u260 u261 u262 u263 u264 u265 u266 u267 u268 u269 u270 u271 u272 u273 u274 u275 u276 u277 u278 u279 u280 u281 u282 u283 u284 u285 u286 u287 u288 u289 u290 u291 u292 u293 u294 u295 u296 u297 u298 u299 u300 u301 u302 u303 u304 u305 u306 u307 u308 u309 u310 u311 u312 u313 u314 u315 u316 : Value) :
    Code.wp Tryd.prog powLoop (bodyPost Tryd.prog Tryd.f9 (fun e w' => e = .returned (.bool true) ∧ Below w.heap.size w w')) ⟨#[.slice A nd cap, .slice A2 np cap2, u2, u3, .bool false, .pointer (some ⟨sb, 0, none⟩), .pointer (some ⟨q.p, 0, none⟩), u7, vs0, vb0, vf0, vr0, .int .i64 0, u13, u14, u15, u16, u17, u18, u19, u20, u21, u22, u23, u24, u25, u26, u27, u28, u29, u30, u31, u32, u33, u34, u35, u36, u37, u38, u39, u40, u41, u42, u43, u44, u45, u46, u47, u48, u49, u50, u51, u52, u53, u54, u55, u56, u57, u58, u59, u60, u61, u62, u63, u64, u65, u66, u67, u68, u69, u70, u71, u72, u73, u74, u75, u76, u77, u78, u79, u80, u81, u82, u83, u84, u85, u86, u87, u88, u89, u90, u91, u92, u93, u94, u95, u96, u97, u98, u99, u100, u101, u102, u103, u104, u105, u106, u107, u108, u109, u110, u111, u112, u113, u114, u115, u116, u117, u118, u119, u120, u121, u122, u123, u124, u125, u126, u127, u128, u129, u130, u131, u132, u133, u134, u135, u136, u137, u138, u139, u140, u141, u142, u143, u144, u145, u146, u147, u148, u149, u150, u151, u152, u153, u154, u155, u156, u157, u158, u159, u160, u161, u162, u163, u164, u165, u166, u167, u168, u169, u170, u171, u172, u173, u174, u175, u176, u177, u178, u179, u180, u181, u182, u183, u184, u185, u186, u187, u188, u189, u190, u191, u192, u193, u194, u195, u196, u197, u198, u199, u200, u201, u202, u203, u204, u205, u206, u207, u208, u209, u210, u211, u212, u213, u214, u215, u216, u217, u218, u219, u220, u221, u222, u223, u224, u225, u226, u227, u228, u229, u230, u231, u232, u233, u234, u235, u236, u237, u238, u239, u240, u241, u242, u243, u244, u245, u246, u247, u248, u249, u250, u251, u252, u253, u254, u255, u256, u257, u258, u259, u260, u261, u262, u263, u264, u265, u266, u267, u268, u269, u270, u271, u272, u273, u274, u275, u276, u277, u278, u279, u280, u281, u282, u283, u284, u285, u286, u287, u288, u289, u290, u291, u292, u293, u294, u295, u296, u297, u298, u299, u300, u301, u302, u303, u304, u305, u306, u307, u308, u309, u310, u311, u312, u313, u314, u315, u316], []⟩ wx := by
  conv => arg 2; whnf
  go_wp2_with fail
  go_loopw [6, 8, 9, 10, 11, 12, 13] (fun hv sv bv fv rv lv iv wz => ∃ (q : HvP) (vs vb vf vr : Value) (lo k : Nat), vs = sv ∧ vb = bv ∧ vf = fv ∧ vr = rv ∧ hv = .pointer (some ⟨q.p, 0, none⟩) ∧ lv = .int .i64 lo ∧ iv = .int .i64 k ∧ k ≤ nd ∧ k ≤ 70 ∧ lo ≤ k ∧ RunSt w wz q sb sg ds k (48000 - 600 * k) vs vb vf vr) (fun _ _ _ _ _ _ iv _ => nd - (intOf iv).toNat)
  case atStart => exact ⟨q, vs0, vb0, vf0, vr0, 0, 0, rfl, rfl, rfl, rfl, rfl, rfl, rfl, by omega, by omega, by omega, Hrun.out⟩
  case round =>
    obtain ⟨q, vs, vb, vf, vr, lo, k, rfl, rfl, rfl, rfl, rfl, rfl, rfl, hk, hk70, hlk, hrun⟩ := hrel
    obtain ⟨hqb, hqg, C, Kp, S, sure, blobs, safe, recs, gs, gb, gf, gr, hbox, hlo, hits, hpa, hb⟩ := hrun
    have Hqb := Lib.hid hqb
    have Hqg := Lib.hid hqg
    have Hbox := Lib.hid hbox
    have Hlo := Lib.hid hlo
    have Hits := Lib.hid hits
    have Hpa := Lib.hid hpa
    have Hb := Lib.hid hb
    clear hqb hqg hbox hlo hits hpa hb Hrun
    by_cases hkn : k < nd ∧ k < 70
    · obtain ⟨h1, h2⟩ := hkn
      have j1 : (k : Int) < (nd : Int) := by omega
      have j2 : (k : Int) < 70 := by omega
      have hid : k < ds.length := by rw [← Hnd.out]; exact h1
      obtain ⟨b, o, rfl, hbl, hr, hok0⟩ := HS.out k hid
      have hr := range_below hr Hb.out hbl
      obtain ⟨hts, -⟩ := Hsm1.out k hid h2
      obtain ⟨a, ha⟩ : ∃ a, a = ds[k] := ⟨_, rfl⟩
      rw [← ha] at hr hok0 hts
      have Hok := Lib.hid hok0
      have Ha := Lib.hid ha
      have Hts := Lib.hid hts
      have asz : a.cells.length = 69 := ActH.len hok0.rfit
      have aone := actH_one a
      have adix : (Tryd.prog.info? 71).map (·.size) = some a.cells.length := by rw [act05_info, asz]
      have adixA : (Tryd.prog.info? 71).map (·.size) = some a.cells.toArray.size := by rw [act05_info]; simp [asz]
      have asza : a.cells.toArray.size = 69 := by simp [asz]
      have aund := Tryd.underlying71
      have azero := act05_zero
      obtain ⟨ac, hac⟩ : ∃ ac, ac = a.cells := ⟨_, rfl⟩
      rw [← hac] at hr asz aone adix adixA asza
      have Hac := Lib.hid hac
      clear ha hac hok0 hts hbl
      go_upto_region 20 with (first | (refine wpList_load_mid rfl 71 _ rfl b (o + k * 69) rfl ac _ hr aund rfl adix ?_) | (refine wpList_store_row rfl 71 _ _ rfl wr.heap.size ac.toArray rfl rfl 71 _ (heap_alloc_new wr _) adixA (by rw [asza, azero]) aone ?_))
      show Code.wp _ _ _ _ ((wr.alloc (.cells Tryd.zeroCells71 71)).setRow wr.heap.size ac.toArray)
      obtain ⟨hq_w7, hB_w7⟩ := put_newH wr Tryd.zeroCells71 ac.toArray 71
      obtain ⟨xb, hp_w7⟩ : ∃ q, q = wr.heap.size := ⟨_, rfl⟩
      obtain ⟨w7, hw_w7⟩ : ∃ y, y = ((wr.alloc (.cells Tryd.zeroCells71 71)).setRow wr.heap.size ac.toArray) := ⟨_, rfl⟩
      rw [← hw_w7] at hq_w7 hB_w7 ⊢
      rw [← hp_w7] at hq_w7 ⊢
      have HQ_w7 := Lib.hid hq_w7
      have HB_w7 := Lib.hid hB_w7
      have Hp_w7 := Lib.hid hp_w7
      clear hq_w7 hB_w7 hp_w7 hw_w7
      have hxS : xb ∉ S := fun hx => by
        have h1 := Hbox.out.lt xb hx
        have h2 := Hp_w7.out
        omega
      have HA7 : Hid (PAll w w7 q 128 (48000 - 600 * k) sb sg xb true ac C Kp S) := Lib.hid ⟨Hqb.out, Hqg.out, Hbox.out.below HB_w7.out, Hlo.out, hxS, HQ_w7.out, Hb.out.trans (HB_w7.out.mono Hb.out.size)⟩
      have Hits7 := Lib.hid (Hits.out.below HB_w7.out)
      have HxI : Hid (∀ x ∈ [Item.str gs vs sure, .str gb vb blobs, .rcd gf vf safe, .rcd gr vr recs], xb ≠ x.g) := Lib.hid (fun x hx e => by
        have h1 := Item.lt (Hits.out.all x hx)
        have h2 := Hp_w7.out
        omega)
      have hq7 := HQ_w7.out
      rw [Hac.out] at hq7
      obtain ⟨x0, x1, xr, xk, x3, x4⟩ := act_blk hq7 Hok.out.rfit
      obtain ⟨kd, hkd⟩ : ∃ kd, kd = a.kind := ⟨_, rfl⟩
      obtain ⟨tx, htx⟩ : ∃ tx, tx = a.text := ⟨_, rfl⟩
      obtain ⟨rd, hrd⟩ : ∃ rd, rd = a.r := ⟨_, rfl⟩
      rw [← hkd] at x0
      rw [← htx] at x1
      rw [← hrd] at xr xk
      have Htx := Lib.hid htx
      have Hrd := Lib.hid hrd
      have Hkd := Lib.hid hkd
      have htl : tx.length ≤ 1000 := by rw [htx]; exact Hts.out
      have hrf : Hid rd.Fit := Lib.hid (by rw [hrd]; exact Hok.out.rfit)
      have htxd : Hid (ds[k].text = tx) := Lib.hid (by rw [htx, Ha.out])
      have hC70 : C.length < 128 := by have := Hpa.out.lc; omega
      clear hr asz aone adix adixA asza aund azero hq7 hxS hkd htx hrd Hbox Hlo Hqb Hqg HQ_w7 HB_w7 Hp_w7 Hb Hits x3 x4
      go_upto_block 2 with fail
      go_cut [7, 8, 9, 10, 11, 15, 16] from 78 to 138 (fun ev sv bv fv rv av cv wy => ∃ (vs vb vf vr : Value), vs = sv ∧ vb = bv ∧ vf = fv ∧ vr = rv ∧ SwSt w wy q sb sg xb ac ds (k + 1) (48000 - 600 * (k + 1)) ev vs vb vf vr)
      case first =>
        by_cases k1 : kd = 1
        · refine power_sw1 _ _ cap nd A2 np cap2 ds w w7 q sb sg xb k lo C Kp sure blobs safe recs S gs gb gf gr vs vb vf vr a ac tx rd kd HL Hok Hac Htx Hrd hrf htl hid htxd h2 Hinj HA7 Hits7 HxI Hpa hC70 k1 x1 _ _ _ _ _ _ _ _ _ _ _ _ _ _ _ _ _ _ _ _ _ _ _ _ _ _ _ _ _ _ _ _ _ _ _ _ _ _ _ _ _ _ _ _ _ _ _ _ _ _ _ _ _ _ _ _ _ _ _ _ _ _ _ _ _ _ _ _ _ _ _ _ _ _ _ _ _ _ _ _ _ _ _ _ _ _ _ _ _ _ _ _ _ _ _ _ _ _ _ _ _ _ _ _ _ _ _ _ _ _ _ _ _ _ _ _ _ _ _ _ _ _ _ _ _ _ _ _ _ _ _ _ _ _ _ _ _ _ _ _ _ _ _ _ _ _ _ _ _ _ _ _ _ _ _ _ _ _ _ _ _ _ _ _ _ _ _ _ _ _ _ _ _ _ _ _ _ _ _ _ _ _ _ _ _ _ _ _ _ _ _ _ _ _ _ _ _ _ _ _ _ _ _ _ _ _ _ _ _ _ _ _ _ _ _ _ _ _ _ _ _ _ _ _ _ _ _ _ _ _ _ _ _ _ _ _ _ _ _ _ _ _ _ _ _ _ _ _ _ _ _ _ _ _ _ _ _ _ _ _ _ _ _ _ _ _ _ _ _ _ _ _ _ _ _ _ _ _ _ _ _ _ _ _ _ _ _ _ _ _ _ _ _ _ _ _ _ _ _ _ _ _ _ _ (Lib.hid ?_)
          intro ev2 vs2 vb2 vf2 vr2 u15 u16 u78 u79 u80 u81 u82 u83 u84 u85 u86 u87 u88 u89 u90 u91 u92 u93 u94 u95 u96 u97 u98 u99 u100 u101 u102 u103 u104 u105 u106 u107 u108 u109 u110 u111 u112 u113 u114 u115 u116 u117 u118 u119 u120 u121 u122 u123 u124 u125 u126 u127 u128 u129 u130 u131 u132 u133 u134 u135 u136 u137 u138 wy hst
          have Hst := Lib.hid hst
          clear hst
          go_wp2_with fail
          go_meet
          case rel => exact ⟨vs2, vb2, vf2, vr2, rfl, rfl, rfl, rfl, Hst.out⟩
        · by_cases k2 : kd = 2
          · refine power_sw2 _ _ cap nd A2 np cap2 ds w w7 q sb sg xb k lo C Kp sure blobs safe recs S gs gb gf gr vs vb vf vr a ac tx rd kd HL Hok Hac Htx Hrd hrf htl hid htxd h2 Hinj HA7 Hits7 HxI Hpa hC70 k1 k2 xr xk _ _ _ _ _ _ _ _ _ _ _ _ _ _ _ _ _ _ _ _ _ _ _ _ _ _ _ _ _ _ _ _ _ _ _ _ _ _ _ _ _ _ _ _ _ _ _ _ _ _ _ _ _ _ _ _ _ _ _ _ _ _ _ _ _ _ _ _ _ _ _ _ _ _ _ _ _ _ _ _ _ _ _ _ _ _ _ _ _ _ _ _ _ _ _ _ _ _ _ _ _ _ _ _ _ _ _ _ _ _ _ _ _ _ _ _ _ _ _ _ _ _ _ _ _ _ _ _ _ _ _ _ _ _ _ _ _ _ _ _ _ _ _ _ _ _ _ _ _ _ _ _ _ _ _ _ _ _ _ _ _ _ _ _ _ _ _ _ _ _ _ _ _ _ _ _ _ _ _ _ _ _ _ _ _ _ _ _ _ _ _ _ _ _ _ _ _ _ _ _ _ _ _ _ _ _ _ _ _ _ _ _ _ _ _ _ _ _ _ _ _ _ _ _ _ _ _ _ _ _ _ _ _ _ _ _ _ _ _ _ _ _ _ _ _ _ _ _ _ _ _ _ _ _ _ _ _ _ _ _ _ _ _ _ _ _ _ _ _ _ _ _ _ _ _ _ _ _ _ _ _ _ _ _ _ _ _ _ _ _ _ _ _ _ _ _ _ _ _ _ _ _ _ _ (Lib.hid ?_)
            intro ev2 vs2 vb2 vf2 vr2 u15 u16 u78 u79 u80 u81 u82 u83 u84 u85 u86 u87 u88 u89 u90 u91 u92 u93 u94 u95 u96 u97 u98 u99 u100 u101 u102 u103 u104 u105 u106 u107 u108 u109 u110 u111 u112 u113 u114 u115 u116 u117 u118 u119 u120 u121 u122 u123 u124 u125 u126 u127 u128 u129 u130 u131 u132 u133 u134 u135 u136 u137 u138 wy hst
            have Hst := Lib.hid hst
            clear hst
            go_wp2_with fail
            go_meet
            case rel => exact ⟨vs2, vb2, vf2, vr2, rfl, rfl, rfl, rfl, Hst.out⟩
          · by_cases k3 : kd = 3
            · refine power_sw3 _ _ cap nd A2 np cap2 ds w w7 q sb sg xb k lo C Kp sure blobs safe recs S gs gb gf gr vs vb vf vr a ac tx rd kd HL Hok Hac Htx Hrd hrf htl hid htxd h2 Hinj HA7 Hits7 HxI Hpa hC70 k1 k2 k3 _ _ _ _ _ _ _ _ _ _ _ _ _ _ _ _ _ _ _ _ _ _ _ _ _ _ _ _ _ _ _ _ _ _ _ _ _ _ _ _ _ _ _ _ _ _ _ _ _ _ _ _ _ _ _ _ _ _ _ _ _ _ _ _ _ _ _ _ _ _ _ _ _ _ _ _ _ _ _ _ _ _ _ _ _ _ _ _ _ _ _ _ _ _ _ _ _ _ _ _ _ _ _ _ _ _ _ _ _ _ _ _ _ _ _ _ _ _ _ _ _ _ _ _ _ _ _ _ _ _ _ _ _ _ _ _ _ _ _ _ _ _ _ _ _ _ _ _ _ _ _ _ _ _ _ _ _ _ _ _ _ _ _ _ _ _ _ _ _ _ _ _ _ _ _ _ _ _ _ _ _ _ _ _ _ _ _ _ _ _ _ _ _ _ _ _ _ _ _ _ _ _ _ _ _ _ _ _ _ _ _ _ _ _ _ _ _ _ _ _ _ _ _ _ _ _ _ _ _ _ _ _ _ _ _ _ _ _ _ _ _ _ _ _ _ _ _ _ _ _ _ _ _ _ _ _ _ _ _ _ _ _ _ _ _ _ _ _ _ _ _ _ _ _ _ _ _ _ _ _ _ _ _ _ _ _ _ _ _ _ _ _ _ _ _ _ _ _ _ _ _ _ _ _ (Lib.hid ?_)
              intro ev2 vs2 vb2 vf2 vr2 u15 u16 u78 u79 u80 u81 u82 u83 u84 u85 u86 u87 u88 u89 u90 u91 u92 u93 u94 u95 u96 u97 u98 u99 u100 u101 u102 u103 u104 u105 u106 u107 u108 u109 u110 u111 u112 u113 u114 u115 u116 u117 u118 u119 u120 u121 u122 u123 u124 u125 u126 u127 u128 u129 u130 u131 u132 u133 u134 u135 u136 u137 u138 wy hst
              have Hst := Lib.hid hst
              clear hst
              go_wp2_with fail
              go_meet
              case rel => exact ⟨vs2, vb2, vf2, vr2, rfl, rfl, rfl, rfl, Hst.out⟩
            · refine power_sw8 _ _ cap nd A2 np cap2 ds w w7 q sb sg xb k lo C Kp sure blobs safe recs S gs gb gf gr vs vb vf vr a ac tx rd kd HL Hok Hac Htx Hrd hrf htl hid htxd h2 Hinj HA7 Hits7 HxI Hpa hC70 k1 k2 k3 _ _ _ _ _ _ _ _ _ _ _ _ _ _ _ _ _ _ _ _ _ _ _ _ _ _ _ _ _ _ _ _ _ _ _ _ _ _ _ _ _ _ _ _ _ _ _ _ _ _ _ _ _ _ _ _ _ _ _ _ _ _ _ _ _ _ _ _ _ _ _ _ _ _ _ _ _ _ _ _ _ _ _ _ _ _ _ _ _ _ _ _ _ _ _ _ _ _ _ _ _ _ _ _ _ _ _ _ _ _ _ _ _ _ _ _ _ _ _ _ _ _ _ _ _ _ _ _ _ _ _ _ _ _ _ _ _ _ _ _ _ _ _ _ _ _ _ _ _ _ _ _ _ _ _ _ _ _ _ _ _ _ _ _ _ _ _ _ _ _ _ _ _ _ _ _ _ _ _ _ _ _ _ _ _ _ _ _ _ _ _ _ _ _ _ _ _ _ _ _ _ _ _ _ _ _ _ _ _ _ _ _ _ _ _ _ _ _ _ _ _ _ _ _ _ _ _ _ _ _ _ _ _ _ _ _ _ _ _ _ _ _ _ _ _ _ _ _ _ _ _ _ _ _ _ _ _ _ _ _ _ _ _ _ _ _ _ _ _ _ _ _ _ _ _ _ _ _ _ _ _ _ _ _ _ _ _ _ _ _ _ _ _ _ _ _ _ _ _ _ _ _ _ _ (Lib.hid ?_)
              intro ev2 vs2 vb2 vf2 vr2 u15 u16 u78 u79 u80 u81 u82 u83 u84 u85 u86 u87 u88 u89 u90 u91 u92 u93 u94 u95 u96 u97 u98 u99 u100 u101 u102 u103 u104 u105 u106 u107 u108 u109 u110 u111 u112 u113 u114 u115 u116 u117 u118 u119 u120 u121 u122 u123 u124 u125 u126 u127 u128 u129 u130 u131 u132 u133 u134 u135 u136 u137 u138 wy hst
              have Hst := Lib.hid hst
              clear hst
              go_wp2_with fail
              go_meet
              case rel => exact ⟨vs2, vb2, vf2, vr2, rfl, rfl, rfl, rfl, Hst.out⟩
      obtain ⟨vs', vb', vf', vr', rfl, rfl, rfl, rfl, hsw⟩ := hcut
      rcases hsw with ⟨e, he, rfl, hrun⟩ | ⟨rfl, ⟨C2, Kp2, sure2, blobs2, safe2, recs2, gs2, gb2, gf2, gr2, hds, hits, hpi, hbl⟩, hxq⟩
      · have e10 : (e != 10) = true := by simp [he]
        have Hrun := Lib.hid hrun
        clear he hrun x0 x1 xr xk
        go_wp2_with fail
        go_roundw
        case rel => exact ⟨q, vs', vb', vf', vr', lo, k + 1, rfl, rfl, rfl, rfl, rfl, rfl, by go_num, by omega, by omega, by omega, Hrun.out⟩
        case measure => simp [intOf]; omega
      · have hok8 : ActHOk w w.heap.size a := by
          obtain ⟨_, _, _, _, _, h⟩ := HS.out k hid
          rw [← Ha.out] at h
          exact h
        have hxq2 := hxq
        rw [Hac.out] at hxq2
        obtain ⟨-, -, -, -, -, x4⟩ := act_blk hxq2 Hok.out.rfit
        have hxn : xb < wc.heap.size ∧ xb ≠ sb ∧ xb ≠ sg := by
          have hown := HA7.out.box.own
          rw [HA7.out.1, HA7.out.2.1] at hown
          exact ⟨heap_lt hxq, fun e => HA7.out.2.2.2.2.1 (by rw [e]; exact hown.1), fun e => HA7.out.2.2.2.2.1 (by rw [e]; exact hown.2)⟩
        have Hds := Lib.hid hds
        have Hits2 := Lib.hid hits
        have Hpi := Lib.hid hpi
        have Hbl := Lib.hid hbl
        have Hx4 := Lib.hid x4
        have Hxn := Lib.hid hxn
        have Hff := Lib.hid hok8.fates
        have Hffb := Lib.hid hok8.fb
        have Hffl := Lib.hid hok8.fl
        clear hds hits hpi hbl hxq hxq2 x4 hxn hok8 x0 x1 xr xk HA7 Hits7
        go_upto_if 140 with fail
        go_cut [7] from 139 to 140 (fun ev wz => ev = .int .i64 10 ∧ wz = wc)
        case first =>
          go_wp2_with fail
          go_meet
          case rel => exact ⟨rfl, rfl⟩
        obtain ⟨rfl, rfl⟩ := hcut
        apply_assumption
        refine loss_a _ _ cap nd A2 np cap2 ps ds w _ sb sg k (48000 - 600 * (k + 1)) lo xb C2 Kp2 sure2 blobs2 safe2 recs2 gs2 gb2 gf2 gr2 vs' vb' vf' vr' _ _ _ HL HP Hnp Hpb hnp63 Hds H00 Hsw Hpi Hinj Hff Hffb Hffl Hx4 Hxn Hits2 Hbl h2 hlk
          _ _ _ _ _ _ _ _ _ _ _ _ _ _ _ _ _ _ _ _ _ _ _ _ _ _ _ _ _ _ _ _ _ _ _ _ _ _ _ _ _ _ _ _ _ _ _ _ _ _ _ _ _ _ _ _ _ _ _ _ _ _ _ _ _ _ _ _ _ _ _ _ _ _ _ _ _ _ _ _ _ _ _ _ _ _ _ _ _ _ _ _ _ _ _ _ _ _ _ _ _ _ _ _ _ _ _ _ _ _ _ _ _ _ _ _ _ _ _ _ _ _ _ _ _ _ _ _ _ _ _ _ _ _ _ _ _ _ _ _ _ _ _ _ _ _ _ _ _ _ _ _ _ _ _ _ _ _ _ _ _ _ _ _ _ _ _ _ _ _ _ _ _ _ _ _ _ _ _ _ _ _ _ _ _ _ _ _ _ _ _ _ _ _ _ _ _ _ _ _ _ _ _ _ _ _ _ _ _ _ _ _ _ _ _ _ _ _ _ _ _ _ _ _ _ _ _ _ _ _ _ _ _ _ _ _ _ _ _ _ _ _ _ _ _ _ _ _ _ _ _ _ _ _ _ _ _ _ _ _ _ _ _ _ _ _ _ _ _ _ _ _ _ _ _ _ _ _ _ _ _ _ _ _ _ _ _ _ _ _ _ _ _ _ _ _ _ _ _ _ _ _ _ _ _ _ (Lib.hid ?_) (Lib.hid ?_)
        · intro c a a2 W hd h
          obtain ⟨t1, d1⟩ := a
          obtain ⟨t2, d2⟩ := a2
          obtain rfl : d1 = d2 := hd
          exact h
        intro q2 lo2 vs2 vb2 vf2 vr2 u4 u14 u15 u16 u17 u18 u19 u20 u21 u22 u23 u24 u25 u26 u27 u28 u29 u62 u63 u64 u65 u66 u67 u68 u69 u70 u71 u72 u73 u74 u75 u76 u77 u78 u79 u80 u81 u82 u83 u84 u85 u86 u87 u88 u89 u90 u91 u92 u93 u94 u95 u96 u97 u98 u99 u100 u101 u102 u103 u104 u105 u106 u107 u108 u109 u110 u111 u112 u113 u114 u115 u116 u117 u118 u119 u120 u121 u122 u123 u124 u125 u126 u127 u128 u129 u130 u131 u132 u133 u134 u135 u136 u137 u138 u139 u140 u141 u142 u143 u144 u145 u146 u147 u148 u149 u150 u151 u152 u153 u154 u155 u156 u157 u158 u159 u160 u161 u162 u163 u164 u165 u166 u167 u168 u169 u170 u171 u172 u173 u174 u175 u176 u177 u178 u179 u180 u181 u182 u183 u184 u185 u186 u187 u188 u189 u190 u191 u192 u193 u194 u195 u196 u197 u198 u199 u200 u201 u202 u203 u204 u205 u206 u207 u208 u209 u210 u211 u212 u213 u214 u215 u216 u217 u218 u219 u220 u221 u222 u223 u224 u225 u226 u227 u228 u229 u230 u231 u232 u233 u234 u235 u236 u237 u238 u239 u240 u241 u242 u243 u244 u245 u246 u247 u248 u249 u250 u251 u252 u253 u254 u255 u256 u257 u258 u259 u260 u261 u262 u263 u264 u265 u266 u267 u268 u269 u270 u271 u272 u273 u274 u275 u276 u277 u278 u279 u280 u281 u282 u283 u284 u285 u286 u287 u288 u289 u290 u291 u292 u293 u294 u295 u296 u297 u298 u299 u300 u301 u302 u303 u304 u305 u306 u307 u308 u309 u310 u311 u312 u313 u314 u315 u316 wy hlo2 hrun2
        have Hrun2 := Lib.hid hrun2
        clear hrun2
        go_wp2_with fail
        go_roundw
        case rel => exact ⟨q2, vs2, vb2, vf2, vr2, lo2, k + 1, rfl, rfl, rfl, rfl, rfl, rfl, by go_num, by omega, by omega, hlo2, Hrun2.out⟩
        case measure => simp [intOf]; omega
    · have key : ((k : Int) < (nd : Int) ∧ ¬ (k : Int) < 70) ∨ ¬ (k : Int) < (nd : Int) := by omega
      clear hkn
      rcases key with ⟨i1, i2⟩ | i1
      all_goals
        go_wp2_with fail
        go_ret
        exact ⟨rfl, Hb.out⟩
end Go.Proofs.YteihfoacdocgkaaDoor
