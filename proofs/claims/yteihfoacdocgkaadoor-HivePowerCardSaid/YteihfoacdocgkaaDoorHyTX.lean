/-
  Layer 5's laws: HivePower's calls, kind by kind.
-/
import Derived.Test.YteihfoacdocgkaaDoorHyOR
set_option linter.unusedVariables false
set_option linter.unusedSimpArgs false
namespace Go.Proofs.YteihfoacdocgkaaDoor
open Go.RowKit Pl Sh
attribute [local go_sem] Lb.ba_get Lb.ba_cut Lb.ba_add Lb.ba_size Lb.take_rest

noncomputable def powLoop : Code := pick [1, 1, 1, 1, 1, 1, 1, 1, 1, 1, 1, 1] powerBody
/-- behind the switch: the power is there, or it went -/
def SwSt (w wx : World) (q : HvP) (sb sg xb : Nat) (ac : List Value) (ds : List ActH) (i kb : Nat) (ev vs vb vf vr : Value) : Prop :=
  (∃ e : Int, e ≠ 10 ∧ ev = .int .i64 e ∧ RunSt w wx q sb sg ds i kb vs vb vf vr) ∨
  (ev = .int .i64 10 ∧ LostSt w wx sb sg ds i (kb + 500) vs vb vf vr ∧ wx.heap[xb]? = some (.cells ac.toArray 71 (0, 0)))
theorem its_lost {B : Nat} {w : World} {S : List Nat} {l : List Item} {sb sg : Nat} (h : Its B w S l) (h1 : sb ∈ S) (h2 : sg ∈ S) : Its B w [sb, sg] l :=
  ⟨h.all, h.nd, fun x hx => ⟨fun hm => by
    simp only [List.mem_cons, List.not_mem_nil, or_false] at hm
    rcases hm with e | e
    · exact (h.out x hx).1 (by rw [e]; exact h1)
    · exact (h.out x hx).1 (by rw [e]; exact h2), (h.out x hx).2⟩⟩
noncomputable def swCode : Code := pick [1, 1, 1, 1, 1, 1, 1, 1, 1, 1, 1, 1, 0, 1, 2, 2, 1, 0, 2, 1, 1, 0, 1] powerBody
set_option maxHeartbeats 8000000 in
set_option maxRecDepth 100000 in
theorem power_sw1 (Q : Exit → Act → World → Prop) (A : Option Addr) (cap nd : Nat) (A2 : Option Addr) (np cap2 : Nat) (ds : List ActH) (w w7 : World) (q : HvP) (sb sg xb k lo : Nat) (C Kp sure blobs : TxL) (safe recs : List RecD) (S : List Nat) (gs gb gf gr : Nat) (vs vb vf vr : Value) (a : ActH) (ac : List Value) (tx : List UInt8) (rd : RecD) (kd : Int)
    (HL : Hid (Laid KK w)) (Hok : Hid (ActHOk w w.heap.size a)) (Hac : Hid (ac = a.cells)) (Htx : Hid (tx = a.text)) (Hrd : Hid (rd = a.r)) (hrf : Hid rd.Fit) (htl : tx.length ≤ 1000) (hid : k < ds.length) (htxd : Hid (ds[k].text = tx)) (h2 : k < 70) (Hinj : Hid (InjT KK ds))
    (HA7 : Hid (PAll w w7 q 128 (48000 - 600 * k) sb sg xb true ac C Kp S)) (Hits7 : Hid (Its w.heap.size w7 S [.str gs vs sure, .str gb vb blobs, .rcd gf vf safe, .rcd gr vr recs])) (HxI : Hid (∀ x ∈ [Item.str gs vs sure, .str gb vb blobs, .rcd gf vf safe, .rcd gr vr recs], xb ≠ x.g))
    (Hpa : Hid (PwA ds k C Kp sure blobs safe recs)) (hC70 : C.length < 128) (k1 : kd = 1) (x1 : w7.cell? ⟨xb, 1, none⟩ = some (.string ⟨tx.toArray⟩))
    (u2 u3 u4 u15 u16 u17 u18 u19 u20 u21 u22 u23 u24 u25 u26 u27 u28 u29 u30 u31 u32 u33 u34 u35 u36 u37 u38 u39 u40 u41 u42 u43 u44 u45 u46 u47 u48 u49 u50 u51 u52 u53 u54 u55 u56 u57 u58 u59 u60 u61 u62 u63 u64 u65 u66 u67 u68 u69 u70 u71 u72 u73 u74 u75 u76 u78 u79 u80 u81 u82 u83 u84 u85 u86 u87 u88 u89 u90 u91 u92 u93 u94 u95 u96 u97 u98 u99 u100 u101 u102 u103 u104 u105 u106 u107 u108 u109 u110 u111 u112 u113 u114 u115 u116 u117 u118 u119 u120 u121 u122 u123 u124 u125 u126 u127 u128 u129 u130 u131 u132 u133 u134 u135 u136 u137 u138 u139 u140 u141 u142 u143 u144 u145 u146 u147 u148 u149 u150 u151 u152 u153 u154 u155 u156 u157 u158 u159 u160 u161 u162 u163 u164 u165 u166 u167 u168 u169 u170 u171 u172 u173 u174 u175 u176 u177 u178 u179 u180 u181 u182 u183 u184 u185 u186 u187 u188 u189 u190 u191 u192 u193 u194 u195 u196 u197 u198 u199 u200 u201 u202 u203 u204 u205 u206 u207 u208 u209 u210 u211 u212 u213 u214 u215 u216 u217 u218 u219 u220 u221 u222 u223 u224 u225 u226 u227 u228 u229 u230 u231 u232 u233 u234 u235 u236 u237 u238 u239 u240 u241 u242 u243 u244 u245 u246 u247 u248 u249 u250 u251 u252 u253 u254 u255 u256 u257 u258 u259 u260 u261 u262 u263 u264 u265 u266 u267 u268 u269 u270 u271 u272 u273 u274 u275 u276 u277 u278 u279 u280 u281 u282 u283 u284 u285 u286 u287 u288 u289 u290 u291 u292 u293 u294 u295 u296 u297 u298 u299 u300 u301 u302 u303 u304 u305 u306 u307 u308 u309 u310 u311 u312 u313 u314 u315 u316 : Value)
    (hQ : Hid (∀ (ev vs vb vf vr u15 u16 u78 u79 u80 u81 u82 u83 u84 u85 u86 u87 u88 u89 u90 u91 u92 u93 u94 u95 u96 u97 u98 u99 u100 u101 u102 u103 u104 u105 u106 u107 u108 u109 u110 u111 u112 u113 u114 u115 u116 u117 u118 u119 u120 u121 u122 u123 u124 u125 u126 u127 u128 u129 u130 u131 u132 u133 u134 u135 u136 u137 u138 : Value) (wy : World), SwSt w wy q sb sg xb ac ds (k + 1) (48000 - 600 * (k + 1)) ev vs vb vf vr → Q .normal ⟨#[.slice A nd cap, .slice A2 np cap2, u2, u3, u4, .pointer (some ⟨sb, 0, none⟩), .pointer (some ⟨q.p, 0, none⟩), ev, vs, vb, vf, vr, .int .i64 lo, .int .i64 k, .pointer (some ⟨xb, 0, none⟩), u15, u16, u17, u18, u19, u20, u21, u22, u23, u24, u25, u26, u27, u28, u29, u30, u31, u32, u33, u34, u35, u36, u37, u38, u39, u40, u41, u42, u43, u44, u45, u46, u47, u48, u49, u50, u51, u52, u53, u54, u55, u56, u57, u58, u59, u60, u61, u62, u63, u64, u65, u66, u67, u68, u69, u70, u71, u72, u73, u74, u75, u76, .int .i64 kd, u78, u79, u80, u81, u82, u83, u84, u85, u86, u87, u88, u89, u90, u91, u92, u93, u94, u95, u96, u97, u98, u99, u100, u101, u102, u103, u104, u105, u106, u107, u108, u109, u110, u111, u112, u113, u114, u115, u116, u117, u118, u119, u120, u121, u122, u123, u124, u125, u126, u127, u128, u129, u130, u131, u132, u133, u134, u135, u136, u137, u138, u139, u140, u141, u142, u143, u144, u145, u146, u147, u148, u149, u150, u151, u152, u153, u154, u155, u156, u157, u158, u159, u160, u161, u162, u163, u164, u165, u166, u167, u168, u169, u170, u171, u172, u173, u174, u175, u176, u177, u178, u179, u180, u181, u182, u183, u184, u185, u186, u187, u188, u189, u190, u191, u192, u193, u194, u195, u196, u197, u198, u199, u200, u201, u202, u203, u204, u205, u206, u207, u208, u209, u210, u211, u212, u213, u214, u215, u216, u217, u218, u219, u220, u221, u222, u223, u224, u225, u226, u227, u228, u229, u230, u231, u232, u233, u234, u235, u236, u237, u238, u239, u240, u241, u242, u243, u244, u245, u246, u247, u248, u249, u250, u251, u252, u253, u254, u255, u256, u257, u258, u259, u260, u261, u262, u263, u264, u265, u266, u267, u268, u269, u270, u271, u272, u273, u274, u275, u276, u277, u278, u279, u280, u281, u282, u283, u284, u285, u286, u287, u288, u289, u290, u291, u292, u293, u294, u295, u296, u297, u298, u299, u300, u301, u302, u303, u304, u305, u306, u307, u308, u309, u310, u311, u312, u313, u314, u315, u316], []⟩ wy)) :
    Code.wp Tryd.prog swCode Q ⟨#[.slice A nd cap, .slice A2 np cap2, u2, u3, u4, .pointer (some ⟨sb, 0, none⟩), .pointer (some ⟨q.p, 0, none⟩), .int .i64 0, vs, vb, vf, vr, .int .i64 lo, .int .i64 k, .pointer (some ⟨xb, 0, none⟩), u15, u16, u17, u18, u19, u20, u21, u22, u23, u24, u25, u26, u27, u28, u29, u30, u31, u32, u33, u34, u35, u36, u37, u38, u39, u40, u41, u42, u43, u44, u45, u46, u47, u48, u49, u50, u51, u52, u53, u54, u55, u56, u57, u58, u59, u60, u61, u62, u63, u64, u65, u66, u67, u68, u69, u70, u71, u72, u73, u74, u75, u76, .int .i64 kd, u78, u79, u80, u81, u82, u83, u84, u85, u86, u87, u88, u89, u90, u91, u92, u93, u94, u95, u96, u97, u98, u99, u100, u101, u102, u103, u104, u105, u106, u107, u108, u109, u110, u111, u112, u113, u114, u115, u116, u117, u118, u119, u120, u121, u122, u123, u124, u125, u126, u127, u128, u129, u130, u131, u132, u133, u134, u135, u136, u137, u138, u139, u140, u141, u142, u143, u144, u145, u146, u147, u148, u149, u150, u151, u152, u153, u154, u155, u156, u157, u158, u159, u160, u161, u162, u163, u164, u165, u166, u167, u168, u169, u170, u171, u172, u173, u174, u175, u176, u177, u178, u179, u180, u181, u182, u183, u184, u185, u186, u187, u188, u189, u190, u191, u192, u193, u194, u195, u196, u197, u198, u199, u200, u201, u202, u203, u204, u205, u206, u207, u208, u209, u210, u211, u212, u213, u214, u215, u216, u217, u218, u219, u220, u221, u222, u223, u224, u225, u226, u227, u228, u229, u230, u231, u232, u233, u234, u235, u236, u237, u238, u239, u240, u241, u242, u243, u244, u245, u246, u247, u248, u249, u250, u251, u252, u253, u254, u255, u256, u257, u258, u259, u260, u261, u262, u263, u264, u265, u266, u267, u268, u269, u270, u271, u272, u273, u274, u275, u276, u277, u278, u279, u280, u281, u282, u283, u284, u285, u286, u287, u288, u289, u290, u291, u292, u293, u294, u295, u296, u297, u298, u299, u300, u301, u302, u303, u304, u305, u306, u307, u308, u309, u310, u311, u312, u313, u314, u315, u316], []⟩ w7 := by
  conv => arg 2; whnf
  have h0S : 0 ∉ S := HA7.out.zero HL.out.lt
  have e1 : (kd == 1) = true := by simp [k1]
  clear k1
  by_cases h512 : tx.length ≤ 512
  · have j5 : (tx.length : Int) ≤ 512 := by omega
    have hb13 := (Below.refl w7.heap.size w7).alloc (Nat.le_refl _) (.cells #[.string ⟨tx.toArray⟩] 9)
    have hits13 := Hits7.out.below hb13
    have hs13 : StrL (w7.alloc (.cells #[.string ⟨tx.toArray⟩] 9)) gb vb blobs := hits13.all (.str gb vb blobs) (by simp)
    have hsrc : Src Tryd.prog 1 49 (.slice (some ⟨w7.heap.size, 0, none⟩) 1 1) ([tx] : TxL).length (rowT [tx]) (w7.alloc (.cells #[.string ⟨tx.toArray⟩] 9)) := one_src (by rw [Lib.cell_of_heap (heap_alloc_new w7 _)]; rfl)
    have hl13 : blobs.length + ([tx] : TxL).length ≤ 1000 := by have := Hpa.out.lb; simp only [List.length_singleton]; omega
    have HA13 := Lib.hid (HA7.out.below hb13)
    have Hits13 := Lib.hid hits13
    clear hb13 hits13
    go_upto_region 25 with (at_builtin; refine wpList_strL _ rfl _ _ rfl rfl hs13 _ [tx] rfl hsrc hl13 ?_)
    intro g' v' w14 hs14 hO14 hg14
    have Hits14 := Lib.hid (Hits13.out.set 1 (x := .str gb vb blobs) (y := .str g' v' (blobs ++ [tx])) rfl HA13.out.box.lt HA13.out.old.size hs14 hO14 (by first | exact hg14 | (rcases hg14 with h | h; exact .inl h; exact .inr (Nat.le_trans (Nat.le_of_eq (by simp)) h))))
    have hbx14 := HA13.out.box.its Hits13.out (x := .str gb vb blobs) (by simp) hO14
    have HA14 : Hid (PAll w w14 q 128 (48000 - 600 * k) sb sg xb true ac C Kp S) := Lib.hid ⟨HA13.out.1, HA13.out.2.1, hbx14, HA13.out.lo, HA13.out.2.2.2.2.1, (hO14.block xb (heap_lt HA13.out.blk) (by simp only [List.mem_singleton]; exact HxI.out _ (by simp : Item.str gb vb blobs ∈ _))).trans HA13.out.blk, HA13.out.old.trans (hO14.below HA13.out.old.size (fun z hz => by simp only [List.mem_singleton] at hz; rw [hz]; exact (Hits13.out.out (.str gb vb blobs) (by simp)).2))⟩
    have hq9 := HA14.out.blk
    rw [Hac.out] at hq9
    obtain ⟨-, x1, -, -, -, -⟩ := act_blk hq9 Hok.out.rfit
    rw [← Htx.out] at x1
    have hput := Lib.hid (p_putblob KK q 128 (48000 - 600 * k - 1) true C Kp S tx w14 (HA14.out.box.less (by omega)) (HL.out.below HA14.out.old) h0S (by omega) hC70)
    clear hs13 hsrc hl13 hs14 hO14 hg14 hbx14 hq9 h0S Hits13 HA13 HxI
    go_upto_region 25 with fail
    go_wp2_with fail
    refine hput.out.mono ?_
    rintro r w8 (⟨hb5, -⟩ | ⟨-, ⟨row, hrw, hre⟩, rfl, hbx, hO⟩ | ⟨-, hno, er, rfl, hO, hres⟩)
    · omega
    · have hst : RunSt w w8 q sb sg ds (k + 1) (48000 - 600 * (k + 1)) vs v' vf vr := ⟨HA14.out.1, HA14.out.2.1, _, _, _, _, _, _, _, _, _, _, _, hbx.less (by omega), HA14.out.lo, Hits14.out.only' hO, Hpa.out.old Hinj.out hid h2 htxd.out h512 hrw hre, HA14.out.old.trans (hO.below HA14.out.old.size HA14.out.lo)⟩
      have Hst := Lib.hid hst
      clear hst hrw hre hbx hO hput x1
      try dsimp only
      go_wp2_with fail
      exact hQ.out _ vs v' vf vr _ _ _ _ _ _ _ _ _ _ _ _ _ _ _ _ _ _ _ _ _ _ _ _ _ _ _ _ _ _ _ _ _ _ _ _ _ _ _ _ _ _ _ _ _ _ _ _ _ _ _ _ _ _ _ _ _ _ _ _ _ _ _ _ (.inl ⟨0, by omega, rfl, Hst.out⟩)
    · have hpn := Hpa.out.new hid h2 htxd.out h512
      have hbl := HA14.out.old.trans (hO.below HA14.out.old.size HA14.out.lo)
      rcases hres with ⟨rfl, S2, hbx, hS2⟩ | ⟨rfl, -, hds⟩
      · have hst : RunSt w w8 q sb sg ds (k + 1) (48000 - 600 * (k + 1)) vs v' vf vr := ⟨HA14.out.1, HA14.out.2.1, _, _, _, _, _, _, _, _, _, _, _, hbx.less (by omega), fun x hx => by
          rcases hS2 x hx with h | h
          · exact HA14.out.lo x h
          · exact Nat.le_trans HA14.out.old.size h, Hits14.out.only hO hS2, hpn, hbl⟩
        have Hst := Lib.hid hst
        clear hst hno hO hput hpn hbl hbx hS2 x1
        try dsimp only
        go_wp2_with fail
        exact hQ.out _ vs v' vf vr _ _ _ _ _ _ _ _ _ _ _ _ _ _ _ _ _ _ _ _ _ _ _ _ _ _ _ _ _ _ _ _ _ _ _ _ _ _ _ _ _ _ _ _ _ _ _ _ _ _ _ _ _ _ _ _ _ _ _ _ _ _ _ _ (.inl ⟨0, by omega, rfl, Hst.out⟩)
      · rw [HA14.out.1, HA14.out.2.1] at hds
        have hown := HA14.out.box.own
        rw [HA14.out.1, HA14.out.2.1] at hown
        have hds2 : DShelf KK w8 sb sg 128 (48000 - 600 * (k + 1) + 500) (C ++ [blobRowS tx]) Kp := hds.less (by omega)
        have hst : LostSt w w8 sb sg ds (k + 1) (48000 - 600 * (k + 1) + 500) vs v' vf vr := ⟨_, _, _, _, _, _, _, _, _, _, hds2, its_lost (Hits14.out.only' hO) hown.1 hown.2, hpn.toPwI, hbl⟩
        have Hst := Lib.hid hst
        have Hxq := Lib.hid ((hO.block xb (heap_lt HA14.out.blk) HA14.out.2.2.2.2.1).trans HA14.out.blk)
        clear hst hno hO hput hpn hbl hds hds2 hown x1
        try dsimp only
        go_wp2_with fail
        exact hQ.out _ vs v' vf vr _ _ _ _ _ _ _ _ _ _ _ _ _ _ _ _ _ _ _ _ _ _ _ _ _ _ _ _ _ _ _ _ _ _ _ _ _ _ _ _ _ _ _ _ _ _ _ _ _ _ _ _ _ _ _ _ _ _ _ _ _ _ _ _ (.inr ⟨rfl, Hst.out, Hxq.out⟩)
  · have j5 : ¬ (tx.length : Int) ≤ 512 := by omega
    have hput := Lib.hid (p_putblob KK q 128 (48000 - 600 * k - 1) true C Kp S tx w7 (HA7.out.box.less (by omega)) (HL.out.below HA7.out.old) h0S (by omega) hC70)
    clear h0S HxI
    go_wp2_with fail
    refine hput.out.mono ?_
    rintro r w8 (⟨hb5, rfl, hbx, hO⟩ | ⟨hb5, -⟩ | ⟨hb5, -⟩)
    · have hst : RunSt w w8 q sb sg ds (k + 1) (48000 - 600 * (k + 1)) vs vb vf vr := ⟨HA7.out.1, HA7.out.2.1, _, _, _, _, _, _, _, _, _, _, _, hbx.less (by omega), HA7.out.lo, Hits7.out.only' hO, Hpa.out.next, HA7.out.old.trans (hO.below HA7.out.old.size HA7.out.lo)⟩
      have Hst := Lib.hid hst
      clear hst hbx hO hput x1 hb5
      try dsimp only
      go_wp2_with fail
      exact hQ.out _ vs vb vf vr _ _ _ _ _ _ _ _ _ _ _ _ _ _ _ _ _ _ _ _ _ _ _ _ _ _ _ _ _ _ _ _ _ _ _ _ _ _ _ _ _ _ _ _ _ _ _ _ _ _ _ _ _ _ _ _ _ _ _ _ _ _ _ _ (.inl ⟨33, by omega, rfl, Hst.out⟩)
    · omega
    · omega
set_option maxHeartbeats 8000000 in
set_option maxRecDepth 100000 in
theorem power_sw2 (Q : Exit → Act → World → Prop) (A : Option Addr) (cap nd : Nat) (A2 : Option Addr) (np cap2 : Nat) (ds : List ActH) (w w7 : World) (q : HvP) (sb sg xb k lo : Nat) (C Kp sure blobs : TxL) (safe recs : List RecD) (S : List Nat) (gs gb gf gr : Nat) (vs vb vf vr : Value) (a : ActH) (ac : List Value) (tx : List UInt8) (rd : RecD) (kd : Int)
    (HL : Hid (Laid KK w)) (Hok : Hid (ActHOk w w.heap.size a)) (Hac : Hid (ac = a.cells)) (Htx : Hid (tx = a.text)) (Hrd : Hid (rd = a.r)) (hrf : Hid rd.Fit) (htl : tx.length ≤ 1000) (hid : k < ds.length) (htxd : Hid (ds[k].text = tx)) (h2 : k < 70) (Hinj : Hid (InjT KK ds))
    (HA7 : Hid (PAll w w7 q 128 (48000 - 600 * k) sb sg xb true ac C Kp S)) (Hits7 : Hid (Its w.heap.size w7 S [.str gs vs sure, .str gb vb blobs, .rcd gf vf safe, .rcd gr vr recs])) (HxI : Hid (∀ x ∈ [Item.str gs vs sure, .str gb vb blobs, .rcd gf vf safe, .rcd gr vr recs], xb ≠ x.g))
    (Hpa : Hid (PwA ds k C Kp sure blobs safe recs)) (hC70 : C.length < 128) (k1 : ¬ kd = 1) (k2 : kd = 2) (xr : w7.rangeAt xb 2 rd.cells) (xk : w7.rangeAt xb 2 (byV rd.key))
    (u2 u3 u4 u15 u16 u17 u18 u19 u20 u21 u22 u23 u24 u25 u26 u27 u28 u29 u30 u31 u32 u33 u34 u35 u36 u37 u38 u39 u40 u41 u42 u43 u44 u45 u46 u47 u48 u49 u50 u51 u52 u53 u54 u55 u56 u57 u58 u59 u60 u61 u62 u63 u64 u65 u66 u67 u68 u69 u70 u71 u72 u73 u74 u75 u76 u78 u79 u80 u81 u82 u83 u84 u85 u86 u87 u88 u89 u90 u91 u92 u93 u94 u95 u96 u97 u98 u99 u100 u101 u102 u103 u104 u105 u106 u107 u108 u109 u110 u111 u112 u113 u114 u115 u116 u117 u118 u119 u120 u121 u122 u123 u124 u125 u126 u127 u128 u129 u130 u131 u132 u133 u134 u135 u136 u137 u138 u139 u140 u141 u142 u143 u144 u145 u146 u147 u148 u149 u150 u151 u152 u153 u154 u155 u156 u157 u158 u159 u160 u161 u162 u163 u164 u165 u166 u167 u168 u169 u170 u171 u172 u173 u174 u175 u176 u177 u178 u179 u180 u181 u182 u183 u184 u185 u186 u187 u188 u189 u190 u191 u192 u193 u194 u195 u196 u197 u198 u199 u200 u201 u202 u203 u204 u205 u206 u207 u208 u209 u210 u211 u212 u213 u214 u215 u216 u217 u218 u219 u220 u221 u222 u223 u224 u225 u226 u227 u228 u229 u230 u231 u232 u233 u234 u235 u236 u237 u238 u239 u240 u241 u242 u243 u244 u245 u246 u247 u248 u249 u250 u251 u252 u253 u254 u255 u256 u257 u258 u259 u260 u261 u262 u263 u264 u265 u266 u267 u268 u269 u270 u271 u272 u273 u274 u275 u276 u277 u278 u279 u280 u281 u282 u283 u284 u285 u286 u287 u288 u289 u290 u291 u292 u293 u294 u295 u296 u297 u298 u299 u300 u301 u302 u303 u304 u305 u306 u307 u308 u309 u310 u311 u312 u313 u314 u315 u316 : Value)
    (hQ : Hid (∀ (ev vs vb vf vr u15 u16 u78 u79 u80 u81 u82 u83 u84 u85 u86 u87 u88 u89 u90 u91 u92 u93 u94 u95 u96 u97 u98 u99 u100 u101 u102 u103 u104 u105 u106 u107 u108 u109 u110 u111 u112 u113 u114 u115 u116 u117 u118 u119 u120 u121 u122 u123 u124 u125 u126 u127 u128 u129 u130 u131 u132 u133 u134 u135 u136 u137 u138 : Value) (wy : World), SwSt w wy q sb sg xb ac ds (k + 1) (48000 - 600 * (k + 1)) ev vs vb vf vr → Q .normal ⟨#[.slice A nd cap, .slice A2 np cap2, u2, u3, u4, .pointer (some ⟨sb, 0, none⟩), .pointer (some ⟨q.p, 0, none⟩), ev, vs, vb, vf, vr, .int .i64 lo, .int .i64 k, .pointer (some ⟨xb, 0, none⟩), u15, u16, u17, u18, u19, u20, u21, u22, u23, u24, u25, u26, u27, u28, u29, u30, u31, u32, u33, u34, u35, u36, u37, u38, u39, u40, u41, u42, u43, u44, u45, u46, u47, u48, u49, u50, u51, u52, u53, u54, u55, u56, u57, u58, u59, u60, u61, u62, u63, u64, u65, u66, u67, u68, u69, u70, u71, u72, u73, u74, u75, u76, .int .i64 kd, u78, u79, u80, u81, u82, u83, u84, u85, u86, u87, u88, u89, u90, u91, u92, u93, u94, u95, u96, u97, u98, u99, u100, u101, u102, u103, u104, u105, u106, u107, u108, u109, u110, u111, u112, u113, u114, u115, u116, u117, u118, u119, u120, u121, u122, u123, u124, u125, u126, u127, u128, u129, u130, u131, u132, u133, u134, u135, u136, u137, u138, u139, u140, u141, u142, u143, u144, u145, u146, u147, u148, u149, u150, u151, u152, u153, u154, u155, u156, u157, u158, u159, u160, u161, u162, u163, u164, u165, u166, u167, u168, u169, u170, u171, u172, u173, u174, u175, u176, u177, u178, u179, u180, u181, u182, u183, u184, u185, u186, u187, u188, u189, u190, u191, u192, u193, u194, u195, u196, u197, u198, u199, u200, u201, u202, u203, u204, u205, u206, u207, u208, u209, u210, u211, u212, u213, u214, u215, u216, u217, u218, u219, u220, u221, u222, u223, u224, u225, u226, u227, u228, u229, u230, u231, u232, u233, u234, u235, u236, u237, u238, u239, u240, u241, u242, u243, u244, u245, u246, u247, u248, u249, u250, u251, u252, u253, u254, u255, u256, u257, u258, u259, u260, u261, u262, u263, u264, u265, u266, u267, u268, u269, u270, u271, u272, u273, u274, u275, u276, u277, u278, u279, u280, u281, u282, u283, u284, u285, u286, u287, u288, u289, u290, u291, u292, u293, u294, u295, u296, u297, u298, u299, u300, u301, u302, u303, u304, u305, u306, u307, u308, u309, u310, u311, u312, u313, u314, u315, u316], []⟩ wy)) :
    Code.wp Tryd.prog swCode Q ⟨#[.slice A nd cap, .slice A2 np cap2, u2, u3, u4, .pointer (some ⟨sb, 0, none⟩), .pointer (some ⟨q.p, 0, none⟩), .int .i64 0, vs, vb, vf, vr, .int .i64 lo, .int .i64 k, .pointer (some ⟨xb, 0, none⟩), u15, u16, u17, u18, u19, u20, u21, u22, u23, u24, u25, u26, u27, u28, u29, u30, u31, u32, u33, u34, u35, u36, u37, u38, u39, u40, u41, u42, u43, u44, u45, u46, u47, u48, u49, u50, u51, u52, u53, u54, u55, u56, u57, u58, u59, u60, u61, u62, u63, u64, u65, u66, u67, u68, u69, u70, u71, u72, u73, u74, u75, u76, .int .i64 kd, u78, u79, u80, u81, u82, u83, u84, u85, u86, u87, u88, u89, u90, u91, u92, u93, u94, u95, u96, u97, u98, u99, u100, u101, u102, u103, u104, u105, u106, u107, u108, u109, u110, u111, u112, u113, u114, u115, u116, u117, u118, u119, u120, u121, u122, u123, u124, u125, u126, u127, u128, u129, u130, u131, u132, u133, u134, u135, u136, u137, u138, u139, u140, u141, u142, u143, u144, u145, u146, u147, u148, u149, u150, u151, u152, u153, u154, u155, u156, u157, u158, u159, u160, u161, u162, u163, u164, u165, u166, u167, u168, u169, u170, u171, u172, u173, u174, u175, u176, u177, u178, u179, u180, u181, u182, u183, u184, u185, u186, u187, u188, u189, u190, u191, u192, u193, u194, u195, u196, u197, u198, u199, u200, u201, u202, u203, u204, u205, u206, u207, u208, u209, u210, u211, u212, u213, u214, u215, u216, u217, u218, u219, u220, u221, u222, u223, u224, u225, u226, u227, u228, u229, u230, u231, u232, u233, u234, u235, u236, u237, u238, u239, u240, u241, u242, u243, u244, u245, u246, u247, u248, u249, u250, u251, u252, u253, u254, u255, u256, u257, u258, u259, u260, u261, u262, u263, u264, u265, u266, u267, u268, u269, u270, u271, u272, u273, u274, u275, u276, u277, u278, u279, u280, u281, u282, u283, u284, u285, u286, u287, u288, u289, u290, u291, u292, u293, u294, u295, u296, u297, u298, u299, u300, u301, u302, u303, u304, u305, u306, u307, u308, u309, u310, u311, u312, u313, u314, u315, u316], []⟩ w7 := by
  conv => arg 2; whnf
  have h0S : 0 ∉ S := HA7.out.zero HL.out.lt
  have e1 : (kd == 1) = false := by simp [k1]
  have e2 : (kd == 2) = true := by simp [k2]
  have hrc := Lib.hid (p_rec KK q 128 (48000 - 600 * k - 1) true C Kp S rd.key w7 (HA7.out.box.less (by omega)) (HL.out.below HA7.out.old) hrf.out.k)
  obtain ⟨kc, hkc⟩ : ∃ kc, kc = byV rd.key := ⟨_, rfl⟩
  have hdk : digV rd.key = kc.toArray := by rw [hkc]; rfl
  have klen : kc.length = 32 := by rw [hkc, byV_length, hrf.out.k]
  have kdix : (Tryd.prog.info? 23).map (·.size) = some kc.length := by rw [dig_info, klen]
  have dund := Tryd.underlying23
  rw [← hkc] at xk
  rw [hdk] at hrc
  clear k1 k2 hdk klen hkc
  go_wp2_with (refine wpList_load_mid rfl 23 _ rfl xb 2 rfl kc _ xk dund rfl kdix ?_)
  refine hrc.out.mono ?_
  rintro r wq ⟨x, was, rfl, hxf, hyes, hno, hbx, hO⟩
  try dsimp only
  have HA10 := Lib.hid (HA7.out.step hbx hO (fun x hx => .inl hx))
  have Hits10 := Lib.hid (Hits7.out.only' hO)
  have Hyes : Hid (was = true → ∃ row ∈ C, rowS KK row = some (false, rd.key, row)) := Lib.hid (fun e => by obtain ⟨row, r1, r2, -⟩ := hyes e; exact ⟨row, r1, r2⟩)
  have Hno : Hid (was = false → ∀ r ∈ C, rowS KK r ≠ some (false, rd.key, r)) := Lib.hid (fun e => (hno e).2)
  have rsz : x.row.size = 65 := RecD.row_size hxf
  have rone := RecD.row_one x
  have rinf : (Tryd.prog.info? 26).map (·.size) = some x.row.size := by rw [rec_info, rsz]
  have hzr : Tryd.zeroCells26.size = 65 := by rw [zero_rec, RecD.row_size zeroRec_fit]
  obtain ⟨RV, hRV⟩ : ∃ y, y = x.row := ⟨_, rfl⟩
  rw [← hRV] at rsz rone rinf ⊢
  clear hxf hyes hno hbx hO hrc hRV xk xr HA7 Hits7 kdix
  go_upto_region 28 with (first | (refine wpList_store_row rfl 26 _ _ rfl wq.heap.size RV rfl rfl 26 _ (heap_alloc_new wq _) rinf (by rw [rsz, hzr]) rone ?_))
  show Code.wp _ _ _ _ ((wq.alloc (.cells Tryd.zeroCells26 26)).setRow wq.heap.size RV)
  obtain ⟨hq_ws, hB_ws⟩ := put_newH wq Tryd.zeroCells26 RV 26
  obtain ⟨rb, hp_ws⟩ : ∃ q, q = wq.heap.size := ⟨_, rfl⟩
  obtain ⟨ws, hw_ws⟩ : ∃ y, y = ((wq.alloc (.cells Tryd.zeroCells26 26)).setRow wq.heap.size RV) := ⟨_, rfl⟩
  rw [← hw_ws] at hq_ws hB_ws ⊢
  rw [← hp_ws] at hq_ws ⊢
  have HQ_ws := Lib.hid hq_ws
  have HB_ws := Lib.hid hB_ws
  have Hp_ws := Lib.hid hp_ws
  clear hq_ws hB_ws hp_ws hw_ws
  have HA11 := Lib.hid (HA10.out.below HB_ws.out)
  have Hits11 := Lib.hid (Hits10.out.below HB_ws.out)
  have hq9 := HA11.out.blk
  rw [Hac.out] at hq9
  obtain ⟨-, -, xr, -, -, -⟩ := act_blk hq9 Hok.out.rfit
  rw [← Hrd.out] at xr
  have hput := Lib.hid (p_putrec KK q 128 (48000 - 600 * k - 2) true C Kp S rd ws (HA11.out.box.less (by omega)) (HL.out.below HA11.out.old) h0S (by omega) hC70 hrf.out)
  have hrow : rd.row = rd.cells.toArray := rfl
  have rlen : rd.cells.length = 65 := RecD.len hrf.out
  clear rsz
  have rsz : rd.cells.toArray.size = 65 := by simp [rlen]
  have rdix : (Tryd.prog.info? 26).map (·.size) = some rd.cells.length := by rw [rec_info, rlen]
  have rund := Tryd.underlying26
  rw [hrow] at hput
  obtain ⟨rc, hrc⟩ : ∃ rc, rc = rd.cells := ⟨_, rfl⟩
  rw [← hrc] at xr rdix rlen rsz hput
  have Hrc := Lib.hid hrc
  clear hq9 hrow hrc rone rinf hzr HA10 Hits10 HQ_ws HB_ws Hp_ws h0S
  go_upto_region 29 with (refine wpList_load_mid rfl 26 _ rfl xb 2 rfl rc _ xr rund rfl rdix ?_)
  refine hput.out.mono ?_
  rintro r w8 ⟨er, rfl, ⟨rfl, -, hbx, hO⟩ | ⟨-, ⟨row, hrw, hre, her⟩, hbx, hO⟩ | ⟨hisr, hnone, hO, hres⟩⟩
  · have hst : RunSt w w8 q sb sg ds (k + 1) (48000 - 600 * (k + 1)) vs vb vf vr := ⟨HA11.out.1, HA11.out.2.1, _, _, _, _, _, _, _, _, _, _, _, hbx.less (by omega), HA11.out.lo, Hits11.out.only' hO, Hpa.out.next, HA11.out.old.trans (hO.below HA11.out.old.size HA11.out.lo)⟩
    have Hst := Lib.hid hst
    clear hst hbx hO hput xr
    cases was
    all_goals
      try dsimp only
      go_wp2_with fail
      exact hQ.out _ vs vb vf vr _ _ _ _ _ _ _ _ _ _ _ _ _ _ _ _ _ _ _ _ _ _ _ _ _ _ _ _ _ _ _ _ _ _ _ _ _ _ _ _ _ _ _ _ _ _ _ _ _ _ _ _ _ _ _ _ _ _ _ _ _ _ _ _ (.inl ⟨1, by omega, rfl, Hst.out⟩)
  · have hst : RunSt w w8 q sb sg ds (k + 1) (48000 - 600 * (k + 1)) vs vb vf vr := ⟨HA11.out.1, HA11.out.2.1, _, _, _, _, _, _, _, _, _, _, _, hbx.less (by omega), HA11.out.lo, Hits11.out.only' hO, Hpa.out.next, HA11.out.old.trans (hO.below HA11.out.old.size HA11.out.lo)⟩
    have Hst := Lib.hid hst
    have hwas : was = true := by
      cases was with
      | true => rfl
      | false => exact absurd hre (Hno.out rfl row hrw)
    subst hwas
    have her2 : er ≠ 10 := by rw [her]; split <;> omega
    have Her := Lib.hid her2
    clear hst hrw hre her her2 hbx hO hput xr
    try dsimp only
    go_wp2_with fail
    exact hQ.out _ vs vb vf vr _ _ _ _ _ _ _ _ _ _ _ _ _ _ _ _ _ _ _ _ _ _ _ _ _ _ _ _ _ _ _ _ _ _ _ _ _ _ _ _ _ _ _ _ _ _ _ _ _ _ _ _ _ _ _ _ _ _ _ _ _ _ _ _ (.inl ⟨er, Her.out, rfl, Hst.out⟩)
  · have hwas : was = false := by
      cases was with
      | false => rfl
      | true =>
        obtain ⟨row, r1, r2⟩ := Hyes.out rfl
        exact absurd r2 (hnone row r1)
    subst hwas
    have hpn := Hpa.out.recNew hrf.out hisr
    have hbl := HA11.out.old.trans (hO.below HA11.out.old.size HA11.out.lo)
    have hxq := (hO.block xb (heap_lt HA11.out.blk) HA11.out.2.2.2.2.1).trans HA11.out.blk
    have hxq2 := hxq
    rw [Hac.out] at hxq2
    obtain ⟨-, -, xr, -, -, -⟩ := act_blk hxq2 Hok.out.rfit
    rw [← Hrd.out, ← Hrc.out] at xr
    have hb13 := (Below.refl w8.heap.size w8).alloc (Nat.le_refl _) (.cells rc.toArray 26)
    have hits8 := Hits11.out.only' hO
    have hits13 := hits8.below hb13
    have hl13 : RecL (w8.alloc (.cells rc.toArray 26)) gr vr recs := hits13.all (.rcd gr vr recs) (by simp)
    have hfx : ∀ r ∈ [rd], RecD.Fit r := fun r hr => by simp only [List.mem_singleton] at hr; rw [hr]; exact hrf.out
    have hsrc : Src Tryd.prog 65 33 (.slice (some ⟨w8.heap.size, 0, none⟩) 1 1) ([rd] : List RecD).length (recsC [rd]) (w8.alloc (.cells rc.toArray 26)) := rec_src hrf.out (T := 26) (by rw [heap_alloc_new, Hrc.out]; rfl) 1
    have hlen13 : recs.length + ([rd] : List RecD).length ≤ 1000 := by have := Hpa.out.lr; simp only [List.length_singleton]; omega
    have hbl13 := hbl.trans (hb13.mono hbl.size)
    have Hits13 := Lib.hid hits13
    have Hbl13 := Lib.hid hbl13
    have Hpn := Lib.hid hpn
    have Hb13 := Lib.hid hb13
    have Hxq := Lib.hid hxq
    have HgrS := Lib.hid (hits13.out (.rcd gr vr recs) (by simp))
    rcases hres with ⟨rfl, S2, hbx, hS2⟩ | ⟨rfl, -, hds⟩
    · have Hbx := Lib.hid (hbx.below hb13)
      have HS2 := Lib.hid hS2
      have Hits2 : Hid (Its w.heap.size (w8.alloc (.cells rc.toArray 26)) S2 [.str gs vs sure, .str gb vb blobs, .rcd gf vf safe, .rcd gr vr recs]) := Lib.hid ((Hits11.out.only hO hS2).below hb13)
      have HS2l : Hid (∀ x ∈ S2, w.heap.size ≤ x) := Lib.hid (fun x hx => by
        rcases hS2 x hx with h | h
        · exact HA11.out.lo x h
        · exact Nat.le_trans HA11.out.old.size h)
      clear hisr hnone hO hput hpn hbl hxq hxq2 hb13 hits8 hits13 hbl13 hbx hS2
      try dsimp only
      go_wp2_with (first
        | (refine wpList_load_mid rfl 26 _ rfl xb 2 rfl rc _ xr rund rfl rdix ?_)
        | (refine wpList_rec1 rfl _ rfl _ rfl rsz ?_)
        | (at_builtin; refine wpList_recL _ rfl _ _ rfl rfl hl13 _ [rd] rfl hfx hsrc hlen13 ?_))
      intro g' v' w14 hr14 hO14 hg14
      have hst : RunSt w w14 q sb sg ds (k + 1) (48000 - 600 * (k + 1)) vs vb vf v' := ⟨HA11.out.1, HA11.out.2.1, _, _, _, _, _, _, _, _, _, _, _, (Hbx.out.its Hits2.out (x := .rcd gr vr recs) (by simp) hO14).less (by omega), HS2l.out, Hits2.out.set 3 (x := .rcd gr vr recs) (y := .rcd g' v' (recs ++ [rd])) rfl Hbx.out.lt Hbl13.out.size hr14 hO14 (by first | exact hg14 | (rcases hg14 with h | h; exact .inl h; exact .inr (Nat.le_trans (Nat.le_of_eq (by simp)) h))), Hpn.out, Hbl13.out.trans (hO14.below Hbl13.out.size (fun z hz => by simp only [List.mem_singleton] at hz; rw [hz]; exact HgrS.out.2))⟩
      have Hst := Lib.hid hst
      clear hst hr14 hO14 hg14 hl13 hsrc hfx hlen13 xr
      try dsimp only
      go_wp2_with fail
      exact hQ.out _ vs vb vf v' _ _ _ _ _ _ _ _ _ _ _ _ _ _ _ _ _ _ _ _ _ _ _ _ _ _ _ _ _ _ _ _ _ _ _ _ _ _ _ _ _ _ _ _ _ _ _ _ _ _ _ _ _ _ _ _ _ _ _ _ _ _ _ _ (.inl ⟨0, by omega, rfl, Hst.out⟩)
    · rw [HA11.out.1, HA11.out.2.1] at hds
      have hown := HA11.out.box.own
      rw [HA11.out.1, HA11.out.2.1] at hown
      have hslt : sb < w8.heap.size ∧ sg < w8.heap.size := ⟨Nat.lt_of_lt_of_le (HA11.out.box.lt sb hown.1) hO.size, Nat.lt_of_lt_of_le (HA11.out.box.lt sg hown.2) hO.size⟩
      have Hits2 : Hid (Its w.heap.size (w8.alloc (.cells rc.toArray 26)) [sb, sg] [.str gs vs sure, .str gb vb blobs, .rcd gf vf safe, .rcd gr vr recs]) := Lib.hid (its_lost hits13 hown.1 hown.2)
      have Hds : Hid (DShelf KK (w8.alloc (.cells rc.toArray 26)) sb sg 128 (48000 - 600 * (k + 1) + 500) (C ++ [recRowS rd]) Kp) := Lib.hid ((hds.less (by omega)).keep (hb13.block sb hslt.1) (hb13.block sg hslt.2))
      have Hslt : Hid (sb < (w8.alloc (.cells rc.toArray 26)).heap.size ∧ sg < (w8.alloc (.cells rc.toArray 26)).heap.size) := Lib.hid ⟨Nat.lt_of_lt_of_le hslt.1 hb13.size, Nat.lt_of_lt_of_le hslt.2 hb13.size⟩
      have Hxq3 := Lib.hid (below_keep hb13 hxq)
      have Hgr2 : Hid (gr ≠ sb ∧ gr ≠ sg) := Lib.hid ⟨fun e => HgrS.out.1 (by show gr ∈ S; rw [e]; exact hown.1), fun e => HgrS.out.1 (by show gr ∈ S; rw [e]; exact hown.2)⟩
      clear hisr hnone hO hput hpn hbl hxq hxq2 hb13 hits8 hits13 hbl13 hds hown hslt
      try dsimp only
      go_wp2_with (first
        | (refine wpList_load_mid rfl 26 _ rfl xb 2 rfl rc _ xr rund rfl rdix ?_)
        | (refine wpList_rec1 rfl _ rfl _ rfl rsz ?_)
        | (at_builtin; refine wpList_recL _ rfl _ _ rfl rfl hl13 _ [rd] rfl hfx hsrc hlen13 ?_))
      intro g' v' w14 hr14 hO14 hg14
      have hst : LostSt w w14 sb sg ds (k + 1) (48000 - 600 * (k + 1) + 500) vs vb vf v' := ⟨_, _, _, _, _, _, _, _, _, _, Hds.out.keep (hO14.block sb Hslt.out.1 (by simp only [List.mem_singleton]; exact fun e => Hgr2.out.1 e.symm)) (hO14.block sg Hslt.out.2 (by simp only [List.mem_singleton]; exact fun e => Hgr2.out.2 e.symm)), Hits2.out.set 3 (x := .rcd gr vr recs) (y := .rcd g' v' (recs ++ [rd])) rfl (fun z hz => by simp only [List.mem_cons, List.not_mem_nil, or_false] at hz; rcases hz with rfl | rfl; exact Hslt.out.1; exact Hslt.out.2) Hbl13.out.size hr14 hO14 (by first | exact hg14 | (rcases hg14 with h | h; exact .inl h; exact .inr (Nat.le_trans (Nat.le_of_eq (by simp)) h))), Hpn.out.toPwI, Hbl13.out.trans (hO14.below Hbl13.out.size (fun z hz => by simp only [List.mem_singleton] at hz; rw [hz]; exact HgrS.out.2))⟩
      have Hst := Lib.hid hst
      have Hxq4 := Lib.hid ((hO14.block xb (heap_lt Hxq3.out) (by simp only [List.mem_singleton]; exact HxI.out (.rcd gr vr recs) (by simp))).trans Hxq3.out)
      clear hst hr14 hO14 hg14 hl13 hsrc hfx hlen13 xr
      try dsimp only
      go_wp2_with fail
      exact hQ.out _ vs vb vf v' _ _ _ _ _ _ _ _ _ _ _ _ _ _ _ _ _ _ _ _ _ _ _ _ _ _ _ _ _ _ _ _ _ _ _ _ _ _ _ _ _ _ _ _ _ _ _ _ _ _ _ _ _ _ _ _ _ _ _ _ _ _ _ _ (.inr ⟨rfl, Hst.out, Hxq4.out⟩)
set_option maxHeartbeats 8000000 in
set_option maxRecDepth 100000 in
theorem power_sw3 (Q : Exit → Act → World → Prop) (A : Option Addr) (cap nd : Nat) (A2 : Option Addr) (np cap2 : Nat) (ds : List ActH) (w w7 : World) (q : HvP) (sb sg xb k lo : Nat) (C Kp sure blobs : TxL) (safe recs : List RecD) (S : List Nat) (gs gb gf gr : Nat) (vs vb vf vr : Value) (a : ActH) (ac : List Value) (tx : List UInt8) (rd : RecD) (kd : Int)
    (HL : Hid (Laid KK w)) (Hok : Hid (ActHOk w w.heap.size a)) (Hac : Hid (ac = a.cells)) (Htx : Hid (tx = a.text)) (Hrd : Hid (rd = a.r)) (hrf : Hid rd.Fit) (htl : tx.length ≤ 1000) (hid : k < ds.length) (htxd : Hid (ds[k].text = tx)) (h2 : k < 70) (Hinj : Hid (InjT KK ds))
    (HA7 : Hid (PAll w w7 q 128 (48000 - 600 * k) sb sg xb true ac C Kp S)) (Hits7 : Hid (Its w.heap.size w7 S [.str gs vs sure, .str gb vb blobs, .rcd gf vf safe, .rcd gr vr recs])) (HxI : Hid (∀ x ∈ [Item.str gs vs sure, .str gb vb blobs, .rcd gf vf safe, .rcd gr vr recs], xb ≠ x.g))
    (Hpa : Hid (PwA ds k C Kp sure blobs safe recs)) (hC70 : C.length < 128) (k1 : ¬ kd = 1) (k2 : ¬ kd = 2) (k3 : kd = 3)
    (u2 u3 u4 u15 u16 u17 u18 u19 u20 u21 u22 u23 u24 u25 u26 u27 u28 u29 u30 u31 u32 u33 u34 u35 u36 u37 u38 u39 u40 u41 u42 u43 u44 u45 u46 u47 u48 u49 u50 u51 u52 u53 u54 u55 u56 u57 u58 u59 u60 u61 u62 u63 u64 u65 u66 u67 u68 u69 u70 u71 u72 u73 u74 u75 u76 u78 u79 u80 u81 u82 u83 u84 u85 u86 u87 u88 u89 u90 u91 u92 u93 u94 u95 u96 u97 u98 u99 u100 u101 u102 u103 u104 u105 u106 u107 u108 u109 u110 u111 u112 u113 u114 u115 u116 u117 u118 u119 u120 u121 u122 u123 u124 u125 u126 u127 u128 u129 u130 u131 u132 u133 u134 u135 u136 u137 u138 u139 u140 u141 u142 u143 u144 u145 u146 u147 u148 u149 u150 u151 u152 u153 u154 u155 u156 u157 u158 u159 u160 u161 u162 u163 u164 u165 u166 u167 u168 u169 u170 u171 u172 u173 u174 u175 u176 u177 u178 u179 u180 u181 u182 u183 u184 u185 u186 u187 u188 u189 u190 u191 u192 u193 u194 u195 u196 u197 u198 u199 u200 u201 u202 u203 u204 u205 u206 u207 u208 u209 u210 u211 u212 u213 u214 u215 u216 u217 u218 u219 u220 u221 u222 u223 u224 u225 u226 u227 u228 u229 u230 u231 u232 u233 u234 u235 u236 u237 u238 u239 u240 u241 u242 u243 u244 u245 u246 u247 u248 u249 u250 u251 u252 u253 u254 u255 u256 u257 u258 u259 u260 u261 u262 u263 u264 u265 u266 u267 u268 u269 u270 u271 u272 u273 u274 u275 u276 u277 u278 u279 u280 u281 u282 u283 u284 u285 u286 u287 u288 u289 u290 u291 u292 u293 u294 u295 u296 u297 u298 u299 u300 u301 u302 u303 u304 u305 u306 u307 u308 u309 u310 u311 u312 u313 u314 u315 u316 : Value)
    (hQ : Hid (∀ (ev vs vb vf vr u15 u16 u78 u79 u80 u81 u82 u83 u84 u85 u86 u87 u88 u89 u90 u91 u92 u93 u94 u95 u96 u97 u98 u99 u100 u101 u102 u103 u104 u105 u106 u107 u108 u109 u110 u111 u112 u113 u114 u115 u116 u117 u118 u119 u120 u121 u122 u123 u124 u125 u126 u127 u128 u129 u130 u131 u132 u133 u134 u135 u136 u137 u138 : Value) (wy : World), SwSt w wy q sb sg xb ac ds (k + 1) (48000 - 600 * (k + 1)) ev vs vb vf vr → Q .normal ⟨#[.slice A nd cap, .slice A2 np cap2, u2, u3, u4, .pointer (some ⟨sb, 0, none⟩), .pointer (some ⟨q.p, 0, none⟩), ev, vs, vb, vf, vr, .int .i64 lo, .int .i64 k, .pointer (some ⟨xb, 0, none⟩), u15, u16, u17, u18, u19, u20, u21, u22, u23, u24, u25, u26, u27, u28, u29, u30, u31, u32, u33, u34, u35, u36, u37, u38, u39, u40, u41, u42, u43, u44, u45, u46, u47, u48, u49, u50, u51, u52, u53, u54, u55, u56, u57, u58, u59, u60, u61, u62, u63, u64, u65, u66, u67, u68, u69, u70, u71, u72, u73, u74, u75, u76, .int .i64 kd, u78, u79, u80, u81, u82, u83, u84, u85, u86, u87, u88, u89, u90, u91, u92, u93, u94, u95, u96, u97, u98, u99, u100, u101, u102, u103, u104, u105, u106, u107, u108, u109, u110, u111, u112, u113, u114, u115, u116, u117, u118, u119, u120, u121, u122, u123, u124, u125, u126, u127, u128, u129, u130, u131, u132, u133, u134, u135, u136, u137, u138, u139, u140, u141, u142, u143, u144, u145, u146, u147, u148, u149, u150, u151, u152, u153, u154, u155, u156, u157, u158, u159, u160, u161, u162, u163, u164, u165, u166, u167, u168, u169, u170, u171, u172, u173, u174, u175, u176, u177, u178, u179, u180, u181, u182, u183, u184, u185, u186, u187, u188, u189, u190, u191, u192, u193, u194, u195, u196, u197, u198, u199, u200, u201, u202, u203, u204, u205, u206, u207, u208, u209, u210, u211, u212, u213, u214, u215, u216, u217, u218, u219, u220, u221, u222, u223, u224, u225, u226, u227, u228, u229, u230, u231, u232, u233, u234, u235, u236, u237, u238, u239, u240, u241, u242, u243, u244, u245, u246, u247, u248, u249, u250, u251, u252, u253, u254, u255, u256, u257, u258, u259, u260, u261, u262, u263, u264, u265, u266, u267, u268, u269, u270, u271, u272, u273, u274, u275, u276, u277, u278, u279, u280, u281, u282, u283, u284, u285, u286, u287, u288, u289, u290, u291, u292, u293, u294, u295, u296, u297, u298, u299, u300, u301, u302, u303, u304, u305, u306, u307, u308, u309, u310, u311, u312, u313, u314, u315, u316], []⟩ wy)) :
    Code.wp Tryd.prog swCode Q ⟨#[.slice A nd cap, .slice A2 np cap2, u2, u3, u4, .pointer (some ⟨sb, 0, none⟩), .pointer (some ⟨q.p, 0, none⟩), .int .i64 0, vs, vb, vf, vr, .int .i64 lo, .int .i64 k, .pointer (some ⟨xb, 0, none⟩), u15, u16, u17, u18, u19, u20, u21, u22, u23, u24, u25, u26, u27, u28, u29, u30, u31, u32, u33, u34, u35, u36, u37, u38, u39, u40, u41, u42, u43, u44, u45, u46, u47, u48, u49, u50, u51, u52, u53, u54, u55, u56, u57, u58, u59, u60, u61, u62, u63, u64, u65, u66, u67, u68, u69, u70, u71, u72, u73, u74, u75, u76, .int .i64 kd, u78, u79, u80, u81, u82, u83, u84, u85, u86, u87, u88, u89, u90, u91, u92, u93, u94, u95, u96, u97, u98, u99, u100, u101, u102, u103, u104, u105, u106, u107, u108, u109, u110, u111, u112, u113, u114, u115, u116, u117, u118, u119, u120, u121, u122, u123, u124, u125, u126, u127, u128, u129, u130, u131, u132, u133, u134, u135, u136, u137, u138, u139, u140, u141, u142, u143, u144, u145, u146, u147, u148, u149, u150, u151, u152, u153, u154, u155, u156, u157, u158, u159, u160, u161, u162, u163, u164, u165, u166, u167, u168, u169, u170, u171, u172, u173, u174, u175, u176, u177, u178, u179, u180, u181, u182, u183, u184, u185, u186, u187, u188, u189, u190, u191, u192, u193, u194, u195, u196, u197, u198, u199, u200, u201, u202, u203, u204, u205, u206, u207, u208, u209, u210, u211, u212, u213, u214, u215, u216, u217, u218, u219, u220, u221, u222, u223, u224, u225, u226, u227, u228, u229, u230, u231, u232, u233, u234, u235, u236, u237, u238, u239, u240, u241, u242, u243, u244, u245, u246, u247, u248, u249, u250, u251, u252, u253, u254, u255, u256, u257, u258, u259, u260, u261, u262, u263, u264, u265, u266, u267, u268, u269, u270, u271, u272, u273, u274, u275, u276, u277, u278, u279, u280, u281, u282, u283, u284, u285, u286, u287, u288, u289, u290, u291, u292, u293, u294, u295, u296, u297, u298, u299, u300, u301, u302, u303, u304, u305, u306, u307, u308, u309, u310, u311, u312, u313, u314, u315, u316], []⟩ w7 := by
  conv => arg 2; whnf
  have h0S : 0 ∉ S := HA7.out.zero HL.out.lt
  have e1 : (kd == 1) = false := by simp [k1]
  have e2 : (kd == 2) = false := by simp [k2]
  have e3 : (kd == 3) = true := by simp [k3]
  have hsy := Lib.hid (p_sync KK q 128 (48000 - 600 * k - 1) true C Kp S w7 (HA7.out.box.less (by omega)))
  clear k1 k2 k3
  go_wp2_with fail
  refine hsy.out.mono ?_
  rintro r w8 ⟨hO, ⟨rfl, hbx⟩ | ⟨-, rfl, hds⟩⟩
  · have hbl := HA7.out.old.trans (hO.below HA7.out.old.size HA7.out.lo)
    have hits8 := Hits7.out.only' hO
    have hb1 := (Below.refl w8.heap.size w8).alloc (Nat.le_refl _) (.cells #[] 9)
    have hits1 := hits8.cons hbl.size hbx.lt hb1 (y := .str w8.heap.size (.slice (some ⟨w8.heap.size, 0, none⟩) 0 0) []) strL_new (Nat.le_refl _)
    have hn1 : StrL (w8.alloc (.cells #[] 9)) w8.heap.size (.slice (some ⟨w8.heap.size, 0, none⟩) 0 0) [] := strL_new
    have hvb : StrL (w8.alloc (.cells #[] 9)) gb vb blobs := hits1.all (.str gb vb blobs) (by simp)
    have hsrc := hvb.src
    have hl1 : ([] : TxL).length + blobs.length ≤ 1000 := by have := Hpa.out.lb; simp only [List.length_nil]; omega
    have Hits1 := Lib.hid hits1
    have HB1 := Lib.hid (hbl.trans (hb1.mono hbl.size))
    have Hbx1 := Lib.hid (hbx.below hb1)
    have HBl := Lib.hid hbl
    have Hqbg : Hid (q.b = sb ∧ q.g = sg) := Lib.hid ⟨HA7.out.1, HA7.out.2.1⟩
    have HloS : Hid (∀ x ∈ S, w.heap.size ≤ x) := Lib.hid HA7.out.lo
    clear hsy hO hbx hbl hits8 hb1 hits1 hvb HA7 Hits7
    try dsimp only
    go_upto_region 35 with (at_builtin; refine wpList_strL _ rfl _ _ rfl rfl hn1 _ blobs rfl hsrc hl1 ?_)
    intro g1 v1 w2 hs2 hO2 hg2
    have hits2 := Hits1.out.set 0 (x := .str w8.heap.size (.slice (some ⟨w8.heap.size, 0, none⟩) 0 0) []) (y := .str g1 v1 blobs) rfl Hbx1.out.lt HB1.out.size hs2 hO2 (by first | exact hg2 | (rcases hg2 with h | h; exact .inl h; exact .inr (Nat.le_trans (Nat.le_of_eq (by simp)) h)))
    have Hits2 := Lib.hid hits2
    have Hbx2 := Lib.hid (Hbx1.out.its Hits1.out (x := .str w8.heap.size (.slice (some ⟨w8.heap.size, 0, none⟩) 0 0) []) (by simp) hO2)
    have HB2 := Lib.hid (HB1.out.trans (hO2.below HB1.out.size (fun z hz => by simp only [List.mem_singleton] at hz; rw [hz]; exact HBl.out.size)))
    clear hn1 hsrc hl1 hs2 hO2 hg2 hits2 Hits1 Hbx1 HB1 HBl
    go_upto_region 35 with fail
    have hb3 := (Below.refl w2.heap.size w2).alloc (Nat.le_refl _) (.cells #[] 26)
    have hits3 := Hits2.out.cons HB2.out.size Hbx2.out.lt hb3 (y := .rcd w2.heap.size (.slice (some ⟨w2.heap.size, 0, none⟩) 0 0) []) recL_new (Nat.le_refl _)
    have hn3 : RecL (w2.alloc (.cells #[] 26)) w2.heap.size (.slice (some ⟨w2.heap.size, 0, none⟩) 0 0) [] := recL_new
    have hlv : RecL (w2.alloc (.cells #[] 26)) gr vr recs := hits3.all (.rcd gr vr recs) (by simp)
    have hsrc3 := hlv.src
    have hlf := hlv.fit
    have hl3 : ([] : List RecD).length + recs.length ≤ 1000 := by have := Hpa.out.lr; simp only [List.length_nil]; omega
    have Hits3 := Lib.hid hits3
    have HB3 := Lib.hid (HB2.out.trans (hb3.mono HB2.out.size))
    have Hbx3 := Lib.hid (Hbx2.out.below hb3)
    clear hb3 hits3 hlv
    go_wp2_with (at_builtin; refine wpList_recL _ rfl _ _ rfl rfl hn3 _ recs rfl hlf hsrc3 hl3 ?_)
    intro g3 v3 w4 hs4 hO4 hg4
    have hits4 := Hits3.out.set 0 (x := .rcd w2.heap.size (.slice (some ⟨w2.heap.size, 0, none⟩) 0 0) []) (y := .rcd g3 v3 recs) rfl Hbx3.out.lt HB3.out.size hs4 hO4 (by first | exact hg4 | (rcases hg4 with h | h; exact .inl h; exact .inr (Nat.le_trans (Nat.le_of_eq (by simp)) h)))
    have Hbx4 := Lib.hid (Hbx3.out.its Hits3.out (x := .rcd w2.heap.size (.slice (some ⟨w2.heap.size, 0, none⟩) 0 0) []) (by simp) hO4)
    have HB4 := Lib.hid (HB3.out.trans (hO4.below HB3.out.size (fun z hz => by simp only [List.mem_singleton] at hz; rw [hz]; exact HB2.out.size)))
    have hits5 : Its w.heap.size w4 S [.str g1 v1 blobs, .str gb vb blobs, .rcd g3 v3 recs, .rcd gr vr recs] := by
      have h1 : Its w.heap.size w4 S [.rcd g3 v3 recs, .str g1 v1 blobs, .str gs vs sure, .str gb vb blobs, .rcd gf vf safe, .rcd gr vr recs] := hits4
      have h2 : Its w.heap.size w4 S [.rcd g3 v3 recs, .str g1 v1 blobs, .str gb vb blobs, .rcd gr vr recs] := h1.sub (.cons_cons _ (.cons_cons _ (.cons _ (.cons_cons _ (.cons _ (List.Sublist.refl _))))))
      refine h2.perm ?_
      exact List.Perm.trans (l₂ := [.str g1 v1 blobs, .rcd g3 v3 recs, .str gb vb blobs, .rcd gr vr recs]) (.cons _ (.swap ..)) (.swap ..)
    have hst : RunSt w w4 q sb sg ds (k + 1) (48000 - 600 * (k + 1)) v1 vb v3 vr := ⟨Hqbg.out.1, Hqbg.out.2, _, _, _, _, _, _, _, _, _, _, _, Hbx4.out.less (by omega), HloS.out, hits5, Hpa.out.sync, HB4.out⟩
    have Hst := Lib.hid hst
    clear hn3 hsrc3 hl3 hlf hs4 hO4 hg4 hits4 hits5 hst Hits3 Hbx3 HB3 Hits2 Hbx2 HB2
    go_wp2_with fail
    exact hQ.out _ v1 vb v3 vr _ _ _ _ _ _ _ _ _ _ _ _ _ _ _ _ _ _ _ _ _ _ _ _ _ _ _ _ _ _ _ _ _ _ _ _ _ _ _ _ _ _ _ _ _ _ _ _ _ _ _ _ _ _ _ _ _ _ _ _ _ _ _ _ (.inl ⟨0, by omega, rfl, Hst.out⟩)
  · rw [HA7.out.1, HA7.out.2.1] at hds
    have hown := HA7.out.box.own
    rw [HA7.out.1, HA7.out.2.1] at hown
    have hst : LostSt w w8 sb sg ds (k + 1) (48000 - 600 * (k + 1) + 500) vs vb vf vr := ⟨_, _, _, _, _, _, _, _, _, _, hds.less (by omega), its_lost (Hits7.out.only' hO) hown.1 hown.2, Hpa.out.next.toPwI, HA7.out.old.trans (hO.below HA7.out.old.size HA7.out.lo)⟩
    have Hst := Lib.hid hst
    have Hxq := Lib.hid ((hO.block xb (heap_lt HA7.out.blk) HA7.out.2.2.2.2.1).trans HA7.out.blk)
    clear hst hsy hO hds hown
    try dsimp only
    go_wp2_with fail
    exact hQ.out _ vs vb vf vr _ _ _ _ _ _ _ _ _ _ _ _ _ _ _ _ _ _ _ _ _ _ _ _ _ _ _ _ _ _ _ _ _ _ _ _ _ _ _ _ _ _ _ _ _ _ _ _ _ _ _ _ _ _ _ _ _ _ _ _ _ _ _ _ (.inr ⟨rfl, Hst.out, Hxq.out⟩)
set_option maxHeartbeats 8000000 in
set_option maxRecDepth 100000 in
theorem power_sw8 (Q : Exit → Act → World → Prop) (A : Option Addr) (cap nd : Nat) (A2 : Option Addr) (np cap2 : Nat) (ds : List ActH) (w w7 : World) (q : HvP) (sb sg xb k lo : Nat) (C Kp sure blobs : TxL) (safe recs : List RecD) (S : List Nat) (gs gb gf gr : Nat) (vs vb vf vr : Value) (a : ActH) (ac : List Value) (tx : List UInt8) (rd : RecD) (kd : Int)
    (HL : Hid (Laid KK w)) (Hok : Hid (ActHOk w w.heap.size a)) (Hac : Hid (ac = a.cells)) (Htx : Hid (tx = a.text)) (Hrd : Hid (rd = a.r)) (hrf : Hid rd.Fit) (htl : tx.length ≤ 1000) (hid : k < ds.length) (htxd : Hid (ds[k].text = tx)) (h2 : k < 70) (Hinj : Hid (InjT KK ds))
    (HA7 : Hid (PAll w w7 q 128 (48000 - 600 * k) sb sg xb true ac C Kp S)) (Hits7 : Hid (Its w.heap.size w7 S [.str gs vs sure, .str gb vb blobs, .rcd gf vf safe, .rcd gr vr recs])) (HxI : Hid (∀ x ∈ [Item.str gs vs sure, .str gb vb blobs, .rcd gf vf safe, .rcd gr vr recs], xb ≠ x.g))
    (Hpa : Hid (PwA ds k C Kp sure blobs safe recs)) (hC70 : C.length < 128) (k1 : ¬ kd = 1) (k2 : ¬ kd = 2) (k3 : ¬ kd = 3)
    (u2 u3 u4 u15 u16 u17 u18 u19 u20 u21 u22 u23 u24 u25 u26 u27 u28 u29 u30 u31 u32 u33 u34 u35 u36 u37 u38 u39 u40 u41 u42 u43 u44 u45 u46 u47 u48 u49 u50 u51 u52 u53 u54 u55 u56 u57 u58 u59 u60 u61 u62 u63 u64 u65 u66 u67 u68 u69 u70 u71 u72 u73 u74 u75 u76 u78 u79 u80 u81 u82 u83 u84 u85 u86 u87 u88 u89 u90 u91 u92 u93 u94 u95 u96 u97 u98 u99 u100 u101 u102 u103 u104 u105 u106 u107 u108 u109 u110 u111 u112 u113 u114 u115 u116 u117 u118 u119 u120 u121 u122 u123 u124 u125 u126 u127 u128 u129 u130 u131 u132 u133 u134 u135 u136 u137 u138 u139 u140 u141 u142 u143 u144 u145 u146 u147 u148 u149 u150 u151 u152 u153 u154 u155 u156 u157 u158 u159 u160 u161 u162 u163 u164 u165 u166 u167 u168 u169 u170 u171 u172 u173 u174 u175 u176 u177 u178 u179 u180 u181 u182 u183 u184 u185 u186 u187 u188 u189 u190 u191 u192 u193 u194 u195 u196 u197 u198 u199 u200 u201 u202 u203 u204 u205 u206 u207 u208 u209 u210 u211 u212 u213 u214 u215 u216 u217 u218 u219 u220 u221 u222 u223 u224 u225 u226 u227 u228 u229 u230 u231 u232 u233 u234 u235 u236 u237 u238 u239 u240 u241 u242 u243 u244 u245 u246 u247 u248 u249 u250 u251 u252 u253 u254 u255 u256 u257 u258 u259 u260 u261 u262 u263 u264 u265 u266 u267 u268 u269 u270 u271 u272 u273 u274 u275 u276 u277 u278 u279 u280 u281 u282 u283 u284 u285 u286 u287 u288 u289 u290 u291 u292 u293 u294 u295 u296 u297 u298 u299 u300 u301 u302 u303 u304 u305 u306 u307 u308 u309 u310 u311 u312 u313 u314 u315 u316 : Value)
    (hQ : Hid (∀ (ev vs vb vf vr u15 u16 u78 u79 u80 u81 u82 u83 u84 u85 u86 u87 u88 u89 u90 u91 u92 u93 u94 u95 u96 u97 u98 u99 u100 u101 u102 u103 u104 u105 u106 u107 u108 u109 u110 u111 u112 u113 u114 u115 u116 u117 u118 u119 u120 u121 u122 u123 u124 u125 u126 u127 u128 u129 u130 u131 u132 u133 u134 u135 u136 u137 u138 : Value) (wy : World), SwSt w wy q sb sg xb ac ds (k + 1) (48000 - 600 * (k + 1)) ev vs vb vf vr → Q .normal ⟨#[.slice A nd cap, .slice A2 np cap2, u2, u3, u4, .pointer (some ⟨sb, 0, none⟩), .pointer (some ⟨q.p, 0, none⟩), ev, vs, vb, vf, vr, .int .i64 lo, .int .i64 k, .pointer (some ⟨xb, 0, none⟩), u15, u16, u17, u18, u19, u20, u21, u22, u23, u24, u25, u26, u27, u28, u29, u30, u31, u32, u33, u34, u35, u36, u37, u38, u39, u40, u41, u42, u43, u44, u45, u46, u47, u48, u49, u50, u51, u52, u53, u54, u55, u56, u57, u58, u59, u60, u61, u62, u63, u64, u65, u66, u67, u68, u69, u70, u71, u72, u73, u74, u75, u76, .int .i64 kd, u78, u79, u80, u81, u82, u83, u84, u85, u86, u87, u88, u89, u90, u91, u92, u93, u94, u95, u96, u97, u98, u99, u100, u101, u102, u103, u104, u105, u106, u107, u108, u109, u110, u111, u112, u113, u114, u115, u116, u117, u118, u119, u120, u121, u122, u123, u124, u125, u126, u127, u128, u129, u130, u131, u132, u133, u134, u135, u136, u137, u138, u139, u140, u141, u142, u143, u144, u145, u146, u147, u148, u149, u150, u151, u152, u153, u154, u155, u156, u157, u158, u159, u160, u161, u162, u163, u164, u165, u166, u167, u168, u169, u170, u171, u172, u173, u174, u175, u176, u177, u178, u179, u180, u181, u182, u183, u184, u185, u186, u187, u188, u189, u190, u191, u192, u193, u194, u195, u196, u197, u198, u199, u200, u201, u202, u203, u204, u205, u206, u207, u208, u209, u210, u211, u212, u213, u214, u215, u216, u217, u218, u219, u220, u221, u222, u223, u224, u225, u226, u227, u228, u229, u230, u231, u232, u233, u234, u235, u236, u237, u238, u239, u240, u241, u242, u243, u244, u245, u246, u247, u248, u249, u250, u251, u252, u253, u254, u255, u256, u257, u258, u259, u260, u261, u262, u263, u264, u265, u266, u267, u268, u269, u270, u271, u272, u273, u274, u275, u276, u277, u278, u279, u280, u281, u282, u283, u284, u285, u286, u287, u288, u289, u290, u291, u292, u293, u294, u295, u296, u297, u298, u299, u300, u301, u302, u303, u304, u305, u306, u307, u308, u309, u310, u311, u312, u313, u314, u315, u316], []⟩ wy)) :
    Code.wp Tryd.prog swCode Q ⟨#[.slice A nd cap, .slice A2 np cap2, u2, u3, u4, .pointer (some ⟨sb, 0, none⟩), .pointer (some ⟨q.p, 0, none⟩), .int .i64 0, vs, vb, vf, vr, .int .i64 lo, .int .i64 k, .pointer (some ⟨xb, 0, none⟩), u15, u16, u17, u18, u19, u20, u21, u22, u23, u24, u25, u26, u27, u28, u29, u30, u31, u32, u33, u34, u35, u36, u37, u38, u39, u40, u41, u42, u43, u44, u45, u46, u47, u48, u49, u50, u51, u52, u53, u54, u55, u56, u57, u58, u59, u60, u61, u62, u63, u64, u65, u66, u67, u68, u69, u70, u71, u72, u73, u74, u75, u76, .int .i64 kd, u78, u79, u80, u81, u82, u83, u84, u85, u86, u87, u88, u89, u90, u91, u92, u93, u94, u95, u96, u97, u98, u99, u100, u101, u102, u103, u104, u105, u106, u107, u108, u109, u110, u111, u112, u113, u114, u115, u116, u117, u118, u119, u120, u121, u122, u123, u124, u125, u126, u127, u128, u129, u130, u131, u132, u133, u134, u135, u136, u137, u138, u139, u140, u141, u142, u143, u144, u145, u146, u147, u148, u149, u150, u151, u152, u153, u154, u155, u156, u157, u158, u159, u160, u161, u162, u163, u164, u165, u166, u167, u168, u169, u170, u171, u172, u173, u174, u175, u176, u177, u178, u179, u180, u181, u182, u183, u184, u185, u186, u187, u188, u189, u190, u191, u192, u193, u194, u195, u196, u197, u198, u199, u200, u201, u202, u203, u204, u205, u206, u207, u208, u209, u210, u211, u212, u213, u214, u215, u216, u217, u218, u219, u220, u221, u222, u223, u224, u225, u226, u227, u228, u229, u230, u231, u232, u233, u234, u235, u236, u237, u238, u239, u240, u241, u242, u243, u244, u245, u246, u247, u248, u249, u250, u251, u252, u253, u254, u255, u256, u257, u258, u259, u260, u261, u262, u263, u264, u265, u266, u267, u268, u269, u270, u271, u272, u273, u274, u275, u276, u277, u278, u279, u280, u281, u282, u283, u284, u285, u286, u287, u288, u289, u290, u291, u292, u293, u294, u295, u296, u297, u298, u299, u300, u301, u302, u303, u304, u305, u306, u307, u308, u309, u310, u311, u312, u313, u314, u315, u316], []⟩ w7 := by
  conv => arg 2; whnf
  have e1 : (kd == 1) = false := by simp [k1]
  have e2 : (kd == 2) = false := by simp [k2]
  have e3 : (kd == 3) = false := by simp [k3]
  by_cases k8 : kd = 8
  · have e8 : (kd == 8) = true := by simp [k8]
    have hds := HA7.out.box.shelf
    rw [HA7.out.1, HA7.out.2.1] at hds
    have hown := HA7.out.box.own
    rw [HA7.out.1, HA7.out.2.1] at hown
    have hst : LostSt w w7 sb sg ds (k + 1) (48000 - 600 * (k + 1) + 500) vs vb vf vr := ⟨_, _, _, _, _, _, _, _, _, _, hds.less (by omega), its_lost Hits7.out hown.1 hown.2, Hpa.out.next.toPwI, HA7.out.old⟩
    have Hst := Lib.hid hst
    have Hxq := Lib.hid HA7.out.blk
    clear hst hds hown k1 k2 k3 k8
    try dsimp only
    go_wp2_with fail
    exact hQ.out _ vs vb vf vr _ _ _ _ _ _ _ _ _ _ _ _ _ _ _ _ _ _ _ _ _ _ _ _ _ _ _ _ _ _ _ _ _ _ _ _ _ _ _ _ _ _ _ _ _ _ _ _ _ _ _ _ _ _ _ _ _ _ _ _ _ _ _ _ (.inr ⟨rfl, Hst.out, Hxq.out⟩)
  · have e8 : (kd == 8) = false := by simp [k8]
    have hst : RunSt w w7 q sb sg ds (k + 1) (48000 - 600 * (k + 1)) vs vb vf vr := ⟨HA7.out.1, HA7.out.2.1, _, _, _, _, _, _, _, _, _, _, _, HA7.out.box.less (by omega), HA7.out.lo, Hits7.out, Hpa.out.next, HA7.out.old⟩
    have Hst := Lib.hid hst
    clear hst k1 k2 k3 k8
    try dsimp only
    go_wp2_with fail
    exact hQ.out _ vs vb vf vr _ _ _ _ _ _ _ _ _ _ _ _ _ _ _ _ _ _ _ _ _ _ _ _ _ _ _ _ _ _ _ _ _ _ _ _ _ _ _ _ _ _ _ _ _ _ _ _ _ _ _ _ _ _ _ _ _ _ _ _ _ _ _ _ (.inl ⟨0, by omega, rfl, Hst.out⟩)
end Go.Proofs.YteihfoacdocgkaaDoor
