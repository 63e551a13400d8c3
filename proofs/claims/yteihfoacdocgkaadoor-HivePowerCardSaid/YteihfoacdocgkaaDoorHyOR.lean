/-
  Layer 5's laws: HivePower behind a loss: off and on, opened again, the blobs.
-/
import Derived.Test.YteihfoacdocgkaaDoorHyLN
import Derived.Deep.Fields
import Derived.ChangeSame
set_option linter.unusedVariables false
set_option linter.unusedSimpArgs false
namespace Go.Proofs.YteihfoacdocgkaaDoor
open Go.RowKit Pl Sh
attribute [local go_sem] Lb.ba_get Lb.ba_cut Lb.ba_add Lb.ba_size Lb.take_rest

set_option maxHeartbeats 8000000 in
set_option maxRecDepth 100000 in
theorem loss_d (Q : Exit → Act → World → Prop) (A : Option Addr) (cap nd : Nat) (A2 : Option Addr) (np cap2 : Nat) (ps : List Int) (ds : List ActH) (w wx : World) (q : HvP) (sb sg i kb lo0 : Nat) (C Kp sure blobs C' ks : TxL) (safe recs left : List RecD) (S : List Nat) (gb gl : Nat) (vb vl : Value) (nn nk c21 : Nat) (A21 : Option Addr)
    (HL : Hid (Laid KK w)) (HP : Hid (Ints w w.heap.size A2 ps)) (Hnp : Hid (np = ps.length)) (Hpb : Hid (∀ p ∈ ps, -9223372036854775808 ≤ p ∧ p ≤ 9223372036854775807)) (hnp63 : (np : Int) ≤ 9223372036854775807)
    (Hlo : Hid (LoS w.heap.size ds (i + 1) sb sg q C Kp sure blobs safe recs C' S)) (Hlt : Hid (LeftI C' ks recs ks.length left)) (Hkp : Hid (ks.Perm (keysC KK C'))) (Hnn : Hid (nn = (firstsTo C' blobs blobs.length).length)) (Hnk : Hid (nk = ks.length))
    (Hits : Hid (Its w.heap.size wx S [.str gb vb blobs, .rcd gl vl left])) (Hbox : Hid (PBox KK wx q 128 (kb + 100) true C' C' S)) (Hb : Hid (Below w.heap.size w wx)) (hi70 : i < 70) (hlo0 : lo0 ≤ i)
    (u2 u3 u4 u8 u10 u11 u14 u15 u16 u18 u19 u20 u23 u24 u25 u26 u27 u28 u29 u30 u31 u32 u33 u34 u35 u36 u37 u38 u39 u40 u41 u42 u43 u44 u45 u46 u47 u48 u49 u50 u51 u52 u53 u54 u55 u56 u57 u58 u59 u60 u61 u62 u63 u64 u65 u66 u67 u68 u69 u70 u71 u72 u73 u74 u75 u76 u77 u78 u79 u80 u81 u82 u83 u84 u85 u86 u87 u88 u89 u90 u91 u92 u93 u94 u95 u96 u97 u98 u99 u100 u101 u102 u103 u104 u105 u106 u107 u108 u109 u110 u111 u112 u113 u114 u115 u116 u117 u118 u119 u120 u121 u122 u123 u124 u125 u126 u127 u128 u129 u130 u131 u132 u133 u134 u135 u136 u137 u138 u139 u140 u141 u142 u143 u144 u145 u146 u147 u148 u149 u150 u151 u152 u153 u154 u155 u156 u157 u158 u159 u160 u161 u162 u163 u164 u165 u166 u167 u168 u169 u170 u171 u172 u173 u174 u175 u176 u177 u178 u179 u180 u181 u182 u183 u184 u185 u186 u187 u188 u189 u190 u191 u192 u193 u194 u195 u196 u197 u198 u199 u200 u201 u202 u203 u204 u205 u206 u207 u208 u209 u210 u211 u212 u213 u214 u215 u216 u217 u218 u219 u220 u221 u222 u223 u224 u225 u226 u227 u228 u229 u230 u231 u232 u233 u234 u235 u236 u237 u238 u239 u240 u241 u242 u243 u244 u245 u246 u247 u248 u249 u250 u251 u252 u253 u254 u255 u256 u257 u258 u259 u260 u261 u262 u263 u264 u265 u266 u267 u268 u269 u270 u271 u272 u273 u274 u275 u276 u277 u278 u279 u280 u281 u282 u283 u284 u285 u286 u287 u288 u289 u290 u291 u292 u293 u294 u295 u296 u297 u298 u299 u300 u301 u302 u303 u304 u305 u306 u307 u308 u309 u310 u311 u312 u313 u314 u315 u316 : Value)
    (hp : Hid (∀ c (a a2 : Act) W, a.defers = a2.defers → Q (.panic c) a W → Q (.panic c) a2 W)) (hQ : Hid (∀ (q : HvP) (lo : Nat) (vs vb vf vr u4 : Value) (u14 u15 u16 u17 u18 u19 u20 u21 u22 u23 u24 u25 u26 u27 u28 u29 u62 u63 u64 u65 u66 u67 u68 u69 u70 u71 u72 u73 u74 u75 u76 u77 u78 u79 u80 u81 u82 u83 u84 u85 u86 u87 u88 u89 u90 u91 u92 u93 u94 u95 u96 u97 u98 u99 u100 u101 u102 u103 u104 u105 u106 u107 u108 u109 u110 u111 u112 u113 u114 u115 u116 u117 u118 u119 u120 u121 u122 u123 u124 u125 u126 u127 u128 u129 u130 u131 u132 u133 u134 u135 u136 u137 u138 u139 u140 u141 u142 u143 u144 u145 u146 u147 u148 u149 u150 u151 u152 u153 u154 u155 u156 u157 u158 u159 u160 u161 u162 u163 u164 u165 u166 u167 u168 u169 u170 u171 u172 u173 u174 u175 u176 u177 u178 u179 u180 u181 u182 u183 u184 u185 u186 u187 u188 u189 u190 u191 u192 u193 u194 u195 u196 u197 u198 u199 u200 u201 u202 u203 u204 u205 u206 u207 u208 u209 u210 u211 u212 u213 u214 u215 u216 u217 u218 u219 u220 u221 u222 u223 u224 u225 u226 u227 u228 u229 u230 u231 u232 u233 u234 u235 u236 u237 u238 u239 u240 u241 u242 u243 u244 u245 u246 u247 u248 u249 u250 u251 u252 u253 u254 u255 u256 u257 u258 u259 u260 u261 u262 u263 u264 u265 u266 u267 u268 u269 u270 u271 u272 u273 u274 u275 u276 u277 u278 u279 u280 u281 u282 u283 u284 u285 u286 u287 u288 u289 u290 u291 u292 u293 u294 u295 u296 u297 u298 u299 u300 u301 u302 u303 u304 u305 u306 u307 u308 u309 u310 u311 u312 u313 u314 u315 u316 : Value) (wy : World), lo ≤ i + 1 → RunSt w wy q sb sg ds (i + 1) kb vs vb vf vr → Q .normal ⟨#[.slice A nd cap, .slice A2 np cap2, u2, u3, u4, .pointer (some ⟨sb, 0, none⟩), .pointer (some ⟨q.p, 0, none⟩), .int .i64 0, vs, vb, vf, vr, .int .i64 lo, .int .i64 i, u14, u15, u16, u17, u18, u19, u20, u21, u22, u23, u24, u25, u26, u27, u28, u29, u30, u31, u32, u33, u34, u35, u36, u37, u38, u39, u40, u41, u42, u43, u44, u45, u46, u47, u48, u49, u50, u51, u52, u53, u54, u55, u56, u57, u58, u59, u60, u61, u62, u63, u64, u65, u66, u67, u68, u69, u70, u71, u72, u73, u74, u75, u76, u77, u78, u79, u80, u81, u82, u83, u84, u85, u86, u87, u88, u89, u90, u91, u92, u93, u94, u95, u96, u97, u98, u99, u100, u101, u102, u103, u104, u105, u106, u107, u108, u109, u110, u111, u112, u113, u114, u115, u116, u117, u118, u119, u120, u121, u122, u123, u124, u125, u126, u127, u128, u129, u130, u131, u132, u133, u134, u135, u136, u137, u138, u139, u140, u141, u142, u143, u144, u145, u146, u147, u148, u149, u150, u151, u152, u153, u154, u155, u156, u157, u158, u159, u160, u161, u162, u163, u164, u165, u166, u167, u168, u169, u170, u171, u172, u173, u174, u175, u176, u177, u178, u179, u180, u181, u182, u183, u184, u185, u186, u187, u188, u189, u190, u191, u192, u193, u194, u195, u196, u197, u198, u199, u200, u201, u202, u203, u204, u205, u206, u207, u208, u209, u210, u211, u212, u213, u214, u215, u216, u217, u218, u219, u220, u221, u222, u223, u224, u225, u226, u227, u228, u229, u230, u231, u232, u233, u234, u235, u236, u237, u238, u239, u240, u241, u242, u243, u244, u245, u246, u247, u248, u249, u250, u251, u252, u253, u254, u255, u256, u257, u258, u259, u260, u261, u262, u263, u264, u265, u266, u267, u268, u269, u270, u271, u272, u273, u274, u275, u276, u277, u278, u279, u280, u281, u282, u283, u284, u285, u286, u287, u288, u289, u290, u291, u292, u293, u294, u295, u296, u297, u298, u299, u300, u301, u302, u303, u304, u305, u306, u307, u308, u309, u310, u311, u312, u313, u314, u315, u316], []⟩ wy)) :
    Code.wp Tryd.prog lossD Q ⟨#[.slice A nd cap, .slice A2 np cap2, u2, u3, u4, .pointer (some ⟨sb, 0, none⟩), .pointer (some ⟨q.p, 0, none⟩), .int .i64 0, u8, vb, u10, u11, .int .i64 lo0, .int .i64 i, u14, u15, u16, .int .i64 nn, u18, u19, u20, .slice A21 nk c21, vl, u23, u24, u25, u26, u27, u28, u29, u30, u31, u32, u33, u34, u35, u36, u37, u38, u39, u40, u41, u42, u43, u44, u45, u46, u47, u48, u49, u50, u51, u52, u53, u54, u55, u56, u57, u58, u59, u60, u61, u62, u63, u64, u65, u66, u67, u68, u69, u70, u71, u72, u73, u74, u75, u76, u77, u78, u79, u80, u81, u82, u83, u84, u85, u86, u87, u88, u89, u90, u91, u92, u93, u94, u95, u96, u97, u98, u99, u100, u101, u102, u103, u104, u105, u106, u107, u108, u109, u110, u111, u112, u113, u114, u115, u116, u117, u118, u119, u120, u121, u122, u123, u124, u125, u126, u127, u128, u129, u130, u131, u132, u133, u134, u135, u136, u137, u138, u139, u140, u141, u142, u143, u144, u145, u146, u147, u148, u149, u150, u151, u152, u153, u154, u155, u156, u157, u158, u159, u160, u161, u162, u163, u164, u165, u166, u167, u168, u169, u170, u171, u172, u173, u174, u175, u176, u177, u178, u179, u180, u181, u182, u183, u184, u185, u186, u187, u188, u189, u190, u191, u192, u193, u194, u195, u196, u197, u198, u199, u200, u201, u202, u203, u204, u205, u206, u207, u208, u209, u210, u211, u212, u213, u214, u215, u216, u217, u218, u219, u220, u221, u222, u223, u224, u225, u226, u227, u228, u229, u230, u231, u232, u233, u234, u235, u236, u237, u238, u239, u240, u241, u242, u243, u244, u245, u246, u247, u248, u249, u250, u251, u252, u253, u254, u255, u256, u257, u258, u259, u260, u261, u262, u263, u264, u265, u266, u267, u268, u269, u270, u271, u272, u273, u274, u275, u276, u277, u278, u279, u280, u281, u282, u283, u284, u285, u286, u287, u288, u289, u290, u291, u292, u293, u294, u295, u296, u297, u298, u299, u300, u301, u302, u303, u304, u305, u306, u307, u308, u309, u310, u311, u312, u313, u314, u315, u316], []⟩ wx := by
  conv => arg 2; whnf
  have hvb : StrL wx gb vb blobs := Hits.out.all (.str gb vb blobs) (by simp)
  obtain ⟨cb, hcb⟩ := hvb.shape
  subst hcb
  obtain ⟨nb, hnb⟩ : ∃ n, n = blobs.length := ⟨_, rfl⟩
  rw [← hnb]
  have Hnb := Lib.hid hnb
  clear hvb hnb
  have hnb70 : nb ≤ 70 := by rw [Hnb.out]; exact Nat.le_trans Hlo.out.pw.lb (by omega)
  have hcount := Hlo.out.pw.count Hlo.out.sub Hlo.out.ok
  rw [← Hnn.out, ← Hkp.out.length_eq, ← Hnk.out] at hcount
  have hc70 := Hlo.out.len
  have hlen := Lib.hid (p_len Hbox.out)
  obtain ⟨m, hm⟩ : ∃ m, m = C'.length := ⟨_, rfl⟩
  rw [← hm] at hlen hcount hc70
  have e3 : ((m : Int) != (nn : Int) + (nk : Int)) = false := by simp; omega
  have e4 : IntKind.i64.wrap ((nn : Int) + (nk : Int)) = (nn : Int) + (nk : Int) := IntWalk.i64_in _ (by omega)
  clear hm
  go_upto_region 70 with fail
  refine hlen.out.mono ?_
  rintro r w5 ⟨rfl, rfl⟩
  try dsimp only
  clear hlen
  go_upto_region 71 with fail
  have hb1 := (Below.refl wx.heap.size wx).alloc (Nat.le_refl _) (.cells #[] 9)
  have hits1 := Hits.out.cons Hb.out.size Hbox.out.lt hb1 (y := .str wx.heap.size (.slice (some ⟨wx.heap.size, 0, none⟩) 0 0) []) strL_new (Nat.le_refl _)
  have Hits1 := Lib.hid hits1
  have Hbox1 := Lib.hid (Hbox.out.below hb1)
  have Hb1 := Lib.hid (Hb.out.trans (hb1.mono Hb.out.size))
  obtain ⟨gs0, hgs0⟩ : ∃ g, g = wx.heap.size := ⟨_, rfl⟩
  obtain ⟨w6, hw6⟩ : ∃ y, y = wx.alloc (.cells #[] 9) := ⟨_, rfl⟩
  rw [← hw6] at Hits1 Hbox1 Hb1 ⊢
  rw [← hgs0] at Hits1 ⊢
  obtain ⟨vs0, hvs0⟩ : ∃ v, v = Value.slice (some ⟨gs0, 0, none⟩) 0 0 := ⟨_, rfl⟩
  rw [← hvs0] at Hits1 ⊢
  clear hb1 hits1 hgs0 hw6 hvs0 e3 e4 hcount
  go_wp2_with fail
  go_loopw [8, 27] (fun sv0 kv wz => ∃ (k gs : Nat) (sv : Value), sv = sv0 ∧ k ≤ nb ∧ kv = .int .i64 k ∧ Its w.heap.size wz S [.str gs sv (hereTo C' blobs k), .str gb (.slice (some ⟨gb, 0, none⟩) blobs.length cb) blobs, .rcd gl vl left] ∧ PBox KK wz q 128 (kb + 100 - k) true C' C' S ∧ Below w.heap.size w wz) (fun _ kv _ => nb - (intOf kv).toNat)
  case atStart => exact ⟨0, gs0, vs0, rfl, by omega, rfl, Hits1.out, Hbox1.out, Hb1.out⟩
  case round =>
    obtain ⟨k, gs, sv, rfl, hk, rfl, hits, hbox, hb⟩ := hrel
    have HitsK := Lib.hid hits
    have HboxK := Lib.hid hbox
    have HbK := Lib.hid hb
    clear hits hbox hb Hits Hbox Hb Hits1 Hbox1 Hb1
    by_cases hkn : k < nb
    · have j1 : (k : Int) < (nb : Int) := by omega
      have hkl : k < blobs.length := by rw [← Hnb.out]; exact hkn
      have hst : StrL wr gb (.slice (some ⟨gb, 0, none⟩) blobs.length cb) blobs := HitsK.out.all (.str gb (.slice (some ⟨gb, 0, none⟩) blobs.length cb) blobs) (by simp)
      have c0 := hst.cell k hkl
      obtain ⟨t, ht⟩ : ∃ t, t = blobs[k] := ⟨_, rfl⟩
      have hget : blobs.getD k [] = t := by rw [List.getD_eq_getElem?_getD, List.getElem?_eq_getElem hkl, Option.getD_some, ht]
      rw [← ht] at c0
      have htm : t ∈ blobs := by rw [ht]; exact List.getElem_mem hkl
      have htl : t.length ≤ 512 := (Hlo.out.pw.txt t htm).1
      have hhs := here_succ (C := C') hkl
      rw [hget] at hhs
      have Hhs := Lib.hid hhs
      have Hkl := Lib.hid hkl
      have Hget := Lib.hid hget
      have Htm := Lib.hid htm
      have hb1s := (Below.refl wr.heap.size wr).alloc (Nat.le_refl _) (.cells #[.string ⟨t.toArray⟩] 9)
      have ca : (wr.alloc (.cells #[.string ⟨t.toArray⟩] 9)).cell? ⟨wr.heap.size, 0, none⟩ = some (.string ⟨t.toArray⟩) := by rw [Lib.cell_of_heap (heap_alloc_new wr _)]; rfl
      have hof := Lib.hid (of_hash KK (some ⟨wr.heap.size, 0, none⟩) 1 t _ ((HL.out.below HbK.out).below hb1s) ⟨_, rfl, ca⟩ (by omega))
      have Hb1s := Lib.hid hb1s
      have hh := hashB_length KK t
      obtain ⟨hd, hhd⟩ : ∃ x, x = hashB KK t := ⟨_, rfl⟩
      rw [← hhd] at hh hof
      have Hhd := Lib.hid hhd
      have Hh := Lib.hid hh
      obtain ⟨DV, hDV⟩ : ∃ x, x = digV hd := ⟨_, rfl⟩
      rw [← hDV] at hof
      have HDV := Lib.hid hDV
      clear hDV hst ht hget hkl htm hhs hb1s ca hhd hh
      go_wp2_with fail
      refine hof.out.mono ?_
      rintro r wy ⟨rfl, hby⟩
      try dsimp only
      have Hby := Lib.hid (Hb1s.out.trans (hby.mono Hb1s.out.size))
      have HbY := Lib.hid (HbK.out.trans (Hby.out.mono HbK.out.size))
      have HitsY := Lib.hid (HitsK.out.below Hby.out)
      have hbl := Lib.hid (p_blob KK q 128 (kb + 100 - k - 1) true C' C' S hd wy ((HboxK.out.below Hby.out).less (by omega)) (HL.out.below HbY.out) Hh.out)
      rw [← HDV.out] at hbl
      clear hof hby c0
      go_wp2_with fail
      refine hbl.out.mono ?_
      rintro r wv ⟨u, ok, rfl, hyes, hno, hbx, hO⟩
      try dsimp only
      have Hbv := Lib.hid (HbY.out.trans (hO.below HbY.out.size Hlo.out.lo))
      have HitsV := Lib.hid (HitsY.out.only' hO)
      have Hbx := Lib.hid hbx
      have hth := Hlo.out.there (t := t) (u := u) (ok := ok) Htm.out (by rw [← Hhd.out]; exact hyes) (by rw [← Hhd.out]; exact hno)
      have hstv : StrL wv gb (.slice (some ⟨gb, 0, none⟩) blobs.length cb) blobs := HitsV.out.all (.str gb (.slice (some ⟨gb, 0, none⟩) blobs.length cb) blobs) (by simp)
      have c1 := hstv.cellT k Hkl.out Hget.out
      clear hyes hno hbx hO hbl hstv
      rcases hth with ⟨rfl, hm, rfl⟩ | ⟨rfl, hm⟩
      · rw [if_pos hm] at Hhs
        have hb13 := (Below.refl wv.heap.size wv).alloc (Nat.le_refl _) (.cells #[.string ⟨u.toArray⟩] 9)
        have hits13 := HitsV.out.below hb13
        have hs13 : StrL (wv.alloc (.cells #[.string ⟨u.toArray⟩] 9)) gs sv (hereTo C' blobs k) := hits13.all (.str gs sv (hereTo C' blobs k)) (by simp)
        have hsrc : Src Tryd.prog 1 49 (.slice (some ⟨wv.heap.size, 0, none⟩) 1 1) ([u] : TxL).length (rowT [u]) (wv.alloc (.cells #[.string ⟨u.toArray⟩] 9)) := one_src (by rw [Lib.cell_of_heap (heap_alloc_new wv _)]; rfl)
        have hl13 : (hereTo C' blobs k).length + ([u] : TxL).length ≤ 1000 := by have := here_len C' blobs k; have := Hnb.out; simp only [List.length_singleton]; omega
        have HB13 := Lib.hid (Hbv.out.trans (hb13.mono Hbv.out.size))
        have Hbx13 := Lib.hid (Hbx.out.below hb13)
        have Hits13 := Lib.hid hits13
        clear hb13 hits13 hm
        go_wp2_with (at_builtin; refine wpList_strL _ rfl _ _ rfl rfl hs13 _ [u] rfl hsrc hl13 ?_)
        intro g' v' w14 hs14 hO14 hg14
        have hits14 := Hits13.out.set 0 (x := .str gs sv (hereTo C' blobs k)) (y := .str g' v' (hereTo C' blobs k ++ [u])) rfl Hbx13.out.lt HB13.out.size hs14 hO14 hg14
        have Hits14 := Lib.hid hits14
        have Hbx14 := Lib.hid (Hbx13.out.its Hits13.out (x := .str gs sv (hereTo C' blobs k)) (by simp) hO14)
        have HB14 := Lib.hid (HB13.out.trans (hO14.below HB13.out.size (fun z hz => by simp only [List.mem_singleton] at hz; rw [hz]; exact (Hits13.out.out (.str gs sv (hereTo C' blobs k)) (by simp)).2)))
        clear hs13 hsrc hl13 hs14 hO14 hg14 hits14 c1
        go_wp2_with fail
        go_roundw
        case rel => exact ⟨k + 1, g', v', rfl, by omega, by go_num, by rw [Hhs.out]; exact Hits14.out, Hbx14.out.less (by omega), HB14.out⟩
        case measure => simp [intOf]; omega
      · rw [if_neg hm] at Hhs
        clear hm c1
        go_wp2_with fail
        go_roundw
        case rel => exact ⟨k + 1, gs, sv, rfl, by omega, by go_num, by rw [Hhs.out]; exact HitsV.out, Hbx.out.less (by omega), Hbv.out⟩
        case measure => simp [intOf]; omega
    · obtain rfl : k = nb := by omega
      have j1 : ¬ (k : Int) < (k : Int) := by omega
      have hb1 := (Below.refl wr.heap.size wr).alloc (Nat.le_refl _) (.cells #[] 9)
      have hits1 := HitsK.out.cons HbK.out.size HboxK.out.lt hb1 (y := .str wr.heap.size (.slice (some ⟨wr.heap.size, 0, none⟩) 0 0) []) strL_new (Nat.le_refl _)
      have hn1 : StrL (wr.alloc (.cells #[] 9)) wr.heap.size (.slice (some ⟨wr.heap.size, 0, none⟩) 0 0) [] := strL_new
      have hsv : StrL (wr.alloc (.cells #[] 9)) gs sv (hereTo C' blobs k) := hits1.all (.str gs sv (hereTo C' blobs k)) (by simp)
      have hsrc := hsv.src
      have hl1 : ([] : TxL).length + (hereTo C' blobs k).length ≤ 1000 := by have := here_len C' blobs k; have := Hnb.out; simp only [List.length_nil]; omega
      have Hits1 := Lib.hid hits1
      have HB1 := Lib.hid (HbK.out.trans (hb1.mono HbK.out.size))
      have Hbx1 := Lib.hid (HboxK.out.below hb1)
      clear hb1 hits1 hsv hkn
      go_upto_region 78 with (at_builtin; refine wpList_strL _ rfl _ _ rfl rfl hn1 _ (hereTo C' blobs k) rfl hsrc hl1 ?_)
      intro g1 v1 w2 hs2 hO2 hg2
      have hits2 := Hits1.out.set 0 (x := .str wr.heap.size (.slice (some ⟨wr.heap.size, 0, none⟩) 0 0) []) (y := .str g1 v1 (hereTo C' blobs k)) rfl Hbx1.out.lt HB1.out.size hs2 hO2 hg2
      have Hits2 := Lib.hid hits2
      have Hbx2 := Lib.hid (Hbx1.out.its Hits1.out (x := .str wr.heap.size (.slice (some ⟨wr.heap.size, 0, none⟩) 0 0) []) (by simp) hO2)
      have HB2 := Lib.hid (HB1.out.trans (hO2.below HB1.out.size (fun z hz => by simp only [List.mem_singleton] at hz; rw [hz]; exact HbK.out.size)))
      clear hn1 hsrc hl1 hs2 hO2 hg2 hits2 Hits1 Hbx1 HB1 HitsK HboxK HbK
      go_upto_region 78 with fail
      have hb3 := (Below.refl w2.heap.size w2).alloc (Nat.le_refl _) (.cells #[] 26)
      have hits3 := Hits2.out.cons HB2.out.size Hbx2.out.lt hb3 (y := .rcd w2.heap.size (.slice (some ⟨w2.heap.size, 0, none⟩) 0 0) []) recL_new (Nat.le_refl _)
      have hn3 : RecL (w2.alloc (.cells #[] 26)) w2.heap.size (.slice (some ⟨w2.heap.size, 0, none⟩) 0 0) [] := recL_new
      have hlv : RecL (w2.alloc (.cells #[] 26)) gl vl left := hits3.all (.rcd gl vl left) (by simp)
      have hsrc3 := hlv.src
      have hlf := hlv.fit
      have hl3 : ([] : List RecD).length + left.length ≤ 1000 := by have := Hlt.out.len; have := keys_len Hlo.out Hkp.out; simp only [List.length_nil]; omega
      have Hits3 := Lib.hid hits3
      have HB3 := Lib.hid (HB2.out.trans (hb3.mono HB2.out.size))
      have Hbx3 := Lib.hid (Hbx2.out.below hb3)
      clear hb3 hits3 hlv
      go_upto_region 79 with (at_builtin; refine wpList_recL _ rfl _ _ rfl rfl hn3 _ left rfl hlf hsrc3 hl3 ?_)
      intro g3 v3 w4 hs4 hO4 hg4
      have hits4 := Hits3.out.set 0 (x := .rcd w2.heap.size (.slice (some ⟨w2.heap.size, 0, none⟩) 0 0) []) (y := .rcd g3 v3 left) rfl Hbx3.out.lt HB3.out.size hs4 hO4 hg4
      have Hbx4 := Lib.hid (Hbx3.out.its Hits3.out (x := .rcd w2.heap.size (.slice (some ⟨w2.heap.size, 0, none⟩) 0 0) []) (by simp) hO4)
      have HB4 := Lib.hid (HB3.out.trans (hO4.below HB3.out.size (fun z hz => by simp only [List.mem_singleton] at hz; rw [hz]; exact HB2.out.size)))
      have hits5 : Its w.heap.size w4 S [.str gs sv (hereTo C' blobs k), .str g1 v1 (hereTo C' blobs k), .rcd g3 v3 left, .rcd gl vl left] := by
        have h1 : Its w.heap.size w4 S [.rcd g3 v3 left, .str g1 v1 (hereTo C' blobs k), .str gs sv (hereTo C' blobs k), .str gb (.slice (some ⟨gb, 0, none⟩) blobs.length cb) blobs, .rcd gl vl left] := hits4
        have h2 : Its w.heap.size w4 S [.rcd g3 v3 left, .str g1 v1 (hereTo C' blobs k), .str gs sv (hereTo C' blobs k), .rcd gl vl left] := h1.sub (.cons_cons _ (.cons_cons _ (.cons_cons _ (.cons _ (List.Sublist.refl _)))))
        refine h2.perm ?_
        refine List.Perm.trans (l₂ := [.str gs sv (hereTo C' blobs k), .rcd g3 v3 left, .str g1 v1 (hereTo C' blobs k), .rcd gl vl left]) (.cons _ (.swap ..)) ?_
        refine List.Perm.trans (l₂ := [.rcd g3 v3 left, .str gs sv (hereTo C' blobs k), .str g1 v1 (hereTo C' blobs k), .rcd gl vl left]) (.swap ..) (.cons _ (.swap ..))
      have hpa := Hlo.out.pw.again Hlo.out.sub Hlo.out.ok (Hlo.out.pw.lenC Hlo.out.sub Hlo.out.ok) Hlt.out Hkp.out
      rw [← Hnb.out] at hpa
      have Hits5 := Lib.hid hits5
      have Hpa := Lib.hid hpa
      clear hn3 hsrc3 hl3 hlf hs4 hO4 hg4 hits4 hits5 hpa Hits3 Hbx3 HB3 Hits2 Hbx2 HB2
      go_upto_region 80 with fail
      have el1 : ((lo0 : Int) + 1) = ((lo0 + 1 : Nat) : Int) := by omega
      rw [el1]
      obtain ⟨l1, hl1⟩ : ∃ l, l = lo0 + 1 := ⟨_, rfl⟩
      rw [← hl1]
      have hl2 : l1 ≤ i + 1 := by omega
      clear el1 hl1
      by_cases hlp : l1 < np ∧ l1 < 5
      · obtain ⟨p1, p2⟩ := hlp
        have q1 : (l1 : Int) < (np : Int) := by omega
        have q2 : (l1 : Int) < 5 := by omega
        have hpl : l1 < ps.length := by rw [← Hnp.out]; exact p1
        obtain ⟨a, rfl, hab, hpc⟩ := (HP.out.below HB4.out (Nat.le_refl _)) (l1) hpl
        obtain ⟨y, hy⟩ : ∃ y, y = ps[l1] := ⟨_, rfl⟩
        have hyb := Hpb.out y (by rw [hy]; exact List.getElem_mem hpl)
        rw [← hy] at hpc
        obtain ⟨u, kk, hu, hub, hj, hjw, hkm⟩ := u64_modk y 60 (by omega) (by omega) hyb
        have hj' : (u : Int).tmod 60 = (kk : Int) := hj
        have harm := Lib.hid (p_arm (Hbx4.out.less (k' := kb) (by omega)) kk (by omega))
        rw [Hlo.out.qb] at harm
        clear hpl hy hj hab
        go_wp2_with fail
        refine harm.out.mono ?_
        rintro r w6 ⟨rfl, hbx6, hO6⟩
        try dsimp only
        have HB6 := Lib.hid (HB4.out.trans (hO6.below HB4.out.size Hlo.out.lo))
        have Hits6 := Lib.hid (Hits5.out.only' hO6)
        have Hbx6 := Lib.hid hbx6
        clear harm hbx6 hO6 hpc
        go_wp2_with fail
        exact hQ.out q l1 sv v1 v3 vl _
          _ _ _ _ _ _ _ _ _ _ _ _ _ _ _ _ _ _ _ _ _ _ _ _ _ _ _ _ _ _ _ _ _ _ _ _ _ _ _ _ _ _ _ _ _ _ _ _ _ _ _ _ _ _ _ _ _ _ _ _ _ _ _ _ _ _ _ _ _ _ _ _ _ _ _ _ _ _ _ _ _ _ _ _ _ _ _ _ _ _ _ _ _ _ _ _ _ _ _ _ _ _ _ _ _ _ _ _ _ _ _ _ _ _ _ _ _ _ _ _ _ _ _ _ _ _ _ _ _ _ _ _ _ _ _ _ _ _ _ _ _ _ _ _ _ _ _ _ _ _ _ _ _ _ _ _ _ _ _ _ _ _ _ _ _ _ _ _ _ _ _ _ _ _ _ _ _ _ _ _ _ _ _ _ _ _ _ _ _ _ _ _ _ _ _ _ _ _ _ _ _ _ _ _ _ _ _ _ _ _ _ _ _ _ _ _ _ _ _ _ _ _ _ _ _ _ _ _ _ _ _ _ _ _ _ _ _ _ _ _ _ _ _ _ _ _ _ _ _ _ _ _ _ _ _ _ _ _ _ _ _ _ _ _ _ _ _ _ _ _ _ _ (by omega) ⟨Hlo.out.qb, Hlo.out.qg, _, _, _, _, _, _, _, _, _, _, _, Hbx6.out, Hlo.out.lo, Hits6.out, Hpa.out, HB6.out⟩
      · have key : ((l1 : Int) < (np : Int) ∧ ¬ (l1 : Int) < 5) ∨ ¬ (l1 : Int) < (np : Int) := by omega
        clear hlp
        rcases key with ⟨q1, q2⟩ | q1
        all_goals
          go_wp2_with fail
          exact hQ.out q l1 sv v1 v3 vl _
            _ _ _ _ _ _ _ _ _ _ _ _ _ _ _ _ _ _ _ _ _ _ _ _ _ _ _ _ _ _ _ _ _ _ _ _ _ _ _ _ _ _ _ _ _ _ _ _ _ _ _ _ _ _ _ _ _ _ _ _ _ _ _ _ _ _ _ _ _ _ _ _ _ _ _ _ _ _ _ _ _ _ _ _ _ _ _ _ _ _ _ _ _ _ _ _ _ _ _ _ _ _ _ _ _ _ _ _ _ _ _ _ _ _ _ _ _ _ _ _ _ _ _ _ _ _ _ _ _ _ _ _ _ _ _ _ _ _ _ _ _ _ _ _ _ _ _ _ _ _ _ _ _ _ _ _ _ _ _ _ _ _ _ _ _ _ _ _ _ _ _ _ _ _ _ _ _ _ _ _ _ _ _ _ _ _ _ _ _ _ _ _ _ _ _ _ _ _ _ _ _ _ _ _ _ _ _ _ _ _ _ _ _ _ _ _ _ _ _ _ _ _ _ _ _ _ _ _ _ _ _ _ _ _ _ _ _ _ _ _ _ _ _ _ _ _ _ _ _ _ _ _ _ _ _ _ _ _ _ _ _ _ _ _ _ _ _ _ _ _ _ _ (by omega) ⟨Hlo.out.qb, Hlo.out.qg, _, _, _, _, _, _, _, _, _, _, _, Hbx4.out.less (by omega), Hlo.out.lo, Hits5.out, Hpa.out, HB4.out⟩
end Go.Proofs.YteihfoacdocgkaaDoor

set_option linter.unusedVariables false
set_option linter.unusedSimpArgs false
namespace Go.Proofs.YteihfoacdocgkaaDoor
open Go.RowKit Pl Sh
attribute [local go_sem] Lb.ba_get Lb.ba_cut Lb.ba_add Lb.ba_size Lb.take_rest

set_option maxHeartbeats 8000000 in
set_option maxRecDepth 100000 in
theorem loss_c (Q : Exit → Act → World → Prop) (A : Option Addr) (cap nd : Nat) (A2 : Option Addr) (np cap2 : Nat) (ps : List Int) (ds : List ActH) (w wx : World) (q : HvP) (sb sg i kb lo0 : Nat) (C Kp sure blobs C' ks : TxL) (safe recs left : List RecD) (S : List Nat) (gb gf gl : Nat) (vb vf vl : Value) (nn nk c21 : Nat) (A21 : Option Addr)
    (HL : Hid (Laid KK w)) (HP : Hid (Ints w w.heap.size A2 ps)) (Hnp : Hid (np = ps.length)) (Hpb : Hid (∀ p ∈ ps, -9223372036854775808 ≤ p ∧ p ≤ 9223372036854775807)) (hnp63 : (np : Int) ≤ 9223372036854775807)
    (Hlo : Hid (LoS w.heap.size ds (i + 1) sb sg q C Kp sure blobs safe recs C' S)) (Hlt : Hid (LeftI C' ks recs ks.length left)) (Hkp : Hid (ks.Perm (keysC KK C'))) (Hnn : Hid (nn = (firstsTo C' blobs blobs.length).length)) (Hnk : Hid (nk = ks.length))
    (Hits : Hid (Its w.heap.size wx S [.str gb vb blobs, .rcd gf vf safe, .rcd gl vl left])) (Hbox : Hid (PBox KK wx q 128 (kb + 100) true C' C' S)) (Hb : Hid (Below w.heap.size w wx)) (hi70 : i < 70) (hlo0 : lo0 ≤ i)
    (u2 u3 u4 u8 u11 u14 u15 u16 u18 u19 u20 u23 u24 u25 u26 u27 u28 u29 u30 u31 u32 u33 u34 u35 u36 u37 u38 u39 u40 u41 u42 u43 u44 u45 u46 u47 u48 u49 u50 u51 u52 u53 u54 u55 u56 u57 u58 u59 u60 u61 u62 u63 u64 u65 u66 u67 u68 u69 u70 u71 u72 u73 u74 u75 u76 u77 u78 u79 u80 u81 u82 u83 u84 u85 u86 u87 u88 u89 u90 u91 u92 u93 u94 u95 u96 u97 u98 u99 u100 u101 u102 u103 u104 u105 u106 u107 u108 u109 u110 u111 u112 u113 u114 u115 u116 u117 u118 u119 u120 u121 u122 u123 u124 u125 u126 u127 u128 u129 u130 u131 u132 u133 u134 u135 u136 u137 u138 u139 u140 u141 u142 u143 u144 u145 u146 u147 u148 u149 u150 u151 u152 u153 u154 u155 u156 u157 u158 u159 u160 u161 u162 u163 u164 u165 u166 u167 u168 u169 u170 u171 u172 u173 u174 u175 u176 u177 u178 u179 u180 u181 u182 u183 u184 u185 u186 u187 u188 u189 u190 u191 u192 u193 u194 u195 u196 u197 u198 u199 u200 u201 u202 u203 u204 u205 u206 u207 u208 u209 u210 u211 u212 u213 u214 u215 u216 u217 u218 u219 u220 u221 u222 u223 u224 u225 u226 u227 u228 u229 u230 u231 u232 u233 u234 u235 u236 u237 u238 u239 u240 u241 u242 u243 u244 u245 u246 u247 u248 u249 u250 u251 u252 u253 u254 u255 u256 u257 u258 u259 u260 u261 u262 u263 u264 u265 u266 u267 u268 u269 u270 u271 u272 u273 u274 u275 u276 u277 u278 u279 u280 u281 u282 u283 u284 u285 u286 u287 u288 u289 u290 u291 u292 u293 u294 u295 u296 u297 u298 u299 u300 u301 u302 u303 u304 u305 u306 u307 u308 u309 u310 u311 u312 u313 u314 u315 u316 : Value)
    (hp : Hid (∀ c (a a2 : Act) W, a.defers = a2.defers → Q (.panic c) a W → Q (.panic c) a2 W)) (hQ : Hid (∀ (q : HvP) (lo : Nat) (vs vb vf vr u4 : Value) (u14 u15 u16 u17 u18 u19 u20 u21 u22 u23 u24 u25 u26 u27 u28 u29 u62 u63 u64 u65 u66 u67 u68 u69 u70 u71 u72 u73 u74 u75 u76 u77 u78 u79 u80 u81 u82 u83 u84 u85 u86 u87 u88 u89 u90 u91 u92 u93 u94 u95 u96 u97 u98 u99 u100 u101 u102 u103 u104 u105 u106 u107 u108 u109 u110 u111 u112 u113 u114 u115 u116 u117 u118 u119 u120 u121 u122 u123 u124 u125 u126 u127 u128 u129 u130 u131 u132 u133 u134 u135 u136 u137 u138 u139 u140 u141 u142 u143 u144 u145 u146 u147 u148 u149 u150 u151 u152 u153 u154 u155 u156 u157 u158 u159 u160 u161 u162 u163 u164 u165 u166 u167 u168 u169 u170 u171 u172 u173 u174 u175 u176 u177 u178 u179 u180 u181 u182 u183 u184 u185 u186 u187 u188 u189 u190 u191 u192 u193 u194 u195 u196 u197 u198 u199 u200 u201 u202 u203 u204 u205 u206 u207 u208 u209 u210 u211 u212 u213 u214 u215 u216 u217 u218 u219 u220 u221 u222 u223 u224 u225 u226 u227 u228 u229 u230 u231 u232 u233 u234 u235 u236 u237 u238 u239 u240 u241 u242 u243 u244 u245 u246 u247 u248 u249 u250 u251 u252 u253 u254 u255 u256 u257 u258 u259 u260 u261 u262 u263 u264 u265 u266 u267 u268 u269 u270 u271 u272 u273 u274 u275 u276 u277 u278 u279 u280 u281 u282 u283 u284 u285 u286 u287 u288 u289 u290 u291 u292 u293 u294 u295 u296 u297 u298 u299 u300 u301 u302 u303 u304 u305 u306 u307 u308 u309 u310 u311 u312 u313 u314 u315 u316 : Value) (wy : World), lo ≤ i + 1 → RunSt w wy q sb sg ds (i + 1) kb vs vb vf vr → Q .normal ⟨#[.slice A nd cap, .slice A2 np cap2, u2, u3, u4, .pointer (some ⟨sb, 0, none⟩), .pointer (some ⟨q.p, 0, none⟩), .int .i64 0, vs, vb, vf, vr, .int .i64 lo, .int .i64 i, u14, u15, u16, u17, u18, u19, u20, u21, u22, u23, u24, u25, u26, u27, u28, u29, u30, u31, u32, u33, u34, u35, u36, u37, u38, u39, u40, u41, u42, u43, u44, u45, u46, u47, u48, u49, u50, u51, u52, u53, u54, u55, u56, u57, u58, u59, u60, u61, u62, u63, u64, u65, u66, u67, u68, u69, u70, u71, u72, u73, u74, u75, u76, u77, u78, u79, u80, u81, u82, u83, u84, u85, u86, u87, u88, u89, u90, u91, u92, u93, u94, u95, u96, u97, u98, u99, u100, u101, u102, u103, u104, u105, u106, u107, u108, u109, u110, u111, u112, u113, u114, u115, u116, u117, u118, u119, u120, u121, u122, u123, u124, u125, u126, u127, u128, u129, u130, u131, u132, u133, u134, u135, u136, u137, u138, u139, u140, u141, u142, u143, u144, u145, u146, u147, u148, u149, u150, u151, u152, u153, u154, u155, u156, u157, u158, u159, u160, u161, u162, u163, u164, u165, u166, u167, u168, u169, u170, u171, u172, u173, u174, u175, u176, u177, u178, u179, u180, u181, u182, u183, u184, u185, u186, u187, u188, u189, u190, u191, u192, u193, u194, u195, u196, u197, u198, u199, u200, u201, u202, u203, u204, u205, u206, u207, u208, u209, u210, u211, u212, u213, u214, u215, u216, u217, u218, u219, u220, u221, u222, u223, u224, u225, u226, u227, u228, u229, u230, u231, u232, u233, u234, u235, u236, u237, u238, u239, u240, u241, u242, u243, u244, u245, u246, u247, u248, u249, u250, u251, u252, u253, u254, u255, u256, u257, u258, u259, u260, u261, u262, u263, u264, u265, u266, u267, u268, u269, u270, u271, u272, u273, u274, u275, u276, u277, u278, u279, u280, u281, u282, u283, u284, u285, u286, u287, u288, u289, u290, u291, u292, u293, u294, u295, u296, u297, u298, u299, u300, u301, u302, u303, u304, u305, u306, u307, u308, u309, u310, u311, u312, u313, u314, u315, u316], []⟩ wy)) :
    Code.wp Tryd.prog lossC Q ⟨#[.slice A nd cap, .slice A2 np cap2, u2, u3, u4, .pointer (some ⟨sb, 0, none⟩), .pointer (some ⟨q.p, 0, none⟩), .int .i64 0, u8, vb, vf, u11, .int .i64 lo0, .int .i64 i, u14, u15, u16, .int .i64 nn, u18, u19, u20, .slice A21 nk c21, vl, u23, u24, u25, u26, u27, u28, u29, u30, u31, u32, u33, u34, u35, u36, u37, u38, u39, u40, u41, u42, u43, u44, u45, u46, u47, u48, u49, u50, u51, u52, u53, u54, u55, u56, u57, u58, u59, u60, u61, u62, u63, u64, u65, u66, u67, u68, u69, u70, u71, u72, u73, u74, u75, u76, u77, u78, u79, u80, u81, u82, u83, u84, u85, u86, u87, u88, u89, u90, u91, u92, u93, u94, u95, u96, u97, u98, u99, u100, u101, u102, u103, u104, u105, u106, u107, u108, u109, u110, u111, u112, u113, u114, u115, u116, u117, u118, u119, u120, u121, u122, u123, u124, u125, u126, u127, u128, u129, u130, u131, u132, u133, u134, u135, u136, u137, u138, u139, u140, u141, u142, u143, u144, u145, u146, u147, u148, u149, u150, u151, u152, u153, u154, u155, u156, u157, u158, u159, u160, u161, u162, u163, u164, u165, u166, u167, u168, u169, u170, u171, u172, u173, u174, u175, u176, u177, u178, u179, u180, u181, u182, u183, u184, u185, u186, u187, u188, u189, u190, u191, u192, u193, u194, u195, u196, u197, u198, u199, u200, u201, u202, u203, u204, u205, u206, u207, u208, u209, u210, u211, u212, u213, u214, u215, u216, u217, u218, u219, u220, u221, u222, u223, u224, u225, u226, u227, u228, u229, u230, u231, u232, u233, u234, u235, u236, u237, u238, u239, u240, u241, u242, u243, u244, u245, u246, u247, u248, u249, u250, u251, u252, u253, u254, u255, u256, u257, u258, u259, u260, u261, u262, u263, u264, u265, u266, u267, u268, u269, u270, u271, u272, u273, u274, u275, u276, u277, u278, u279, u280, u281, u282, u283, u284, u285, u286, u287, u288, u289, u290, u291, u292, u293, u294, u295, u296, u297, u298, u299, u300, u301, u302, u303, u304, u305, u306, u307, u308, u309, u310, u311, u312, u313, u314, u315, u316], []⟩ wx := by
  conv => arg 2; whnf
  have hvf : RecL wx gf vf safe := Hits.out.all (.rcd gf vf safe) (by simp)
  obtain ⟨cf, hcf⟩ := hvf.shape
  subst hcf
  obtain ⟨nf, hnf⟩ : ∃ n, n = safe.length := ⟨_, rfl⟩
  rw [← hnf]
  have Hnf := Lib.hid hnf
  clear hvf hnf
  have hnf70 : nf ≤ 70 := by rw [Hnf.out]; exact Nat.le_trans Hlo.out.pw.lf (by omega)
  go_upto_block 7 with fail
  go_cut [4, 26] from 245 to 257 (fun xv kv wz => Its w.heap.size wz S [.str gb vb blobs, .rcd gf (.slice (some ⟨gf, 0, none⟩) safe.length cf) safe, .rcd gl vl left] ∧ PBox KK wz q 128 (kb + 100) true C' C' S ∧ Below w.heap.size w wz)
  case first =>
    go_wp2_with fail
    go_loopw [26] (fun kv wz => ∃ k : Nat, k ≤ nf ∧ kv = .int .i64 k ∧ Its w.heap.size wz S [.str gb vb blobs, .rcd gf (.slice (some ⟨gf, 0, none⟩) safe.length cf) safe, .rcd gl vl left] ∧ PBox KK wz q 128 (kb + 100) true C' C' S ∧ Below w.heap.size w wz) (fun kv _ => nf - (intOf kv).toNat)
    case atStart => exact ⟨0, by omega, rfl, Hits.out, Hbox.out, Hb.out⟩
    case round =>
      obtain ⟨k, hk, rfl, hits, hbox, hb⟩ := hrel
      have HitsK := Lib.hid hits
      have HboxK := Lib.hid hbox
      have HbK := Lib.hid hb
      clear hits hbox hb Hits Hbox Hb
      by_cases hkn : k < nf
      · have j1 : (k : Int) < (nf : Int) := by omega
        have hkl : k < safe.length := by rw [← Hnf.out]; exact hkn
        have hst : RecL wr gf (.slice (some ⟨gf, 0, none⟩) safe.length cf) safe := HitsK.out.all (.rcd gf (.slice (some ⟨gf, 0, none⟩) safe.length cf) safe) (by simp)
        have hlv : RecL wr gl vl left := HitsK.out.all (.rcd gl vl left) (by simp)
        have r65 := hst.range k hkl
        obtain ⟨x, hx⟩ : ∃ x, x = safe[k] := ⟨_, rfl⟩
        have hxm : x ∈ safe := by rw [hx]; exact List.getElem_mem hkl
        rw [← hx] at r65
        obtain ⟨s1, s2⟩ := Hlo.out.pw.saf x hxm
        have hxf := (Hlo.out.pw.fit x s1).1
        have hxl : x ∈ left := LeftI.all Hlo.out.pw Hlt.out Hlo.out.ok Hkp.out s1 (Hlo.out.kp _ s2)
        have hll : left.length ≤ 1000 := by have := Hlt.out.len; have := keys_len Hlo.out Hkp.out; omega
        have hkw := Lib.hid (known_any gl vl left x wr hlv hll hxf)
        have hrow : x.row = x.cells.toArray := rfl
        have rdix : (Tryd.prog.info? 26).map (·.size) = some x.cells.length := by rw [rec_info, RecD.len hxf]
        have rund := Tryd.underlying26
        rw [hrow] at hkw
        obtain ⟨rc, hrc⟩ : ∃ rc, rc = x.cells := ⟨_, rfl⟩
        rw [← hrc] at hkw rdix r65
        have Hxl := Lib.hid hxl
        clear hkl hst hlv hx hxm s1 s2 hxf hxl hll hrow hrc
        go_wp2_with (refine wpList_load_mid rfl 26 _ rfl gf (k * 65) rfl rc _ r65 rund rfl rdix ?_)
        refine hkw.out.mono ?_
        rintro r w4 ⟨b, rfl, hbl, hB⟩
        try dsimp only
        have HB4 := Lib.hid (HbK.out.trans (hB.mono HbK.out.size))
        have Hits4 := Lib.hid (HitsK.out.below hB)
        have Hbox4 := Lib.hid (HboxK.out.below hB)
        obtain rfl : b = true := hbl.2 Hxl.out
        clear hbl hB hkw r65 rdix rund
        go_wp2_with fail
        go_roundw
        case rel => exact ⟨k + 1, by omega, by go_num, Hits4.out, Hbox4.out, HB4.out⟩
        case measure => simp [intOf]; omega
      · obtain rfl : k = nf := by omega
        have j1 : ¬ (k : Int) < (k : Int) := by omega
        clear hkn
        go_wp2_with fail
        go_meet
        case rel => exact ⟨HitsK.out, HboxK.out, HbK.out⟩
  obtain ⟨hits, hbox, hb⟩ := hcut
  have Hits2 : Hid (Its w.heap.size wc S [.str gb vb blobs, .rcd gl vl left]) := Lib.hid (hits.sub (.cons_cons _ (.cons _ (List.Sublist.refl _))))
  apply_assumption
  exact loss_d Q A cap nd A2 np cap2 ps ds w _ q sb sg i kb lo0 C Kp sure blobs C' ks safe recs left S gb gl vb vl nn nk c21 A21 HL HP Hnp Hpb hnp63 Hlo Hlt Hkp Hnn Hnk Hits2 (Lib.hid hbox) (Lib.hid hb) hi70 hlo0
    _ _ _ _ _ _ _ _ _ _ _ _ _ _ _ _ _ _ _ _ _ _ _ _ _ _ _ _ _ _ _ _ _ _ _ _ _ _ _ _ _ _ _ _ _ _ _ _ _ _ _ _ _ _ _ _ _ _ _ _ _ _ _ _ _ _ _ _ _ _ _ _ _ _ _ _ _ _ _ _ _ _ _ _ _ _ _ _ _ _ _ _ _ _ _ _ _ _ _ _ _ _ _ _ _ _ _ _ _ _ _ _ _ _ _ _ _ _ _ _ _ _ _ _ _ _ _ _ _ _ _ _ _ _ _ _ _ _ _ _ _ _ _ _ _ _ _ _ _ _ _ _ _ _ _ _ _ _ _ _ _ _ _ _ _ _ _ _ _ _ _ _ _ _ _ _ _ _ _ _ _ _ _ _ _ _ _ _ _ _ _ _ _ _ _ _ _ _ _ _ _ _ _ _ _ _ _ _ _ _ _ _ _ _ _ _ _ _ _ _ _ _ _ _ _ _ _ _ _ _ _ _ _ _ _ _ _ _ _ _ _ _ _ _ _ _ _ _ _ _ _ _ _ _ _ _ _ _ _ _ _ _ _ _ _ _ _ _ _ _ _ _ _ _ _ _ _ _ _ _ _ _ _ _ _ _ _ _ _ _ _ _ _ _ _ _ _ _ _ _ _ _ _ _ _ _ hp hQ
end Go.Proofs.YteihfoacdocgkaaDoor

set_option linter.unusedVariables false
set_option linter.unusedSimpArgs false
namespace Go.Proofs.YteihfoacdocgkaaDoor
open Go.RowKit Pl Sh
attribute [local go_sem] Lb.ba_get Lb.ba_cut Lb.ba_add Lb.ba_size Lb.take_rest

set_option maxHeartbeats 8000000 in
set_option maxRecDepth 100000 in
theorem loss_b (Q : Exit → Act → World → Prop) (A : Option Addr) (cap nd : Nat) (A2 : Option Addr) (np cap2 : Nat) (ps : List Int) (ds : List ActH) (w wx : World) (q : HvP) (sb sg i kb lo0 : Nat) (C Kp sure blobs C' : TxL) (safe recs : List RecD) (S : List Nat) (gb gf gr : Nat) (vb vf vr : Value) (nn : Nat)
    (HL : Hid (Laid KK w)) (HP : Hid (Ints w w.heap.size A2 ps)) (Hnp : Hid (np = ps.length)) (Hpb : Hid (∀ p ∈ ps, -9223372036854775808 ≤ p ∧ p ≤ 9223372036854775807)) (hnp63 : (np : Int) ≤ 9223372036854775807)
    (Hlo : Hid (LoS w.heap.size ds (i + 1) sb sg q C Kp sure blobs safe recs C' S)) (Hnn : Hid (nn = (firstsTo C' blobs blobs.length).length))
    (Hits : Hid (Its w.heap.size wx S [.str gb vb blobs, .rcd gf vf safe, .rcd gr vr recs])) (Hbox : Hid (PBox KK wx q 128 (kb + 200) true C' C' S)) (Hb : Hid (Below w.heap.size w wx)) (hi70 : i < 70) (hlo0 : lo0 ≤ i)
    (u2 u3 u4 u8 u14 u15 u16 u18 u19 u20 u21 u22 u23 u24 u25 u26 u27 u28 u29 u30 u31 u32 u33 u34 u35 u36 u37 u38 u39 u40 u41 u42 u43 u44 u45 u46 u47 u48 u49 u50 u51 u52 u53 u54 u55 u56 u57 u58 u59 u60 u61 u62 u63 u64 u65 u66 u67 u68 u69 u70 u71 u72 u73 u74 u75 u76 u77 u78 u79 u80 u81 u82 u83 u84 u85 u86 u87 u88 u89 u90 u91 u92 u93 u94 u95 u96 u97 u98 u99 u100 u101 u102 u103 u104 u105 u106 u107 u108 u109 u110 u111 u112 u113 u114 u115 u116 u117 u118 u119 u120 u121 u122 u123 u124 u125 u126 u127 u128 u129 u130 u131 u132 u133 u134 u135 u136 u137 u138 u139 u140 u141 u142 u143 u144 u145 u146 u147 u148 u149 u150 u151 u152 u153 u154 u155 u156 u157 u158 u159 u160 u161 u162 u163 u164 u165 u166 u167 u168 u169 u170 u171 u172 u173 u174 u175 u176 u177 u178 u179 u180 u181 u182 u183 u184 u185 u186 u187 u188 u189 u190 u191 u192 u193 u194 u195 u196 u197 u198 u199 u200 u201 u202 u203 u204 u205 u206 u207 u208 u209 u210 u211 u212 u213 u214 u215 u216 u217 u218 u219 u220 u221 u222 u223 u224 u225 u226 u227 u228 u229 u230 u231 u232 u233 u234 u235 u236 u237 u238 u239 u240 u241 u242 u243 u244 u245 u246 u247 u248 u249 u250 u251 u252 u253 u254 u255 u256 u257 u258 u259 u260 u261 u262 u263 u264 u265 u266 u267 u268 u269 u270 u271 u272 u273 u274 u275 u276 u277 u278 u279 u280 u281 u282 u283 u284 u285 u286 u287 u288 u289 u290 u291 u292 u293 u294 u295 u296 u297 u298 u299 u300 u301 u302 u303 u304 u305 u306 u307 u308 u309 u310 u311 u312 u313 u314 u315 u316 : Value)
    (hp : Hid (∀ c (a a2 : Act) W, a.defers = a2.defers → Q (.panic c) a W → Q (.panic c) a2 W)) (hQ : Hid (∀ (q : HvP) (lo : Nat) (vs vb vf vr u4 : Value) (u14 u15 u16 u17 u18 u19 u20 u21 u22 u23 u24 u25 u26 u27 u28 u29 u62 u63 u64 u65 u66 u67 u68 u69 u70 u71 u72 u73 u74 u75 u76 u77 u78 u79 u80 u81 u82 u83 u84 u85 u86 u87 u88 u89 u90 u91 u92 u93 u94 u95 u96 u97 u98 u99 u100 u101 u102 u103 u104 u105 u106 u107 u108 u109 u110 u111 u112 u113 u114 u115 u116 u117 u118 u119 u120 u121 u122 u123 u124 u125 u126 u127 u128 u129 u130 u131 u132 u133 u134 u135 u136 u137 u138 u139 u140 u141 u142 u143 u144 u145 u146 u147 u148 u149 u150 u151 u152 u153 u154 u155 u156 u157 u158 u159 u160 u161 u162 u163 u164 u165 u166 u167 u168 u169 u170 u171 u172 u173 u174 u175 u176 u177 u178 u179 u180 u181 u182 u183 u184 u185 u186 u187 u188 u189 u190 u191 u192 u193 u194 u195 u196 u197 u198 u199 u200 u201 u202 u203 u204 u205 u206 u207 u208 u209 u210 u211 u212 u213 u214 u215 u216 u217 u218 u219 u220 u221 u222 u223 u224 u225 u226 u227 u228 u229 u230 u231 u232 u233 u234 u235 u236 u237 u238 u239 u240 u241 u242 u243 u244 u245 u246 u247 u248 u249 u250 u251 u252 u253 u254 u255 u256 u257 u258 u259 u260 u261 u262 u263 u264 u265 u266 u267 u268 u269 u270 u271 u272 u273 u274 u275 u276 u277 u278 u279 u280 u281 u282 u283 u284 u285 u286 u287 u288 u289 u290 u291 u292 u293 u294 u295 u296 u297 u298 u299 u300 u301 u302 u303 u304 u305 u306 u307 u308 u309 u310 u311 u312 u313 u314 u315 u316 : Value) (wy : World), lo ≤ i + 1 → RunSt w wy q sb sg ds (i + 1) kb vs vb vf vr → Q .normal ⟨#[.slice A nd cap, .slice A2 np cap2, u2, u3, u4, .pointer (some ⟨sb, 0, none⟩), .pointer (some ⟨q.p, 0, none⟩), .int .i64 0, vs, vb, vf, vr, .int .i64 lo, .int .i64 i, u14, u15, u16, u17, u18, u19, u20, u21, u22, u23, u24, u25, u26, u27, u28, u29, u30, u31, u32, u33, u34, u35, u36, u37, u38, u39, u40, u41, u42, u43, u44, u45, u46, u47, u48, u49, u50, u51, u52, u53, u54, u55, u56, u57, u58, u59, u60, u61, u62, u63, u64, u65, u66, u67, u68, u69, u70, u71, u72, u73, u74, u75, u76, u77, u78, u79, u80, u81, u82, u83, u84, u85, u86, u87, u88, u89, u90, u91, u92, u93, u94, u95, u96, u97, u98, u99, u100, u101, u102, u103, u104, u105, u106, u107, u108, u109, u110, u111, u112, u113, u114, u115, u116, u117, u118, u119, u120, u121, u122, u123, u124, u125, u126, u127, u128, u129, u130, u131, u132, u133, u134, u135, u136, u137, u138, u139, u140, u141, u142, u143, u144, u145, u146, u147, u148, u149, u150, u151, u152, u153, u154, u155, u156, u157, u158, u159, u160, u161, u162, u163, u164, u165, u166, u167, u168, u169, u170, u171, u172, u173, u174, u175, u176, u177, u178, u179, u180, u181, u182, u183, u184, u185, u186, u187, u188, u189, u190, u191, u192, u193, u194, u195, u196, u197, u198, u199, u200, u201, u202, u203, u204, u205, u206, u207, u208, u209, u210, u211, u212, u213, u214, u215, u216, u217, u218, u219, u220, u221, u222, u223, u224, u225, u226, u227, u228, u229, u230, u231, u232, u233, u234, u235, u236, u237, u238, u239, u240, u241, u242, u243, u244, u245, u246, u247, u248, u249, u250, u251, u252, u253, u254, u255, u256, u257, u258, u259, u260, u261, u262, u263, u264, u265, u266, u267, u268, u269, u270, u271, u272, u273, u274, u275, u276, u277, u278, u279, u280, u281, u282, u283, u284, u285, u286, u287, u288, u289, u290, u291, u292, u293, u294, u295, u296, u297, u298, u299, u300, u301, u302, u303, u304, u305, u306, u307, u308, u309, u310, u311, u312, u313, u314, u315, u316], []⟩ wy)) :
    Code.wp Tryd.prog lossB Q ⟨#[.slice A nd cap, .slice A2 np cap2, u2, u3, u4, .pointer (some ⟨sb, 0, none⟩), .pointer (some ⟨q.p, 0, none⟩), .int .i64 0, u8, vb, vf, vr, .int .i64 lo0, .int .i64 i, u14, u15, u16, .int .i64 nn, u18, u19, u20, u21, u22, u23, u24, u25, u26, u27, u28, u29, u30, u31, u32, u33, u34, u35, u36, u37, u38, u39, u40, u41, u42, u43, u44, u45, u46, u47, u48, u49, u50, u51, u52, u53, u54, u55, u56, u57, u58, u59, u60, u61, u62, u63, u64, u65, u66, u67, u68, u69, u70, u71, u72, u73, u74, u75, u76, u77, u78, u79, u80, u81, u82, u83, u84, u85, u86, u87, u88, u89, u90, u91, u92, u93, u94, u95, u96, u97, u98, u99, u100, u101, u102, u103, u104, u105, u106, u107, u108, u109, u110, u111, u112, u113, u114, u115, u116, u117, u118, u119, u120, u121, u122, u123, u124, u125, u126, u127, u128, u129, u130, u131, u132, u133, u134, u135, u136, u137, u138, u139, u140, u141, u142, u143, u144, u145, u146, u147, u148, u149, u150, u151, u152, u153, u154, u155, u156, u157, u158, u159, u160, u161, u162, u163, u164, u165, u166, u167, u168, u169, u170, u171, u172, u173, u174, u175, u176, u177, u178, u179, u180, u181, u182, u183, u184, u185, u186, u187, u188, u189, u190, u191, u192, u193, u194, u195, u196, u197, u198, u199, u200, u201, u202, u203, u204, u205, u206, u207, u208, u209, u210, u211, u212, u213, u214, u215, u216, u217, u218, u219, u220, u221, u222, u223, u224, u225, u226, u227, u228, u229, u230, u231, u232, u233, u234, u235, u236, u237, u238, u239, u240, u241, u242, u243, u244, u245, u246, u247, u248, u249, u250, u251, u252, u253, u254, u255, u256, u257, u258, u259, u260, u261, u262, u263, u264, u265, u266, u267, u268, u269, u270, u271, u272, u273, u274, u275, u276, u277, u278, u279, u280, u281, u282, u283, u284, u285, u286, u287, u288, u289, u290, u291, u292, u293, u294, u295, u296, u297, u298, u299, u300, u301, u302, u303, u304, u305, u306, u307, u308, u309, u310, u311, u312, u313, u314, u315, u316], []⟩ wx := by
  conv => arg 2; whnf
  have hkey := Lib.hid (p_keys Hbox.out (by have := Hlo.out.len; omega))
  have HSl : Hid (∀ x ∈ S, x < wx.heap.size) := Lib.hid Hbox.out.lt
  go_upto_region 54 with fail
  refine hkey.out.mono ?_
  rintro r w1 ⟨v, ks, rfl, hkp, hbag, hB1⟩
  try dsimp only
  obtain ⟨A21, c21, rfl, hka⟩ := keysAt_of hbag (keys_32 Hlo.out hkp)
  have hnk70 := keys_len Hlo.out hkp
  obtain ⟨nk, hnk⟩ : ∃ n, n = ks.length := ⟨_, rfl⟩
  rw [← hnk] at hnk70 ⊢
  have Hnk := Lib.hid hnk
  have Hkp := Lib.hid hkp
  have Hka1 := Lib.hid hka
  have Hits1 := Lib.hid (Hits.out.below hB1)
  have Hbox1 := Lib.hid (Hbox.out.below hB1)
  have HB1 := Lib.hid (Hb.out.trans (hB1.mono Hb.out.size))
  have HSz := Lib.hid hB1.size
  clear hkey hkp hbag hB1 hka hnk Hits Hbox Hb
  go_upto_region 55 with fail
  have hb2 := (Below.refl w1.heap.size w1).alloc (Nat.le_refl _) (.cells #[] 26)
  have Hits2 := Lib.hid (Hits1.out.cons HB1.out.size Hbox1.out.lt hb2 (y := .rcd w1.heap.size (.slice (some ⟨w1.heap.size, 0, none⟩) 0 0) []) recL_new (Nat.le_refl _))
  have Hka2 := Lib.hid (Hka1.out.below hb2 (Nat.le_refl _))
  have Hbox2 := Lib.hid (Hbox1.out.below hb2)
  have HB2 := Lib.hid (HB1.out.trans (hb2.mono HB1.out.size))
  have HSz2 := Lib.hid hb2.size
  obtain ⟨w2, hw2⟩ : ∃ y, y = w1.alloc (.cells #[] 26) := ⟨_, rfl⟩
  obtain ⟨n1, hn1⟩ : ∃ y, y = w1.heap.size := ⟨_, rfl⟩
  rw [← hw2] at Hits2 Hka2 Hbox2 HB2 HSz2 ⊢
  rw [← hn1] at Hits2 Hka2 HSz2 HSz ⊢
  clear hb2 hw2 hn1 Hits1 Hka1 Hbox1 HB1
  obtain ⟨v2, hv2⟩ : ∃ v, v = Value.slice (some ⟨n1, 0, none⟩) 0 0 := ⟨_, rfl⟩
  rw [← hv2] at Hits2 ⊢
  clear hv2
  go_upto_block 5 with fail
  go_cut [4, 22, 23, 24, 25] from 209 to 244 (fun xv lv0 kv rv0 iv0 wz => ∃ (gl : Nat) (vl : Value) (left : List RecD), vl = lv0 ∧ LeftI C' ks recs ks.length left ∧ Its w.heap.size wz S [.rcd gl vl left, .str gb vb blobs, .rcd gf vf safe, .rcd gr vr recs] ∧ PBox KK wz q 128 (kb + 100) true C' C' S ∧ Below w.heap.size w wz)
  case first =>
    go_wp2_with fail
    go_loopw [22, 23] (fun lv0 kv wz => ∃ (k gl : Nat) (vl : Value) (left : List RecD), vl = lv0 ∧ k ≤ nk ∧ kv = .int .i64 k ∧ LeftI C' ks recs k left ∧ n1 ≤ gl ∧ KeysAt wx.heap.size n1 wz A21 ks ∧ Its w.heap.size wz S [.rcd gl vl left, .str gb vb blobs, .rcd gf vf safe, .rcd gr vr recs] ∧ PBox KK wz q 128 (kb + 200 - k) true C' C' S ∧ Below w.heap.size w wz ∧ n1 ≤ wz.heap.size) (fun _ kv _ => nk - (intOf kv).toNat)
    case atStart => exact ⟨0, n1, v2, [], rfl, by omega, rfl, left_start _ _ _, Nat.le_refl _, Hka2.out, Hits2.out, Hbox2.out, HB2.out, HSz2.out⟩
    case round =>
      obtain ⟨k, gl, vl, left, rfl, hk, rfl, hlt, hgl, hka, hits, hbox, hb, hsz⟩ := hrel
      have HltK := Lib.hid hlt
      have HkaK := Lib.hid hka
      have HitsK := Lib.hid hits
      have HboxK := Lib.hid hbox
      have HbK := Lib.hid hb
      have Hgl := Lib.hid hgl
      have HszK := Lib.hid hsz
      clear hlt hka hits hbox hb hgl hsz Hka2 Hits2 Hbox2 HB2 HSz2
      by_cases hkn : k < nk
      · have j1 : (k : Int) < (nk : Int) := by omega
        have hkl : k < ks.length := by rw [← Hnk.out]; exact hkn
        obtain ⟨g21, rfl, g1, g2, r32⟩ := HkaK.out k hkl
        obtain ⟨kd, hkd⟩ : ∃ kd, kd = ks[k] := ⟨_, rfl⟩
        have hget : ks.getD k [] = kd := by rw [List.getD_eq_getElem?_getD, List.getElem?_eq_getElem hkl, Option.getD_some, hkd]
        have hkm : kd ∈ ks := by rw [hkd]; exact List.getElem_mem hkl
        have hk32 := keys_32 Hlo.out Hkp.out kd hkm
        rw [← hkd] at r32
        have hrc := Lib.hid (p_rec KK q 128 (kb + 200 - k - 1) true C' C' S kd wr (HboxK.out.less (by omega)) (HL.out.below HbK.out) hk32)
        have Hkm := Lib.hid hkm
        have Hget := Lib.hid hget
        have Hkl := Lib.hid hkl
        have Hk32 := Lib.hid hk32
        obtain ⟨kc, hkc⟩ : ∃ kc, kc = byV kd := ⟨_, rfl⟩
        have hdk : digV kd = kc.toArray := by rw [hkc]; rfl
        have klen : kc.length = 32 := by rw [hkc, byV_length, hk32]
        have kdix : (Tryd.prog.info? 23).map (·.size) = some kc.length := by rw [dig_info, klen]
        have dund := Tryd.underlying23
        have heq : ∀ W : World, (Op.equalIn 10000 23 (.agg kc.toArray) (.agg kc.toArray)).run Tryd.prog W = .ok true W := fun W => by
          have := eqIn_dig W kd kd hk32 hk32
          rw [hdk] at this; rw [show (kd == kd) = true by simp] at this; exact this
        rw [← hkc] at r32
        rw [hdk] at hrc
        have Hkc := Lib.hid hkc
        clear hdk klen hkc hkd hget hkm hk32 hkl g1 g2
        go_wp2_with (refine wpList_load_mid rfl 23 _ rfl g21 (k * 32) rfl kc _ r32 dund rfl kdix ?_)
        refine hrc.out.mono ?_
        rintro r wq ⟨x, ok, rfl, hxf, hyes, hno, hbx, hO⟩
        try dsimp only
        obtain ⟨row0, hr0, he0⟩ := (keysC_mem Hlo.out.ok).1 (Hkp.out.mem_iff.1 Hkm.out)
        have hok : ok = true := by
          cases ok with
          | true => rfl
          | false => exact absurd he0 ((hno rfl).2 row0 hr0)
        subst hok
        obtain ⟨row, r1, r2, r3, r4⟩ := hyes rfl
        obtain ⟨y, y1, y2, y3, y4⟩ := Hlo.out.pw.recd (Hlo.out.sub _ r1) r2
        have hxy : x = y := Option.some.inj (r3.symm.trans y4)
        rw [← hxy] at y1 y2 y3
        have Hxr : Hid (x ∈ recs) := Lib.hid y1
        have Hxc : Hid (recRowS x ∈ C') := Lib.hid (by rw [← y2]; exact r1)
        have Hxk : Hid (x.key = kd) := Lib.hid y3
        have Hxf := Lib.hid hxf
        have HbQ := Lib.hid (HbK.out.trans (hO.below HbK.out.size Hlo.out.lo))
        have HitsQ := Lib.hid (HitsK.out.only' hO)
        have HkaQ := Lib.hid (HkaK.out.only hO (fun z hz => .inl (HSl.out z hz)) HszK.out)
        have HboxQ := Lib.hid hbx
        have HszQ : Hid (n1 ≤ wq.heap.size) := Lib.hid (Nat.le_trans HszK.out hO.size)
        have hrow : x.row = x.cells.toArray := rfl
        have rsz : x.cells.toArray.size = 65 := RecD.row_size hxf
        have rlen : x.cells.length = 65 := RecD.len hxf
        have rone : x.cells.toArray.all (·.oneCell') = true := RecD.row_one x
        have rinf : (Tryd.prog.info? 26).map (·.size) = some x.cells.toArray.size := by rw [rec_info, rsz]
        have rdix : (Tryd.prog.info? 26).map (·.size) = some x.cells.length := by rw [rec_info, rlen]
        have rund := Tryd.underlying26
        have hzr : Tryd.zeroCells26.size = 65 := by rw [zero_rec, RecD.row_size zeroRec_fit]
        rw [hrow]
        obtain ⟨rc, hrc2⟩ : ∃ rc, rc = x.cells := ⟨_, rfl⟩
        rw [← hrc2] at rsz rlen rone rinf rdix ⊢
        have Hrc := Lib.hid hrc2
        clear hxf hyes hno hbx hO hr0 he0 r1 r2 r3 r4 y1 y2 y3 y4 hxy hrow hrc2 hrc r32
        go_upto_region 59 with (first | (refine wpList_store_row rfl 26 _ _ rfl wq.heap.size rc.toArray rfl rfl 26 _ (heap_alloc_new wq _) rinf (by rw [rsz, hzr]) rone ?_))
        show Code.wp _ _ _ _ ((wq.alloc (.cells Tryd.zeroCells26 26)).setRow wq.heap.size rc.toArray)
        obtain ⟨hq_ws, hB_ws⟩ := put_newH wq Tryd.zeroCells26 rc.toArray 26
        obtain ⟨rb, hp_ws⟩ : ∃ q, q = wq.heap.size := ⟨_, rfl⟩
        obtain ⟨ws, hw_ws⟩ : ∃ y, y = ((wq.alloc (.cells Tryd.zeroCells26 26)).setRow wq.heap.size rc.toArray) := ⟨_, rfl⟩
        rw [← hw_ws] at hq_ws hB_ws ⊢
        rw [← hp_ws] at hq_ws ⊢
        have HQ_ws := Lib.hid hq_ws
        have HB_ws := Lib.hid hB_ws
        have Hp_ws := Lib.hid hp_ws
        clear hq_ws hB_ws hp_ws hw_ws
        have HbS := Lib.hid (HbQ.out.trans (HB_ws.out.mono HbQ.out.size))
        have HitsS := Lib.hid (HitsQ.out.below HB_ws.out)
        have HkaS := Lib.hid (HkaQ.out.below HB_ws.out HszQ.out)
        have HboxS := Lib.hid (HboxQ.out.below HB_ws.out)
        have HszS : Hid (n1 ≤ ws.heap.size) := Lib.hid (Nat.le_trans HszQ.out HB_ws.out.size)
        have hqs := HQ_ws.out
        rw [Hrc.out] at hqs
        obtain ⟨rk0, rk1⟩ := rec_blk (r := x) hqs
        rw [Hxk.out, ← Hkc.out] at rk0
        rw [← Hrc.out] at rk1
        have lrb : rb < ws.heap.size := heap_lt hqs
        obtain ⟨g21', e21, -, g2, r32⟩ := HkaS.out k Hkl.out
        have e21' : g21' = g21 := by
          have := Option.some.inj e21
          have := congrArg Addr.block this
          exact this.symm
        have hgk : ks[k]'Hkl.out = kd := by have := Hget.out; rw [List.getD_eq_getElem?_getD, List.getElem?_eq_getElem Hkl.out, Option.getD_some] at this; exact this
        rw [e21', hgk, ← Hkc.out] at r32
        have l21 : g21 < ws.heap.size := by rw [← e21']; exact Nat.lt_of_lt_of_le g2 HszS.out
        have hkn2 : ∀ W, Below ws.heap.size ws W → Calls Tryd.prog 37 #[vr, .agg rc.toArray] W fun e w' => e = .returned (.bool true) ∧ Below W.heap.size W w' := fun W hW => by
          have hrl : RecL W gr vr recs := (HitsS.out.below hW).all (.rcd gr vr recs) (by simp)
          have := known_any gr vr recs x W hrl (by have := Hlo.out.pw.lr; omega) Hxf.out
          have hrow : x.row = x.cells.toArray := rfl
          rw [hrow, ← Hrc.out] at this
          refine this.mono ?_
          rintro e w' ⟨b, rfl, hbl, hB⟩
          rw [hbl.2 Hxr.out]
          exact ⟨rfl, hB⟩
        have Hkn2 := Lib.hid hkn2
        clear hqs e21 e21' g2 hkn2 hgk
        go_cut [240] from 224 to 239 (fun v wz => v = .bool false ∧ Below ws.heap.size ws wz)
        case first =>
          refine wp_region_held_drew (S := fun w' => Below ws.heap.size ws w') (by kernel_rfl) ((Below.refl _ _).drew) (fun hH0 => ?_)
          obtain ⟨W0, hW0⟩ : ∃ W, W = ws.drew := ⟨_, rfl⟩
          rw [← hW0] at hH0 ⊢
          clear hW0
          refine wpAnyH_take (i := 0) (v := ?_) rfl (by kernel_rfl) (by kernel_rfl) (by kernel_rfl) (fun c a w h => hp_put hp h) (Or.inl ⟨by kernel_rfl, ?_⟩) hH0 ?_
          rotate_left 1
          · intro w hSw
            go_simp
            try with_reducible rfl
          try simp only [Act.put, List.getElem_toArray, List.getElem_cons_zero, List.getElem_cons_succ, List.setIfInBounds_toArray, List.set_cons_zero, List.set_cons_succ]
          refine wpAnyH_take (i := 1) (v := ?_) rfl (by kernel_rfl) (by kernel_rfl) (by kernel_rfl) (fun c a w h => hp_put hp h) (Or.inl ⟨by kernel_rfl, ?_⟩) hH0 ?_
          rotate_left 1
          · intro w hSw
            go_simp
            try with_reducible rfl
          try simp only [Act.put, List.getElem_toArray, List.getElem_cons_zero, List.getElem_cons_succ, List.setIfInBounds_toArray, List.set_cons_zero, List.set_cons_succ]
          refine wpAnyH_take (i := 2) (v := ?_) rfl (by kernel_rfl) (by kernel_rfl) (by kernel_rfl) (fun c a w h => hp_put hp h) (Or.inl ⟨by kernel_rfl, ?_⟩) hH0 ?_
          rotate_left 1
          · intro w hSw
            go_simp
            try with_reducible rfl
          try simp only [Act.put, List.getElem_toArray, List.getElem_cons_zero, List.getElem_cons_succ, List.setIfInBounds_toArray, List.set_cons_zero, List.set_cons_succ]
          refine wpAnyH_take (i := 3) (v := ?_) rfl (by kernel_rfl) (by kernel_rfl) (by kernel_rfl) (fun c a w h => hp_put hp h) (Or.inl ⟨by kernel_rfl, ?_⟩) hH0 ?_
          rotate_left 1
          · intro w hSw
            go_simp
            try with_reducible rfl
          try simp only [Act.put, List.getElem_toArray, List.getElem_cons_zero, List.getElem_cons_succ, List.setIfInBounds_toArray, List.set_cons_zero, List.set_cons_succ]
          refine wpAnyH_take (i := 4) (v := _) rfl (by kernel_rfl) (by kernel_rfl) (by kernel_rfl) (fun c a w h => hp_put hp h) (yieldsIf_load_mid (by kernel_rfl) _ _ rfl _ _ rfl rc _ (fun W hW => range_below rk1 hW lrb) rund rfl rdix) hH0 ?_
          try simp only [Act.put, List.getElem_toArray, List.getElem_cons_zero, List.getElem_cons_succ, List.setIfInBounds_toArray, List.set_cons_zero, List.set_cons_succ]
          refine wpAnyH_ready (rs := [5]) (by kernel_rfl) (by simp) ?_
          refine AllReadyH.cons rfl (fun K_ hK => ?_) ?_
          · go_simp
            refine (Hkn2.out W0 hH0).mono ?_
            rintro e W1 ⟨rfl, hb1⟩
            refine hK.out _ _ ((hH0).trans (hb1.mono (hH0).size)) (fun hH1 => ?_)
            clear hK K_
            try simp only [Act.put, List.getElem_toArray, List.getElem_cons_zero, List.getElem_cons_succ, List.setIfInBounds_toArray, List.set_cons_zero, List.set_cons_succ]
            refine wpAnyH_take (i := 6) (v := ?_) rfl (by kernel_rfl) (by kernel_rfl) (by kernel_rfl) (fun c a w h => hp_put hp h) (Or.inl ⟨by kernel_rfl, ?_⟩) hH1 ?_
            rotate_left 1
            · intro w hSw
              go_simp
              try with_reducible rfl
            try simp only [Act.put, List.getElem_toArray, List.getElem_cons_zero, List.getElem_cons_succ, List.setIfInBounds_toArray, List.set_cons_zero, List.set_cons_succ]
            refine wpAnyH_take (i := 7) (v := ?_) rfl (by kernel_rfl) (by kernel_rfl) (by kernel_rfl) (fun c a w h => hp_put hp h) (Or.inl ⟨by kernel_rfl, ?_⟩) hH1 ?_
            rotate_left 1
            · intro w hSw
              go_simp
              try with_reducible rfl
            try simp only [Act.put, List.getElem_toArray, List.getElem_cons_zero, List.getElem_cons_succ, List.setIfInBounds_toArray, List.set_cons_zero, List.set_cons_succ]
            refine wpAnyH_take (i := 8) (v := ?_) rfl (by kernel_rfl) (by kernel_rfl) (by kernel_rfl) (fun c a w h => hp_put hp h) (Or.inl ⟨by kernel_rfl, ?_⟩) hH1 ?_
            rotate_left 1
            · intro w hSw
              go_simp
              try with_reducible rfl
            try simp only [Act.put, List.getElem_toArray, List.getElem_cons_zero, List.getElem_cons_succ, List.setIfInBounds_toArray, List.set_cons_zero, List.set_cons_succ]
            refine wpAnyH_take (i := 9) (v := ?_) rfl (by kernel_rfl) (by kernel_rfl) (by kernel_rfl) (fun c a w h => hp_put hp h) (Or.inl ⟨by kernel_rfl, ?_⟩) hH1 ?_
            rotate_left 1
            · intro w hSw
              go_simp
              try with_reducible rfl
            try simp only [Act.put, List.getElem_toArray, List.getElem_cons_zero, List.getElem_cons_succ, List.setIfInBounds_toArray, List.set_cons_zero, List.set_cons_succ]
            refine wpAnyH_take (i := 10) (v := _) rfl (by kernel_rfl) (by kernel_rfl) (by kernel_rfl) (fun c a w h => hp_put hp h) (yieldsIf_load_mid (by kernel_rfl) _ _ rfl _ _ rfl kc _ (fun W hW => range_below rk0 hW lrb) dund rfl kdix) hH1 ?_
            try simp only [Act.put, List.getElem_toArray, List.getElem_cons_zero, List.getElem_cons_succ, List.setIfInBounds_toArray, List.set_cons_zero, List.set_cons_succ]
            refine wpAnyH_take (i := 11) (v := ?_) rfl (by kernel_rfl) (by kernel_rfl) (by kernel_rfl) (fun c a w h => hp_put hp h) (Or.inl ⟨by kernel_rfl, ?_⟩) hH1 ?_
            rotate_left 1
            · intro w hSw
              go_simp
              try with_reducible rfl
            try simp only [Act.put, List.getElem_toArray, List.getElem_cons_zero, List.getElem_cons_succ, List.setIfInBounds_toArray, List.set_cons_zero, List.set_cons_succ]
            refine wpAnyH_take (i := 12) (v := ?_) rfl (by kernel_rfl) (by kernel_rfl) (by kernel_rfl) (fun c a w h => hp_put hp h) (Or.inl ⟨by kernel_rfl, ?_⟩) hH1 ?_
            rotate_left 1
            · intro w hSw
              go_simp
              try with_reducible rfl
            try simp only [Act.put, List.getElem_toArray, List.getElem_cons_zero, List.getElem_cons_succ, List.setIfInBounds_toArray, List.set_cons_zero, List.set_cons_succ]
            refine wpAnyH_take (i := 13) (v := ?_) rfl (by kernel_rfl) (by kernel_rfl) (by kernel_rfl) (fun c a w h => hp_put hp h) (Or.inl ⟨by kernel_rfl, ?_⟩) hH1 ?_
            rotate_left 1
            · intro w hSw
              go_simp
              try with_reducible rfl
            try simp only [Act.put, List.getElem_toArray, List.getElem_cons_zero, List.getElem_cons_succ, List.setIfInBounds_toArray, List.set_cons_zero, List.set_cons_succ]
            refine wpAnyH_take (i := 14) (v := _) rfl (by kernel_rfl) (by kernel_rfl) (by kernel_rfl) (fun c a w h => hp_put hp h) (yieldsIf_load_mid (by kernel_rfl) _ _ rfl _ _ rfl kc _ (fun W hW => range_below r32 hW l21) dund rfl kdix) hH1 ?_
            try simp only [Act.put, List.getElem_toArray, List.getElem_cons_zero, List.getElem_cons_succ, List.setIfInBounds_toArray, List.set_cons_zero, List.set_cons_succ]
            refine wpAnyH_take (i := 15) (v := ?_) rfl (by kernel_rfl) (by kernel_rfl) (by kernel_rfl) (fun c a w h => hp_put hp h) (Or.inl ⟨by kernel_rfl, ?_⟩) hH1 ?_
            rotate_left 1
            · intro w hSw
              go_simp
              try with_reducible rfl
            try simp only [Act.put, List.getElem_toArray, List.getElem_cons_zero, List.getElem_cons_succ, List.setIfInBounds_toArray, List.set_cons_zero, List.set_cons_succ]
            refine wpAnyH_take (i := 16) (v := ?_) rfl (by kernel_rfl) (by kernel_rfl) (by kernel_rfl) (fun c a w h => hp_put hp h) (Or.inl ⟨by kernel_rfl, ?_⟩) hH1 ?_
            rotate_left 1
            · intro w hSw
              go_simp
              try with_reducible rfl
            try simp only [Act.put, List.getElem_toArray, List.getElem_cons_zero, List.getElem_cons_succ, List.setIfInBounds_toArray, List.set_cons_zero, List.set_cons_succ]
            refine wpAnyH_done (by kernel_rfl) ?_ _
            have HH := Lib.hid hH1
            clear hH1
            go_wp2_with fail
            go_meet
            case rel => exact ⟨rfl, HH.out⟩
          exact AllReadyH.nil
        obtain ⟨rfl, hb59⟩ := hcut
        have HH := Lib.hid hb59
        clear hb59
        obtain ⟨wt, hwt⟩ : ∃ y, y = wc := ⟨_, rfl⟩
        rw [← hwt] at HH ⊢
        clear hwt
        have HQt := Lib.hid (below_keep HH.out HQ_ws.out)
        have HbT := Lib.hid (HbS.out.trans (HH.out.mono HbS.out.size))
        have hb13 := (Below.refl wt.heap.size wt).alloc (Nat.le_refl _) (.cells rc.toArray 26)
        have hits13 := (HitsS.out.below HH.out).below hb13
        have hl13 : RecL (wt.alloc (.cells rc.toArray 26)) gl vl left := hits13.all (.rcd gl vl left) (by simp)
        have hfx : ∀ r ∈ [x], RecD.Fit r := fun r hr => by simp only [List.mem_singleton] at hr; rw [hr]; exact Hxf.out
        have hsrc : Src Tryd.prog 65 33 (.slice (some ⟨wt.heap.size, 0, none⟩) 1 1) ([x] : List RecD).length (recsC [x]) (wt.alloc (.cells rc.toArray 26)) := rec_src Hxf.out (T := 26) (by rw [heap_alloc_new, Hrc.out]; rfl) 1
        have hlen13 : left.length + ([x] : List RecD).length ≤ 1000 := by have := HltK.out.len; simp only [List.length_singleton]; omega
        have Hits13 := Lib.hid hits13
        have Hka13 := Lib.hid ((HkaS.out.below HH.out HszS.out).below hb13 (Nat.le_trans HszS.out HH.out.size))
        have Hbox13 := Lib.hid ((HboxS.out.below HH.out).below hb13)
        have HB13 := Lib.hid (HbT.out.trans (hb13.mono HbT.out.size))
        have Hsz13 : Hid (n1 ≤ (wt.alloc (.cells rc.toArray 26)).heap.size) := Lib.hid (Nat.le_trans HszS.out (Nat.le_trans HH.out.size hb13.size))
        clear hb13 hits13 rk0 rk1 r32 kdix heq rone hzr
        go_wp2_with (first
          | (refine wpList_load_row rfl 26 _ rfl rb rfl 26 rc.toArray (0, 0) _ HQt.out rund rfl rinf ?_)
          | (refine wpList_rec1 rfl _ rfl _ rfl rsz ?_)
          | (at_builtin; refine wpList_recL _ rfl _ _ rfl rfl hl13 _ [x] rfl hfx hsrc hlen13 ?_))
        intro g' v' w14 hr14 hO14 hg14
        have hits14 := Hits13.out.set 0 (x := .rcd gl vl left) (y := .rcd g' v' (left ++ [x])) rfl Hbox13.out.lt HB13.out.size hr14 hO14 hg14
        have Hits14 := Lib.hid hits14
        have Hbox14 := Lib.hid (Hbox13.out.its Hits13.out (x := .rcd gl vl left) (by simp) hO14)
        have HB14 := Lib.hid (HB13.out.trans (hO14.below HB13.out.size (fun z hz => by simp only [List.mem_singleton] at hz; rw [hz]; exact (Hits13.out.out (.rcd gl vl left) (by simp)).2)))
        have Hka14 := Lib.hid (Hka13.out.only hO14 (fun z hz => by simp only [List.mem_singleton] at hz; rw [hz]; exact .inr Hgl.out) Hsz13.out)
        have Hgl14 : Hid (n1 ≤ g') := Lib.hid (by
          rcases hg14 with h | h
          · have := Hgl.out; omega
          · exact Nat.le_trans Hsz13.out h)
        have Hsz14 : Hid (n1 ≤ w14.heap.size) := Lib.hid (Nat.le_trans Hsz13.out hO14.size)
        have Hlt14 := Lib.hid (HltK.out.next (r := x) Hxr.out Hxc.out (by rw [Hget.out, Hxk.out]))
        clear hl13 hsrc hfx hlen13 hr14 hO14 hg14 hits14
        go_wp2_with fail
        go_roundw
        case rel => exact ⟨k + 1, g', v', left ++ [x], rfl, by omega, by go_num, Hlt14.out, Hgl14.out, Hka14.out, Hits14.out, Hbox14.out.less (by omega), HB14.out, Hsz14.out⟩
        case measure => simp [intOf]; omega
      · obtain rfl : k = nk := by omega
        have j1 : ¬ (k : Int) < (k : Int) := by omega
        have hlt2 : LeftI C' ks recs ks.length left := by rw [← Hnk.out]; exact HltK.out
        have Hlt2 := Lib.hid hlt2
        clear hlt2 hkn
        go_wp2_with fail
        go_meet
        case rel => exact ⟨gl, vl, left, rfl, Hlt2.out, HitsK.out, HboxK.out.less (by omega), HbK.out⟩
  obtain ⟨gl, vl, left, rfl, hlt, hits, hbox, hb⟩ := hcut
  have hits2 : Its w.heap.size wc S [.str gb vb blobs, .rcd gf vf safe, .rcd gl vl left] := by
    have h1 : Its w.heap.size wc S [.rcd gl vl left, .str gb vb blobs, .rcd gf vf safe] := hits.sub (.cons_cons _ (.cons_cons _ (.cons_cons _ (.cons _ (List.Sublist.refl _)))))
    exact h1.perm (List.Perm.trans (l₂ := [.str gb vb blobs, .rcd gl vl left, .rcd gf vf safe]) (.cons _ (.swap ..)) (.swap ..))
  have Hits4 := Lib.hid hits2
  have Hlt4 := Lib.hid hlt
  have Hbox4 := Lib.hid hbox
  have Hb4 := Lib.hid hb
  clear hits2 hits hlt hbox hb
  apply_assumption
  exact loss_c Q A cap nd A2 np cap2 ps ds w _ q sb sg i kb lo0 C Kp sure blobs C' ks safe recs left S gb gf gl vb vf vl nn nk c21 A21 HL HP Hnp Hpb hnp63 Hlo Hlt4 Hkp Hnn Hnk Hits4 Hbox4 Hb4 hi70 hlo0
    _ _ _ _ _ _ _ _ _ _ _ _ _ _ _ _ _ _ _ _ _ _ _ _ _ _ _ _ _ _ _ _ _ _ _ _ _ _ _ _ _ _ _ _ _ _ _ _ _ _ _ _ _ _ _ _ _ _ _ _ _ _ _ _ _ _ _ _ _ _ _ _ _ _ _ _ _ _ _ _ _ _ _ _ _ _ _ _ _ _ _ _ _ _ _ _ _ _ _ _ _ _ _ _ _ _ _ _ _ _ _ _ _ _ _ _ _ _ _ _ _ _ _ _ _ _ _ _ _ _ _ _ _ _ _ _ _ _ _ _ _ _ _ _ _ _ _ _ _ _ _ _ _ _ _ _ _ _ _ _ _ _ _ _ _ _ _ _ _ _ _ _ _ _ _ _ _ _ _ _ _ _ _ _ _ _ _ _ _ _ _ _ _ _ _ _ _ _ _ _ _ _ _ _ _ _ _ _ _ _ _ _ _ _ _ _ _ _ _ _ _ _ _ _ _ _ _ _ _ _ _ _ _ _ _ _ _ _ _ _ _ _ _ _ _ _ _ _ _ _ _ _ _ _ _ _ _ _ _ _ _ _ _ _ _ _ _ _ _ _ _ _ _ _ _ _ _ _ _ _ _ _ _ _ _ _ _ _ _ _ _ _ _ _ _ _ _ _ _ _ _ _ _ _ _ hp hQ
end Go.Proofs.YteihfoacdocgkaaDoor

set_option linter.unusedVariables false
set_option linter.unusedSimpArgs false
namespace Go.Proofs.YteihfoacdocgkaaDoor
open Go.RowKit Pl Sh
attribute [local go_sem] Lb.ba_get Lb.ba_cut Lb.ba_add Lb.ba_size Lb.take_rest

set_option maxHeartbeats 8000000 in
set_option maxRecDepth 100000 in
theorem loss_a (Q : Exit → Act → World → Prop) (A : Option Addr) (cap nd : Nat) (A2 : Option Addr) (np cap2 : Nat) (ps : List Int) (ds : List ActH) (w wx : World) (sb sg i kb lo0 xb : Nat) (C Kp sure blobs : TxL) (safe recs : List RecD) (gs gb gf gr : Nat) (vs vb vf vr : Value) (fA : Option Addr) (fc : Nat) (fs : List Int)
    (HL : Hid (Laid KK w)) (HP : Hid (Ints w w.heap.size A2 ps)) (Hnp : Hid (np = ps.length)) (Hpb : Hid (∀ p ∈ ps, -9223372036854775808 ≤ p ∧ p ≤ 9223372036854775807)) (hnp63 : (np : Int) ≤ 9223372036854775807)
    (Hd : Hid (DShelf KK wx sb sg 128 (kb + 500) C Kp)) (H00 : Hid (0 ≠ sb ∧ 0 ≠ sg)) (Hsw : Hid (w.heap.size ≤ sb ∧ w.heap.size ≤ sg)) (Hpw : Hid (PwI ds (i + 1) C Kp sure blobs safe recs)) (Hinj : Hid (InjT KK ds))
    (Hf : Hid (Ints w w.heap.size fA fs)) (Hfb : Hid (∀ f ∈ fs, -9223372036854775808 ≤ f ∧ f ≤ 9223372036854775807)) (Hfl : Hid (fs.length ≤ maxLen)) (Hx : Hid (wx.cell? ⟨xb, 68, none⟩ = some (.slice fA fs.length fc))) (Hxn : Hid (xb < wx.heap.size ∧ xb ≠ sb ∧ xb ≠ sg))
    (Hits : Hid (Its w.heap.size wx [sb, sg] [.str gs vs sure, .str gb vb blobs, .rcd gf vf safe, .rcd gr vr recs])) (Hb : Hid (Below w.heap.size w wx)) (hi70 : i < 70) (hlo0 : lo0 ≤ i)
    (u2 u3 u4 u6 u15 u16 u17 u18 u19 u20 u21 u22 u23 u24 u25 u26 u27 u28 u29 u30 u31 u32 u33 u34 u35 u36 u37 u38 u39 u40 u41 u42 u43 u44 u45 u46 u47 u48 u49 u50 u51 u52 u53 u54 u55 u56 u57 u58 u59 u60 u61 u62 u63 u64 u65 u66 u67 u68 u69 u70 u71 u72 u73 u74 u75 u76 u77 u78 u79 u80 u81 u82 u83 u84 u85 u86 u87 u88 u89 u90 u91 u92 u93 u94 u95 u96 u97 u98 u99 u100 u101 u102 u103 u104 u105 u106 u107 u108 u109 u110 u111 u112 u113 u114 u115 u116 u117 u118 u119 u120 u121 u122 u123 u124 u125 u126 u127 u128 u129 u130 u131 u132 u133 u134 u135 u136 u137 u138 u139 u140 u141 u142 u143 u144 u145 u146 u147 u148 u149 u150 u151 u152 u153 u154 u155 u156 u157 u158 u159 u160 u161 u162 u163 u164 u165 u166 u167 u168 u169 u170 u171 u172 u173 u174 u175 u176 u177 u178 u179 u180 u181 u182 u183 u184 u185 u186 u187 u188 u189 u190 u191 u192 u193 u194 u195 u196 u197 u198 u199 u200 u201 u202 u203 u204 u205 u206 u207 u208 u209 u210 u211 u212 u213 u214 u215 u216 u217 u218 u219 u220 u221 u222 u223 u224 u225 u226 u227 u228 u229 u230 u231 u232 u233 u234 u235 u236 u237 u238 u239 u240 u241 u242 u243 u244 u245 u246 u247 u248 u249 u250 u251 u252 u253 u254 u255 u256 u257 u258 u259 u260 u261 u262 u263 u264 u265 u266 u267 u268 u269 u270 u271 u272 u273 u274 u275 u276 u277 u278 u279 u280 u281 u282 u283 u284 u285 u286 u287 u288 u289 u290 u291 u292 u293 u294 u295 u296 u297 u298 u299 u300 u301 u302 u303 u304 u305 u306 u307 u308 u309 u310 u311 u312 u313 u314 u315 u316 : Value)
    (hp : Hid (∀ c (a a2 : Act) W, a.defers = a2.defers → Q (.panic c) a W → Q (.panic c) a2 W)) (hQ : Hid (∀ (q : HvP) (lo : Nat) (vs vb vf vr u4 : Value) (u14 u15 u16 u17 u18 u19 u20 u21 u22 u23 u24 u25 u26 u27 u28 u29 u62 u63 u64 u65 u66 u67 u68 u69 u70 u71 u72 u73 u74 u75 u76 u77 u78 u79 u80 u81 u82 u83 u84 u85 u86 u87 u88 u89 u90 u91 u92 u93 u94 u95 u96 u97 u98 u99 u100 u101 u102 u103 u104 u105 u106 u107 u108 u109 u110 u111 u112 u113 u114 u115 u116 u117 u118 u119 u120 u121 u122 u123 u124 u125 u126 u127 u128 u129 u130 u131 u132 u133 u134 u135 u136 u137 u138 u139 u140 u141 u142 u143 u144 u145 u146 u147 u148 u149 u150 u151 u152 u153 u154 u155 u156 u157 u158 u159 u160 u161 u162 u163 u164 u165 u166 u167 u168 u169 u170 u171 u172 u173 u174 u175 u176 u177 u178 u179 u180 u181 u182 u183 u184 u185 u186 u187 u188 u189 u190 u191 u192 u193 u194 u195 u196 u197 u198 u199 u200 u201 u202 u203 u204 u205 u206 u207 u208 u209 u210 u211 u212 u213 u214 u215 u216 u217 u218 u219 u220 u221 u222 u223 u224 u225 u226 u227 u228 u229 u230 u231 u232 u233 u234 u235 u236 u237 u238 u239 u240 u241 u242 u243 u244 u245 u246 u247 u248 u249 u250 u251 u252 u253 u254 u255 u256 u257 u258 u259 u260 u261 u262 u263 u264 u265 u266 u267 u268 u269 u270 u271 u272 u273 u274 u275 u276 u277 u278 u279 u280 u281 u282 u283 u284 u285 u286 u287 u288 u289 u290 u291 u292 u293 u294 u295 u296 u297 u298 u299 u300 u301 u302 u303 u304 u305 u306 u307 u308 u309 u310 u311 u312 u313 u314 u315 u316 : Value) (wy : World), lo ≤ i + 1 → RunSt w wy q sb sg ds (i + 1) kb vs vb vf vr → Q .normal ⟨#[.slice A nd cap, .slice A2 np cap2, u2, u3, u4, .pointer (some ⟨sb, 0, none⟩), .pointer (some ⟨q.p, 0, none⟩), .int .i64 0, vs, vb, vf, vr, .int .i64 lo, .int .i64 i, u14, u15, u16, u17, u18, u19, u20, u21, u22, u23, u24, u25, u26, u27, u28, u29, u30, u31, u32, u33, u34, u35, u36, u37, u38, u39, u40, u41, u42, u43, u44, u45, u46, u47, u48, u49, u50, u51, u52, u53, u54, u55, u56, u57, u58, u59, u60, u61, u62, u63, u64, u65, u66, u67, u68, u69, u70, u71, u72, u73, u74, u75, u76, u77, u78, u79, u80, u81, u82, u83, u84, u85, u86, u87, u88, u89, u90, u91, u92, u93, u94, u95, u96, u97, u98, u99, u100, u101, u102, u103, u104, u105, u106, u107, u108, u109, u110, u111, u112, u113, u114, u115, u116, u117, u118, u119, u120, u121, u122, u123, u124, u125, u126, u127, u128, u129, u130, u131, u132, u133, u134, u135, u136, u137, u138, u139, u140, u141, u142, u143, u144, u145, u146, u147, u148, u149, u150, u151, u152, u153, u154, u155, u156, u157, u158, u159, u160, u161, u162, u163, u164, u165, u166, u167, u168, u169, u170, u171, u172, u173, u174, u175, u176, u177, u178, u179, u180, u181, u182, u183, u184, u185, u186, u187, u188, u189, u190, u191, u192, u193, u194, u195, u196, u197, u198, u199, u200, u201, u202, u203, u204, u205, u206, u207, u208, u209, u210, u211, u212, u213, u214, u215, u216, u217, u218, u219, u220, u221, u222, u223, u224, u225, u226, u227, u228, u229, u230, u231, u232, u233, u234, u235, u236, u237, u238, u239, u240, u241, u242, u243, u244, u245, u246, u247, u248, u249, u250, u251, u252, u253, u254, u255, u256, u257, u258, u259, u260, u261, u262, u263, u264, u265, u266, u267, u268, u269, u270, u271, u272, u273, u274, u275, u276, u277, u278, u279, u280, u281, u282, u283, u284, u285, u286, u287, u288, u289, u290, u291, u292, u293, u294, u295, u296, u297, u298, u299, u300, u301, u302, u303, u304, u305, u306, u307, u308, u309, u310, u311, u312, u313, u314, u315, u316], []⟩ wy)) :
    Code.wp Tryd.prog lossA Q ⟨#[.slice A nd cap, .slice A2 np cap2, u2, u3, u4, .pointer (some ⟨sb, 0, none⟩), u6, .int .i64 10, vs, vb, vf, vr, .int .i64 lo0, .int .i64 i, .pointer (some ⟨xb, 0, none⟩), u15, u16, u17, u18, u19, u20, u21, u22, u23, u24, u25, u26, u27, u28, u29, u30, u31, u32, u33, u34, u35, u36, u37, u38, u39, u40, u41, u42, u43, u44, u45, u46, u47, u48, u49, u50, u51, u52, u53, u54, u55, u56, u57, u58, u59, u60, u61, u62, u63, u64, u65, u66, u67, u68, u69, u70, u71, u72, u73, u74, u75, u76, u77, u78, u79, u80, u81, u82, u83, u84, u85, u86, u87, u88, u89, u90, u91, u92, u93, u94, u95, u96, u97, u98, u99, u100, u101, u102, u103, u104, u105, u106, u107, u108, u109, u110, u111, u112, u113, u114, u115, u116, u117, u118, u119, u120, u121, u122, u123, u124, u125, u126, u127, u128, u129, u130, u131, u132, u133, u134, u135, u136, u137, u138, u139, u140, u141, u142, u143, u144, u145, u146, u147, u148, u149, u150, u151, u152, u153, u154, u155, u156, u157, u158, u159, u160, u161, u162, u163, u164, u165, u166, u167, u168, u169, u170, u171, u172, u173, u174, u175, u176, u177, u178, u179, u180, u181, u182, u183, u184, u185, u186, u187, u188, u189, u190, u191, u192, u193, u194, u195, u196, u197, u198, u199, u200, u201, u202, u203, u204, u205, u206, u207, u208, u209, u210, u211, u212, u213, u214, u215, u216, u217, u218, u219, u220, u221, u222, u223, u224, u225, u226, u227, u228, u229, u230, u231, u232, u233, u234, u235, u236, u237, u238, u239, u240, u241, u242, u243, u244, u245, u246, u247, u248, u249, u250, u251, u252, u253, u254, u255, u256, u257, u258, u259, u260, u261, u262, u263, u264, u265, u266, u267, u268, u269, u270, u271, u272, u273, u274, u275, u276, u277, u278, u279, u280, u281, u282, u283, u284, u285, u286, u287, u288, u289, u290, u291, u292, u293, u294, u295, u296, u297, u298, u299, u300, u301, u302, u303, u304, u305, u306, u307, u308, u309, u310, u311, u312, u313, u314, u315, u316], []⟩ wx := by
  conv => arg 2; whnf
  have hvb : StrL wx gb vb blobs := Hits.out.all (.str gb vb blobs) (by simp)
  obtain ⟨cb, hcb⟩ := hvb.shape
  subst hcb
  have hcap : blobs.length ≤ cb := by
    obtain ⟨c2, e, hbg⟩ := hvb.bag
    injection e with e1 e2 e3
    rw [e3]; exact hbg.le
  have hcb63 : (cb : Int) ≤ 9223372036854775807 := by
    obtain ⟨c2, e, hbg⟩ := hvb.bag
    injection e with e1 e2 e3
    have := hbg.max
    unfold maxLen at this
    rw [e3]; omega
  obtain ⟨nb, hnb⟩ : ∃ n, n = blobs.length := ⟨_, rfl⟩
  rw [← hnb] at hcap ⊢
  have Hnb := Lib.hid hnb
  have hnb70 : nb ≤ 70 := by rw [hnb]; exact Nat.le_trans Hpw.out.lb (by omega)
  have hlo2 : ∀ x ∈ [sb, sg], w.heap.size ≤ x := by intro x hx; simp only [List.mem_cons, List.not_mem_nil, or_false] at hx; rcases hx with rfl | rfl; exact Hsw.out.1; exact Hsw.out.2
  have Hlo2 := Lib.hid hlo2
  have hoff := Lib.hid (d_off Hd.out)
  clear hvb hnb hlo2
  go_wp2_with fail
  refine hoff.out.mono ?_
  rintro r w1 ⟨rfl, h1, hO1⟩
  try dsimp only
  have HB1 := Lib.hid (Hb.out.trans (hO1.below Hb.out.size Hlo2.out))
  have HitsB := Lib.hid (Hits.out.only' hO1)
  have x4 : w1.cell? ⟨xb, 68, none⟩ = some (.slice fA fs.length fc) := (World.cell?_of_block (a := ⟨xb, 68, none⟩) (hO1.block xb Hxn.out.1 (by simp only [List.mem_cons, List.not_mem_nil, or_false]; have := Hxn.out; omega))).trans Hx.out
  have hon := Lib.hid (d_on h1 fA fc fs (Fts.of_ints (Hf.out.below HB1.out (Nat.le_refl _)) HB1.out.size Hlo2.out) Hfb.out Hfl.out)
  obtain ⟨fn, hfn⟩ : ∃ x, x = fs.length := ⟨_, rfl⟩
  rw [← hfn] at x4 hon
  clear hoff h1 hO1 hfn Hits Hx
  go_wp2_with fail
  refine hon.out.mono ?_
  rintro r w2 ⟨rfl, h2, hO2⟩
  try dsimp only
  have HB2 := Lib.hid (HB1.out.trans (hO2.below HB1.out.size Hlo2.out))
  have Hits2 := Lib.hid (HitsB.out.only' hO2)
  have hop := Lib.hid (d_open KK w2 sb sg 128 (kb + 300) true C Kp h2 (HL.out.below HB2.out) H00.out (by omega))
  clear hon h2 hO2 HitsB HB1 x4
  go_wp2_with fail
  refine hop.out.mono ?_
  rintro r w3 ⟨q, S, C', hqb, hqg, rfl, hbox, hC1, hC2, hlo, hO3⟩
  try dsimp only
  have HB3 := Lib.hid (HB2.out.trans (hO3.below HB2.out.size Hlo2.out))
  have Hits3 : Hid (Its w.heap.size w3 S [.str gs vs sure, .str gb (.slice (some ⟨gb, 0, none⟩) blobs.length cb) blobs, .rcd gf vf safe, .rcd gr vr recs]) := Lib.hid (Hits2.out.only hO3 (fun x hx => by
    rcases hlo x hx with h | h | h
    · exact .inl (by simp [h])
    · exact .inl (by simp [h])
    · exact .inr h))
  have HloS : Hid (LoS w.heap.size ds (i + 1) sb sg q C Kp sure blobs safe recs C' S) := Lib.hid ⟨Hpw.out, hC1, fun r hr => hC2 r (Hpw.out.kin r hr) hr, Hinj.out, hqb, hqg, fun x hx => by
    rcases hlo x hx with h | h | h
    · rw [h]; exact Hsw.out.1
    · rw [h]; exact Hsw.out.2
    · exact Nat.le_trans HB2.out.size h, by omega, hbox.rows⟩
  have Hbox3 := Lib.hid hbox
  clear hop hqb hqg hbox hC1 hC2 hlo hO3 HB2 Hits2
  go_upto_block 3 with fail
  go_cut [4, 17, 18, 19, 20] from 154 to 205 (fun xv nv kv tv0 iv0 wz => ∃ n : Nat, nv = .int .i64 n ∧ Hid (n = (firstsTo C' blobs blobs.length).length) ∧ Its w.heap.size wz S [.str gs vs sure, .str gb (.slice (some ⟨gb, 0, none⟩) blobs.length cb) blobs, .rcd gf vf safe, .rcd gr vr recs] ∧ PBox KK wz q 128 (kb + 200) true C' C' S ∧ Below w.heap.size w wz)
  case first =>
    go_wp2_with fail
    go_loopw [17, 18] (fun nv kv wz => ∃ (n k : Nat), k ≤ nb ∧ nv = .int .i64 n ∧ kv = .int .i64 k ∧ n ≤ k ∧ Hid (n = (firstsTo C' blobs k).length) ∧ Its w.heap.size wz S [.str gs vs sure, .str gb (.slice (some ⟨gb, 0, none⟩) blobs.length cb) blobs, .rcd gf vf safe, .rcd gr vr recs] ∧ PBox KK wz q 128 (kb + 300 - k) true C' C' S ∧ Below w.heap.size w wz) (fun _ kv _ => nb - (intOf kv).toNat)
    case atStart => exact ⟨0, 0, by omega, rfl, rfl, Nat.le_refl _, Lib.hid rfl, Hits3.out, Hbox3.out, HB3.out⟩
    case round =>
      obtain ⟨n, k, hk, rfl, rfl, hnk, Hn, hits, hbox, hb⟩ := hrel
      have HitsK := Lib.hid hits
      have HboxK := Lib.hid hbox
      have HbK := Lib.hid hb
      clear hits hbox hb Hits3 Hbox3 HB3
      by_cases hkn : k < nb
      · have j1 : (k : Int) < (nb : Int) := by omega
        have hkl : k < blobs.length := by rw [← Hnb.out]; exact hkn
        have hst : StrL wr gb (.slice (some ⟨gb, 0, none⟩) blobs.length cb) blobs := HitsK.out.all (.str gb (.slice (some ⟨gb, 0, none⟩) blobs.length cb) blobs) (by simp)
        have c0 := hst.cell k hkl
        obtain ⟨t, ht⟩ : ∃ t, t = blobs[k] := ⟨_, rfl⟩
        have hget : blobs.getD k [] = t := by rw [List.getD_eq_getElem?_getD, List.getElem?_eq_getElem hkl, Option.getD_some, ht]
        rw [← ht] at c0
        have htm : t ∈ blobs := by rw [ht]; exact List.getElem_mem hkl
        have htl : t.length ≤ 512 := (HloS.out.pw.txt t htm).1
        have hfs : firstsTo C' blobs (k + 1) = if blobRowS t ∈ C' ∧ t ∉ blobs.take k then firstsTo C' blobs k ++ [t] else firstsTo C' blobs k := by rw [← hget]; rfl
        have Hfs := Lib.hid hfs
        have Hkl := Lib.hid hkl
        have Hget := Lib.hid hget
        have Htm := Lib.hid htm
        have hb1s := (Below.refl wr.heap.size wr).alloc (Nat.le_refl _) (.cells #[.string ⟨t.toArray⟩] 9)
        have ca : (wr.alloc (.cells #[.string ⟨t.toArray⟩] 9)).cell? ⟨wr.heap.size, 0, none⟩ = some (.string ⟨t.toArray⟩) := by rw [Lib.cell_of_heap (heap_alloc_new wr _)]; rfl
        have hof := Lib.hid (of_hash KK (some ⟨wr.heap.size, 0, none⟩) 1 t _ ((HL.out.below HbK.out).below hb1s) ⟨_, rfl, ca⟩ (by omega))
        have Hb1s := Lib.hid hb1s
        have hh := hashB_length KK t
        obtain ⟨hd, hhd⟩ : ∃ x, x = hashB KK t := ⟨_, rfl⟩
        rw [← hhd] at hh hof
        have Hhd := Lib.hid hhd
        have Hh := Lib.hid hh
        obtain ⟨DV, hDV⟩ : ∃ x, x = digV hd := ⟨_, rfl⟩
        rw [← hDV] at hof
        have HDV := Lib.hid hDV
        clear hDV hst ht hget hkl htm hfs hb1s ca hhd hh
        go_wp2_with fail
        refine hof.out.mono ?_
        rintro r wy ⟨rfl, hby⟩
        try dsimp only
        have Hby := Lib.hid (Hb1s.out.trans (hby.mono Hb1s.out.size))
        have HbY := Lib.hid (HbK.out.trans (Hby.out.mono HbK.out.size))
        have HitsY := Lib.hid (HitsK.out.below Hby.out)
        have hbl := Lib.hid (p_blob KK q 128 (kb + 300 - k - 1) true C' C' S hd wy ((HboxK.out.below Hby.out).less (by omega)) (HL.out.below HbY.out) Hh.out)
        rw [← HDV.out] at hbl
        clear hof hby c0
        go_wp2_with fail
        refine hbl.out.mono ?_
        rintro r wv ⟨u, ok, rfl, hyes, hno, hbx, hO⟩
        try dsimp only
        have Hbv := Lib.hid (HbY.out.trans (hO.below HbY.out.size HloS.out.lo))
        have HitsV := Lib.hid (HitsY.out.only' hO)
        have Hbx := Lib.hid hbx
        have hth := HloS.out.there (t := t) (u := u) (ok := ok) Htm.out (by rw [← Hhd.out]; exact hyes) (by rw [← Hhd.out]; exact hno)
        have hstv : StrL wv gb (.slice (some ⟨gb, 0, none⟩) blobs.length cb) blobs := HitsV.out.all (.str gb (.slice (some ⟨gb, 0, none⟩) blobs.length cb) blobs) (by simp)
        have c1 := hstv.cellT k Hkl.out Hget.out
        have lgb : gb < wv.heap.size := hstv.lt
        have hkc : (k : Int) ≤ (cb : Int) := by omega
        clear hyes hno hO hbx hbl
        rcases hth with ⟨rfl, hm, rfl⟩ | ⟨rfl, hm⟩
        · have hut : (u != u) = false := by simp
          have hhp : ∀ W, Below wv.heap.size wv W → Calls Tryd.prog 24 #[.slice (some ⟨gb, 0, none⟩) k cb, .string ⟨u.toArray⟩] W fun e w' => e = .returned (.bool (decide (u ∈ blobs.take k))) ∧ Below W.heap.size W w' := fun W hW => by
            have hsl : StrL W gb (.slice (some ⟨gb, 0, none⟩) blobs.length cb) blobs := hstv.below hW
            obtain ⟨c2, -, hss⟩ := hsl.strs
            have hlk : (blobs.take k).length = k := by rw [List.length_take]; have := Hkl.out; omega
            have := has_any (some ⟨gb, 0, none⟩) cb (blobs.take k) u W (strs_take hss k) (by rw [hlk]; unfold maxLen; omega)
            rw [hlk] at this
            refine this.mono ?_
            rintro e w' ⟨rfl, rfl⟩
            exact ⟨rfl, Below.refl _ _⟩
          by_cases hin : u ∈ blobs.take k
          · rw [decide_eq_true hin] at hhp
            rw [if_neg (fun h => h.2 hin)] at Hfs
            have Hhp := Lib.hid hhp
            clear hhp hin hm hstv
            go_upto_region 51 with fail
            go_cut [203] from 192 to 202 (fun v wz => v = .bool false ∧ Below wv.heap.size wv wz)
            case first =>
              refine wp_region_held_drew (S := fun w' => Below wv.heap.size wv w') (by kernel_rfl) ((Below.refl _ _).drew) (fun hH0 => ?_)
              obtain ⟨W0, hW0⟩ : ∃ W, W = wv.drew := ⟨_, rfl⟩
              rw [← hW0] at hH0 ⊢
              clear hW0
              refine wpAnyH_take (i := 0) (v := ?_) rfl (by kernel_rfl) (by kernel_rfl) (by kernel_rfl) (fun c a w h => hp_put hp h) (Or.inl ⟨by kernel_rfl, ?_⟩) hH0 ?_
              rotate_left 1
              · intro w hSw
                go_simp
                try with_reducible rfl
              try simp only [Act.put, List.getElem_toArray, List.getElem_cons_zero, List.getElem_cons_succ, List.setIfInBounds_toArray, List.set_cons_zero, List.set_cons_succ]
              refine wpAnyH_take (i := 1) (v := ?_) rfl (by kernel_rfl) (by kernel_rfl) (by kernel_rfl) (fun c a w h => hp_put hp h) (Or.inl ⟨by kernel_rfl, ?_⟩) hH0 ?_
              rotate_left 1
              · intro w hSw
                go_simp
                try with_reducible rfl
              try simp only [Act.put, List.getElem_toArray, List.getElem_cons_zero, List.getElem_cons_succ, List.setIfInBounds_toArray, List.set_cons_zero, List.set_cons_succ]
              refine wpAnyH_take (i := 2) (v := ?_) rfl (by kernel_rfl) (by kernel_rfl) (by kernel_rfl) (fun c a w h => hp_put hp h) (Or.inl ⟨by kernel_rfl, ?_⟩) hH0 ?_
              rotate_left 1
              · intro w hSw
                go_simp
                try with_reducible rfl
              try simp only [Act.put, List.getElem_toArray, List.getElem_cons_zero, List.getElem_cons_succ, List.setIfInBounds_toArray, List.set_cons_zero, List.set_cons_succ]
              refine wpAnyH_take (i := 3) (v := ?_) rfl (by kernel_rfl) (by kernel_rfl) (by kernel_rfl) (fun c a w h => hp_put hp h) (Or.inl ⟨by kernel_rfl, ?_⟩) hH0 ?_
              rotate_left 1
              · intro w hSw
                go_simp
                try with_reducible rfl
              try simp only [Act.put, List.getElem_toArray, List.getElem_cons_zero, List.getElem_cons_succ, List.setIfInBounds_toArray, List.set_cons_zero, List.set_cons_succ]
              refine wpAnyH_take (i := 4) (v := ?_) rfl (by kernel_rfl) (by kernel_rfl) (by kernel_rfl) (fun c a w h => hp_put hp h) (Or.inl ⟨by kernel_rfl, ?_⟩) hH0 ?_
              rotate_left 1
              · intro w hSw
                go_simp
                try with_reducible rfl
              try simp only [Act.put, List.getElem_toArray, List.getElem_cons_zero, List.getElem_cons_succ, List.setIfInBounds_toArray, List.set_cons_zero, List.set_cons_succ]
              refine wpAnyH_take (i := 5) (v := ?_) rfl (by kernel_rfl) (by kernel_rfl) (by kernel_rfl) (fun c a w h => hp_put hp h) (Or.inl ⟨by kernel_rfl, ?_⟩) hH0 ?_
              rotate_left 1
              · intro w hSw
                go_simp
                try with_reducible rfl
              try simp only [Act.put, List.getElem_toArray, List.getElem_cons_zero, List.getElem_cons_succ, List.setIfInBounds_toArray, List.set_cons_zero, List.set_cons_succ]
              refine wpAnyH_take (i := 6) (v := ?_) rfl (by kernel_rfl) (by kernel_rfl) (by kernel_rfl) (fun c a w h => hp_put hp h) (Or.inl ⟨by kernel_rfl, ?_⟩) hH0 ?_
              rotate_left 1
              · intro w hSw
                go_simp
                try with_reducible rfl
              try simp only [Act.put, List.getElem_toArray, List.getElem_cons_zero, List.getElem_cons_succ, List.setIfInBounds_toArray, List.set_cons_zero, List.set_cons_succ]
              refine wpAnyH_take (i := 7) (v := ?_) rfl (by kernel_rfl) (by kernel_rfl) (by kernel_rfl) (fun c a w h => hp_put hp h) (Or.inl ⟨by kernel_rfl, ?_⟩) hH0 ?_
              rotate_left 1
              · intro w hSw
                go_simp
                try with_reducible rfl
              try simp only [Act.put, List.getElem_toArray, List.getElem_cons_zero, List.getElem_cons_succ, List.setIfInBounds_toArray, List.set_cons_zero, List.set_cons_succ]
              refine wpAnyH_take (i := 8) (v := ?_) rfl (by kernel_rfl) (by kernel_rfl) (by kernel_rfl) (fun c a w h => hp_put hp h) (Or.inl ⟨by kernel_rfl, ?_⟩) hH0 ?_
              rotate_left 1
              · intro w hSw
                have f0 := (hSw.cell (p := ⟨gb, k, none⟩) lgb).trans c1
                go_simp
                try with_reducible rfl
              try simp only [Act.put, List.getElem_toArray, List.getElem_cons_zero, List.getElem_cons_succ, List.setIfInBounds_toArray, List.set_cons_zero, List.set_cons_succ]
              refine wpAnyH_ready (rs := [9]) (by kernel_rfl) (by simp) ?_
              refine AllReadyH.cons rfl (fun K_ hK => ?_) ?_
              · go_simp
                refine (Hhp.out W0 hH0).mono ?_
                rintro e W1 ⟨rfl, hb1⟩
                refine hK.out _ _ ((hH0).trans (hb1.mono (hH0).size)) (fun hH1 => ?_)
                clear hK K_
                try simp only [Act.put, List.getElem_toArray, List.getElem_cons_zero, List.getElem_cons_succ, List.setIfInBounds_toArray, List.set_cons_zero, List.set_cons_succ]
                refine wpAnyH_take (i := 10) (v := ?_) rfl (by kernel_rfl) (by kernel_rfl) (by kernel_rfl) (fun c a w h => hp_put hp h) (Or.inl ⟨by kernel_rfl, ?_⟩) hH1 ?_
                rotate_left 1
                · intro w hSw
                  go_simp
                  try with_reducible rfl
                try simp only [Act.put, List.getElem_toArray, List.getElem_cons_zero, List.getElem_cons_succ, List.setIfInBounds_toArray, List.set_cons_zero, List.set_cons_succ]
                refine wpAnyH_take (i := 11) (v := ?_) rfl (by kernel_rfl) (by kernel_rfl) (by kernel_rfl) (fun c a w h => hp_put hp h) (Or.inl ⟨by kernel_rfl, ?_⟩) hH1 ?_
                rotate_left 1
                · intro w hSw
                  go_simp
                  try with_reducible rfl
                try simp only [Act.put, List.getElem_toArray, List.getElem_cons_zero, List.getElem_cons_succ, List.setIfInBounds_toArray, List.set_cons_zero, List.set_cons_succ]
                refine wpAnyH_done (by kernel_rfl) ?_ _
                have HH := Lib.hid hH1
                clear hH1
                go_wp2_with fail
                go_meet
                case rel => exact ⟨rfl, HH.out⟩
              exact AllReadyH.nil
            obtain ⟨rfl, hb51⟩ := hcut
            have HH := Lib.hid hb51
            clear hb51
            obtain ⟨wt, hwt⟩ : ∃ y, y = wc := ⟨_, rfl⟩
            rw [← hwt] at HH ⊢
            clear hwt
            have HbT := Lib.hid (Hbv.out.trans (HH.out.mono Hbv.out.size))
            have HitsT := Lib.hid (HitsV.out.below HH.out)
            have HbxT := Lib.hid (Hbx.out.below HH.out)
            clear hut c1 lgb
            go_wp2_with fail
            go_roundw
            case rel => exact ⟨n, k + 1, by omega, rfl, by go_num, by omega, by rw [Hfs.out]; exact Hn, HitsT.out, HbxT.out.less (by omega), HbT.out⟩
            case measure => simp [intOf]; omega
          · rw [decide_eq_false hin] at hhp
            rw [if_pos ⟨hm, hin⟩] at Hfs
            have Hhp := Lib.hid hhp
            clear hhp hin hm hstv
            go_upto_region 51 with fail
            go_cut [203] from 192 to 202 (fun v wz => v = .bool true ∧ Below wv.heap.size wv wz)
            case first =>
              refine wp_region_held_drew (S := fun w' => Below wv.heap.size wv w') (by kernel_rfl) ((Below.refl _ _).drew) (fun hH0 => ?_)
              obtain ⟨W0, hW0⟩ : ∃ W, W = wv.drew := ⟨_, rfl⟩
              rw [← hW0] at hH0 ⊢
              clear hW0
              refine wpAnyH_take (i := 0) (v := ?_) rfl (by kernel_rfl) (by kernel_rfl) (by kernel_rfl) (fun c a w h => hp_put hp h) (Or.inl ⟨by kernel_rfl, ?_⟩) hH0 ?_
              rotate_left 1
              · intro w hSw
                go_simp
                try with_reducible rfl
              try simp only [Act.put, List.getElem_toArray, List.getElem_cons_zero, List.getElem_cons_succ, List.setIfInBounds_toArray, List.set_cons_zero, List.set_cons_succ]
              refine wpAnyH_take (i := 1) (v := ?_) rfl (by kernel_rfl) (by kernel_rfl) (by kernel_rfl) (fun c a w h => hp_put hp h) (Or.inl ⟨by kernel_rfl, ?_⟩) hH0 ?_
              rotate_left 1
              · intro w hSw
                go_simp
                try with_reducible rfl
              try simp only [Act.put, List.getElem_toArray, List.getElem_cons_zero, List.getElem_cons_succ, List.setIfInBounds_toArray, List.set_cons_zero, List.set_cons_succ]
              refine wpAnyH_take (i := 2) (v := ?_) rfl (by kernel_rfl) (by kernel_rfl) (by kernel_rfl) (fun c a w h => hp_put hp h) (Or.inl ⟨by kernel_rfl, ?_⟩) hH0 ?_
              rotate_left 1
              · intro w hSw
                go_simp
                try with_reducible rfl
              try simp only [Act.put, List.getElem_toArray, List.getElem_cons_zero, List.getElem_cons_succ, List.setIfInBounds_toArray, List.set_cons_zero, List.set_cons_succ]
              refine wpAnyH_take (i := 3) (v := ?_) rfl (by kernel_rfl) (by kernel_rfl) (by kernel_rfl) (fun c a w h => hp_put hp h) (Or.inl ⟨by kernel_rfl, ?_⟩) hH0 ?_
              rotate_left 1
              · intro w hSw
                go_simp
                try with_reducible rfl
              try simp only [Act.put, List.getElem_toArray, List.getElem_cons_zero, List.getElem_cons_succ, List.setIfInBounds_toArray, List.set_cons_zero, List.set_cons_succ]
              refine wpAnyH_take (i := 4) (v := ?_) rfl (by kernel_rfl) (by kernel_rfl) (by kernel_rfl) (fun c a w h => hp_put hp h) (Or.inl ⟨by kernel_rfl, ?_⟩) hH0 ?_
              rotate_left 1
              · intro w hSw
                go_simp
                try with_reducible rfl
              try simp only [Act.put, List.getElem_toArray, List.getElem_cons_zero, List.getElem_cons_succ, List.setIfInBounds_toArray, List.set_cons_zero, List.set_cons_succ]
              refine wpAnyH_take (i := 5) (v := ?_) rfl (by kernel_rfl) (by kernel_rfl) (by kernel_rfl) (fun c a w h => hp_put hp h) (Or.inl ⟨by kernel_rfl, ?_⟩) hH0 ?_
              rotate_left 1
              · intro w hSw
                go_simp
                try with_reducible rfl
              try simp only [Act.put, List.getElem_toArray, List.getElem_cons_zero, List.getElem_cons_succ, List.setIfInBounds_toArray, List.set_cons_zero, List.set_cons_succ]
              refine wpAnyH_take (i := 6) (v := ?_) rfl (by kernel_rfl) (by kernel_rfl) (by kernel_rfl) (fun c a w h => hp_put hp h) (Or.inl ⟨by kernel_rfl, ?_⟩) hH0 ?_
              rotate_left 1
              · intro w hSw
                go_simp
                try with_reducible rfl
              try simp only [Act.put, List.getElem_toArray, List.getElem_cons_zero, List.getElem_cons_succ, List.setIfInBounds_toArray, List.set_cons_zero, List.set_cons_succ]
              refine wpAnyH_take (i := 7) (v := ?_) rfl (by kernel_rfl) (by kernel_rfl) (by kernel_rfl) (fun c a w h => hp_put hp h) (Or.inl ⟨by kernel_rfl, ?_⟩) hH0 ?_
              rotate_left 1
              · intro w hSw
                go_simp
                try with_reducible rfl
              try simp only [Act.put, List.getElem_toArray, List.getElem_cons_zero, List.getElem_cons_succ, List.setIfInBounds_toArray, List.set_cons_zero, List.set_cons_succ]
              refine wpAnyH_take (i := 8) (v := ?_) rfl (by kernel_rfl) (by kernel_rfl) (by kernel_rfl) (fun c a w h => hp_put hp h) (Or.inl ⟨by kernel_rfl, ?_⟩) hH0 ?_
              rotate_left 1
              · intro w hSw
                have f0 := (hSw.cell (p := ⟨gb, k, none⟩) lgb).trans c1
                go_simp
                try with_reducible rfl
              try simp only [Act.put, List.getElem_toArray, List.getElem_cons_zero, List.getElem_cons_succ, List.setIfInBounds_toArray, List.set_cons_zero, List.set_cons_succ]
              refine wpAnyH_ready (rs := [9]) (by kernel_rfl) (by simp) ?_
              refine AllReadyH.cons rfl (fun K_ hK => ?_) ?_
              · go_simp
                refine (Hhp.out W0 hH0).mono ?_
                rintro e W1 ⟨rfl, hb1⟩
                refine hK.out _ _ ((hH0).trans (hb1.mono (hH0).size)) (fun hH1 => ?_)
                clear hK K_
                try simp only [Act.put, List.getElem_toArray, List.getElem_cons_zero, List.getElem_cons_succ, List.setIfInBounds_toArray, List.set_cons_zero, List.set_cons_succ]
                refine wpAnyH_take (i := 10) (v := ?_) rfl (by kernel_rfl) (by kernel_rfl) (by kernel_rfl) (fun c a w h => hp_put hp h) (Or.inl ⟨by kernel_rfl, ?_⟩) hH1 ?_
                rotate_left 1
                · intro w hSw
                  go_simp
                  try with_reducible rfl
                try simp only [Act.put, List.getElem_toArray, List.getElem_cons_zero, List.getElem_cons_succ, List.setIfInBounds_toArray, List.set_cons_zero, List.set_cons_succ]
                refine wpAnyH_take (i := 11) (v := ?_) rfl (by kernel_rfl) (by kernel_rfl) (by kernel_rfl) (fun c a w h => hp_put hp h) (Or.inl ⟨by kernel_rfl, ?_⟩) hH1 ?_
                rotate_left 1
                · intro w hSw
                  go_simp
                  try with_reducible rfl
                try simp only [Act.put, List.getElem_toArray, List.getElem_cons_zero, List.getElem_cons_succ, List.setIfInBounds_toArray, List.set_cons_zero, List.set_cons_succ]
                refine wpAnyH_done (by kernel_rfl) ?_ _
                have HH := Lib.hid hH1
                clear hH1
                go_wp2_with fail
                go_meet
                case rel => exact ⟨rfl, HH.out⟩
              exact AllReadyH.nil
            obtain ⟨rfl, hb51⟩ := hcut
            have HH := Lib.hid hb51
            clear hb51
            obtain ⟨wt, hwt⟩ : ∃ y, y = wc := ⟨_, rfl⟩
            rw [← hwt] at HH ⊢
            clear hwt
            have HbT := Lib.hid (Hbv.out.trans (HH.out.mono Hbv.out.size))
            have HitsT := Lib.hid (HitsV.out.below HH.out)
            have HbxT := Lib.hid (Hbx.out.below HH.out)
            clear hut c1 lgb
            go_wp2_with fail
            go_roundw
            case rel => exact ⟨n + 1, k + 1, by omega, by go_num, by go_num, by omega, Lib.hid (by rw [Hfs.out, List.length_append, ← Hn.out]; rfl), HitsT.out, HbxT.out.less (by omega), HbT.out⟩
            case measure => simp [intOf]; omega
        · have hns : t ∉ sure := fun h => hm (HloS.out.kp _ (Hpw.out.sur t h).2)
          have hvs : StrL wv gs vs sure := HitsV.out.all (.str gs vs sure) (by simp)
          obtain ⟨cs, hcs, hss⟩ := hvs.strs
          have hha := has_any (some ⟨gs, 0, none⟩) cs sure t wv hss (by have := Hpw.out.ls; unfold maxLen; omega)
          rw [decide_eq_false hns, ← hcs] at hha
          rw [if_neg (fun h => hm h.1)] at Hfs
          have Hha := Lib.hid hha
          clear hha hns hvs hcs hss hm hstv
          go_wp2_with fail
          refine Hha.out.mono ?_
          rintro r w9 ⟨rfl, rfl⟩
          try dsimp only
          clear Hha
          go_upto_region 51 with fail
          go_cut [203] from 192 to 202 (fun v wz => v = .bool false ∧ Below wv.heap.size wv wz)
          case first =>
            refine wp_region_held_drew (S := fun w' => Below wv.heap.size wv w') (by kernel_rfl) ((Below.refl _ _).drew) (fun hH0 => ?_)
            obtain ⟨W0, hW0⟩ : ∃ W, W = wv.drew := ⟨_, rfl⟩
            rw [← hW0] at hH0 ⊢
            clear hW0
            refine wpAnyH_take (i := 0) (v := ?_) rfl (by kernel_rfl) (by kernel_rfl) (by kernel_rfl) (fun c a w h => hp_put hp h) (Or.inl ⟨by kernel_rfl, ?_⟩) hH0 ?_
            rotate_left 1
            · intro w hSw
              go_simp
              try with_reducible rfl
            try simp only [Act.put, List.getElem_toArray, List.getElem_cons_zero, List.getElem_cons_succ, List.setIfInBounds_toArray, List.set_cons_zero, List.set_cons_succ]
            refine wpAnyH_take (i := 1) (v := ?_) rfl (by kernel_rfl) (by kernel_rfl) (by kernel_rfl) (fun c a w h => hp_put hp h) (Or.inl ⟨by kernel_rfl, ?_⟩) hH0 ?_
            rotate_left 1
            · intro w hSw
              go_simp
              try with_reducible rfl
            try simp only [Act.put, List.getElem_toArray, List.getElem_cons_zero, List.getElem_cons_succ, List.setIfInBounds_toArray, List.set_cons_zero, List.set_cons_succ]
            refine wpAnyH_take (i := 2) (v := undef) rfl (by kernel_rfl) (by kernel_rfl) (by kernel_rfl) (fun c a w h => hp_put hp h) (Or.inr ⟨by kernel_rfl, rfl⟩) hH0 ?_
            try simp only [Act.put, List.getElem_toArray, List.getElem_cons_zero, List.getElem_cons_succ, List.setIfInBounds_toArray, List.set_cons_zero, List.set_cons_succ]
            refine wpAnyH_take (i := 3) (v := undef) rfl (by kernel_rfl) (by kernel_rfl) (by kernel_rfl) (fun c a w h => hp_put hp h) (Or.inr ⟨by kernel_rfl, rfl⟩) hH0 ?_
            try simp only [Act.put, List.getElem_toArray, List.getElem_cons_zero, List.getElem_cons_succ, List.setIfInBounds_toArray, List.set_cons_zero, List.set_cons_succ]
            refine wpAnyH_take (i := 4) (v := undef) rfl (by kernel_rfl) (by kernel_rfl) (by kernel_rfl) (fun c a w h => hp_put hp h) (Or.inr ⟨by kernel_rfl, rfl⟩) hH0 ?_
            try simp only [Act.put, List.getElem_toArray, List.getElem_cons_zero, List.getElem_cons_succ, List.setIfInBounds_toArray, List.set_cons_zero, List.set_cons_succ]
            refine wpAnyH_take (i := 5) (v := undef) rfl (by kernel_rfl) (by kernel_rfl) (by kernel_rfl) (fun c a w h => hp_put hp h) (Or.inr ⟨by kernel_rfl, rfl⟩) hH0 ?_
            try simp only [Act.put, List.getElem_toArray, List.getElem_cons_zero, List.getElem_cons_succ, List.setIfInBounds_toArray, List.set_cons_zero, List.set_cons_succ]
            refine wpAnyH_take (i := 6) (v := undef) rfl (by kernel_rfl) (by kernel_rfl) (by kernel_rfl) (fun c a w h => hp_put hp h) (Or.inr ⟨by kernel_rfl, rfl⟩) hH0 ?_
            try simp only [Act.put, List.getElem_toArray, List.getElem_cons_zero, List.getElem_cons_succ, List.setIfInBounds_toArray, List.set_cons_zero, List.set_cons_succ]
            refine wpAnyH_take (i := 7) (v := undef) rfl (by kernel_rfl) (by kernel_rfl) (by kernel_rfl) (fun c a w h => hp_put hp h) (Or.inr ⟨by kernel_rfl, rfl⟩) hH0 ?_
            try simp only [Act.put, List.getElem_toArray, List.getElem_cons_zero, List.getElem_cons_succ, List.setIfInBounds_toArray, List.set_cons_zero, List.set_cons_succ]
            refine wpAnyH_take (i := 8) (v := undef) rfl (by kernel_rfl) (by kernel_rfl) (by kernel_rfl) (fun c a w h => hp_put hp h) (Or.inr ⟨by kernel_rfl, rfl⟩) hH0 ?_
            try simp only [Act.put, List.getElem_toArray, List.getElem_cons_zero, List.getElem_cons_succ, List.setIfInBounds_toArray, List.set_cons_zero, List.set_cons_succ]
            refine wpAnyH_take (i := 9) (v := undef) rfl (by kernel_rfl) (by kernel_rfl) (by kernel_rfl) (fun c a w h => hp_put hp h) (Or.inr ⟨by kernel_rfl, rfl⟩) hH0 ?_
            try simp only [Act.put, List.getElem_toArray, List.getElem_cons_zero, List.getElem_cons_succ, List.setIfInBounds_toArray, List.set_cons_zero, List.set_cons_succ]
            refine wpAnyH_take (i := 10) (v := undef) rfl (by kernel_rfl) (by kernel_rfl) (by kernel_rfl) (fun c a w h => hp_put hp h) (Or.inr ⟨by kernel_rfl, rfl⟩) hH0 ?_
            try simp only [Act.put, List.getElem_toArray, List.getElem_cons_zero, List.getElem_cons_succ, List.setIfInBounds_toArray, List.set_cons_zero, List.set_cons_succ]
            refine wpAnyH_take (i := 11) (v := ?_) rfl (by kernel_rfl) (by kernel_rfl) (by kernel_rfl) (fun c a w h => hp_put hp h) (Or.inl ⟨by kernel_rfl, ?_⟩) hH0 ?_
            rotate_left 1
            · intro w hSw
              go_simp
              try with_reducible rfl
            try simp only [Act.put, List.getElem_toArray, List.getElem_cons_zero, List.getElem_cons_succ, List.setIfInBounds_toArray, List.set_cons_zero, List.set_cons_succ]
            refine wpAnyH_done (by kernel_rfl) ?_ _
            have HH := Lib.hid hH0
            clear hH0
            go_wp2_with fail
            go_meet
            case rel => exact ⟨rfl, HH.out⟩
          obtain ⟨rfl, hb51⟩ := hcut
          have HH := Lib.hid hb51
          clear hb51
          obtain ⟨wt, hwt⟩ : ∃ y, y = wc := ⟨_, rfl⟩
          rw [← hwt] at HH ⊢
          clear hwt
          have HbT := Lib.hid (Hbv.out.trans (HH.out.mono Hbv.out.size))
          have HitsT := Lib.hid (HitsV.out.below HH.out)
          have HbxT := Lib.hid (Hbx.out.below HH.out)
          clear c1 lgb
          go_wp2_with fail
          go_roundw
          case rel => exact ⟨n, k + 1, by omega, rfl, by go_num, by omega, by rw [Hfs.out]; exact Hn, HitsT.out, HbxT.out.less (by omega), HbT.out⟩
          case measure => simp [intOf]; omega
      · obtain rfl : k = nb := by omega
        have j1 : ¬ (k : Int) < (k : Int) := by omega
        have Hnn : Hid (n = (firstsTo C' blobs blobs.length).length) := Lib.hid (by rw [← Hnb.out]; exact Hn.out)
        clear hkn
        go_wp2_with fail
        go_meet
        case rel => exact ⟨n, rfl, Hnn, HitsK.out, HboxK.out.less (by omega), HbK.out⟩
  obtain ⟨n, rfl, Hnn, hits, hbox, hb⟩ := hcut
  have Hits2 : Hid (Its w.heap.size wc S [.str gb (.slice (some ⟨gb, 0, none⟩) nb cb) blobs, .rcd gf vf safe, .rcd gr vr recs]) := Lib.hid (by
    rw [Hnb.out]
    exact hits.sub (.cons _ (List.Sublist.refl _)))
  have HboxC := Lib.hid hbox
  have HbC := Lib.hid hb
  clear hits hbox hb
  apply_assumption
  exact loss_b Q A cap nd A2 np cap2 ps ds w _ q sb sg i kb lo0 C Kp sure blobs C' safe recs S gb gf gr _ vf vr n HL HP Hnp Hpb hnp63 HloS Hnn Hits2 HboxC HbC hi70 hlo0
    _ _ _ _ _ _ _ _ _ _ _ _ _ _ _ _ _ _ _ _ _ _ _ _ _ _ _ _ _ _ _ _ _ _ _ _ _ _ _ _ _ _ _ _ _ _ _ _ _ _ _ _ _ _ _ _ _ _ _ _ _ _ _ _ _ _ _ _ _ _ _ _ _ _ _ _ _ _ _ _ _ _ _ _ _ _ _ _ _ _ _ _ _ _ _ _ _ _ _ _ _ _ _ _ _ _ _ _ _ _ _ _ _ _ _ _ _ _ _ _ _ _ _ _ _ _ _ _ _ _ _ _ _ _ _ _ _ _ _ _ _ _ _ _ _ _ _ _ _ _ _ _ _ _ _ _ _ _ _ _ _ _ _ _ _ _ _ _ _ _ _ _ _ _ _ _ _ _ _ _ _ _ _ _ _ _ _ _ _ _ _ _ _ _ _ _ _ _ _ _ _ _ _ _ _ _ _ _ _ _ _ _ _ _ _ _ _ _ _ _ _ _ _ _ _ _ _ _ _ _ _ _ _ _ _ _ _ _ _ _ _ _ _ _ _ _ _ _ _ _ _ _ _ _ _ _ _ _ _ _ _ _ _ _ _ _ _ _ _ _ _ _ _ _ _ _ _ _ _ _ _ _ _ _ _ _ _ _ _ _ _ _ _ _ _ _ _ _ _ _ _ _ _ _ _ _ hp hQ
end Go.Proofs.YteihfoacdocgkaaDoor
