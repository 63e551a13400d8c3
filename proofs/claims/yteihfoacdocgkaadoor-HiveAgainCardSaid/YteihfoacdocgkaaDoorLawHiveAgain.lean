/-
  HiveAgain: what is there already isn't put again; opened again, a store has the same. No condition: every input.
-/
import Derived.Test.YteihfoacdocgkaaDoorHyG
import Derived.Test.YteihfoacdocgkaaDoorRow
import Derived.Deep.Fields
import Derived.ChangeSame
import Derived.Test.YteihfoacdocgkaaDoorCards
import Derived.Test.YteihfoacdocgkaaDoorTie
set_option linter.unusedVariables false
set_option linter.unusedSimpArgs false
namespace Go.Proofs.YteihfoacdocgkaaDoor
open Go.RowKit Pl Sh
attribute [local go_sem] Lb.ba_get Lb.ba_cut Lb.ba_add Lb.ba_size Lb.take_rest

def SmallActs (ds : List ActH) : Prop := ∀ (j : Nat) (h : j < ds.length), j < 70 → SmallAct ds[j]
def restN : Nat → Code → Code
  | 0, c => c
  | n + 1, .seq _ b => restN n b
  | _, c => c
noncomputable def againRest : Code := restN 7 (Tryd.f8.body.getD .skip)
set_option maxHeartbeats 8000000 in
set_option maxRecDepth 100000 in
/-- what follows the first loop -/
theorem again_rest (A : Option Addr) (cap nd : Nat) (ds : List ActH) (w wc : World) (q : HvP) (sb sg k : Nat) (C : List (List UInt8)) (S : List Nat) (HL : Hid (Laid KK w)) (HS : Hid (ActsH w w.heap.size A ds)) (Hnd : Hid (nd = ds.length)) (hd63 : (nd : Int) ≤ 9223372036854775807) (Hsm1 : Hid (SmallActs ds)) (Hinj : Hid (InjT KK ds))
    (Hqb : Hid (q.b = sb)) (Hqg : Hid (q.g = sg)) (Hsw : Hid (w.heap.size ≤ sb ∧ w.heap.size ≤ sg)) (H00 : Hid (0 ≠ sb ∧ 0 ≠ sg)) (hend : ∀ j, j < nd → j < 70 → j < k) (hk70 : k ≤ 70) (hbox : PBox KK wc q 128 (40000 - 500 * k) false C [] S) (hag : AgI ds k C) (hlo : ∀ x ∈ S, w.heap.size ≤ x) (hb : Below w.heap.size w wc)
    (u2 u5 u6 u7 u8 u9 u10 u11 u12 u13 u14 u15 u16 u17 u18 u19 u20 u21 u22 u23 u24 u25 u26 u27 u28 u29 u30 u31 u32 u33 u34 u35 u36 u37 u38 u39 u40 u41 u42 u43 u44 u45 u46 u47 u48 u49 u50 u51 u52 u53 u54 u55 u56 u57 u58 u59 u60 u61 u62 u63 u64 u65 u66 u67 u68 u69 u70 u71 u72 u73 u74 u75 u76 u77 u78 u79 u80 u81 u82 u83 u84 u85 u86 u87 u88 u89 u90 u91 u92 u93 u94 u95 u96 u97 u98 u99 u100 u101 u102 u103 u104 u105 u106 u107 u108 u109 u110 u111 u112 u113 u114 u115 u116 u117 u118 u119 u120 u121 u122 u123 u124 u125 u126 u127 u128 u129 u130 u131 u132 u133 u134 u135 u136 u137 u138 u139 u140 u141 u142 u143 u144 : Value) :
    Code.wp Tryd.prog againRest (bodyPost Tryd.prog Tryd.f8 (fun e w' => e = .returned (.bool true) ∧ Below w.heap.size w w')) ⟨#[.slice A nd cap, undef, u2, .pointer (some ⟨sb, 0, none⟩), .pointer (some ⟨q.p, 0, none⟩), u5, u6, u7, u8, u9, u10, u11, u12, u13, u14, u15, u16, u17, u18, u19, u20, u21, u22, u23, u24, u25, u26, u27, u28, u29, u30, u31, u32, u33, u34, u35, u36, u37, u38, u39, u40, u41, u42, u43, u44, u45, u46, u47, u48, u49, u50, u51, u52, u53, u54, u55, u56, u57, u58, u59, u60, u61, u62, u63, u64, u65, u66, u67, u68, u69, u70, u71, u72, u73, u74, u75, u76, u77, u78, u79, u80, u81, u82, u83, u84, u85, u86, u87, u88, u89, u90, u91, u92, u93, u94, u95, u96, u97, u98, u99, u100, u101, u102, u103, u104, u105, u106, u107, u108, u109, u110, u111, u112, u113, u114, u115, u116, u117, u118, u119, u120, u121, u122, u123, u124, u125, u126, u127, u128, u129, u130, u131, u132, u133, u134, u135, u136, u137, u138, u139, u140, u141, u142, u143, u144, undef, undef, undef, undef, undef, undef, undef, undef, undef, undef, undef, undef, undef, undef, undef, undef, undef, undef, undef, undef, undef, undef, undef, undef, undef, undef, undef, undef, undef, undef, undef, undef, undef, undef, undef, undef, undef, undef, undef, undef, undef, undef, undef, undef, undef, undef, undef, undef, undef, undef, undef, undef, undef, undef, undef, undef, undef, undef, undef, undef, undef, undef], []⟩ wc := by
  conv => arg 2; whnf
  have Hend := Lib.hid hend
  have Hbox := Lib.hid hbox
  have Hag := Lib.hid hag
  have Hlo := Lib.hid hlo
  have Hb := Lib.hid hb
  have hsy := Lib.hid (p_sync KK q 128 (40000 - 500 * k - 1) false C [] S wc (hbox.less (by omega)))
  clear hend hbox hag hlo hb
  go_wp2_with fail
  refine hsy.out.mono ?_
  rintro r w6 ⟨hO6, ⟨rfl, hb6⟩ | ⟨hf, -⟩⟩
  case inr => cases hf
  have hm6 := hb6.lenBox
  have hsh6 := hb6.shelf
  have hrow6 := hb6.rows
  rw [Hqb.out, Hqg.out] at hsh6
  have HB6 := Lib.hid (Hb.out.trans (hO6.below Hb.out.size Hlo.out))
  have hlo2 : ∀ x ∈ [sb, sg], w.heap.size ≤ x := by intro x hx; simp only [List.mem_cons, List.not_mem_nil, or_false] at hx; rcases hx with rfl | rfl; exact Hsw.out.1; exact Hsw.out.2
  have Hlo2 := Lib.hid hlo2
  have hoff := Lib.hid (d_off hsh6)
  have Hm6 := Lib.hid hm6
  have Hrow6 := Lib.hid hrow6
  clear hO6 hb6 hm6 hsh6 hrow6 hlo2 hsy Hbox Hlo Hb
  go_wp2_with fail
  refine hoff.out.mono ?_
  rintro r w7 ⟨rfl, h7, hO7⟩
  have Hm7 := Lib.hid (Hm6.out.step (by rw [Hqb.out, Hqg.out]; exact hO7) (by rw [Hqb.out, Hqg.out]; exact h7.sh))
  have HB7 := Lib.hid (HB6.out.trans (hO7.below HB6.out.size Hlo2.out))
  have hon := Lib.hid (d_on h7 none 0 [] (fun i hi => by simp at hi) (fun f hf => by cases hf) (by simp))
  clear hoff h7 hO7 Hm6 HB6
  go_wp2_with fail
  refine hon.out.mono ?_
  rintro r w8 ⟨rfl, h8, hO8⟩
  have Hm8 := Lib.hid (Hm7.out.step (by rw [Hqb.out, Hqg.out]; exact hO8) (by rw [Hqb.out, Hqg.out]; exact h8.sh))
  have HB8 := Lib.hid (HB7.out.trans (hO8.below HB7.out.size Hlo2.out))
  have he : 40000 - 500 * k - 1 = (40000 - 500 * k - 201) + 200 := by omega
  rw [he] at h8
  have hop := Lib.hid (d_open KK w8 sb sg 128 (40000 - 500 * k - 201) false C C h8 (HL.out.below HB8.out) H00.out (by omega))
  clear hon h8 hO8 Hm7 HB7 he
  go_wp2_with fail
  refine hop.out.mono ?_
  rintro r w9 ⟨q2, S2, C2, hqb2, hqg2, rfl, hbox2, hC2, hC2', hlo9, hO9⟩
  have hsh9 := hbox2.sh
  rw [hqb2, hqg2] at hsh9
  have Hm9 := Lib.hid (Hm8.out.step (by rw [Hqb.out, Hqg.out]; exact hO9) (by rw [Hqb.out, Hqg.out]; exact hsh9))
  have HB9 := Lib.hid (HB8.out.trans (hO9.below HB8.out.size Hlo2.out))
  have hlen2 := rows_same_len Hrow6.out hbox2.rows hC2 (fun r hr => hC2' r hr hr)
  have Hag2 := Lib.hid (Hag.out.same hC2 (fun r hr => hC2' r hr hr) hlen2)
  have HS2 : Hid (∀ x ∈ S2, w.heap.size ≤ x) := Lib.hid (fun x hx => by
    rcases hlo9 x hx with rfl | rfl | h
    · exact Hsw.out.1
    · exact Hsw.out.2
    · exact Nat.le_trans HB8.out.size h)
  have Hbox2 := Lib.hid (PBox.less (k' := 4000) hbox2 (by omega))
  have hla := Lib.hid (p_len hbox2)
  rw [hlen2] at hla
  have hlb := Lib.hid Hm9.out.len
  obtain ⟨m, hm⟩ : ∃ m, m = C.length := ⟨_, rfl⟩
  rw [← hm] at hla hlb
  clear hop hsh9 hlen2 hbox2 hC2 hC2' hlo9 hO9 hqb2 hqg2 Hm8 HB8 hm Hrow6
  go_wp2_with fail
  refine hla.out.mono ?_
  rintro r w10 ⟨rfl, rfl⟩
  go_wp2_with fail
  refine hlb.out.mono ?_
  rintro r w10 ⟨rfl, rfl⟩
  clear hla hlb
  go_wp2_with fail
  go_loopw [18] (fun i wz => ∃ j : Nat, j ≤ nd ∧ j ≤ 70 ∧ i = .int .i64 j ∧ PBox KK wz q2 128 (4000 - 10 * j) false C2 C2 S2 ∧ Below w.heap.size w wz) (fun i _ => nd - (intOf i).toNat)
  case atStart =>
    refine ⟨0, by omega, by omega, rfl, ?_, HB9.out⟩
    exact Hbox2.out.less (by omega)
  case round =>
    obtain ⟨j, hj, hj70, rfl, hbox, hb⟩ := hrel
    have Hbox := Lib.hid hbox
    have Hb := Lib.hid hb
    clear hbox hb Hbox2 HB9 Hm9
    by_cases hjn : j < nd ∧ j < 70
    · obtain ⟨h1, h2⟩ := hjn
      have i1 : (j : Int) < (nd : Int) := by omega
      have i2 : (j : Int) < 70 := by omega
      have hid : j < ds.length := by rw [← Hnd.out]; exact h1
      obtain ⟨b, o, rfl, hbl, hr, hok⟩ := (HS.out.below Hb.out) j hid
      obtain ⟨hts, -⟩ := Hsm1.out j hid h2
      obtain ⟨a, ha⟩ : ∃ a, a = ds[j] := ⟨_, rfl⟩
      rw [← ha] at hr hok hts
      have Hok := Lib.hid hok
      have Ha := Lib.hid ha
      have Hts := Lib.hid hts
      have asz : a.cells.length = 69 := ActH.len hok.rfit
      have aone := actH_one a
      have adix : (Tryd.prog.info? 71).map (·.size) = some a.cells.length := by rw [act05_info, asz]
      have adixA : (Tryd.prog.info? 71).map (·.size) = some a.cells.toArray.size := by rw [act05_info]; simp [asz]
      have asza : a.cells.toArray.size = 69 := by simp [asz]
      have aund := Tryd.underlying71
      have azero := act05_zero
      obtain ⟨ac, hac⟩ : ∃ ac, ac = a.cells := ⟨_, rfl⟩
      rw [← hac] at hr asz aone adix adixA asza
      have Hac := Lib.hid hac
      clear ha hac hok hts hbl
      go_upto_region 36 with (first | (refine wpList_load_mid rfl 71 _ rfl b (o + j * 69) rfl ac _ hr aund rfl adix ?_) | (refine wpList_store_row rfl 71 _ _ rfl wr.heap.size ac.toArray rfl rfl 71 _ (heap_alloc_new wr _) adixA (by rw [asza, azero]) aone ?_))
      show Code.wp _ _ _ _ ((wr.alloc (.cells Tryd.zeroCells71 71)).setRow wr.heap.size ac.toArray)
      obtain ⟨hq_w7, hB_w7⟩ := put_newH wr Tryd.zeroCells71 ac.toArray 71
      obtain ⟨xb, hp_w7⟩ : ∃ q, q = wr.heap.size := ⟨_, rfl⟩
      obtain ⟨w7, hw_w7⟩ : ∃ y, y = ((wr.alloc (.cells Tryd.zeroCells71 71)).setRow wr.heap.size ac.toArray) := ⟨_, rfl⟩
      rw [← hw_w7] at hq_w7 hB_w7 ⊢
      rw [← hp_w7] at hq_w7 ⊢
      have HQ_w7 := Lib.hid hq_w7
      have HB_w7 := Lib.hid hB_w7
      have Hp_w7 := Lib.hid hp_w7
      clear hq_w7 hB_w7 hp_w7 hw_w7
      have hxS : xb ∉ S2 := fun hx => by
        have h1 := Hbox.out.lt xb hx
        have h2 := Hp_w7.out
        omega
      have HxS := Lib.hid hxS
      have Hb7 := Lib.hid (Hb.out.trans (HB_w7.out.mono Hb.out.size))
      have Hbox7 := Lib.hid (Hbox.out.below HB_w7.out)
      have hq7 := HQ_w7.out
      rw [Hac.out] at hq7
      obtain ⟨x0, x1, -, -, -, -⟩ := act_blk hq7 Hok.out.rfit
      obtain ⟨kd, hkd⟩ : ∃ kd, kd = a.kind := ⟨_, rfl⟩
      obtain ⟨tx, htx⟩ : ∃ tx, tx = a.text := ⟨_, rfl⟩
      rw [← hkd] at x0
      rw [← htx] at x1
      have Htx := Lib.hid htx
      have Hkd := Lib.hid hkd
      have htl : tx.length ≤ 1000 := by rw [htx]; exact Hts.out
      clear hr asz aone adix adixA asza aund azero hq7 hxS hkd htx Hbox HB_w7 Hp_w7 Hb
      by_cases k2 : kd = 2
      · have e2 : (kd != 2) = false := by simp [k2]
        clear k2
        go_wp2_with fail
        go_roundw
        case rel =>
          refine ⟨j + 1, by omega, by omega, ?_, ?_, ?_⟩
          · go_num
          · exact Hbox7.out.less (by omega)
          · exact Hb7.out
        case measure => simp [intOf]; omega
      · have e2 : (kd != 2) = true := by simp [k2]
        have htxd : tx = ds[j].text := by rw [Htx.out, Ha.out]
        have hkd2 : ds[j].kind ≠ 2 := by rw [← Ha.out, ← Hkd.out]; exact k2
        have hall := Hag2.out.all j hid (Hend.out j h1 h2) hkd2
        have hrowj := fun (row : List UInt8) (h3 : row ∈ C2) (h4 : rowS KK row = some (true, hashB KK tx, row)) => by
          have := Hag2.out.row Hinj.out hid h2 h3 (by rw [← htxd]; exact h4)
          rw [← htxd] at this
          exact this
        rw [← htxd] at hall
        have Hall := Lib.hid hall
        have Hrowj := Lib.hid hrowj
        have hb1s := (Below.refl w7.heap.size w7).alloc (Nat.le_refl _) (.cells #[.string ⟨tx.toArray⟩] 9)
        have cb : (w7.alloc (.cells #[.string ⟨tx.toArray⟩] 9)).cell? ⟨w7.heap.size, 0, none⟩ = some (.string ⟨tx.toArray⟩) := by rw [Lib.cell_of_heap (heap_alloc_new w7 _)]; rfl
        have hof := Lib.hid (of_hash KK (some ⟨w7.heap.size, 0, none⟩) 1 tx _ ((HL.out.below Hb7.out).below hb1s) ⟨_, rfl, cb⟩ (by omega))
        have Hb1s := Lib.hid hb1s
        have hh := hashB_length KK tx
        obtain ⟨hd, hhd⟩ : ∃ x, x = hashB KK tx := ⟨_, rfl⟩
        rw [← hhd] at hh hof Hrowj
        have Hhd := Lib.hid hhd
        have Hh := Lib.hid hh
        clear k2 htxd hkd2 hall hrowj hb1s cb hhd hh
        go_wp2_with fail
        refine hof.out.mono ?_
        rintro r wy ⟨rfl, hby⟩
        have Hby := Lib.hid (Hb1s.out.trans (hby.mono Hb1s.out.size))
        have HbY := Lib.hid (Hb7.out.trans (Hby.out.mono Hb7.out.size))
        have hbl := Lib.hid (p_blob KK q2 128 (4000 - 10 * j - 1) false C2 C2 S2 hd wy ((Hbox7.out.below Hby.out).less (by omega)) (HL.out.below HbY.out) Hh.out)
        have HQy := Lib.hid (below_keep Hby.out HQ_w7.out)
        obtain ⟨DV, hDV⟩ : ∃ x, x = digV hd := ⟨_, rfl⟩
        rw [← hDV] at hbl ⊢
        clear hof hby hDV x0 x1
        go_wp2_with fail
        refine hbl.out.mono ?_
        rintro r wv ⟨t, ok, rfl, hyes, hno, hbx, hO⟩
        have HQv := Lib.hid ((hO.block xb (heap_lt HQy.out) HxS.out).trans HQy.out)
        have Hbv := Lib.hid (HbY.out.trans (hO.below HbY.out.size HS2.out))
        have Hbx := Lib.hid hbx
        have hq8 := HQv.out
        rw [Hac.out] at hq8
        obtain ⟨-, x1, -, -, -, -⟩ := act_blk hq8 Hok.out.rfit
        rw [← Htx.out] at x1
        have Hyes := Lib.hid hyes
        have Hno := Lib.hid hno
        clear hyes hno hbx hO hq8 hbl
        by_cases h512 : tx.length ≤ 512
        · have j5 : (tx.length : Int) ≤ 512 := by omega
          have hmem := Hall.out h512
          have hok : ok = true := by
            cases ok with
            | true => rfl
            | false => exact absurd (by rw [Hhd.out]; exact rowS_of_blob KK tx h512) ((Hno.out rfl).2 _ hmem)
          subst hok
          have ht : t = tx := by
            obtain ⟨row, r1, r2, r3⟩ := Hyes.out rfl
            obtain ⟨-, r4⟩ := Hrowj.out row r1 r2
            rw [r4, asBlob_blob tx h512] at r3
            exact (Prod.mk.inj r3).1.symm
          subst ht
          have htt : (t != t) = false := by simp
          clear hmem h512 Hall Hrowj Hyes Hno
          go_wp2_with fail
          go_roundw
          case rel => exact ⟨j + 1, by omega, by omega, by go_num, Hbx.out.less (by omega), Hbv.out⟩
          case measure => simp [intOf]; omega
        · have j5 : ¬ (tx.length : Int) ≤ 512 := by omega
          have hok : ok = false := by
            cases ok with
            | false => rfl
            | true =>
              obtain ⟨row, r1, r2, r3⟩ := Hyes.out rfl
              exact absurd (Hrowj.out row r1 r2).1 h512
          subst hok
          clear h512 Hall Hrowj Hyes Hno
          go_wp2_with fail
          go_roundw
          case rel => exact ⟨j + 1, by omega, by omega, by go_num, Hbx.out.less (by omega), Hbv.out⟩
          case measure => simp [intOf]; omega
    · have key : ((j : Int) < (nd : Int) ∧ ¬ (j : Int) < 70) ∨ ¬ (j : Int) < (nd : Int) := by omega
      clear hjn
      rcases key with ⟨i1, i2⟩ | i1
      all_goals
        go_wp2_with fail
        go_ret
        exact ⟨rfl, Hb.out⟩
set_option maxHeartbeats 8000000 in
set_option maxRecDepth 100000 in
theorem hiveAgain_core (A : Option Addr) (cap : Nat) (ds : List ActH) (w : World) (hL : Laid KK w) (haw : Calls Tryd.prog 18 #[] w fun e w' => e = .returned (.bool true) ∧ Below w.heap.size w w')
    (hS : ActsH w w.heap.size A ds) (hl : ds.length ≤ maxLen) :
    Calls Tryd.prog 8 #[.slice A ds.length cap] w fun e w' => e = .returned (.bool true) ∧ Below w.heap.size w w' := by
  have HL := Lib.hid hL
  have HS := Lib.hid hS
  have haw' := Lib.hid haw
  have hup : ∀ W, Below w.heap.size w W → ActsH W W.heap.size A ds := fun W hW i hi => by
    obtain ⟨b, o, e, h1, h2, h3⟩ := (HS.out.below hW) i hi
    exact ⟨b, o, e, Nat.lt_of_lt_of_le h1 hW.size, h2, { h3 with fates := h3.fates.more hW.size }⟩
  have hgr := Lib.hid (fun W (hW : Below w.heap.size w W) => great_any A cap ds W (hup W hW) hl)
  have htx := Lib.hid (fun W (hW : Below w.heap.size w W) (hsm : SmallActs ds) => texts_any A cap ds W (hup W hW) hl hsm)
  have hcl := Lib.hid (fun W (hW : Below w.heap.size w W) (A2 : Option Addr) (c2 : Nat) (ls : List (List UInt8)) (hs2 : Strs W W.heap.size A2 ls) (h70 : ls.length ≤ 70) (ht : ∀ t ∈ ls, t.length ≤ 1000) => show Calls Tryd.prog 22 #[.slice A2 ls.length c2, .slice none 0 0] W (ClashPost KK ls W) by
    have := clash_any KK A2 c2 ls none 0 [] W (HL.out.below hW) hs2 (fun i hi => by simp at hi) (by omega) (by simp) (fun t h => by have := ht t (by simpa using h); omega)
    rw [List.append_nil] at this
    exact this)
  obtain ⟨nd, hnd⟩ : ∃ n, n = ds.length := ⟨_, rfl⟩
  have hd63 : (nd : Int) ≤ 9223372036854775807 := by unfold maxLen at hl; omega
  rw [← hnd] at hgr htx ⊢
  have Hnd := Lib.hid hnd
  clear hL hS hl hnd haw hup
  go_enter Tryd.func8, Tryd.ntmps8
  go_wp2_with fail
  refine haw'.out.mono ?_
  rintro e w1 ⟨rfl, hB1⟩
  have HB1 := Lib.hid hB1
  clear hB1 haw'
  go_wp2_with fail
  refine (hgr.out w1 HB1.out).mono ?_
  rintro e w2 ⟨b1, rfl, hsm, rfl⟩
  have Hsm := Lib.hid hsm
  clear hsm hgr
  cases b1 with
  | true =>
    go_wp2_with fail
    go_ret
    exact ⟨rfl, HB1.out⟩
  | false =>
  have Hsm1 : Hid (SmallActs ds) := Lib.hid (Hsm.out (by first | rfl | trivial))
  clear Hsm
  go_wp2_with fail
  refine (htx.out w1 HB1.out Hsm1.out).mono ?_
  rintro e w2 ⟨A2, c2, ls, rfl, hs2, h70, ht, hin, hB2⟩
  have Hin := Lib.hid hin
  have HB2 := Lib.hid (HB1.out.trans (hB2.mono HB1.out.size))
  have hcl2 := Lib.hid (hcl.out w2 HB2.out A2 c2 ls hs2 h70 ht)
  obtain ⟨nl, hnl⟩ : ∃ n, n = ls.length := ⟨_, rfl⟩
  rw [← hnl] at hcl2 ⊢
  clear hs2 h70 ht hin hB2 hcl htx hnl
  go_wp2_with fail
  refine hcl2.out.mono ?_
  rintro e w3 ⟨b3, rfl, hal, hB3⟩
  have Hal := Lib.hid hal
  have HB3 := Lib.hid (HB2.out.trans (hB3.mono HB2.out.size))
  clear hal hB3 hcl2
  cases b3 with
  | true =>
    go_wp2_with fail
    go_ret
    exact ⟨rfl, HB3.out⟩
  | false =>
  have Hinj : Hid (InjT KK ds) := Lib.hid (injT_of (by first | exact Hal.out rfl | exact Hal.out trivial) Hin.out)
  clear Hal Hin
  go_wp2_with fail
  refine (new_any 128 w3 (by omega)).mono ?_
  rintro e w4 ⟨rfl, h4, hB4⟩
  have HB4 := Lib.hid (HB3.out.trans (hB4.mono HB3.out.size))
  have h0 : 0 ≠ w3.heap.size + 1 ∧ 0 ≠ w3.heap.size := by have := HL.out.lt; have := HB3.out.size; omega
  have hop := Lib.hid (d_open KK w4 (w3.heap.size + 1) w3.heap.size 128 40000 false [] [] (d_new h4 (40000 + 200) (by omega)) (HL.out.below HB4.out) h0 (by omega))
  clear hB4 h4
  go_wp2_with fail
  refine hop.out.mono ?_
  rintro e w5 ⟨q, S, C0, hqb, hqg, rfl, hbox, hC0, -, hlo, hO5⟩
  obtain ⟨sb, hsb⟩ : ∃ y, y = w3.heap.size + 1 := ⟨_, rfl⟩
  obtain ⟨sg, hsg⟩ : ∃ y, y = w3.heap.size := ⟨_, rfl⟩
  rw [← hsb, ← hsg] at hlo hO5 h0
  rw [← hsb] at hqb ⊢
  rw [← hsg] at hqg
  have hsw : w.heap.size ≤ sb ∧ w.heap.size ≤ sg := by have := HB3.out.size; omega
  have HB5 := Lib.hid (HB4.out.trans (hO5.below HB4.out.size (by intro x hx; simp only [List.mem_cons, List.not_mem_nil, or_false] at hx; rcases hx with rfl | rfl; exact hsw.1; exact hsw.2)))
  have HSlo : Hid (∀ x ∈ S, w.heap.size ≤ x) := Lib.hid (fun x hx => by
    rcases hlo x hx with rfl | rfl | h
    · exact hsw.1
    · exact hsw.2
    · exact Nat.le_trans HB4.out.size h)
  obtain rfl : C0 = [] := by
    cases C0 with
    | nil => rfl
    | cons a l => exact absurd (hC0 a (by simp)) (by simp)
  have Hbox := Lib.hid (PBox.less (k' := 40000) hbox (by omega))
  have Hqb := Lib.hid hqb
  have Hqg := Lib.hid hqg
  have Hsw := Lib.hid hsw
  have H00 := Lib.hid h0
  clear hqb hqg hbox hlo hO5 hop hsb hsg hsw h0 hC0
  go_upto_block 0 with fail
  go_cut [5, 6] from 7 to 144 (fun ev i wx => ∃ (k : Nat) (C : List (List UInt8)) (S : List Nat), (∀ j, j < nd → j < 70 → j < k) ∧ k ≤ 70 ∧ PBox KK wx q 128 (40000 - 500 * k) false C [] S ∧ AgI ds k C ∧ (∀ x ∈ S, w.heap.size ≤ x) ∧ Below w.heap.size w wx)
  case first =>
    go_wp2_with fail
    go_loopw [6] (fun i wr => ∃ (k : Nat) (C : List (List UInt8)) (S : List Nat), k ≤ nd ∧ k ≤ 70 ∧ i = .int .i64 k ∧ PBox KK wr q 128 (40000 - 500 * k) false C [] S ∧ AgI ds k C ∧ (∀ x ∈ S, w.heap.size ≤ x) ∧ Below w.heap.size w wr) (fun i _ => nd - (intOf i).toNat)
    case atStart => exact ⟨0, [], S, by omega, by omega, rfl, Hbox.out, agI_start ds, HSlo.out, HB5.out⟩
    case round =>
      obtain ⟨k, C, S, hk, hk70, rfl, hbox, hag, hlo, hb⟩ := hrel
      have Hbox := Lib.hid hbox
      have Hag := Lib.hid hag
      have Hlo := Lib.hid hlo
      have Hb := Lib.hid hb
      clear hbox hag hlo hb
      by_cases hkn : k < nd ∧ k < 70
      · obtain ⟨h1, h2⟩ := hkn
        have j1 : (k : Int) < (nd : Int) := by omega
        have j2 : (k : Int) < 70 := by omega
        have hid : k < ds.length := by rw [← Hnd.out]; exact h1
        obtain ⟨b, o, rfl, hbl, hr, hok⟩ := (HS.out.below Hb.out) k hid
        obtain ⟨hts, -⟩ := Hsm1.out k hid h2
        obtain ⟨a, ha⟩ : ∃ a, a = ds[k] := ⟨_, rfl⟩
        rw [← ha] at hr hok hts
        have Hok := Lib.hid hok
        have Ha := Lib.hid ha
        have Hts := Lib.hid hts
        have asz : a.cells.length = 69 := ActH.len hok.rfit
        have aone := actH_one a
        have adix : (Tryd.prog.info? 71).map (·.size) = some a.cells.length := by rw [act05_info, asz]
        have adixA : (Tryd.prog.info? 71).map (·.size) = some a.cells.toArray.size := by rw [act05_info]; simp [asz]
        have asza : a.cells.toArray.size = 69 := by simp [asz]
        have aund := Tryd.underlying71
        have azero := act05_zero
        obtain ⟨ac, hac⟩ : ∃ ac, ac = a.cells := ⟨_, rfl⟩
        rw [← hac] at hr asz aone adix adixA asza
        have Hac := Lib.hid hac
        clear ha hac hok hts hbl
        go_upto_region 13 with (first | (refine wpList_load_mid rfl 71 _ rfl b (o + k * 69) rfl ac _ hr aund rfl adix ?_) | (refine wpList_store_row rfl 71 _ _ rfl wr.heap.size ac.toArray rfl rfl 71 _ (heap_alloc_new wr _) adixA (by rw [asza, azero]) aone ?_))
        show Code.wp _ _ _ _ ((wr.alloc (.cells Tryd.zeroCells71 71)).setRow wr.heap.size ac.toArray)
        obtain ⟨hq_w7, hB_w7⟩ := put_newH wr Tryd.zeroCells71 ac.toArray 71
        obtain ⟨xb, hp_w7⟩ : ∃ q, q = wr.heap.size := ⟨_, rfl⟩
        obtain ⟨w7, hw_w7⟩ : ∃ y, y = ((wr.alloc (.cells Tryd.zeroCells71 71)).setRow wr.heap.size ac.toArray) := ⟨_, rfl⟩
        rw [← hw_w7] at hq_w7 hB_w7 ⊢
        rw [← hp_w7] at hq_w7 ⊢
        have HQ_w7 := Lib.hid hq_w7
        have HB_w7 := Lib.hid hB_w7
        have Hp_w7 := Lib.hid hp_w7
        clear hq_w7 hB_w7 hp_w7 hw_w7
        have hxS : xb ∉ S := fun hx => by
          have h1 := Hbox.out.lt xb hx
          have h2 := Hp_w7.out
          omega
        have HA7 : Hid (PAll w w7 q 128 (40000 - 500 * k) sb sg xb false ac C [] S) := Lib.hid ⟨Hqb.out, Hqg.out, Hbox.out.below HB_w7.out, Hlo.out, hxS, HQ_w7.out, Hb.out.trans (HB_w7.out.mono Hb.out.size)⟩
        have hq7 := HQ_w7.out
        rw [Hac.out] at hq7
        obtain ⟨x0, x1, xr, xk, -, -⟩ := act_blk hq7 Hok.out.rfit
        obtain ⟨kd, hkd⟩ : ∃ kd, kd = a.kind := ⟨_, rfl⟩
        obtain ⟨tx, htx⟩ : ∃ tx, tx = a.text := ⟨_, rfl⟩
        obtain ⟨rd, hrd⟩ : ∃ rd, rd = a.r := ⟨_, rfl⟩
        rw [← hkd] at x0
        rw [← htx] at x1
        rw [← hrd] at xr xk
        have Htx := Lib.hid htx
        have Hrd := Lib.hid hrd
        have Hkd := Lib.hid hkd
        have htl : tx.length ≤ 1000 := by rw [htx]; exact Hts.out
        have hrf : Hid rd.Fit := Lib.hid (by rw [hrd]; exact Hok.out.rfit)
        have dund := Tryd.underlying23
        clear hr asz aone adix adixA asza aund azero hq7 hxS hkd htx hrd Hbox Hlo HQ_w7 HB_w7 Hp_w7 Hb HB5 HSlo
        by_cases k2 : kd = 2
        · have e2 : (kd == 2) = true := by simp [k2]
          have hag1 := Hag.out.record (K := KK) hrf.out hid (by rw [← Ha.out, ← Hkd.out]; exact k2)
          have hagl := Hag.out.len
          obtain ⟨er, her⟩ : ∃ x, x = (recA KK C rd).1 := ⟨_, rfl⟩
          obtain ⟨C1, hC1⟩ : ∃ x, x = (recA KK C rd).2 := ⟨_, rfl⟩
          have herc := recA_er KK C rd
          have hagain : recA KK C1 rd = (er, C1) := by rw [hC1, her]; exact recA_again hrf.out
          rw [← her] at herc
          rw [← hC1] at hag1
          have Hag1 := Lib.hid hag1
          have Hagain := Lib.hid hagain
          have hrc := Lib.hid (p_rec KK q 128 (40000 - 500 * k - 1) false C [] S rd.key w7 (HA7.out.box.less (by omega)) (HL.out.below HA7.out.old) hrf.out.k)
          have Her := Lib.hid her
          have HC1 := Lib.hid hC1
          have hcl1 := hag1.len
          obtain ⟨kc, hkc⟩ : ∃ kc, kc = byV rd.key := ⟨_, rfl⟩
          have hdk : digV rd.key = kc.toArray := by rw [hkc]; rfl
          have klen : kc.length = 32 := by rw [hkc, byV_length, hrf.out.k]
          have kdix : (Tryd.prog.info? 23).map (·.size) = some kc.length := by rw [dig_info, klen]
          rw [← hkc] at xk
          rw [hdk] at hrc
          clear k2 hdk klen hkc her hC1 hagain hag1
          go_wp2_with (refine wpList_load_mid rfl 23 _ rfl xb 2 rfl kc _ xk dund rfl kdix ?_)
          refine hrc.out.mono ?_
          rintro r wq ⟨x, was, rfl, hxf, -, -, hbx, hO⟩
          have HA10 := Lib.hid (HA7.out.step hbx hO (fun x hx => .inl hx))
          have rsz : x.row.size = 65 := RecD.row_size hxf
          have rone := RecD.row_one x
          have rinf : (Tryd.prog.info? 26).map (·.size) = some x.row.size := by rw [rec_info, rsz]
          have hzr : Tryd.zeroCells26.size = 65 := by rw [zero_rec, RecD.row_size zeroRec_fit]
          obtain ⟨RV, hRV⟩ : ∃ y, y = x.row := ⟨_, rfl⟩
          rw [← hRV] at rsz rone rinf ⊢
          clear hxf hbx hO hrc hRV xk x0 x1 xr HA7 kdix
          go_upto_region 15 with (first | (refine wpList_store_row rfl 26 _ _ rfl wq.heap.size RV rfl rfl 26 _ (heap_alloc_new wq _) rinf (by rw [rsz, hzr]) rone ?_))
          show Code.wp _ _ _ _ ((wq.alloc (.cells Tryd.zeroCells26 26)).setRow wq.heap.size RV)
          obtain ⟨hq_ws, hB_ws⟩ := put_newH wq Tryd.zeroCells26 RV 26
          obtain ⟨rb, hp_ws⟩ : ∃ q, q = wq.heap.size := ⟨_, rfl⟩
          obtain ⟨ws, hw_ws⟩ : ∃ y, y = ((wq.alloc (.cells Tryd.zeroCells26 26)).setRow wq.heap.size RV) := ⟨_, rfl⟩
          rw [← hw_ws] at hq_ws hB_ws ⊢
          rw [← hp_ws] at hq_ws ⊢
          have HQ_ws := Lib.hid hq_ws
          have HB_ws := Lib.hid hB_ws
          have Hp_ws := Lib.hid hp_ws
          clear hq_ws hB_ws hp_ws hw_ws
          have HA11 := Lib.hid (HA10.out.below HB_ws.out)
          have hq9 := HA11.out.blk
          rw [Hac.out] at hq9
          obtain ⟨-, -, xr, -, -, -⟩ := act_blk hq9 Hok.out.rfit
          rw [← Hrd.out] at xr
          have hput := Lib.hid (a_putrec KK q 128 (40000 - 500 * k - 2) C [] S rd ws (HA11.out.box.less (by omega)) (HL.out.below HA11.out.old) (HA11.out.zero HL.out.lt) (by omega) (by omega) hrf.out)
          rw [← Her.out, ← HC1.out] at hput
          have hrow : rd.row = rd.cells.toArray := rfl
          have rdix : (Tryd.prog.info? 26).map (·.size) = some rd.cells.length := by rw [rec_info, RecD.len hrf.out]
          have rund := Tryd.underlying26
          rw [hrow] at hput
          obtain ⟨rc, hrc⟩ : ∃ rc, rc = rd.cells := ⟨_, rfl⟩
          rw [← hrc] at xr rdix hput
          have Hrc := Lib.hid hrc
          clear hq9 hrow hrc rsz rone rinf hzr HQ_ws HB_ws Hp_ws HA10
          go_wp2_with (refine wpList_load_mid rfl 26 _ rfl xb 2 rfl rc _ xr rund rfl rdix ?_)
          refine hput.out.mono ?_
          rintro r w8 ⟨rfl, S2, hbx, hO, hS2⟩
          have HA12 := Lib.hid (HA11.out.step hbx hO hS2)
          have hlen := Lib.hid (p_len HA12.out.box)
          obtain ⟨n1, hn1⟩ : ∃ n, n = C1.length := ⟨_, rfl⟩
          rw [← hn1] at hlen
          have Hn1 := Lib.hid hn1
          clear hbx hO hS2 hput xr hn1
          go_wp2_with fail
          refine hlen.out.mono ?_
          rintro r w9 ⟨rfl, rfl⟩
          have hq9 := HA12.out.blk
          rw [Hac.out] at hq9
          obtain ⟨-, -, xr, -, -, -⟩ := act_blk hq9 Hok.out.rfit
          rw [← Hrd.out, ← Hrc.out] at xr
          have hput := Lib.hid (a_putrec KK q 128 (40000 - 500 * k - 3) C1 [] S2 rd w8 (HA12.out.box.less (by omega)) (HL.out.below HA12.out.old) (HA12.out.zero HL.out.lt) (by omega) (by omega) hrf.out)
          have hrow : rd.row = rd.cells.toArray := rfl
          rw [Hagain.out, hrow, ← Hrc.out] at hput
          clear hq9 hlen hrow
          go_wp2_with (refine wpList_load_mid rfl 26 _ rfl xb 2 rfl rc _ xr rund rfl rdix ?_)
          refine hput.out.mono ?_
          rintro r w10 ⟨rfl, S3, hbx, hO, hS3⟩
          have HA13 := Lib.hid (HA12.out.step hbx hO hS3)
          have hlen := Lib.hid (p_len HA13.out.box)
          rw [← Hn1.out] at hlen
          clear hbx hO hS3 hput xr rdix rund hcl1 hagl
          rcases herc with rfl | rfl | rfl
          all_goals
            cases was
            all_goals
              go_wp2_with fail
              refine hlen.out.mono ?_
              rintro r w11 ⟨rfl, rfl⟩
              go_wp2_with fail
              go_roundw
              case rel => exact ⟨k + 1, C1, S3, by omega, by omega, by go_num, HA13.out.box.less (by omega), Hag1.out, HA13.out.lo, HA13.out.old⟩
              case measure => simp [intOf]; omega
        · have e2 : (kd == 2) = false := by simp [k2]
          have htxd : tx = ds[k].text := by rw [Htx.out, Ha.out]
          have hag1 := Hag.out.blob Hinj.out hid h2
          rw [← htxd] at hag1
          have hagl := Hag.out.len
          have her := blobA_er KK C tx
          obtain ⟨er, her2⟩ : ∃ x, x = (blobA KK C tx).1 := ⟨_, rfl⟩
          obtain ⟨C1, hC1⟩ : ∃ x, x = (blobA KK C tx).2 := ⟨_, rfl⟩
          have hagain : blobA KK C1 tx = (er, C1) := by rw [hC1, her2]; exact blobA_again
          have hput := Lib.hid (a_putblob KK q 128 (40000 - 500 * k - 1) C [] S tx w7 (HA7.out.box.less (by omega)) (HL.out.below HA7.out.old) (HA7.out.zero HL.out.lt) (by omega) (by omega))
          rw [← her2, ← hC1] at hput
          rw [← her2] at her
          rw [← hC1] at hag1
          have Hag1 := Lib.hid hag1
          have hcl1 := hag1.len
          have Hagain := Lib.hid hagain
          obtain ⟨hd, hhd⟩ : ∃ v, v = (if er = 0 then hashB KK tx else List.replicate 32 0) := ⟨_, rfl⟩
          have hh : hd.length = 32 := by rw [hhd]; split; exact hashB_length _ _; simp
          have Hhd := Lib.hid hhd
          rw [← hhd] at hput
          obtain ⟨oc, hoc⟩ : ∃ oc, oc = byV hd := ⟨_, rfl⟩
          have hdo : digV hd = oc.toArray := by rw [hoc]; rfl
          rw [hdo] at hput
          have Hdo := Lib.hid hdo
          have dszL : oc.length = 32 := by rw [hoc, byV_length, hh]
          have dsz : oc.toArray.size = 32 := by simp [dszL]
          have dixA : (Tryd.prog.info? 23).map (·.size) = some oc.toArray.size := by rw [dig_info, dsz]
          have doneA : oc.toArray.all (·.oneCell') = true := by rw [← hdo]; exact digV_one hd
          have heq : ∀ W : World, (Op.equalIn 10000 23 (.agg oc.toArray) (.agg oc.toArray)).run Tryd.prog W = .ok true W := fun W => by
            have := eqIn_dig W hd hd hh hh
            rw [hdo] at this; rw [show (hd == hd) = true by simp] at this; exact this
          have Her := Lib.hid her
          clear k2 hhd hh hoc hdo dszL her her2 hC1 hagain hag1 xr xk htxd
          go_wp2_with fail
          refine hput.out.mono ?_
          rintro r w8 ⟨rfl, S2, hbx, hO, hS2⟩
          have HA8 := Lib.hid (HA7.out.step hbx hO hS2)
          clear hbx hO hS2 hput x1 x0
          go_upto_region 21 with (first | (refine wpList_store_row rfl 23 _ _ rfl w8.heap.size oc.toArray rfl rfl 23 _ (heap_alloc_new w8 _) dixA (by rw [dsz]; rfl) doneA ?_))
          show Code.wp _ _ _ _ ((w8.alloc (.cells (digV (List.replicate 32 0)) 23)).setRow w8.heap.size oc.toArray)
          obtain ⟨hq_w9, hB_w9⟩ := put_newH w8 (digV (List.replicate 32 0)) oc.toArray 23
          obtain ⟨db, hp_w9⟩ : ∃ q, q = w8.heap.size := ⟨_, rfl⟩
          obtain ⟨w9, hw_w9⟩ : ∃ y, y = ((w8.alloc (.cells (digV (List.replicate 32 0)) 23)).setRow w8.heap.size oc.toArray) := ⟨_, rfl⟩
          rw [← hw_w9] at hq_w9 hB_w9 ⊢
          rw [← hp_w9] at hq_w9 ⊢
          have HQ_w9 := Lib.hid hq_w9
          have HB_w9 := Lib.hid hB_w9
          have Hp_w9 := Lib.hid hp_w9
          clear hq_w9 hB_w9 hp_w9 hw_w9
          have HA9 := Lib.hid (HA8.out.below HB_w9.out)
          have HdbS : Hid (db ∉ S2) := Lib.hid (fun hx => by
            have h1 := HA8.out.box.lt db hx
            have h2 := Hp_w9.out
            omega)
          have hlen := Lib.hid (p_len HA9.out.box)
          obtain ⟨n1, hn1⟩ : ∃ n, n = C1.length := ⟨_, rfl⟩
          rw [← hn1] at hlen
          have Hn1 := Lib.hid hn1
          have hq9 := HA9.out.blk
          rw [Hac.out] at hq9
          obtain ⟨-, x1, -, -, -, -⟩ := act_blk hq9 Hok.out.rfit
          rw [← Htx.out] at x1
          have hput := Lib.hid (a_putblob KK q 128 (40000 - 500 * k - 2) C1 [] S2 tx w9 (HA9.out.box.less (by omega)) (HL.out.below HA9.out.old) (HA9.out.zero HL.out.lt) (by omega) (by omega))
          rw [Hagain.out] at hput
          have hput2 := hput.out
          simp only [] at hput2
          rw [← Hhd.out, Hdo.out] at hput2
          have hput := Lib.hid hput2
          clear hq9 hput2 hn1
          go_wp2_with fail
          refine hlen.out.mono ?_
          rintro r wa ⟨rfl, rfl⟩
          clear hlen
          go_wp2_with fail
          refine hput.out.mono ?_
          rintro r wb ⟨rfl, S3, hbx, hO, hS3⟩
          have HAb := Lib.hid (HA9.out.step hbx hO hS3)
          have HQb := Lib.hid ((hO.block db (heap_lt HQ_w9.out) HdbS.out).trans HQ_w9.out)
          clear hbx hO hS3 hput x1 HQ_w9 HB_w9 Hp_w9
          go_upto_region 23 with (first | (refine wpList_store_row rfl 23 _ _ rfl wb.heap.size oc.toArray rfl rfl 23 _ (heap_alloc_new wb _) dixA (by rw [dsz]; rfl) doneA ?_))
          show Code.wp _ _ _ _ ((wb.alloc (.cells (digV (List.replicate 32 0)) 23)).setRow wb.heap.size oc.toArray)
          obtain ⟨hq_wd, hB_wd⟩ := put_newH wb (digV (List.replicate 32 0)) oc.toArray 23
          obtain ⟨eb, hp_wd⟩ : ∃ q, q = wb.heap.size := ⟨_, rfl⟩
          obtain ⟨wd, hw_wd⟩ : ∃ y, y = ((wb.alloc (.cells (digV (List.replicate 32 0)) 23)).setRow wb.heap.size oc.toArray) := ⟨_, rfl⟩
          rw [← hw_wd] at hq_wd hB_wd ⊢
          rw [← hp_wd] at hq_wd ⊢
          have HQ_wd := Lib.hid hq_wd
          have HB_wd := Lib.hid hB_wd
          have Hp_wd := Lib.hid hp_wd
          clear hq_wd hB_wd hp_wd hw_wd
          have HAd := Lib.hid (HAb.out.below HB_wd.out)
          have HQd := Lib.hid (below_keep HB_wd.out HQb.out)
          have hlen := Lib.hid (p_len HAd.out.box)
          rw [← Hn1.out] at hlen
          have hq9 := HAd.out.blk
          rw [Hac.out] at hq9
          obtain ⟨-, x1, -, -, -, -⟩ := act_blk hq9 Hok.out.rfit
          rw [← Htx.out] at x1
          clear hq9 hcl1 hagl
          by_cases h512 : tx.length ≤ 512
          · have hz : er = 0 := by rw [Her.out, if_pos h512]
            subst hz
            have j5 : (tx.length : Int) ≤ 512 := by omega
            clear h512
            go_wp2_with (first
              | (refine wpList_load_row rfl 23 _ rfl db rfl 23 oc.toArray (0, 0) _ HQd.out dund rfl dixA ?_)
              | (refine wpList_load_row rfl 23 _ rfl eb rfl 23 oc.toArray (0, 0) _ HQ_wd.out dund rfl dixA ?_))
            refine hlen.out.mono ?_
            rintro r we ⟨rfl, rfl⟩
            go_wp2_with fail
            go_roundw
            case rel => exact ⟨k + 1, C1, S3, by omega, by omega, by go_num, HAd.out.box.less (by omega), Hag1.out, HAd.out.lo, HAd.out.old⟩
            case measure => simp [intOf]; omega
          · have hz : er = 33 := by rw [Her.out, if_neg h512]
            subst hz
            have j5 : ¬ (tx.length : Int) ≤ 512 := by omega
            clear h512
            go_wp2_with (first
              | (refine wpList_load_row rfl 23 _ rfl db rfl 23 oc.toArray (0, 0) _ HQd.out dund rfl dixA ?_)
              | (refine wpList_load_row rfl 23 _ rfl eb rfl 23 oc.toArray (0, 0) _ HQ_wd.out dund rfl dixA ?_))
            refine hlen.out.mono ?_
            rintro r we ⟨rfl, rfl⟩
            go_wp2_with fail
            go_roundw
            case rel => exact ⟨k + 1, C1, S3, by omega, by omega, by go_num, HAd.out.box.less (by omega), Hag1.out, HAd.out.lo, HAd.out.old⟩
            case measure => simp [intOf]; omega
      · have key : ((k : Int) < (nd : Int) ∧ ¬ (k : Int) < 70) ∨ ¬ (k : Int) < (nd : Int) := by omega
        have Hend : Hid (∀ j, j < nd → j < 70 → j < k) := Lib.hid (fun j h1 h2 => by omega)
        clear hkn HB5 HSlo
        rcases key with ⟨j1, j2⟩ | j1
        all_goals
          go_wp2_with fail
          go_meet
          case rel => exact ⟨k, C, S, Hend.out, hk70, Hbox.out, Hag.out, Hlo.out, Hb.out⟩
  obtain ⟨k, C, S, hend, hk70, hbox, hag, hlo, hb⟩ := hcut
  apply_assumption
  exact again_rest A cap nd ds w wc q sb sg k C S HL HS Hnd hd63 Hsm1 Hinj Hqb Hqg Hsw H00 hend hk70 hbox hag hlo hb _ _ _ _ _ _ _ _ _ _ _ _ _ _ _ _ _ _ _ _ _ _ _ _ _ _ _ _ _ _ _ _ _ _ _ _ _ _ _ _ _ _ _ _ _ _ _ _ _ _ _ _ _ _ _ _ _ _ _ _ _ _ _ _ _ _ _ _ _ _ _ _ _ _ _ _ _ _ _ _ _ _ _ _ _ _ _ _ _ _ _ _ _ _ _ _ _ _ _ _ _ _ _ _ _ _ _ _ _ _ _ _ _ _ _ _ _ _ _ _ _ _ _ _ _ _ _ _ _ _ _ _ _ _ _ _ _ _ _ _ _
theorem hiveAgain_law (A : Option Addr) (cap : Nat) (ds : List ActH) (w : World) (hL : Laid KK w) (hS : ActsH w w.heap.size A ds) (hl : ds.length ≤ maxLen) :
    Calls Tryd.prog 8 #[.slice A ds.length cap] w fun e w' => e = .returned (.bool true) ∧ Below w.heap.size w w' :=
  hiveAgain_core A cap ds w hL (awake05_any w hL) hS hl
namespace HiveAgainLaw
open Go.ChangeShapes Go.WideShapes Go.ChangeAt
open Go.ChangeMaps (open_string shut_string)
set_option maxRecDepth 100000 in
theorem contract (H : Type) (enc : TypeId × Value → H) (W : World) (base : Nat) (args : Array Value) (ds gs : List (DataW H)) (before : List MemPlace)
    (hval : ∀ (j : Nat) t v, Tryd.f8.params[j]? = some t → args[j]? = some v → Value.okWide Tryd.prog W .any base t v)
    (hW : DataW.Whole enc Tryd.prog Tryd.f8.params.toList Rows.hiveAgainSpec.vars false W args.toList ds gs before) (hsz0 : (DataW.weightsEach Tryd.prog (Tryd.f8.params.toList ++ Rows.hiveAgainSpec.plain.varTypes Tryd.prog) (ds ++ gs)).all (· ≤ reachBytes) = true) (hLd : laidMetH Tryd.prog laid1 W) :
    Calls Tryd.prog 8 args W fun e W' => ∃ v, e = .returned v ∧ Rows.hiveAgainSpec.post enc Tryd.prog Tryd.f8 false true false false W args v W' := by
  have hW' := hW
  obtain ⟨p, q, hA0, hV, rfl, hfz, hnd⟩ := hW
  have hA : DataW.TrodAll enc Tryd.prog W 0 (fun _ => true) true Tryd.f8.params.toList args.toList ds p := hA0
  rw [Tryd.params8] at hA hval
  obtain ⟨v0, vs0, d0, ds0, p0, q0, hargs, rfl, rfl, h0, r0⟩ := trodAll_cons hA
  obtain ⟨rfl, rfl, rfl⟩ := trodAll_nil r0
  obtain rfl : args = #[v0] := by cases args; simp_all
  obtain ⟨rfl, rfl⟩ := trodVars_none hV
  obtain ⟨A0, c0, x0, rfl, hS0, hl0⟩ := open_actsH (hval 0 67 v0 rfl rfl) h0
  refine (hiveAgain_law A0 c0 x0 W (of_laid hLd) hS0 hl0).mono fun e W' ⟨he, hg⟩ => ?_
  subst he
  exact ⟨_, rfl, law_post (tb := 4) laidOut_ (of_decide_eq_true (by kernel_rfl)) Tryd.underlying4 (by kernel_rfl) rfl rfl hW' hg⟩

theorem door_met (os : Os) (args : Array Value) : laidMetH Tryd.prog laid1 ((World.doorLaid Tryd.prog 400 os).forCall (fun _ _ => 0) ⟨#[], args, []⟩).memory :=
  laidMetH_of_parts3 (fuel := 8) (laidMet_of_run' 8 (by kernel_rfl) (by kernel_rfl)) (by kernel_rfl) (by kernel_rfl)

set_option maxRecDepth 100000 in
theorem lifted (os : Os) (started : os.Started) (H : Type) (enc : TypeId × Value → H) :
    ReturnsInHanded {} Tryd.checked os 8 .any (fun w args => (Rows.hiveAgainSpec.pre enc Tryd.prog Tryd.f8 [] false w args ∧ laidMetH Tryd.prog laid1 w) ∧ sizedMet enc Tryd.prog Tryd.f8 (OpenSpec.ofChange Rows.hiveAgainSpec) false w args)
      (Rows.hiveAgainSpec.post enc Tryd.prog Tryd.f8 false true false false) := by
  refine returnsInHanded_of_change_and (C := Tryd.checked) (X := fun w _ => laidMetH Tryd.prog laid1 w) (fun _ _ _ hh h => h.of_heap hh) ownKnob_ started (by kernel_rfl) Tryd.func8
    (ChangeSpec.witness_shaped (enc := enc) (C := Tryd.checked) (os := os) (X := fun w _ => laidMetH Tryd.prog laid1 w) false (World.doorLaid Tryd.prog 400 os) #[.slice none 0 0] 8 rfl (World.shaped_of_RefB (by kernel_rfl) (by kernel_rfl)) (by kernel_rfl) (by kernel_rfl) (by kernel_rfl) (door_met os _)) ?_
  intro W base args ds gs before hval hW _ hsz hLd _
  exact contract H enc W base args ds gs before hval hW hsz hLd

theorem said : Rows.HiveAgainSaid :=
  OpenClaim.holds_of_wide 8 Tryd.f8 rfl rfl rfl rfl rfl rfl rfl ⟨rfl, rfl, rfl, rfl, rfl⟩ rfl rfl rfl rfl rfl (by kernel_rfl) Tryd.func8 (by kernel_rfl)
    (of_decide_eq_true (by kernel_rfl)) (by unfold Func.isWrapper; first | (rw [if_pos (by decide +kernel)]; kernel_rfl) | (rw [if_neg (by decide +kernel)]; exact ⟨rfl, rfl⟩))
    (fun os started H enc _ => lifted os started H enc)

theorem proved : Rows.HiveAgainCardSaid :=
  Claim7.holds_tied_plain_at .later [] [.data] true Rows.hiveAgainCard.stood.harness false
    said (fun _ h => by cases h) (by kernel_rfl) (fun _ h => by cases h) hiveAgain_row_tie rfl ⟨rfl, rfl⟩ (by kernel_rfl) rfl
    (fun f fn hf hfn => by
      obtain rfl : f = 8 := Option.some.inj ((show Tryd.prog.funcNamed "apiary/apiarylaw05.HiveAgain" = some 8 by kernel_rfl).symm.trans hf) |>.symm
      obtain rfl : fn = Tryd.f8 := (Option.some.inj (Tryd.func8.symm.trans hfn)).symm
      exact ⟨by kernel_rfl, fun j t ht => by
        rw [Tryd.params8] at ht
        have hm : t ∈ [67] := by simpa using Array.mem_of_getElem? ht
        have hall : ([67].all fun u => !Tryd.prog.wantsStandIn u) = true := by kernel_rfl
        exact (show Tryd.prog.wantsStandIn t = false by simpa using List.all_eq_true.1 hall t hm)⟩)
    (by kernel_rfl)
end HiveAgainLaw
end Go.Proofs.YteihfoacdocgkaaDoor
