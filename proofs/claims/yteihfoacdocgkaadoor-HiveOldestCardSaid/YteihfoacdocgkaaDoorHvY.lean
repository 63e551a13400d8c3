/-
  Layer 5 (hive): Open over a shelf whose slots hold whatever texts; reading the text of a blob.
-/
import Derived.Test.YteihfoacdocgkaaDoorHvX
set_option linter.unusedVariables false
set_option linter.unusedSimpArgs false
namespace Go.Proofs.YteihfoacdocgkaaDoor
open Go.RowKit Pl Sh
attribute [local go_sem] Lb.ba_get Lb.ba_cut Lb.ba_add Lb.ba_size Lb.take_rest

theorem Only.liftH {S S' : List Nat} {w W w' : World} (h : Only S w W) (k : Only S' W w') (hS : ∀ x ∈ S', x ∈ S ∨ w.heap.size ≤ x) : Only S w w' :=
  ⟨k.os.trans h.os, k.tape.trans h.tape, k.output.trans h.output, Nat.le_trans h.size k.size, fun i hi hn => (k.block i (Nat.lt_of_lt_of_le hi h.size) (fun hx => by rcases hS i hx with h1 | h1; exact hn h1; omega)).trans (h.block i hi hn)⟩
def OpenGPost (w : World) (b g : Nat) (s : St) (RD : RdF) (m : Nat) (e : Ending) (w' : World) : Prop :=
  ∃ (q : HvP) (L : List HEnt), q.b = b ∧ q.g = g ∧ e = .returned (.tuple #[.pointer (some ⟨q.p, 0, none⟩), .int .i64 0]) ∧ L.map e5 = (ldS s RD m).2.1 ∧ HvAt w' q ⟨ldEnd s RD m, L, [], L.length, s.pw.life, false⟩ ∧ (∀ x ∈ q.own L, x = b ∨ x = g ∨ w.heap.size ≤ x) ∧ Only [b, g] w w'
set_option maxHeartbeats 4000000 in
set_option maxRecDepth 100000 in
theorem open_gen (K : List Int) (RD : RdF) (m : Nat) (b g : Nat) (s : St) (w : World) (h : ShAt w b g s) (hL : Laid K w) (h0b : 0 ≠ b ∧ 0 ≠ g) (hw : Works s m 900000) (hm : m ≤ 128)
    (hread : ∀ i, i < m → ∀ W, Laid K W → ReadC RD (St.read s i) W) (hRD : ∀ i, i < m → ∀ b id r, RD (St.read s i) = some (b, id, r) → id.length = 32 ∧ r.length ≤ 10000 ∧ St.read s i ≠ []) :
    Calls Tryd.prog 19 #[.pointer (some ⟨b, 0, none⟩)] w (OpenGPost w b g s RD m) := by
  have hdn := hw.down
  have hL0 := hL.lt
  obtain ⟨n, hn⟩ : ∃ n, n = w.heap.size := ⟨_, rfl⟩
  have lb : b < n := by rw [hn]; exact heap_lt h.pw
  have lg : g < n := by rw [hn]; exact heap_lt h.slots
  obtain ⟨wa, hwa⟩ : ∃ x, x = w.alloc (.map #[] 0) := ⟨_, rfl⟩
  obtain ⟨wb, hwb⟩ : ∃ x, x = wa.alloc (.map #[] 0) := ⟨_, rfl⟩
  obtain ⟨wc, hwc⟩ : ∃ x, x = wb.alloc (.map #[] 0) := ⟨_, rfl⟩
  have sa : wa.heap.size = n + 1 := by rw [hwa, hn]; simp
  have sb : wb.heap.size = n + 2 := by rw [hwb]; simp [sa]
  have sc : wc.heap.size = n + 3 := by rw [hwc]; simp [sb]
  have ba : Below n w wa := by rw [hwa, hn]; exact (Below.refl _ w).alloc (Nat.le_refl _) _
  have bb : Below n w wb := by rw [hwb]; exact ba.alloc (by omega) _
  have bc : Below n w wc := by rw [hwc]; exact bb.alloc (by omega) _
  obtain ⟨wd, hwd⟩ : ∃ x, x = wc.alloc (.cells (hvCells b n (n + 1) (n + 2) 0 s.pw.life false) 120) := ⟨_, rfl⟩
  have bd : Below n w wd := by rw [hwd]; exact bc.alloc (by omega) _
  have ha : MapAt nameV (fun x => x.2.length = 32) wd n [] := by
    have h0 : MapAt nameV (fun x => x.2.length = 32) wa n [] := by rw [hwa, hn]; exact mapAt_made w
    exact ((h0.keep (w' := wb) (by rw [hwb]; exact heap_alloc_old wa _ (by omega))).keep (w' := wc) (by rw [hwc]; exact heap_alloc_old wb _ (by omega))).keep (by rw [hwd]; exact heap_alloc_old wc _ (by omega))
  have ht : MapAt intK (fun x => x < 1000000) wd (n + 1) [] := by
    have h0 : MapAt intK (fun x => x < 1000000) wb (n + 1) [] := by rw [hwb, ← sa]; exact mapAt_made wa
    exact (h0.keep (w' := wc) (by rw [hwc]; exact heap_alloc_old wb _ (by omega))).keep (by rw [hwd]; exact heap_alloc_old wc _ (by omega))
  have hpn : MapAt digK (fun x => x.length = 32) wd (n + 2) [] := by
    have h0 : MapAt digK (fun x => x.length = 32) wc (n + 2) [] := by rw [hwc, ← sb]; exact mapAt_made wb
    exact h0.keep (by rw [hwd]; exact heap_alloc_old wc _ (by omega))
  have hp : wd.heap[n + 3]? = some (.cells (hvCells b n (n + 1) (n + 2) 0 s.pw.life false) 120 (0, 0)) := by rw [hwd, ← sc]; exact heap_alloc_new wc _
  have hbg := h.ne
  have hd : HvAt wd ⟨n + 3, b, g, n, n + 1, n + 2⟩ ⟨s, [], [], 0, s.pw.life, false⟩ := ⟨hp, ha, ht, hpn, (fun e he => by cases he), (fun e he => by cases he), ⟨(bd.block b lb).trans h.pw, (bd.block g lg).trans h.slots, h.ne, h.len⟩, by simp [HvP.own]; omega⟩
  have k1 : ∀ t, (Instr.makeMap t .none).run Tryd.prog w = .ok (.map (some n)) wa := fun t => by rw [hwa, hn]; rfl
  have k2 : ∀ t, (Instr.makeMap t .none).run Tryd.prog wa = .ok (.map (some (n + 1))) wb := fun t => by rw [hwb, ← sa]; rfl
  have k3 : ∀ t, (Instr.makeMap t .none).run Tryd.prog wb = .ok (.map (some (n + 2))) wc := fun t => by rw [hwc, ← sb]; rfl
  have hdw := Lib.hid (down_any b g s w h)
  have hlf := Lib.hid (life_any b g s wc ⟨(bc.block b lb).trans h.pw, (bc.block g lg).trans h.slots, h.ne, h.len⟩)
  have hld := Lib.hid (load_gen K _ _ RD m wd hd rfl rfl (hL.below (bd.mono (by rw [hn]; exact Nat.le_refl _))) (by simp [HvP.own]; omega) hw hm hread hRD)
  have hbu := built_hive b n (n + 1) (n + 2) s.pw.life
  obtain ⟨lf, hlf'⟩ : ∃ x : Int, x = (s.pw.life : Int) := ⟨_, rfl⟩
  rw [← hlf'] at hlf hbu hwd
  obtain ⟨HC, hHC⟩ : ∃ x, x = hvCells b n (n + 1) (n + 2) 0 lf false := ⟨_, rfl⟩
  rw [← hHC] at hbu hwd
  clear hHC
  rw [hdn] at hdw
  have Hd := Lib.hid hd
  have Bd := Lib.hid bd
  have Hn := Lib.hid hn
  have Hwa := Lib.hid hwa
  have Hwb := Lib.hid hwb
  have Hwc := Lib.hid hwc
  have Hwd := Lib.hid hwd
  have Sa := Lib.hid sa
  have Sb := Lib.hid sb
  have Sc := Lib.hid sc
  clear h hdn hw hm hread hRD hL lb lg ba bb bc bd ha ht hpn hp hbg hd hn hwa hwb hwc hwd hlf' sa sb sc
  go_enter Tryd.func19, Tryd.ntmps19
  go_upto_region 3 with fail
  go_upto_region 5 with (go_at_call 63; refine hdw.out.mono ?_; rintro r w1 ⟨rfl, rfl⟩)
  go_wp2_with fail
  refine hlf.out.mono ?_
  rintro r w2 ⟨rfl, rfl⟩
  go_upto_region 6 with (refine wpList_build5 rfl 120 0 1 2 3 5 (.tmp 12) (.tmp 13) (.tmp 14) (.tmp 15) (.tmp 17) rfl (.pointer (some ⟨b, 0, .none⟩)) (.map (some n)) (.map (some (n + 1))) (.map (some (n + 2))) (.int .i64 lf) rfl rfl rfl rfl rfl HC hbu ?_)
  rw [← Hwd.out, Sc.out]
  go_wp2_with fail
  refine hld.out.mono ?_
  rintro r w3 ⟨rfl, L, hLe, hat, hO3, hx⟩
  have HAT := Lib.hid hat
  have HLE := Lib.hid hLe
  have HX := Lib.hid hx
  have HO : Hid (Only [b, g] w w3) := Lib.hid ((Only.of_below (by rw [← Hn.out]; exact Bd.out) : Only [b, g] w wd).liftH hO3 (by intro x hx; have := Hn.out; simp [HvP.own] at hx ⊢; omega))
  have hwd : w.heap.size ≤ wd.heap.size := by rw [← Hn.out]; exact Nat.le_trans (by rw [Hn.out]; exact Nat.le_refl _) Bd.out.size
  have Hwdz := Lib.hid hwd
  clear hO3 hat hLe hx hld hlf hdw hwd
  go_wp2_with fail
  go_ret2
  refine ⟨⟨n + 3, b, g, n, n + 1, n + 2⟩, L, rfl, rfl, rfl, HLE.out, HAT.out, fun x hx => ?_, HO.out⟩
  have hn := Hn.out
  have hwz := Hwdz.out
  rcases HX.out x hx with h | h
  · simp [HvP.own] at h; omega
  · right; right; omega

/-! ### the text of a blob -/
theorem text_drop (K : List Int) (row : List UInt8) : (textS K row).drop 32 = row := by
  unfold textS
  rw [List.drop_append_of_le_length (by rw [hashB_length]; exact Nat.le_refl _), List.drop_eq_nil_of_le (by rw [hashB_length]; exact Nat.le_refl _)]
  rfl
set_option maxHeartbeats 4000000 in
set_option maxRecDepth 100000 in
theorem hread_blob (K : List Int) (b : List UInt8) (w : World) (hL : Laid K w) (hb : b.length ≤ 512) :
    Calls Tryd.prog 124 #[.string ⟨(textS K (blobRowS b)).toArray⟩] w fun e w' => e = .returned (rdVal (some (true, hashB K b, blobRowS b))) ∧ Below w.heap.size w w' := by
  have h0 := heap_alloc_new w (.cells zeroName 127)
  have b0 := (Below.refl w.heap.size w).alloc (Nat.le_refl _) (.cells zeroName 127)
  have hdr := text_drop K (blobRowS b)
  have hrl := blobRow_len b hb
  have htl : (textS K (blobRowS b)).length = 32 + (blobRowS b).length := by unfold textS; rw [List.length_append, hashB_length]
  have hab := Lib.hid (fun W => asBlob_any (blobRowS b) W (by omega))
  rw [asBlob_blob b hb] at hab
  have HL := Lib.hid hL
  have htx := Lib.hid (fun W (hW : Below w.heap.size w W) => htext_any K (blobRowS b) W (HL.out.below hW) (by omega))
  obtain ⟨row, hrow⟩ : ∃ r, r = blobRowS b := ⟨_, rfl⟩
  rw [← hrow] at hdr hrl htl hab htx ⊢
  obtain ⟨t, ht⟩ : ∃ t, t = textS K row := ⟨_, rfl⟩
  rw [← ht] at hdr htl htx ⊢
  have hl32 : ¬ (t.length : Int) < 32 := by omega
  have hl32b : (32 : Int) ≤ (t.length : Int) := by omega
  obtain ⟨dg, hdg⟩ : ∃ x, x = hashB K b := ⟨_, rfl⟩
  have hdl : dg.length = 32 := by rw [hdg]; exact hashB_length K b
  rw [← hdg]
  have hbn := built_name true dg hdl
  simp only [rdVal]
  obtain ⟨NV, hNV⟩ : ∃ x, x = (Value.bool true :: byV dg).toArray := ⟨_, rfl⟩
  rw [← hNV] at hbn ⊢
  have hNs : NV.size = 33 := by rw [hNV]; simp [byV_length, hdl]
  have ndixA : (Tryd.prog.info? 127).map (·.size) = some NV.size := by rw [name_info, hNs]
  have hNone : NV.all (·.oneCell') = true := by rw [hNV, List.all_toArray, List.all_cons, byV_one]; rfl
  have hlb : b.length ≤ 1000000 := by omega
  have Hdg := Lib.hid hdg
  have HNV := Lib.hid hNV
  clear hL hdg hNV ht hrow hb
  go_enter Tryd.func124, Tryd.ntmps124
  go_upto_region 1 with fail
  show Code.wp _ _ _ _ (w.alloc (.cells zeroName 127))
  obtain ⟨q, hq⟩ : ∃ q, q = w.heap.size := ⟨_, rfl⟩
  obtain ⟨w1, hw1⟩ : ∃ y, y = w.alloc (.cells zeroName 127) := ⟨_, rfl⟩
  rw [← hw1] at h0 b0 ⊢
  rw [← hq] at h0 ⊢
  have H0 := Lib.hid h0
  have Hq := Lib.hid hq
  have Hb0 := Lib.hid b0
  clear hw1 hq h0 b0
  have htt : (t != t) = false := by simp
  go_wp2_with fail
  refine (htx.out w1 Hb0.out).mono ?_
  rintro e w2 ⟨rfl, hB2⟩
  have H02 := Lib.hid (below_keep hB2 H0.out)
  have Hb2 := Lib.hid (Hb0.out.trans (hB2.mono Hb0.out.size))
  clear hB2 htx
  go_wp2_with fail
  refine (hab.out w2).mono ?_
  rintro e w3 ⟨rfl, hB3⟩
  have H03 := Lib.hid (below_keep hB3 H02.out)
  have hb3 : Below w.heap.size w w3 := Hb2.out.trans (hB3.mono Hb2.out.size)
  have Hb3 := Lib.hid hb3
  have hb1s := (Below.refl w3.heap.size w3).alloc (Nat.le_refl _) (.cells #[.string ⟨b.toArray⟩] 9)
  have cb : (w3.alloc (.cells #[.string ⟨b.toArray⟩] 9)).cell? ⟨w3.heap.size, 0, none⟩ = some (.string ⟨b.toArray⟩) := by rw [Lib.cell_of_heap (heap_alloc_new w3 _)]; rfl
  have hof := Lib.hid (of_hash K (some ⟨w3.heap.size, 0, none⟩) 1 b _ ((HL.out.below hb3).below hb1s) ⟨_, rfl, cb⟩ (by omega))
  have Hb1s := Lib.hid hb1s
  rw [← Hdg.out] at hof
  have hdd : digV dg = (byV dg).toArray := rfl
  rw [hdd] at hof
  clear hB3 hab hb3 hb1s cb hdd
  go_wp2_with fail
  refine hof.out.mono ?_
  rintro e w4 ⟨rfl, hB4⟩
  have hb4 : Below w3.heap.size w3 w4 := Hb1s.out.trans (hB4.mono Hb1s.out.size)
  have H04 := Lib.hid (below_keep hb4 H03.out)
  have Hb4 := Lib.hid (Hb3.out.trans (hb4.mono Hb3.out.size))
  clear hB4 hb4 hof
  have hzs : zeroName.size = 33 := by kernel_rfl
  go_wp2_with (first
    | (refine wpList_build2 rfl 127 _ _ _ _ rfl _ _ rfl rfl _ hbn ?_)
    | (refine wpList_store_row rfl 127 _ _ rfl q NV rfl rfl 127 zeroName H04.out ndixA (by rw [hNs, hzs]) hNone ?_))
  (try simp only [Exit.inBlock, Exit.then])
  refine bodyPost_ret (results_cell_row3 rfl _ _ q 127 NV (0, 0) _ rfl (setRow_heap _ _ _ _ _ _ H04.out) Tryd.underlying127 rfl ndixA) rfl ?_
  refine ⟨rfl, ?_⟩
  exact Hb4.out.trans (((Only.refl [q] w4).setRow (by simp) _).below Hb4.out.size (by intro x hx; simp at hx; rw [hx, Hq.out]; exact Nat.le_refl _))
end Go.Proofs.YteihfoacdocgkaaDoor
