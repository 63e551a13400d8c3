/-
  Layer 5 (hive): the walks of load and Open, of a shelf whose slots are empty.
-/
import Derived.Test.YtfbjbhddapoopaaDoorHvG
set_option linter.unusedVariables false
set_option linter.unusedSimpArgs false
namespace Go.Proofs.YtfbjbhddapoopaaDoor
open Go.RowKit Pl Sh
attribute [local go_sem] Lb.ba_get Lb.ba_cut Lb.ba_add Lb.ba_size Lb.take_rest

theorem zeroName_one : zeroName.all (·.oneCell') = true := by kernel_rfl
theorem zeroName_info : (Tryd.prog.info? 137).map (·.size) = some zeroName.size := by kernel_rfl
set_option maxHeartbeats 4000000 in
set_option maxRecDepth 100000 in
theorem load_empty (q : HvP) (d : HvD) (w : World) (h : HvAt w q d) (hdn : d.s.pw.down = false) (hns : d.s.slots.length ≤ 128) (he : ∀ i : Nat, i < d.s.slots.length → St.read d.s i = []) :
    Calls Tryd.prog 86 #[.pointer (some ⟨q.p, 0, none⟩)] w fun r w' => r = .returned (.int .i64 0) ∧ Below w.heap.size w w' := by
  have hl := Lib.hid (len_any q.b q.g d.s w h.sh)
  have x0 := (hv_cells h).1
  obtain ⟨n, hn⟩ : ∃ n, n = d.s.slots.length := ⟨_, rfl⟩
  have hrd := Lib.hid (fun W (hW : Below w.heap.size w W) (i : Nat) (hi : i < n) => (read_any q.b q.g d.s i W (h.below hW).sh).mono fun r w' hh => (by
    rw [he i (by rw [← hn]; exact hi)] at hh
    rw [show St.atErr d.s i = 0 by unfold St.atErr; rw [if_neg (by simp [hdn]), if_neg (by omega)]] at hh
    exact And.intro hh.1 hh.2 : r = .returned (.tuple #[.string ⟨#[]⟩, .int .i64 0]) ∧ W = w'))
  rw [← hn] at hl hns
  have lp : q.p < w.heap.size := heap_lt h.hp
  have hfr := Lib.hid hread_free
  have nund := Tryd.underlying137
  have ndix := zeroName_info
  have none := zeroName_one
  obtain ⟨ZN, hZN⟩ : ∃ x, x = zeroName := ⟨_, rfl⟩
  rw [← hZN] at hfr ndix none
  have HZN := Lib.hid hZN
  clear h hdn he hn hZN
  go_enter Tryd.func86, Tryd.ntmps86
  go_wp2_with fail
  refine hl.out.mono ?_
  rintro r w1 ⟨rfl, rfl⟩
  clear hl
  go_wp2_with fail
  go_loopw [3, 16] (fun v i wr => ∃ k : Nat, k ≤ n ∧ v = .bool false ∧ i = .int .i64 k ∧ Below w.heap.size w wr) (fun _ i _ => n - (intOf i).toNat)
  case atStart => exact ⟨0, by omega, rfl, rfl, Below.refl _ _⟩
  case round =>
    obtain ⟨k, hk, rfl, rfl, hb⟩ := hrel
    by_cases hkn : k < n
    · have j1 : (k : Int) < (n : Int) := by omega
      have x0r : wr.cell? ⟨q.p, 0, .none⟩ = some (.pointer (some ⟨q.b, 0, .none⟩)) := (hb.cell (p := ⟨q.p, 0, .none⟩) lp).trans x0
      have hr := Lib.hid (hrd.out wr hb k hkn)
      have Hb := Lib.hid hb
      clear hb
      go_wp2_with fail
      refine hr.out.mono ?_
      rintro r w2 ⟨rfl, rfl⟩
      clear hr
      go_wp2_with fail
      refine (hfr.out _).mono ?_
      rintro r w3 ⟨rfl, hB3⟩
      have hb3 : Below w.heap.size w w3 := Hb.out.trans (hB3.mono Hb.out.size)
      have Hb3 := Lib.hid hb3
      clear hB3 hb3
      go_upto_region 7 with (refine wpList_store_row rfl 137 _ _ rfl w3.heap.size ZN rfl rfl 137 _ (heap_alloc_new w3 _) ndix (by rw [HZN.out]; rfl) none ?_)
      show Code.wp _ _ _ _ ((w3.alloc (.cells zeroName 137)).setRow w3.heap.size ZN)
      have hB4 : Below w3.heap.size w3 ((w3.alloc (.cells zeroName 137)).setRow w3.heap.size ZN) := (Only.below (((Only.refl [w3.heap.size] w3).alloc _).setRow (by simp) _) (Nat.le_refl _) (by simp))
      obtain ⟨w4, hw4⟩ : ∃ y, y = ((w3.alloc (.cells zeroName 137)).setRow w3.heap.size ZN) := ⟨_, rfl⟩
      rw [← hw4] at hB4 ⊢
      have Hb4 := Lib.hid (Hb3.out.trans (hB4.mono Hb3.out.size))
      clear hw4 hB4
      go_quiet (fail)
      go_wp2_with fail
      go_roundw
      case rel => exact ⟨k + 1, by omega, rfl, by go_num, below_drewN'' Hb4.out _⟩
      case measure => simp [intOf]; omega
    · obtain rfl : n = k := by omega
      have Hb := Lib.hid hb
      go_wp2_with fail
      go_ret
      exact ⟨rfl, Hb.out⟩

theorem wpList_build5 {P : Program} {ops : Array Oper} {rest : List Oper} {o : Oper} {a : Act} {w : World} {Q : Exit → Act → World → Prop} (hg : o.guard = none) (t : TypeId) (i j k l m : Nat) (x y z u v : Operand) (ho : o.op = .build t #[(i, x), (j, y), (k, z), (l, u), (m, v)])
    (vx vy vz vu vv : Value) (hx : a.eval x = vx) (hy : a.eval y = vy) (hz : a.eval z = vz) (hu : a.eval u = vu) (hv : a.eval v = vv) (C : Array Value) (hB : P.built t [(i, vx), (j, vy), (k, vz), (l, vu), (m, vv)] = some C)
    (h : wpList P ops Q rest (a.put o.dst (.agg C)) w) : wpList P ops Q (o :: rest) a w := by
  have e : ((#[(i, x), (j, y), (k, z), (l, u), (m, v)] : Array (Nat × Operand)).map fun (i, x) => (i, a.eval x)).toList = [(i, vx), (j, vy), (k, vz), (l, vu), (m, vv)] := by simp [hx, hy, hz, hu, hv]
  refine wpList_build hg t _ ho ?_ ?_
  · rw [e, hB]; rfl
  · rw [e, hB]; exact h
set_option maxRecDepth 100000 in
theorem built_hive (b ma mt mp : Nat) (life : Int) : Tryd.prog.built 144 [(0, .pointer (some ⟨b, 0, none⟩)), (1, .map (some ma)), (2, .map (some mt)), (3, .map (some mp)), (5, .int .i64 life)] = some (hvCells b ma mt mp 0 life false) := by kernel_rfl
def OpenPost (w : World) (b g : Nat) (s : St) (e : Ending) (w' : World) : Prop :=
  ∃ q : HvP, q.b = b ∧ q.g = g ∧ e = .returned (.tuple #[.pointer (some ⟨q.p, 0, none⟩), .int .i64 0]) ∧ HvAt w' q ⟨s, [], [], 0, s.pw.life, false⟩ ∧ (∀ x ∈ [q.p, q.ma, q.mt, q.mp], w.heap.size ≤ x) ∧ Below w.heap.size w w'
set_option maxHeartbeats 4000000 in
set_option maxRecDepth 100000 in
theorem open_empty (b g : Nat) (s : St) (w : World) (h : ShAt w b g s) (hdn : s.pw.down = false) (hns : s.slots.length ≤ 128) (he : ∀ i : Nat, i < s.slots.length → St.read s i = []) :
    Calls Tryd.prog 38 #[.pointer (some ⟨b, 0, none⟩)] w (OpenPost w b g s) := by
  obtain ⟨n, hn⟩ : ∃ n, n = w.heap.size := ⟨_, rfl⟩
  have lb : b < n := by rw [hn]; exact heap_lt h.pw
  have lg : g < n := by rw [hn]; exact heap_lt h.slots
  obtain ⟨wa, hwa⟩ : ∃ x, x = w.alloc (.map #[] 0) := ⟨_, rfl⟩
  obtain ⟨wb, hwb⟩ : ∃ x, x = wa.alloc (.map #[] 0) := ⟨_, rfl⟩
  obtain ⟨wc, hwc⟩ : ∃ x, x = wb.alloc (.map #[] 0) := ⟨_, rfl⟩
  have sa : wa.heap.size = n + 1 := by rw [hwa, hn]; simp
  have sb : wb.heap.size = n + 2 := by rw [hwb]; simp [sa]
  have sc : wc.heap.size = n + 3 := by rw [hwc]; simp [sb]
  have ba : Below n w wa := by rw [hwa, hn]; exact (Below.refl _ w).alloc (Nat.le_refl _) _
  have bb : Below n w wb := by rw [hwb]; exact ba.alloc (by omega) _
  have bc : Below n w wc := by rw [hwc]; exact bb.alloc (by omega) _
  obtain ⟨wd, hwd⟩ : ∃ x, x = wc.alloc (.cells (hvCells b n (n + 1) (n + 2) 0 s.pw.life false) 144) := ⟨_, rfl⟩
  have bd : Below n w wd := by rw [hwd]; exact bc.alloc (by omega) _
  have ha : MapAt nameV (fun x => x.2.length = 32) wd n [] := by
    have h0 : MapAt nameV (fun x => x.2.length = 32) wa n [] := by rw [hwa, hn]; exact mapAt_made w
    exact ((h0.keep (w' := wb) (by rw [hwb]; exact heap_alloc_old wa _ (by omega))).keep (w' := wc) (by rw [hwc]; exact heap_alloc_old wb _ (by omega))).keep (by rw [hwd]; exact heap_alloc_old wc _ (by omega))
  have ht : MapAt intK (fun x => x < 1000000) wd (n + 1) [] := by
    have h0 : MapAt intK (fun x => x < 1000000) wb (n + 1) [] := by rw [hwb, ← sa]; exact mapAt_made wa
    exact (h0.keep (w' := wc) (by rw [hwc]; exact heap_alloc_old wb _ (by omega))).keep (by rw [hwd]; exact heap_alloc_old wc _ (by omega))
  have hpn : MapAt digK (fun x => x.length = 32) wd (n + 2) [] := by
    have h0 : MapAt digK (fun x => x.length = 32) wc (n + 2) [] := by rw [hwc, ← sb]; exact mapAt_made wb
    exact h0.keep (by rw [hwd]; exact heap_alloc_old wc _ (by omega))
  have hp : wd.heap[n + 3]? = some (.cells (hvCells b n (n + 1) (n + 2) 0 s.pw.life false) 144 (0, 0)) := by rw [hwd, ← sc]; exact heap_alloc_new wc _
  have hbg := h.ne
  have hd : HvAt wd ⟨n + 3, b, g, n, n + 1, n + 2⟩ ⟨s, [], [], 0, s.pw.life, false⟩ := ⟨hp, ha, ht, hpn, (fun e he => by cases he), (fun e he => by cases he), ⟨(bd.block b lb).trans h.pw, (bd.block g lg).trans h.slots, h.ne, h.len⟩, by simp [HvP.own]; omega⟩
  have k1 : ∀ t, (Instr.makeMap t .none).run Tryd.prog w = .ok (.map (some n)) wa := fun t => by rw [hwa, hn]; rfl
  have k2 : ∀ t, (Instr.makeMap t .none).run Tryd.prog wa = .ok (.map (some (n + 1))) wb := fun t => by rw [hwb, ← sa]; rfl
  have k3 : ∀ t, (Instr.makeMap t .none).run Tryd.prog wb = .ok (.map (some (n + 2))) wc := fun t => by rw [hwc, ← sb]; rfl
  have hdw := Lib.hid (down_any b g s w h)
  have hlf := Lib.hid (life_any b g s wc ⟨(bc.block b lb).trans h.pw, (bc.block g lg).trans h.slots, h.ne, h.len⟩)
  have hld := Lib.hid (load_empty _ _ wd hd hdn hns he)
  have hbu := built_hive b n (n + 1) (n + 2) s.pw.life
  obtain ⟨lf, hlf'⟩ : ∃ x : Int, x = (s.pw.life : Int) := ⟨_, rfl⟩
  rw [← hlf'] at hlf hbu hwd
  obtain ⟨HC, hHC⟩ : ∃ x, x = hvCells b n (n + 1) (n + 2) 0 lf false := ⟨_, rfl⟩
  rw [← hHC] at hbu hwd
  clear hHC
  rw [hdn] at hdw
  have Hd := Lib.hid hd
  have Bd := Lib.hid bd
  have Hn := Lib.hid hn
  have Hwa := Lib.hid hwa
  have Hwb := Lib.hid hwb
  have Hwc := Lib.hid hwc
  have Hwd := Lib.hid hwd
  have Sa := Lib.hid sa
  have Sb := Lib.hid sb
  have Sc := Lib.hid sc
  clear h hdn hns he lb lg ba bb bc bd ha ht hpn hp hbg hd hn hwa hwb hwc hwd hlf' sa sb sc
  go_enter Tryd.func38, Tryd.ntmps38
  go_upto_region 3 with fail
  go_upto_region 5 with (go_at_call 84; refine hdw.out.mono ?_; rintro r w1 ⟨rfl, rfl⟩)
  go_wp2_with fail
  refine hlf.out.mono ?_
  rintro r w2 ⟨rfl, rfl⟩
  go_upto_region 6 with (refine wpList_build5 rfl 144 0 1 2 3 5 (.tmp 12) (.tmp 13) (.tmp 14) (.tmp 15) (.tmp 17) rfl (.pointer (some ⟨b, 0, .none⟩)) (.map (some n)) (.map (some (n + 1))) (.map (some (n + 2))) (.int .i64 lf) rfl rfl rfl rfl rfl HC hbu ?_)
  rw [← Hwd.out, Sc.out]
  go_wp2_with fail
  refine hld.out.mono ?_
  rintro r w3 ⟨rfl, hB3⟩
  have H3 := Lib.hid (Hd.out.below hB3)
  have B3 := Lib.hid (Bd.out.trans (hB3.mono (by rw [Hn.out]; exact Bd.out.size)))
  clear hB3 hld hlf hdw
  go_wp2_with fail
  go_ret2
  exact ⟨⟨n + 3, b, g, n, n + 1, n + 2⟩, rfl, rfl, rfl, H3.out, by intro x hx; have := Hn.out; simp at hx; omega, by rw [← Hn.out]; exact B3.out⟩
end Go.Proofs.YtfbjbhddapoopaaDoor
