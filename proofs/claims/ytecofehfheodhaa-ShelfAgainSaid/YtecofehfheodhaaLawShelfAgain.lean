/-
  ShelfAgain: off and on again without a write in between changes nothing. No condition: every input.
-/
import Derived.Test.YtecofehfheodhaaShJ
import Derived.Test.YtecofehfheodhaaActs
set_option linter.unusedVariables false
set_option linter.unusedSimpArgs false
namespace Go.Proofs.Ytecofehfheodhaa
open Go.RowKit Sh
attribute [local go_sem] Lb.ba_get Lb.ba_cut Lb.ba_add Lb.ba_size Lb.take_rest

/-- up, not armed, of eight slots, never down -/
structure Calm (s : St) : Prop where
  up : s.pw.down = false
  arm : s.pw.armed = 0
  len : s.slots.length = 8
  life : s.pw.life = 0
theorem Calm.write {s : St} (h : Calm s) (i : Int) (t : List UInt8) : Calm (St.write s i t) := by
  unfold St.write
  split
  · exact h
  · obtain ⟨h1, h2, h3, h4⟩ := h
    refine ⟨?_, ?_, ?_, ?_⟩
    · simp [Pw.act, h2, h1]
    · simp [Pw.act, h2]
    · simp [setNow_length, h3]
    · simp [Pw.act, h2, h4]
theorem calm_new : Calm (St.new 8) := ⟨rfl, rfl, by simp [St.new], rfl⟩

/-- up, all sure -/
structure Still (s : St) (life : Nat) : Prop where
  up : s.pw.down = false
  len : s.slots.length = 8
  shut : ∀ x ∈ s.slots, x.opn = false
  life : s.pw.life = life
theorem on_len (s : St) (fs : List Int) : (St.on s fs).slots.length = s.slots.length := by
  unfold St.on; split
  · simp [onl_length]
  · rfl
theorem still_on {s : St} (fs : List Int) (h : s.pw.down = true) (hl : s.slots.length = 8) (n : Nat) (hn : s.pw.life = n) : Still (St.on s fs) n := by
  refine ⟨?_, by rw [on_len, hl], ?_, ?_⟩
  · unfold St.on; rw [if_pos h]
  · unfold St.on; rw [if_pos h]
    intro x hx
    simp only [List.mem_map] at hx
    obtain ⟨y, _, rfl⟩ := hx
    rfl
  · unfold St.on; rw [if_pos h]; exact hn
theorem onl_shut (ss : List Slot) (fs : List Int) (h : ∀ x ∈ ss, x.opn = false) : ∀ k, onl ss fs k = ss
  | 0 => rfl
  | k + 1 => by
    unfold onl
    split
    · rename_i x hx
      have := h x (List.mem_of_getElem? hx)
      rw [this, onl_shut ss fs h k]; simp
    · exact onl_shut ss fs h k
theorem still_again {s : St} {n : Nat} (h : Still s n) (fs : List Int) : Still (St.on (St.off s) fs) (n + 1) ∧ ∀ i, St.read (St.on (St.off s) fs) i = St.read s i := by
  obtain ⟨h1, h2, h3, h4⟩ := h
  have hd : (St.off s).pw.down = true := by simp [St.off, Pw.off, h1]
  have hs : Still (St.on (St.off s) fs) (n + 1) := still_on fs hd h2 (n + 1) (by simp [St.off, Pw.off, h1, h4])
  refine ⟨hs, fun i => ?_⟩
  have e : (St.on (St.off s) fs).slots = s.slots.map sure1 := by
    unfold St.on; rw [if_pos hd]
    show (onl s.slots _ _).map sure1 = _
    rw [onl_shut _ _ h3]
  have ea : St.atErr (St.on (St.off s) fs) i = St.atErr s i := by
    unfold St.atErr; rw [hs.up, h1, hs.len, h2]
  unfold St.read
  rw [ea, e]
  split
  · rfl
  · rw [List.getElem?_map]
    cases s.slots[i.toNat]? <;> rfl
theorem Still.at {s : St} {n : Nat} (h : Still s n) (k : Nat) (hk : k < 8) : St.atErr s k = 0 := by
  unfold St.atErr; rw [h.up, h.len, if_neg (by simp), if_neg (by omega)]

theorem u64_mod8 (x : Int) (h : -9223372036854775808 ≤ x ∧ x ≤ 9223372036854775807) : ∃ u k : Nat, IntKind.u64.wrap x = (u : Int) ∧ (u : Int) ≤ 18446744073709551615 ∧ (u : Int).tmod 8 = (k : Int) ∧ IntKind.i64.wrap (k : Int) = (k : Int) ∧ k < 8 := by
  by_cases hx : 0 ≤ x
  · obtain ⟨u, rfl⟩ : ∃ u : Nat, x = u := ⟨x.toNat, by omega⟩
    exact ⟨u, u % 8, by rw [IntWalk.u64_in _ (by omega)], by omega, rfl, IntWalk.i64_in _ (by omega), by omega⟩
  · refine ⟨(x + 18446744073709551616).toNat, (x + 18446744073709551616).toNat % 8, ?_, by omega, rfl, IntWalk.i64_in _ (by omega), by omega⟩
    simp only [IntKind.wrap_u64]; omega

set_option maxRecDepth 100000 in
set_option maxHeartbeats 2000000 in
theorem shelfAgain_core (A : Option Addr) (cap : Nat) (ds : List ActD) (A1 : Option Addr) (c1 : Nat) (fs : List Int) (A2 : Option Addr) (c2 : Nat) (ms : List Int) (w : World) (hA : ActsAt w w.heap.size A ds) (hl : ds.length ≤ maxLen)
    (hI : Ints w w.heap.size A1 fs) (hfl : fs.length ≤ maxLen) (hfb : ∀ f ∈ fs, -9223372036854775808 ≤ f ∧ f ≤ 9223372036854775807)
    (hI2 : Ints w w.heap.size A2 ms) (hfl2 : ms.length ≤ maxLen) (hfb2 : ∀ f ∈ ms, -9223372036854775808 ≤ f ∧ f ≤ 9223372036854775807) :
    Calls Try.prog 10 #[.slice A ds.length cap, .slice A1 fs.length c1, .slice A2 ms.length c2] w fun e w' => e = .returned (.bool true) ∧ Below w.heap.size w w' := by
  unfold maxLen at hl
  have HA := Lib.hid hA
  have HI := Lib.hid hI
  have Hfl := Lib.hid hfl
  have Hfb := Lib.hid hfb
  have HI2 := Lib.hid hI2
  have Hfl2 := Lib.hid hfl2
  have Hfb2 := Lib.hid hfb2
  clear hA hI hfl hfb hI2 hfl2 hfb2
  obtain ⟨n, hn⟩ : ∃ n, n = ds.length := ⟨_, rfl⟩
  rw [← hn] at hl ⊢
  have Hn := Lib.hid hn
  clear hn
  go_enter Try.func10, Try.ntmps10
  go_wp2_with fail
  refine (awake4_any w).mono ?_
  rintro e w1 ⟨rfl, hB1⟩
  go_wp2_with fail
  refine (live_new w 8 w1 (by omega) hB1).mono ?_
  rintro e w2 ⟨rfl, L2⟩
  obtain ⟨g, hg⟩ : ∃ g, g = w1.heap.size := ⟨_, rfl⟩
  obtain ⟨b, hb⟩ : ∃ b, b = w1.heap.size + 1 := ⟨_, rfl⟩
  rw [← hb, ← hg] at L2
  rw [← hb]
  clear hb hg hB1
  go_wp2_with fail
  go_loopw [8] (fun p wr => ∃ (i : Nat) (s : St), i ≤ n ∧ i ≤ 150 ∧ p = .int .i64 i ∧ Calm s ∧ Live w wr b g s (2 * (150 - i) + 10)) (fun p _ => 150 - (intOf p).toNat)
  case atStart => exact ⟨0, _, by omega, by omega, rfl, calm_new, L2.less (by omega)⟩
  case round =>
    obtain ⟨i, s, hi, hi2, rfl, hc, L⟩ := hrel
    have Hc := Lib.hid hc
    clear hc
    go_upto_region 5 with fail
    go_cut [26] from 19 to 43 (fun v wx => v = .bool (decide (i < n ∧ i < 150)) ∧ wx = wr)
    case first =>
      by_cases h1 : i < n
      · have j1 : (i : Int) < (n : Int) := by omega
        by_cases h2 : i < 150
        · have j2 : (i : Int) < 150 := by omega
          go_wp2_with fail
          go_meet
          case rel => exact ⟨by simp [h1, h2], rfl⟩
        · have j2 : ¬ ((i : Int) < 150) := by omega
          go_wp2_with fail
          go_meet
          case rel => exact ⟨by simp [h2], rfl⟩
      · have j1 : ¬ ((i : Int) < (n : Int)) := by omega
        go_wp2_with fail
        go_meet
        case rel => exact ⟨by simp [h1], rfl⟩
    obtain ⟨rfl, rfl⟩ := hcut
    by_cases hin : i < n ∧ i < 150
    · have hdec : decide (i < n ∧ i < 150) = true := by simp [hin]
      rw [hdec]
      obtain ⟨hin, hi150⟩ := hin
      obtain ⟨a, hAe, ha⟩ := (HA.out.below L.old (Nat.le_refl _)) i (by rw [← Hn.out]; exact hin)
      subst hAe
      have r1 : wc.cell? ⟨(a.add (i * 4)).block, (a.add (i * 4)).off + 1, none⟩ = _ := ha.c1
      have r2 : wc.cell? ⟨(a.add (i * 4)).block, (a.add (i * 4)).off + 2, none⟩ = _ := ha.c2
      have rb := ha.ab
      have rt := ha.tl
      obtain ⟨d, hd⟩ : ∃ d, d = ds[i]'(by rw [← Hn.out]; exact hin) := ⟨_, rfl⟩
      rw [← hd] at r1 r2 rb rt
      obtain ⟨kd, x, t, A9, c9, f9⟩ := d
      simp only at r1 r2 rb rt
      obtain ⟨u, k, hu, hub, hk, hkw, hk8⟩ := u64_mod8 x rb
      have L' : Live w wc b g s ((2 * (150 - (i + 1)) + 10) + 2) := L.less (by omega)
      have i1 : (i : Int) < (n : Int) := by omega
      have i2 : (i : Int) < 150 := by omega
      unfold maxLen at rt
      clear ha hd rb L
      go_upto_region 7 with fail
      go_region_with (go_at_call 31; go_loud (refine (live_write L'.drew k t (by omega)).mono ?_; rintro e w3 ⟨rfl, L3⟩))
      all_goals
        go_wp2
        go_roundw
        case rel => exact ⟨i + 1, _, by omega, by omega, by go_num, Hc.out.write _ _, L3⟩
        case measure => simp [intOf]; omega
    · have hdec : decide (i < n ∧ i < 150) = false := by simp [hin]
      rw [hdec]
      have go : Live w wc b g s 10 := L.less (by omega)
      clear L
      go_wp2_with fail
      refine (live_off go).mono ?_
      rintro e w3 ⟨rfl, L3⟩
      go_wp2_with fail
      refine (live_on L3 A1 c1 fs (L3.ints HI.out) Hfb.out Hfl.out).mono ?_
      rintro e w4 ⟨rfl, L4⟩
      have hS : Still (St.on (St.off s) fs) 1 := still_on (s := St.off s) fs (by simp [St.off, Pw.off, Hc.out.up]) Hc.out.len 1 (by simp [St.off, Pw.off, Hc.out.up, Hc.out.life])
      obtain ⟨s2, hs2⟩ : ∃ s2, s2 = St.on (St.off s) fs := ⟨_, rfl⟩
      rw [← hs2] at L4 hS
      have HS := Lib.hid hS
      have Hag := Lib.hid (still_again hS ms)
      clear hs2 hS Hc
      go_wp2_with fail
      obtain ⟨q, hq⟩ : ∃ q, q = w4.heap.size := ⟨_, rfl⟩
      have hbq : b < q := by rw [hq]; exact heap_lt L4.here.pw
      have hgq : g < q := by rw [hq]; exact heap_lt L4.here.slots
      have hblk := heap_alloc_new w4 (.cells #[.string ⟨#[]⟩, .string ⟨#[]⟩, .string ⟨#[]⟩, .string ⟨#[]⟩, .string ⟨#[]⟩, .string ⟨#[]⟩, .string ⟨#[]⟩, .string ⟨#[]⟩] 54)
      have hBq : Below w4.heap.size w4 (w4.alloc (.cells #[.string ⟨#[]⟩, .string ⟨#[]⟩, .string ⟨#[]⟩, .string ⟨#[]⟩, .string ⟨#[]⟩, .string ⟨#[]⟩, .string ⟨#[]⟩, .string ⟨#[]⟩] 54)) := (Below.refl _ w4).alloc (Nat.le_refl _) _
      rw [← hq] at hblk
      rw [← hq]
      have Hq := Lib.hid hq
      have Hblk := Lib.hid hblk
      clear hq hblk
      go_loopw [10] (fun p wr => ∃ (k : Nat) (C : Array Value), k ≤ 8 ∧ p = .int .i64 k ∧ C.size = 8 ∧ (∀ j : Nat, j < k → C[j]? = some (.string ⟨(St.read s2 j).toArray⟩)) ∧ wr.heap[q]? = some (.cells C 54 (0, 0)) ∧ Below w4.heap.size w4 wr) (fun p _ => 8 - (intOf p).toNat)
      case atStart => exact ⟨0, _, by omega, rfl, rfl, fun j hj => absurd hj (by omega), Hblk.out, hBq⟩
      case round =>
        obtain ⟨k, C, hk8, rfl, hC, hCj, hh, hb4⟩ := hrel
        have L5 := L4.below hb4
        have HCj := Lib.hid hCj
        clear hCj
        by_cases hk : k < 8
        · have k1 : (k : Int) < 8 := by omega
          have k0 : (0 : Int) ≤ (k : Int) := by omega
          obtain ⟨cv, hcv⟩ : ∃ cv, C[k]? = some cv := ⟨C[k]'(by omega), Array.getElem?_eq_getElem (by omega)⟩
          have d0 : wr.cell? ⟨q, k, none⟩ = some cv := by rw [Lib.cell_of_heap hh]; exact hcv
          have z0 : wr.frozen? ⟨q, k, none⟩ = false := Lib.frozen_of_heap hh _
          have Hh := Lib.hid hh
          obtain ⟨tx, htx⟩ : ∃ tx, tx = St.read s2 k := ⟨_, rfl⟩
          obtain ⟨z, hz⟩ : ∃ z, z = St.atErr s2 k := ⟨_, rfl⟩
          have Hrd : Hid (∀ _ : Unit, Calls Try.prog 34 #[.pointer (some ⟨b, 0, none⟩), .int .i64 k] wr fun e w' => e = .returned (.tuple #[.string ⟨tx.toArray⟩, .int .i64 z]) ∧ wr = w') := Lib.hid (fun _ => by rw [htx, hz]; exact live_read L5 k)
          have Htx := Lib.hid htx
          clear hh htx hz hcv
          go_wp2_with fail
          refine (Hrd.out ()).mono ?_
          rintro e w5 ⟨rfl, rfl⟩
          go_wp2
          go_roundw
          case rel =>
            refine ⟨k + 1, C.setIfInBounds k (.string ⟨tx.toArray⟩), by omega, by go_num, by simp [hC], ?_, heap_setCell_same _ q k _ _ _ Hh.out, ?_⟩
            · intro j hj
              by_cases hjk : j = k
              · subst hjk; rw [← Htx.out]; simp [hC, hk]
              · rw [Array.getElem?_setIfInBounds_ne (by omega)]; exact HCj.out j (by omega)
            · exact (Only.trans (bs := [q]) (Only.of_below (bs := [q]) hb4) ((Only.refl [q] wr).setCell (p := ⟨q, k, none⟩) (by simp) _)).below (Nat.le_refl _) (by intro x hx; simp at hx; rw [hx, Hq.out]; exact Nat.le_refl _)
          case measure => simp [intOf]; omega
        · have k8 : k = 8 := by omega
          subst k8
          go_wp2_with fail
          refine (offd_any b g s2 wr L5.here (Pw.fits_mono L5.fit (by omega))).mono ?_
          rintro e w5 ⟨rfl, h5, ho5⟩
          have L6 := L5.next h5 ho5 (k' := 8) (Pw.off_fits L5.fit) L5.small
          go_wp2_with fail
          refine (on_any b g _ A2 c2 ms w5 h5 (L6.ints HI2.out) Hfb2.out Hfl2.out L6.small).mono ?_
          rintro e w6 ⟨rfl, h6, ho6⟩
          have L7 := L6.next h6 ho6 (k' := 8) (by unfold St.on; split <;> exact L6.fit) (small_on L6.small ms)
          have hh6 : w6.heap[q]? = some (.cells C 54 (0, 0)) := ho6.keep (ho5.keep hh (by simp; omega)) (by simp; omega)
          have Hh6 := Lib.hid hh6
          obtain ⟨hS4, hR4⟩ := Hag.out
          obtain ⟨s4, hs4⟩ : ∃ s4, s4 = St.on (St.off s2) ms := ⟨_, rfl⟩
          rw [← hs4] at L7 hS4 hR4
          have HR4 := Lib.hid hR4
          have HS4 := Lib.hid hS4
          clear hs4 hh hh6 h5 h6 hS4 hR4 L6 L5
          go_wp2_with fail
          go_loop [13] (fun p => ∃ k : Nat, k ≤ 8 ∧ p = .int .i64 k) (fun p => 8 - (intOf p).toNat)
          case atStart => exact ⟨0, by omega, rfl⟩
          case round =>
            obtain ⟨k, hk8, rfl⟩ := hrel
            by_cases hk : k < 8
            · have k1 : (k : Int) < 8 := by omega
              have k0 : (0 : Int) ≤ (k : Int) := by omega
              obtain ⟨tx, htx⟩ : ∃ tx, tx = St.read s2 k := ⟨_, rfl⟩
              obtain ⟨z, hz⟩ : ∃ z, z = St.atErr s4 k := ⟨_, rfl⟩
              have d0 : w6.cell? ⟨q, k, none⟩ = some (.string ⟨tx.toArray⟩) := by rw [Lib.cell_of_heap Hh6.out, htx]; exact HCj.out k hk
              have Hrd : Hid (∀ _ : Unit, Calls Try.prog 34 #[.pointer (some ⟨b, 0, none⟩), .int .i64 k] w6 fun e w' => e = .returned (.tuple #[.string ⟨tx.toArray⟩, .int .i64 z]) ∧ w6 = w') := Lib.hid (fun _ => by rw [htx, hz, ← HR4.out]; exact live_read L7 k)
              clear htx hz
              go_wp2_with fail
              refine (Hrd.out ()).mono ?_
              rintro e w7 ⟨rfl, rfl⟩
              go_wp2
              go_round
              case rel => exact ⟨k + 1, by omega, by go_num⟩
              case measure => simp [intOf]; omega
            · have k8 : k = 8 := by omega
              subst k8
              have Hlf : Hid (∀ _ : Unit, Calls Try.prog 35 #[.pointer (some ⟨b, 0, none⟩)] w6 fun e w' => e = .returned (.int .i64 2) ∧ w6 = w') := Lib.hid (fun _ => by have := life_any b g s4 w6 L7.here; rw [HS4.out.life] at this; exact this)
              go_wp2_with fail
              refine (Hlf.out ()).mono ?_
              rintro e w7 ⟨rfl, rfl⟩
              go_wp2
              go_ret
              exact ⟨rfl, L7.old⟩

namespace ShelfAgainLaw
open Go.ChangeShapes Go.WideShapes Go.ChangeAt
open Go.ChangeMaps (open_string shut_string)
theorem contract (H : Type) (enc : TypeId × Value → H) (W : World) (base : Nat) (args : Array Value) (ds gs : List (DataW H)) (before : List MemPlace)
    (hval : ∀ (j : Nat) t v, Try.f10.params[j]? = some t → args[j]? = some v → Value.okWide Try.prog W .any base t v)
    (hW : DataW.Whole enc Try.prog Try.f10.params.toList Rows.shelfAgainSpec.vars false W args.toList ds gs before) (hsz0 : (DataW.weightsEach Try.prog (Try.f10.params.toList ++ Rows.shelfAgainSpec.plain.varTypes Try.prog) (ds ++ gs)).all (· ≤ reachBytes) = true) :
    Calls Try.prog 10 args W fun e W' => ∃ v, e = .returned v ∧ Rows.shelfAgainSpec.post enc Try.prog Try.f10 false true false false W args v W' := by
  have hW' := hW
  obtain ⟨p, q, hA0, hV, rfl, hfz, hnd⟩ := hW
  have hA : DataW.TrodAll enc Try.prog W 0 (fun _ => true) true Try.f10.params.toList args.toList ds p := hA0
  rw [Try.params10] at hA hval
  obtain ⟨v0, vs0, d0, ds0, p0, q0, hargs, rfl, rfl, h0, r0⟩ := trodAll_cons hA
  obtain ⟨v1, vs1, d1, ds1, p1, q1, rfl, rfl, rfl, h1, r1⟩ := trodAll_cons r0
  obtain ⟨v2, vs2, d2, ds2, p2, q2, rfl, rfl, rfl, h2, r2⟩ := trodAll_cons r1
  obtain ⟨rfl, rfl, rfl⟩ := trodAll_nil r2
  obtain rfl : args = #[v0, v1, v2] := by cases args; simp_all
  obtain ⟨rfl, rfl⟩ := trodVars_none hV
  obtain ⟨A0, c0, x0, rfl, hS0, hl0⟩ := open_acts (hval 0 46 v0 rfl rfl) h0
  obtain ⟨A1, c1, x1, rfl, hS1, hl1, he1, hb1⟩ := open_intsA Try.underlying37 Try.underlying3 (by kernel_rfl) (hval 1 37 v1 rfl rfl) h1
  obtain ⟨A2, c2, x2, rfl, hS2, hl2, he2, hb2⟩ := open_intsA Try.underlying37 Try.underlying3 (by kernel_rfl) (hval 2 37 v2 rfl rfl) h2
  refine (shelfAgain_core A0 c0 x0 A1 c1 x1 A2 c2 x2 W hS0 hl0 hS1 hl1 he1 hS2 hl2 he2).mono fun e W' ⟨he, hg⟩ => ?_
  subst he
  exact ⟨_, rfl, law_post (tb := 4) laidOut_ (of_decide_eq_true (by kernel_rfl)) Try.underlying4 (by kernel_rfl) rfl rfl hW' hg⟩

set_option maxRecDepth 100000 in
theorem lifted (os : Os) (started : os.Started) (H : Type) (enc : TypeId × Value → H) :
    ReturnsInHanded {} Try.checked os 10 .any (Rows.shelfAgainSpec.pre6 enc Try.prog Try.f10 Rows.shelfAgainRow.domain false) (Rows.shelfAgainSpec.post enc Try.prog Try.f10 false true false false) := by
  refine returnsInHanded_of_change_sized (C := Try.checked) ownKnob_ started (by kernel_rfl) Try.func10
    (ChangeSpec.witness6 (enc := enc) (C := Try.checked) false ⟨#[], #[.slice none 0 0, .slice none 0 0, .slice none 0 0], []⟩ 8 (by kernel_rfl) (by kernel_rfl) (by kernel_rfl) (by kernel_rfl)) ?_
  intro W base args ds gs before hval hW _ hsz _
  exact contract H enc W base args ds gs before hval hW hsz

theorem proved : Rows.ShelfAgainSaid :=
  OpenClaim.holds_of_wide 10 Try.f10 rfl rfl rfl rfl rfl rfl rfl ⟨rfl, rfl, rfl, rfl, rfl⟩ rfl rfl rfl rfl rfl (by kernel_rfl) Try.func10 (by kernel_rfl)
    (of_decide_eq_true (by kernel_rfl)) (by unfold Func.isWrapper; first | (rw [if_pos (by decide +kernel)]; kernel_rfl) | (rw [if_neg (by decide +kernel)]; exact ⟨rfl, rfl⟩))
    (fun os started H enc _ => lifted os started H enc)
end ShelfAgainLaw

end Go.Proofs.Ytecofehfheodhaa
