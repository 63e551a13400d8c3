/-
  Layer 19 (wing): things' texts, one behind the other.
-/
import Derived.Test.YthcmlbbbbcinkaaDoorWiU
set_option linter.unusedVariables false
set_option linter.unusedSimpArgs false
namespace Go.Proofs.YthcmlbbbbcinkaaDoor
open Go.RowKit Pl
attribute [local go_sem] Lb.ba_get Lb.ba_cut Lb.ba_add Lb.ba_size Lb.take_rest
namespace Wi

theorem mb_oneL (m : Mb) : m.cells.all (·.oneCell') = true := rfl
set_option maxHeartbeats 4000000 in
set_option maxRecDepth 100000 in
theorem joinMb_any (A : Option Addr) (cap : Nat) (L : List Mb) (w : World) (hS : RowsAt 3 Mb.cells w w.heap.size A L) (hw : ∀ x ∈ L, Mb.Wf x) (hl : L.length ≤ 1000) :
    Calls Tryd.prog 14 #[.slice A L.length cap, .func (.func 15) #[] #[]] w fun e w' => e = .returned (.string ⟨(join L memT).toArray⟩) ∧ Below w.heap.size w w' := by
  obtain ⟨n, hn⟩ : ∃ n, n = L.length := ⟨_, rfl⟩
  have hjl := join_len (l := L) (t := memT) (k := 27) (fun x hx => memT_len (hw x hx))
  have hsum : (join L memT).length ≤ 1000000 := Nat.le_trans hjl (Nat.le_trans (Nat.mul_le_mul_right _ hl) (by decide))
  have Hn := Lib.hid hn
  rw [← hn] at hl ⊢
  have HS := Lib.hid hS
  have Hw := Lib.hid hw
  have Hsum := Lib.hid hsum
  have n63 : (n : Int) ≤ 9223372036854775807 := by omega
  have hib := Lib.fresh_isBuilder 87 5 w
  clear hS hw hsum hjl hn
  go_enter Tryd.func14, Tryd.ntmps14
  go_wp2_with fail
  go_loopw [10] (fun p wr => ∃ i : Nat, i ≤ n ∧ p = .int .i64 i ∧ Lib.IsBuilder 87 5 w.heap.size w.heap.size (Lib.byteCells (join (L.take i) memT)) wr ∧ Below w.heap.size w wr) (fun p _ => n - (intOf p).toNat)
  case atStart => exact ⟨0, by omega, rfl, hib, (Below.refl _ _).alloc (Nat.le_refl _) _⟩
  case round =>
    obtain ⟨i, hi, rfl, hb, hbe⟩ := hrel
    have hsz := hbe.size
    have Hb := Lib.hid hb
    have Hbe := Lib.hid hbe
    clear hb hbe
    by_cases hin : i < n
    · have j1 : (i : Int) < (n : Int) := by omega
      have hlt : i < L.length := by rw [← Hn.out]; exact hin
      obtain ⟨b, o, rfl, hbl, hr⟩ := (HS.out.below Hbe.out (Nat.le_refl _)) i hlt
      obtain ⟨x, hx⟩ : ∃ x, x = L[i] := ⟨_, rfl⟩
      rw [← hx] at hr
      have hxw := Hw.out x (by rw [hx]; exact List.getElem_mem hlt)
      have Htk : Hid (join (L.take (i + 1)) memT = join (L.take i) memT ++ memT x) := Lib.hid (by rw [List.take_succ_eq_append_getElem hlt, ← hx]; unfold join; simp)
      have hbnd : (join (L.take i) memT).length + (memT x).length ≤ 1000000 := by
        have e : join L memT = join (L.take (i + 1)) memT ++ join (L.drop (i + 1)) memT := by unfold join; rw [← List.flatten_append, ← List.map_append, List.take_append_drop]
        have := Hsum.out
        rw [e, List.length_append, Htk.out, List.length_append] at this
        omega
      have hcl := Lib.hid (fun W => memberText_any x W hxw)
      obtain ⟨t, ht⟩ : ∃ t, t = memT x := ⟨_, rfl⟩
      rw [← ht] at hcl Htk hbnd
      have xdix : (Tryd.prog.info? 52).map (·.size) = some (Mb.cells x).length := by rw [mb_info, Mb.len x]
      have xdir : (Tryd.prog.info? 52).map (·.size) = some (Mb.cells x).toArray.size := by rw [List.size_toArray]; exact xdix
      have xone : (Mb.cells x).toArray.all (·.oneCell') = true := by rw [List.all_toArray]; exact mb_oneL x
      have xund := Tryd.underlying52
      obtain ⟨xc, hxc⟩ : ∃ c, c = Mb.cells x := ⟨_, rfl⟩
      rw [← hxc] at hr xdix hcl xdir xone
      have hxl : xc.length = 3 := by rw [hxc]; exact Mb.len x
      have hn4 := heap_alloc_new wr (.cells ([Value.int .i64 0, Value.int .i64 0, Value.int .i64 0] : List Value).toArray 52)
      have hzz : (([Value.int .i64 0, Value.int .i64 0, Value.int .i64 0] : List Value).toArray : Array Value).size = xc.toArray.size := by
        have e : xc.toArray.size = 3 := by rw [List.size_toArray, hxl]
        rw [e]
        rfl
      clear hx hxw hxc hbl ht
      go_upto_region 5 with (first
        | (refine wpList_load_mid rfl 52 _ rfl b (o + i * 3) rfl xc _ hr xund rfl xdix ?_)
        | (refine wpList_store_row rfl 52 _ _ rfl wr.heap.size xc.toArray rfl rfl 52 _ hn4 xdir hzz xone ?_))
      try simp only [Act.put]
      show Code.wp _ _ _ _ ((wr.alloc (.cells ([Value.int .i64 0, Value.int .i64 0, Value.int .i64 0] : List Value).toArray 52)).setRow wr.heap.size xc.toArray)
      obtain ⟨w5, hw5⟩ : ∃ y, y = (wr.alloc (.cells ([Value.int .i64 0, Value.int .i64 0, Value.int .i64 0] : List Value).toArray 52)).setRow wr.heap.size xc.toArray := ⟨_, rfl⟩
      have l5 := setRow_heap _ _ _ xc.toArray _ _ hn4
      have o5 := ((Only.refl [wr.heap.size] wr).alloc (.cells ([Value.int .i64 0, Value.int .i64 0, Value.int .i64 0] : List Value).toArray 52)).setRow (g := wr.heap.size) (by simp) xc.toArray
      rw [← hw5] at l5 o5 ⊢
      have hB4 : Below wr.heap.size wr w5 := o5.below (Nat.le_refl _) (by simp)
      have L5 := Lib.hid l5
      clear hw5 l5 o5 hr
      go_wp2_with (refine wpList_load_row rfl 52 _ rfl wr.heap.size rfl 52 xc.toArray (0, 0) _ L5.out xund rfl xdir ?_)
      refine (hcl.out _).mono ?_
      rintro e w3 ⟨rfl, hB3⟩
      have HB3 := Lib.hid (hB4.trans (hB3.mono hB4.size))
      have hb3 := IsBuilder.below Hb.out HB3.out
      have Hbe3 := Lib.hid (Hbe.out.trans (HB3.out.mono hsz))
      have hsz3 := Hbe3.out.size
      clear hB3 hB4 hcl hxl hn4 hzz xdix xdir xone xund
      go_wp2_with fail
      refine (writeString_any w.heap.size w.heap.size _ _ _ hb3 (by simp [Lib.byteCells, ByteArray.size]; omega) (by omega)).mono ?_
      rintro e w4 ⟨rfl, hb4, hB4⟩
      have Hbe4 := Lib.hid (Hbe3.out.trans (hB4.mono (Nat.le_refl _)))
      have hb5 : Hid (Lib.IsBuilder 87 5 w.heap.size w.heap.size (Lib.byteCells (join (L.take (i + 1)) memT)) w4) := Lib.hid (.inr (by rw [Htk.out]; simpa [Lib.strCells_eq, Lib.byteCells_append] using hb4))
      clear hb3 hb4 hB4 hsz3 hsz
      go_wp2_with fail
      go_roundw
      case rel => exact ⟨i + 1, by omega, by go_num, hb5.out, Hbe4.out⟩
      case measure => simp [intOf]; omega
    · obtain rfl : i = n := by omega
      have j1 : ¬ (i : Int) < (i : Int) := by omega
      have hb' : Lib.IsBuilder 87 5 w.heap.size w.heap.size (Lib.byteCells (join L memT)) wr := by
        have := Hb.out
        rw [Hn.out, List.take_length] at this; exact this
      have hs2 := Hsum.out
      clear hib
      go_wp2_with fail
      refine (Tryd.Builder_String_any w.heap.size w.heap.size (join L memT) _ hb' (by omega)).mono ?_
      rintro e w3 ⟨rfl, hB3⟩
      clear hb' hs2
      go_wp2_with fail
      go_ret
      exact ⟨rfl, Hbe.out.trans hB3⟩

set_option maxHeartbeats 4000000 in
set_option maxRecDepth 100000 in
theorem joinRg_any (A : Option Addr) (cap : Nat) (L : List Rg) (w : World) (hS : RowsAt 35 Rg.cells w w.heap.size A L) (hw : ∀ x ∈ L, Rg.Wf x) (hl : L.length ≤ 1000) :
    Calls Tryd.prog 42 #[.slice A L.length cap, .func (.func 43) #[] #[]] w fun e w' => e = .returned (.string ⟨(join L rngT).toArray⟩) ∧ Below w.heap.size w w' := by
  obtain ⟨n, hn⟩ : ∃ n, n = L.length := ⟨_, rfl⟩
  have hjl := join_len (l := L) (t := rngT) (k := 59) (fun x hx => rngT_len (hw x hx))
  have hsum : (join L rngT).length ≤ 1000000 := Nat.le_trans hjl (Nat.le_trans (Nat.mul_le_mul_right _ hl) (by decide))
  have Hn := Lib.hid hn
  rw [← hn] at hl ⊢
  have HS := Lib.hid hS
  have Hw := Lib.hid hw
  have Hsum := Lib.hid hsum
  have n63 : (n : Int) ≤ 9223372036854775807 := by omega
  have hib := Lib.fresh_isBuilder 87 5 w
  clear hS hw hsum hjl hn
  go_enter Tryd.func42, Tryd.ntmps42
  go_wp2_with fail
  go_loopw [10] (fun p wr => ∃ i : Nat, i ≤ n ∧ p = .int .i64 i ∧ Lib.IsBuilder 87 5 w.heap.size w.heap.size (Lib.byteCells (join (L.take i) rngT)) wr ∧ Below w.heap.size w wr) (fun p _ => n - (intOf p).toNat)
  case atStart => exact ⟨0, by omega, rfl, hib, (Below.refl _ _).alloc (Nat.le_refl _) _⟩
  case round =>
    obtain ⟨i, hi, rfl, hb, hbe⟩ := hrel
    have hsz := hbe.size
    have Hb := Lib.hid hb
    have Hbe := Lib.hid hbe
    clear hb hbe
    by_cases hin : i < n
    · have j1 : (i : Int) < (n : Int) := by omega
      have hlt : i < L.length := by rw [← Hn.out]; exact hin
      obtain ⟨b, o, rfl, hbl, hr⟩ := (HS.out.below Hbe.out (Nat.le_refl _)) i hlt
      obtain ⟨x, hx⟩ : ∃ x, x = L[i] := ⟨_, rfl⟩
      rw [← hx] at hr
      have hxw := Hw.out x (by rw [hx]; exact List.getElem_mem hlt)
      have Htk : Hid (join (L.take (i + 1)) rngT = join (L.take i) rngT ++ rngT x) := Lib.hid (by rw [List.take_succ_eq_append_getElem hlt, ← hx]; unfold join; simp)
      have hbnd : (join (L.take i) rngT).length + (rngT x).length ≤ 1000000 := by
        have e : join L rngT = join (L.take (i + 1)) rngT ++ join (L.drop (i + 1)) rngT := by unfold join; rw [← List.flatten_append, ← List.map_append, List.take_append_drop]
        have := Hsum.out
        rw [e, List.length_append, Htk.out, List.length_append] at this
        omega
      have hcl := Lib.hid (fun W => rangeText_any x W hxw)
      obtain ⟨t, ht⟩ : ∃ t, t = rngT x := ⟨_, rfl⟩
      rw [← ht] at hcl Htk hbnd
      have xdix : (Tryd.prog.info? 65).map (·.size) = some (Rg.cells x).length := by rw [rg_info, Rg.len hxw]
      have xdir : (Tryd.prog.info? 65).map (·.size) = some (Rg.cells x).toArray.size := by rw [List.size_toArray]; exact xdix
      have xone : (Rg.cells x).toArray.all (·.oneCell') = true := by rw [List.all_toArray]; exact rg_oneL x
      have xund := Tryd.underlying65
      obtain ⟨xc, hxc⟩ : ∃ c, c = Rg.cells x := ⟨_, rfl⟩
      rw [← hxc] at hr xdix hcl xdir xone
      have hxl : xc.length = 35 := by rw [hxc]; exact Rg.len hxw
      have hn4 := heap_alloc_new wr (.cells ([Value.int .i64 0, Value.int .i64 0, Value.int .i64 0] ++ byV z32 : List Value).toArray 65)
      have hzz : (([Value.int .i64 0, Value.int .i64 0, Value.int .i64 0] ++ byV z32 : List Value).toArray : Array Value).size = xc.toArray.size := by
        have e : xc.toArray.size = 35 := by rw [List.size_toArray, hxl]
        rw [e]
        rfl
      clear hx hxw hxc hbl ht
      go_upto_region 5 with (first
        | (refine wpList_load_mid rfl 65 _ rfl b (o + i * 35) rfl xc _ hr xund rfl xdix ?_)
        | (refine wpList_store_row rfl 65 _ _ rfl wr.heap.size xc.toArray rfl rfl 65 _ hn4 xdir hzz xone ?_))
      try simp only [Act.put]
      show Code.wp _ _ _ _ ((wr.alloc (.cells ([Value.int .i64 0, Value.int .i64 0, Value.int .i64 0] ++ byV z32 : List Value).toArray 65)).setRow wr.heap.size xc.toArray)
      obtain ⟨w5, hw5⟩ : ∃ y, y = (wr.alloc (.cells ([Value.int .i64 0, Value.int .i64 0, Value.int .i64 0] ++ byV z32 : List Value).toArray 65)).setRow wr.heap.size xc.toArray := ⟨_, rfl⟩
      have l5 := setRow_heap _ _ _ xc.toArray _ _ hn4
      have o5 := ((Only.refl [wr.heap.size] wr).alloc (.cells ([Value.int .i64 0, Value.int .i64 0, Value.int .i64 0] ++ byV z32 : List Value).toArray 65)).setRow (g := wr.heap.size) (by simp) xc.toArray
      rw [← hw5] at l5 o5 ⊢
      have hB4 : Below wr.heap.size wr w5 := o5.below (Nat.le_refl _) (by simp)
      have L5 := Lib.hid l5
      clear hw5 l5 o5 hr
      go_wp2_with (refine wpList_load_row rfl 65 _ rfl wr.heap.size rfl 65 xc.toArray (0, 0) _ L5.out xund rfl xdir ?_)
      refine (hcl.out _).mono ?_
      rintro e w3 ⟨rfl, hB3⟩
      have HB3 := Lib.hid (hB4.trans (hB3.mono hB4.size))
      have hb3 := IsBuilder.below Hb.out HB3.out
      have Hbe3 := Lib.hid (Hbe.out.trans (HB3.out.mono hsz))
      have hsz3 := Hbe3.out.size
      clear hB3 hB4 hcl hxl hn4 hzz xdix xdir xone xund
      go_wp2_with fail
      refine (writeString_any w.heap.size w.heap.size _ _ _ hb3 (by simp [Lib.byteCells, ByteArray.size]; omega) (by omega)).mono ?_
      rintro e w4 ⟨rfl, hb4, hB4⟩
      have Hbe4 := Lib.hid (Hbe3.out.trans (hB4.mono (Nat.le_refl _)))
      have hb5 : Hid (Lib.IsBuilder 87 5 w.heap.size w.heap.size (Lib.byteCells (join (L.take (i + 1)) rngT)) w4) := Lib.hid (.inr (by rw [Htk.out]; simpa [Lib.strCells_eq, Lib.byteCells_append] using hb4))
      clear hb3 hb4 hB4 hsz3 hsz
      go_wp2_with fail
      go_roundw
      case rel => exact ⟨i + 1, by omega, by go_num, hb5.out, Hbe4.out⟩
      case measure => simp [intOf]; omega
    · obtain rfl : i = n := by omega
      have j1 : ¬ (i : Int) < (i : Int) := by omega
      have hb' : Lib.IsBuilder 87 5 w.heap.size w.heap.size (Lib.byteCells (join L rngT)) wr := by
        have := Hb.out
        rw [Hn.out, List.take_length] at this; exact this
      have hs2 := Hsum.out
      clear hib
      go_wp2_with fail
      refine (Tryd.Builder_String_any w.heap.size w.heap.size (join L rngT) _ hb' (by omega)).mono ?_
      rintro e w3 ⟨rfl, hB3⟩
      clear hb' hs2
      go_wp2_with fail
      go_ret
      exact ⟨rfl, Hbe.out.trans hB3⟩

set_option maxHeartbeats 4000000 in
set_option maxRecDepth 100000 in
theorem joinRc_any (A : Option Addr) (cap : Nat) (L : List Rc) (w : World) (hS : RowsAt 65 Rc.cells w w.heap.size A L) (hw : ∀ x ∈ L, Rc.Wf x) (hl : L.length ≤ 1000) :
    Calls Tryd.prog 44 #[.slice A L.length cap, .func (.func 40) #[] #[]] w fun e w' => e = .returned (.string ⟨(join L recT).toArray⟩) ∧ Below w.heap.size w w' := by
  obtain ⟨n, hn⟩ : ∃ n, n = L.length := ⟨_, rfl⟩
  have hjl := join_len (l := L) (t := recT) (k := 73) (fun x hx => recT_len (hw x hx))
  have hsum : (join L recT).length ≤ 1000000 := Nat.le_trans hjl (Nat.le_trans (Nat.mul_le_mul_right _ hl) (by decide))
  have Hn := Lib.hid hn
  rw [← hn] at hl ⊢
  have HS := Lib.hid hS
  have Hw := Lib.hid hw
  have Hsum := Lib.hid hsum
  have n63 : (n : Int) ≤ 9223372036854775807 := by omega
  have hib := Lib.fresh_isBuilder 87 5 w
  clear hS hw hsum hjl hn
  go_enter Tryd.func44, Tryd.ntmps44
  go_wp2_with fail
  go_loopw [10] (fun p wr => ∃ i : Nat, i ≤ n ∧ p = .int .i64 i ∧ Lib.IsBuilder 87 5 w.heap.size w.heap.size (Lib.byteCells (join (L.take i) recT)) wr ∧ Below w.heap.size w wr) (fun p _ => n - (intOf p).toNat)
  case atStart => exact ⟨0, by omega, rfl, hib, (Below.refl _ _).alloc (Nat.le_refl _) _⟩
  case round =>
    obtain ⟨i, hi, rfl, hb, hbe⟩ := hrel
    have hsz := hbe.size
    have Hb := Lib.hid hb
    have Hbe := Lib.hid hbe
    clear hb hbe
    by_cases hin : i < n
    · have j1 : (i : Int) < (n : Int) := by omega
      have hlt : i < L.length := by rw [← Hn.out]; exact hin
      obtain ⟨b, o, rfl, hbl, hr⟩ := (HS.out.below Hbe.out (Nat.le_refl _)) i hlt
      obtain ⟨x, hx⟩ : ∃ x, x = L[i] := ⟨_, rfl⟩
      rw [← hx] at hr
      have hxw := Hw.out x (by rw [hx]; exact List.getElem_mem hlt)
      have Htk : Hid (join (L.take (i + 1)) recT = join (L.take i) recT ++ recT x) := Lib.hid (by rw [List.take_succ_eq_append_getElem hlt, ← hx]; unfold join; simp)
      have hbnd : (join (L.take i) recT).length + (recT x).length ≤ 1000000 := by
        have e : join L recT = join (L.take (i + 1)) recT ++ join (L.drop (i + 1)) recT := by unfold join; rw [← List.flatten_append, ← List.map_append, List.take_append_drop]
        have := Hsum.out
        rw [e, List.length_append, Htk.out, List.length_append] at this
        omega
      have hcl := Lib.hid (fun W => recordText_any x W hxw)
      obtain ⟨t, ht⟩ : ∃ t, t = recT x := ⟨_, rfl⟩
      rw [← ht] at hcl Htk hbnd
      have xdix : (Tryd.prog.info? 26).map (·.size) = some (Rc.cells x).length := by rw [rc_info, Rc.len hxw]
      have xdir : (Tryd.prog.info? 26).map (·.size) = some (Rc.cells x).toArray.size := by rw [List.size_toArray]; exact xdix
      have xone : (Rc.cells x).toArray.all (·.oneCell') = true := by rw [List.all_toArray]; exact rc_one x
      have xund := Tryd.underlying26
      obtain ⟨xc, hxc⟩ : ∃ c, c = Rc.cells x := ⟨_, rfl⟩
      rw [← hxc] at hr xdix hcl xdir xone
      have hxl : xc.length = 65 := by rw [hxc]; exact Rc.len hxw
      have hn4 := heap_alloc_new wr (.cells Tryd.zeroCells26 26)
      have hzz : (Tryd.zeroCells26 : Array Value).size = xc.toArray.size := by
        have e : xc.toArray.size = 65 := by rw [List.size_toArray, hxl]
        rw [e]
        rw [zero_rcR]; rfl
      clear hx hxw hxc hbl ht
      go_upto_region 5 with (first
        | (refine wpList_load_mid rfl 26 _ rfl b (o + i * 65) rfl xc _ hr xund rfl xdix ?_)
        | (refine wpList_store_row rfl 26 _ _ rfl wr.heap.size xc.toArray rfl rfl 26 _ hn4 xdir hzz xone ?_))
      try simp only [Act.put]
      show Code.wp _ _ _ _ ((wr.alloc (.cells Tryd.zeroCells26 26)).setRow wr.heap.size xc.toArray)
      obtain ⟨w5, hw5⟩ : ∃ y, y = (wr.alloc (.cells Tryd.zeroCells26 26)).setRow wr.heap.size xc.toArray := ⟨_, rfl⟩
      have l5 := setRow_heap _ _ _ xc.toArray _ _ hn4
      have o5 := ((Only.refl [wr.heap.size] wr).alloc (.cells Tryd.zeroCells26 26)).setRow (g := wr.heap.size) (by simp) xc.toArray
      rw [← hw5] at l5 o5 ⊢
      have hB4 : Below wr.heap.size wr w5 := o5.below (Nat.le_refl _) (by simp)
      have L5 := Lib.hid l5
      clear hw5 l5 o5 hr
      go_wp2_with (refine wpList_load_row rfl 26 _ rfl wr.heap.size rfl 26 xc.toArray (0, 0) _ L5.out xund rfl xdir ?_)
      refine (hcl.out _).mono ?_
      rintro e w3 ⟨rfl, hB3⟩
      have HB3 := Lib.hid (hB4.trans (hB3.mono hB4.size))
      have hb3 := IsBuilder.below Hb.out HB3.out
      have Hbe3 := Lib.hid (Hbe.out.trans (HB3.out.mono hsz))
      have hsz3 := Hbe3.out.size
      clear hB3 hB4 hcl hxl hn4 hzz xdix xdir xone xund
      go_wp2_with fail
      refine (writeString_any w.heap.size w.heap.size _ _ _ hb3 (by simp [Lib.byteCells, ByteArray.size]; omega) (by omega)).mono ?_
      rintro e w4 ⟨rfl, hb4, hB4⟩
      have Hbe4 := Lib.hid (Hbe3.out.trans (hB4.mono (Nat.le_refl _)))
      have hb5 : Hid (Lib.IsBuilder 87 5 w.heap.size w.heap.size (Lib.byteCells (join (L.take (i + 1)) recT)) w4) := Lib.hid (.inr (by rw [Htk.out]; simpa [Lib.strCells_eq, Lib.byteCells_append] using hb4))
      clear hb3 hb4 hB4 hsz3 hsz
      go_wp2_with fail
      go_roundw
      case rel => exact ⟨i + 1, by omega, by go_num, hb5.out, Hbe4.out⟩
      case measure => simp [intOf]; omega
    · obtain rfl : i = n := by omega
      have j1 : ¬ (i : Int) < (i : Int) := by omega
      have hb' : Lib.IsBuilder 87 5 w.heap.size w.heap.size (Lib.byteCells (join L recT)) wr := by
        have := Hb.out
        rw [Hn.out, List.take_length] at this; exact this
      have hs2 := Hsum.out
      clear hib
      go_wp2_with fail
      refine (Tryd.Builder_String_any w.heap.size w.heap.size (join L recT) _ hb' (by omega)).mono ?_
      rintro e w3 ⟨rfl, hB3⟩
      clear hb' hs2
      go_wp2_with fail
      go_ret
      exact ⟨rfl, Hbe.out.trans hB3⟩
end Wi
end Go.Proofs.YthcmlbbbbcinkaaDoor
