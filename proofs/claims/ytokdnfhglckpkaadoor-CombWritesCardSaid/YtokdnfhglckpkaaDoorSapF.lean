/-
  The walks of the reference of layer 1: Num, Text, Row, ReadNum, ReadText, ReadRow, Same.
-/
import Derived.Test.YtokdnfhglckpkaaDoorSapE
import Derived.Test.YtokdnfhglckpkaaDoorLibB
set_option linter.unusedVariables false
set_option linter.unusedSimpArgs false
namespace Go.Proofs.YtokdnfhglckpkaaDoor
open Go.RowKit Pl
attribute [local go_sem] Lb.ba_get Lb.ba_cut Lb.ba_add Lb.ba_size Lb.take_rest

set_option maxHeartbeats 2000000 in
set_option maxRecDepth 100000 in
theorem refNum_pos (m : Nat) (w : World) (hm : m < 9223372036854775808) :
    Calls Tryd.prog 60 #[.int .i64 m] w fun e w' => e = .returned (.string ⟨(num m).toArray⟩) ∧ Below w.heap.size w w' := by
  obtain ⟨i0, hi0, hz0, hz1, hz2⟩ := info_parts byte_info
  have hbl := be_length_le 8 m (by omega)
  have h00 : ¬ (m : Int) < 0 := by omega
  go_enter Tryd.func60, Tryd.ntmps60
  go_wp2
  go_loopw [0, 4] (fun v b wr => ∃ (q : Nat) (ds : List UInt8) (g cap : Nat), v = .int .i64 q ∧ b = .slice (some ⟨g, 0, none⟩) ds.length cap ∧ be m = be q ++ ds ∧
      wr.ownsRow w.heap.size 5 1 (.slice (some ⟨g, 0, none⟩) ds.length cap) ds.length (Lib.byteCells ds) ∧ Below w.heap.size w wr) (fun v _ _ => (intOf v).toNat)
  case atStart => exact ⟨m, [], w.heap.size, 0, rfl, rfl, by simp, ⟨rfl, .inr ⟨w.heap.size, 0, #[], rfl, Nat.le_refl _, heap_alloc_new w _, Nat.le_refl _, by unfold maxLen; omega, rfl, rfl⟩⟩, (Below.refl _ _).alloc (Nat.le_refl _) _⟩
  case round =>
    obtain ⟨q, ds, g, cap, rfl, rfl, hbe, hown, hb⟩ := hrel
    have hsz := hb.size
    have hq9 : (q : Int) ≤ 9223372036854775807 := by have := be_le m q ds hbe; omega
    have hdl : ds.length ≤ 8 := by have := congrArg List.length hbe; rw [List.length_append] at this; omega
    by_cases hq0 : 0 < q
    · have Hbe : Hid (be m = be (q / 256) ++ (UInt8.ofNat (q % 256) :: ds)) := Lib.hid (by rw [hbe, be_pos hq0]; simp)
      have hlit := World.ownsRow_lit (e := 5) (size := 1) (base := w.heap.size) wr #[.int .u8 ((q : Int) % 256)] 1 hsz (by unfold maxLen; omega) rfl
      have hold := hown.alloc (.cells #[.int .u8 ((q : Int) % 256)] 5)
      have hcl := hold.cells (g := g) rfl
      clear hbe
      go_wp2_with (at_builtin; refine wpList_append_own _ rfl _ _ 45 rfl w.heap.size 5 i0 (.int .u8 0) 1 1 Tryd.underlying45 hi0 hz0 hz1 hz2 rfl (by decide) _ _ _ rfl hlit ⟨g, 0, none⟩ ds.length cap (Lib.byteCells ds) rfl (by simp [Lib.byteCells]) hcl ?c2 ?c3 ?c4 ?c5 ?_)
      case c2 => intro u hu; simp only [Lib.byteCells, List.mem_map] at hu; obtain ⟨_, _, rfl⟩ := hu; rfl
      case c3 => unfold maxLen; omega
      case c4 => omega
      case c5 => first | omega | (simp; omega)
      intro v' w3 hown3 hgrow _
      obtain ⟨g', cap', rfl⟩ : ∃ g' cap', v' = .slice (some ⟨g', 0, none⟩) (1 + ds.length) cap' := by
        rcases hown3.2 with ⟨_, h⟩ | ⟨g, cap, cur, hv, _⟩
        · omega
        · exact ⟨_, _, hv⟩
      have hb3 : Below w.heap.size w w3 := (hb.alloc hsz _).grown hgrow (by simp; omega) (fun k hk => (hlit.lt k hk).1)
      have Hown : Hid (w3.ownsRow w.heap.size 5 1 (.slice (some ⟨g', 0, none⟩) (UInt8.ofNat (q % 256) :: ds).length cap') (UInt8.ofNat (q % 256) :: ds).length (Lib.byteCells (UInt8.ofNat (q % 256) :: ds))) := Lib.hid (by
        have e1 : (UInt8.ofNat (q % 256) :: ds).length = 1 + ds.length := by simp; omega
        rw [e1]
        simpa [Lib.byteCells] using hown3)
      clear hown3 hgrow hown hold hcl hlit hb hsz
      go_wp2
      go_roundw
      case rel => exact ⟨q / 256, UInt8.ofNat (q % 256) :: ds, g', cap', by go_num, by simp; omega, Hbe.out, Hown.out, hb3⟩
      case measure => simp [intOf]; omega
    · obtain rfl : q = 0 := by omega
      rw [be_zero, List.nil_append] at hbe
      have Hfin := Lib.hid (num_last (n := m) 0 (.inl ⟨rfl, rfl⟩) hbe (L := ds.length) rfl hdl)
      have hc1 := Lb.run_str_one (P := Tryd.prog) (src := 45) (dst := 9) (e := 5) (t := 5) (fr := (0, 0)) Tryd.underlying45 Tryd.underlying5 Tryd.underlying9 (b := wr.heap.size) (x := (ds.length : Int)) (by omega) (by omega)
        (wr.alloc (.cells #[.int .u8 (ds.length : Int)] 5)) (heap_alloc_new _ _) 1
      have hc2 := Lb.run_str_own (P := Tryd.prog) (src := 45) (dst := 9) (e := 5) Tryd.underlying45 Tryd.underlying5 Tryd.underlying9 _ (hown.alloc (.cells #[.int .u8 (ds.length : Int)] 5))
      clear hown hbe
      go_wp2
      go_ret
      exact ⟨by rw [← Hfin.out]; clear hc1 hc2; simp; exact (ByteArray.mk_append_mk [_] ds).symm, hb.alloc hsz _⟩
set_option maxHeartbeats 2000000 in
set_option maxRecDepth 100000 in
theorem refNum_neg (m : Nat) (w : World) (hm : m < 9223372036854775808) :
    Calls Tryd.prog 60 #[.int .i64 (-1 - (m : Int))] w fun e w' => e = .returned (.string ⟨(num (-1 - (m : Int))).toArray⟩) ∧ Below w.heap.size w w' := by
  obtain ⟨i0, hi0, hz0, hz1, hz2⟩ := info_parts byte_info
  have hbl := be_length_le 8 m (by omega)
  have h00 : (-1 - (m : Int)) < 0 := by omega
  have hx2 : -1 - (-1 - (m : Int)) = m := by omega
  go_enter Tryd.func60, Tryd.ntmps60
  go_wp2
  go_loopw [0, 4] (fun v b wr => ∃ (q : Nat) (ds : List UInt8) (g cap : Nat), v = .int .i64 q ∧ b = .slice (some ⟨g, 0, none⟩) ds.length cap ∧ be m = be q ++ ds ∧
      wr.ownsRow w.heap.size 5 1 (.slice (some ⟨g, 0, none⟩) ds.length cap) ds.length (Lib.byteCells ds) ∧ Below w.heap.size w wr) (fun v _ _ => (intOf v).toNat)
  case atStart => exact ⟨m, [], w.heap.size, 0, rfl, rfl, by simp, ⟨rfl, .inr ⟨w.heap.size, 0, #[], rfl, Nat.le_refl _, heap_alloc_new w _, Nat.le_refl _, by unfold maxLen; omega, rfl, rfl⟩⟩, (Below.refl _ _).alloc (Nat.le_refl _) _⟩
  case round =>
    obtain ⟨q, ds, g, cap, rfl, rfl, hbe, hown, hb⟩ := hrel
    have hsz := hb.size
    have hq9 : (q : Int) ≤ 9223372036854775807 := by have := be_le m q ds hbe; omega
    have hdl : ds.length ≤ 8 := by have := congrArg List.length hbe; rw [List.length_append] at this; omega
    by_cases hq0 : 0 < q
    · have Hbe : Hid (be m = be (q / 256) ++ (UInt8.ofNat (q % 256) :: ds)) := Lib.hid (by rw [hbe, be_pos hq0]; simp)
      have hlit := World.ownsRow_lit (e := 5) (size := 1) (base := w.heap.size) wr #[.int .u8 ((q : Int) % 256)] 1 hsz (by unfold maxLen; omega) rfl
      have hold := hown.alloc (.cells #[.int .u8 ((q : Int) % 256)] 5)
      have hcl := hold.cells (g := g) rfl
      clear hbe
      go_wp2_with (at_builtin; refine wpList_append_own _ rfl _ _ 45 rfl w.heap.size 5 i0 (.int .u8 0) 1 1 Tryd.underlying45 hi0 hz0 hz1 hz2 rfl (by decide) _ _ _ rfl hlit ⟨g, 0, none⟩ ds.length cap (Lib.byteCells ds) rfl (by simp [Lib.byteCells]) hcl ?c2 ?c3 ?c4 ?c5 ?_)
      case c2 => intro u hu; simp only [Lib.byteCells, List.mem_map] at hu; obtain ⟨_, _, rfl⟩ := hu; rfl
      case c3 => unfold maxLen; omega
      case c4 => omega
      case c5 => first | omega | (simp; omega)
      intro v' w3 hown3 hgrow _
      obtain ⟨g', cap', rfl⟩ : ∃ g' cap', v' = .slice (some ⟨g', 0, none⟩) (1 + ds.length) cap' := by
        rcases hown3.2 with ⟨_, h⟩ | ⟨g, cap, cur, hv, _⟩
        · omega
        · exact ⟨_, _, hv⟩
      have hb3 : Below w.heap.size w w3 := (hb.alloc hsz _).grown hgrow (by simp; omega) (fun k hk => (hlit.lt k hk).1)
      have Hown : Hid (w3.ownsRow w.heap.size 5 1 (.slice (some ⟨g', 0, none⟩) (UInt8.ofNat (q % 256) :: ds).length cap') (UInt8.ofNat (q % 256) :: ds).length (Lib.byteCells (UInt8.ofNat (q % 256) :: ds))) := Lib.hid (by
        have e1 : (UInt8.ofNat (q % 256) :: ds).length = 1 + ds.length := by simp; omega
        rw [e1]
        simpa [Lib.byteCells] using hown3)
      clear hown3 hgrow hown hold hcl hlit hb hsz
      go_wp2
      go_roundw
      case rel => exact ⟨q / 256, UInt8.ofNat (q % 256) :: ds, g', cap', by go_num, by simp; omega, Hbe.out, Hown.out, hb3⟩
      case measure => simp [intOf]; omega
    · obtain rfl : q = 0 := by omega
      rw [be_zero, List.nil_append] at hbe
      have Hfin := Lib.hid (num_last (n := -1 - (m : Int)) 128 (.inr ⟨rfl, rfl⟩) hbe (L := ds.length) rfl hdl)
      have hc1 := Lb.run_str_one (P := Tryd.prog) (src := 45) (dst := 9) (e := 5) (t := 5) (fr := (0, 0)) Tryd.underlying45 Tryd.underlying5 Tryd.underlying9 (b := wr.heap.size) (x := 128 + (ds.length : Int)) (by omega) (by omega)
        (wr.alloc (.cells #[.int .u8 (128 + (ds.length : Int))] 5)) (heap_alloc_new _ _) 1
      have hc2 := Lb.run_str_own (P := Tryd.prog) (src := 45) (dst := 9) (e := 5) Tryd.underlying45 Tryd.underlying5 Tryd.underlying9 _ (hown.alloc (.cells #[.int .u8 (128 + (ds.length : Int))] 5))
      clear hown hbe
      go_wp2
      go_ret
      exact ⟨by rw [← Hfin.out]; clear hc1 hc2; rw [show (128 + (ds.length : Int)).toNat = 128 + ds.length from by omega]; simp; exact (ByteArray.mk_append_mk [_] ds).symm, hb.alloc hsz _⟩

theorem refNum_any (n : Int) (w : World) (h0 : -9223372036854775808 ≤ n) (h1 : n ≤ 9223372036854775807) :
    Calls Tryd.prog 60 #[.int .i64 n] w fun e w' => e = .returned (.string ⟨(num n).toArray⟩) ∧ Below w.heap.size w w' := by
  by_cases h : n < 0
  · obtain ⟨m, rfl⟩ : ∃ m : Nat, n = -1 - (m : Int) := ⟨(-1 - n).toNat, by omega⟩
    exact refNum_neg m w (by omega)
  · obtain ⟨m, rfl⟩ : ∃ m : Nat, n = m := ⟨n.toNat, by omega⟩
    exact refNum_pos m w (by omega)

end Go.Proofs.YtokdnfhglckpkaaDoor
