/-
  The walk of sap.ReadRow. The walks of the reference of layer 1: Num, Text, Row, ReadNum, ReadText, ReadRow, Same. The walks of the reference of layer 1: Text, Row, ReadNum. The walks of the reference of layer 1: ReadNum (where there is a number), ReadText, ReadRow, Same. The walks of the reference of layer 1: ReadText, ReadRow, Same.
-/
import Derived.Test.YthcmlbbbbcinkaaDoorSapD
import Derived.Test.YthcmlbbbbcinkaaDoorLibB
set_option linter.unusedVariables false
set_option linter.unusedSimpArgs false
namespace Go.Proofs.YthcmlbbbbcinkaaDoor
open Go.RowKit Pl
attribute [local go_sem] Lb.ba_get Lb.ba_cut Lb.ba_add Lb.ba_size Lb.take_rest

theorem str_infoS : (Tryd.prog.info? 9).map (fun i => (i.zero, i.size, i.bytes)) = some (some (.string ByteArray.empty), 1, 16) := by kernel_rfl

def strV (s : List UInt8) : Value := .string ⟨s.toArray⟩
def rowV (ls : List (List UInt8)) : List Value := ls.map strV

def RowYes (w : World) (ts : List (List UInt8)) (r : List UInt8) (e : Ending) (w' : World) : Prop :=
  ∃ A cap, e = .returned (.tuple #[.slice A ts.length cap, .string ⟨r.toArray⟩, .bool true]) ∧ w'.ownsRow w.heap.size 9 1 (.slice A ts.length cap) ts.length (rowV ts) ∧ Below w.heap.size w w'

theorem readRow_early {l : List UInt8} {most : Int} (h : ∀ n r, rdNum l = some (n, r) → ¬ (0 ≤ n ∧ n ≤ most ∧ n ≤ r.length)) (w : World) (h0 : l.length < 9223372036854775000) :
    Calls Tryd.prog 28 #[.string ⟨l.toArray⟩, .int .i64 most] w fun e w' => e = .returned (.tuple #[.slice none 0 0, .string ⟨#[]⟩, .bool false]) ∧ Below w.heap.size w w' := by
  have hc : ∃ n r, ∀ w : World, Calls Tryd.prog 55 #[.string ⟨l.toArray⟩, .int .i64 most] w fun e w' => e = .returned (.tuple #[.int .i64 n, .string ⟨List.toArray r⟩, .bool false]) ∧ Below w.heap.size w w' := by
    cases hr : rdNum l with
    | none => exact ⟨0, [], fun w => count_none most hr w (by omega)⟩
    | some p => exact ⟨p.1, p.2, fun w => count_no most hr (h _ _ hr) w (by omega)⟩
  obtain ⟨n, r, hc⟩ := hc
  have Hc := Lib.hid hc
  clear hc h
  go_enter Tryd.func28, Tryd.ntmps28
  go_wp2_with (go_at_call 55; refine (Hc.out _).mono ?_; rintro e w1 ⟨rfl, hB⟩)
  go_ret3
  exact ⟨rfl, hB⟩

def RowEnd (w : World) (n : Nat) (q : List UInt8) (e : Ending) (w' : World) : Prop :=
  match rdTexts n q with
  | some (ts, r) => RowYes w ts r e w'
  | none => e = .returned (.tuple #[.slice none 0 0, .string ⟨#[]⟩, .bool false]) ∧ Below w.heap.size w w'

set_option maxHeartbeats 2000000 in
theorem readRow_go {l q : List UInt8} {n : Nat} {most : Int} (h : rdNum l = some ((n : Int), q)) (h1 : (n : Int) ≤ most) (h2 : n ≤ q.length) (hn : n ≤ 4294967296) (w : World) (h0 : l.length < 9223372036854775000) :
    Calls Tryd.prog 28 #[.string ⟨l.toArray⟩, .int .i64 most] w (RowEnd w n q) := by
  obtain ⟨i0, hi0, hz0, hz1, hz2⟩ := info_parts str_infoS
  have hql := (rdNum_bounds h).2.2
  have Hc := Lib.hid (count_yes h h1 h2)
  clear h
  have hq0 : q.length < 9223372036854775000 := by omega
  go_enter Tryd.func28, Tryd.ntmps28
  go_wp2_with (go_at_call 55; refine (Hc.out _ (by omega)).mono ?_; rintro e w1 ⟨rfl, hB⟩)
  go_loopw [10, 8, 24] (fun v s p wr => ∃ (i : Nat) (ts : List (List UInt8)) (r : List UInt8) (A : Option Addr) (cap : Nat), i ≤ n ∧ p = .int .i64 i ∧ s = .string ⟨r.toArray⟩ ∧ v = .slice A ts.length cap ∧ rdTexts i q = some (ts, r) ∧
      wr.ownsRow w.heap.size 9 1 (.slice A ts.length cap) ts.length (rowV ts) ∧ Below w.heap.size w wr) (fun _ _ p _ => n - (intOf p).toNat)
  case atStart => exact ⟨0, [], q, none, 0, by omega, rfl, rfl, rfl, rfl, World.ownsRow_nil _ _ _ _, hB⟩
  case round =>
    obtain ⟨i, ts, r, A, cap, hi, rfl, rfl, rfl, hrd, hown, hbe⟩ := hrel
    have hsz := hbe.size
    obtain ⟨htl, hrl⟩ := rdTexts_length hrd
    by_cases hin : i < n
    · cases ht : rdText r r.length with
      | none =>
        have Hend : Hid (rdTexts n q = none) := by
          have h3 : rdTexts (i + 1) q = none := by rw [rdTexts_snoc, hrd]; simp only; rw [ht]
          have := rdTexts_none_mono (i + 1) (n - (i + 1)) q h3
          rw [show i + 1 + (n - (i + 1)) = n from by omega] at this
          exact this
        have Ht := Lib.hid ht
        have Hrd := Lib.hid hrd
        clear ht hrd htl hown
        go_wp2_with (go_at_call 56; refine (readText_none Ht.out _ (by omega)).mono ?_; rintro e w2 ⟨rfl, hB2⟩)
        go_ret3
        unfold RowEnd
        rw [Hend.out]
        exact ⟨rfl, hbe.trans (hB2.mono (by omega))⟩
      | some p =>
        obtain ⟨t, r'⟩ := p
        have Ht := Lib.hid ht
        have Hrd : Hid (rdTexts (i + 1) q = some (ts ++ [t], r')) := Lib.hid (by rw [rdTexts_snoc, hrd]; simp only; rw [ht])
        have hrl' := rdText_len ht
        have Htl := Lib.hid htl
        have htl' : ts.length ≤ n := by omega
        clear ht hrd htl
        go_wp2_with fail
        refine (readText_some Ht.out _ (by omega)).mono ?_
        rintro e w2 ⟨rfl, hB2⟩
        have hown2 := owns_below hown hB2
        have hsz2 := hB2.size
        clear hown
        go_wp2_with (at_builtin; refine wpList_append_own _ rfl _ _ 54 rfl w.heap.size 9 i0 (.string ByteArray.empty) 1 16 Tryd.underlying54 hi0 hz0 hz1 hz2 rfl (by decide) _ _ _ rfl (hown2.alloc _) ⟨w2.heap.size, 0, none⟩ 1 1 [.string ⟨t.toArray⟩] rfl rfl ?c1 ?c2 ?c3 ?c4 ?c5 ?_)
        case c1 => exact cell_one_new _ _ _
        case c2 => intro u hu; simp at hu; subst hu; rfl
        case c3 => unfold maxLen; omega
        case c4 => omega
        case c5 => simp; omega
        intro v' w3 hown3 hgrow _
        obtain ⟨A', cap', rfl⟩ : ∃ A' cap', v' = .slice A' (ts.length + 1) cap' := by
          rcases hown3.2 with ⟨_, h⟩ | ⟨g, cap, cur, hv, _⟩
          · omega
          · exact ⟨_, _, hv⟩
        have hbe3 : Below w.heap.size w w3 := ((hbe.trans (hB2.mono (by omega))).alloc (by omega) _).grown hgrow (by simp; omega) (fun k hk => (hown2.lt k hk).1)
        have Hown : Hid (w3.ownsRow w.heap.size 9 1 (.slice A' (ts ++ [t]).length cap') (ts ++ [t]).length (rowV (ts ++ [t]))) := Lib.hid (by simpa [rowV, strV] using hown3)
        clear hown3 hgrow hown2 hB2 hsz2 hbe hsz
        go_wp2
        go_roundw
        case rel => exact ⟨i + 1, ts ++ [t], r', A', cap', by omega, by go_num, rfl, by simp, Hrd.out, Hown.out, hbe3⟩
        case measure => simp [intOf]; omega
    · obtain rfl : i = n := by omega
      have Hrd := Lib.hid hrd
      clear hrd htl
      go_wp2
      go_ret3
      unfold RowEnd
      rw [Hrd.out]
      exact ⟨A, cap, rfl, hown, hbe⟩

theorem readRow_none {l : List UInt8} {most : Int} (h : rdRow l most = none) (hm : most ≤ 4294967296 ∨ l.length ≤ 4294967296) (w : World) (h0 : l.length < 9223372036854775000) :
    Calls Tryd.prog 28 #[.string ⟨l.toArray⟩, .int .i64 most] w fun e w' => e = .returned (.tuple #[.slice none 0 0, .string ⟨#[]⟩, .bool false]) ∧ Below w.heap.size w w' := by
  unfold rdRow at h
  cases hr : rdNum l with
  | none => exact readRow_early (fun n r hh => by rw [hr] at hh; cases hh) w h0
  | some p =>
    obtain ⟨n, q⟩ := p
    rw [hr] at h
    simp only at h
    split at h
    · rename_i hy
      obtain ⟨k, rfl⟩ : ∃ k : Nat, n = k := ⟨n.toNat, by omega⟩
      refine (readRow_go hr hy.2.1 (by omega) (by have := (rdNum_bounds hr).2.2; omega) w h0).mono fun e w' he => ?_
      unfold RowEnd at he
      rw [show rdTexts k q = none from by simpa using h] at he
      exact he
    · rename_i hy
      exact readRow_early (fun n' r' hh => by rw [hr] at hh; cases hh; exact hy) w h0

theorem readRow_some {l r : List UInt8} {ts : List (List UInt8)} {most : Int} (h : rdRow l most = some (ts, r)) (hm : most ≤ 4294967296 ∨ l.length ≤ 4294967296) (w : World) (h0 : l.length < 9223372036854775000) :
    Calls Tryd.prog 28 #[.string ⟨l.toArray⟩, .int .i64 most] w (RowYes w ts r) := by
  unfold rdRow at h
  cases hr : rdNum l with
  | none => rw [hr] at h; cases h
  | some p =>
    obtain ⟨n, q⟩ := p
    rw [hr] at h
    simp only at h
    split at h
    · rename_i hy
      obtain ⟨k, rfl⟩ : ∃ k : Nat, n = k := ⟨n.toNat, by omega⟩
      refine (readRow_go hr hy.2.1 (by omega) (by have := (rdNum_bounds hr).2.2; omega) w h0).mono fun e w' he => ?_
      unfold RowEnd at he
      rw [show rdTexts k q = some (ts, r) from by simpa using h] at he
      exact he
    · cases h

end Go.Proofs.YthcmlbbbbcinkaaDoor

set_option linter.unusedVariables false
set_option linter.unusedSimpArgs false
namespace Go.Proofs.YthcmlbbbbcinkaaDoor
open Go.RowKit Pl
attribute [local go_sem] Lb.ba_get Lb.ba_cut Lb.ba_add Lb.ba_size Lb.take_rest

end Go.Proofs.YthcmlbbbbcinkaaDoor

set_option linter.unusedVariables false
set_option linter.unusedSimpArgs false
namespace Go.Proofs.YthcmlbbbbcinkaaDoor
open Go.RowKit Pl
attribute [local go_sem] Lb.ba_get Lb.ba_cut Lb.ba_add Lb.ba_size Lb.take_rest

end Go.Proofs.YthcmlbbbbcinkaaDoor

set_option linter.unusedVariables false
set_option linter.unusedSimpArgs false
namespace Go.Proofs.YthcmlbbbbcinkaaDoor
open Go.RowKit Pl
theorem cut_head (b : UInt8) (l : List UInt8) (i : Nat) : ((b :: l).drop (1 + i)).take (l.length + 1 - (1 + i)) = l.drop i := by
  rw [Nat.add_comm 1 i, List.drop_succ_cons]; exact List.take_of_length_le (by simp)
attribute [local go_sem] cut_head Lb.ba_get Lb.ba_cut Lb.ba_add Lb.ba_size Lb.take_rest

end Go.Proofs.YthcmlbbbbcinkaaDoor

set_option linter.unusedVariables false
set_option linter.unusedSimpArgs false
namespace Go.Proofs.YthcmlbbbbcinkaaDoor
open Go.RowKit Pl
attribute [local go_sem] Lb.ba_get Lb.ba_cut Lb.ba_add Lb.ba_size Lb.take_rest

def sameB (a b : List (List UInt8)) : Bool := decide (a = b)

end Go.Proofs.YthcmlbbbbcinkaaDoor
