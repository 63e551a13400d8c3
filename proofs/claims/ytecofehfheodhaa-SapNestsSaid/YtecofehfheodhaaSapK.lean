/-
  What reading comes to, as one contract each; SapOne's walk.
-/
import Derived.Test.YtecofehfheodhaaSapJ
import Derived.Test.YtecofehfheodhaaPlainC
import Derived.Deep.DeepCutAuto
set_option linter.unusedVariables false
set_option linter.unusedSimpArgs false
namespace Go.Proofs.Ytecofehfheodhaa
open Go.RowKit Pl
attribute [local go_sem] Lb.ba_get Lb.ba_cut Lb.ba_add Lb.ba_size Lb.take_rest

/-- a number that is read or none -/
def GotNum (l : List UInt8) (n : Int) (r : List UInt8) (ok : Bool) : Prop := (ok = true ∧ rdNum l = some (n, r)) ∨ (ok = false ∧ rdNum l = none ∧ n = 0 ∧ r = [])
def GotText (l : List UInt8) (most : Int) (t r : List UInt8) (ok : Bool) : Prop := (ok = true ∧ rdText l most = some (t, r)) ∨ (ok = false ∧ rdText l most = none ∧ t = [] ∧ r = [])
def GotRow (w' : World) (B : Nat) (l : List UInt8) (most : Int) (A : Option Addr) (cap : Nat) (ts : List (List UInt8)) (r : List UInt8) (ok : Bool) : Prop :=
  ((ok = true ∧ rdRow l most = some (ts, r)) ∨ (ok = false ∧ rdRow l most = none ∧ ts = [] ∧ r = [])) ∧ Strs w' w'.heap.size A ts ∧ ts.length ≤ 4294967296

def NumPost (l : List UInt8) (w : World) (e : Ending) (w' : World) : Prop := ∃ n r ok, e = .returned (.tuple #[.int .i64 n, .string ⟨List.toArray r⟩, .bool ok]) ∧ GotNum l n r ok ∧ Below w.heap.size w w'
def TextPost (l : List UInt8) (most : Int) (w : World) (e : Ending) (w' : World) : Prop := ∃ t r ok, e = .returned (.tuple #[.string ⟨List.toArray t⟩, .string ⟨List.toArray r⟩, .bool ok]) ∧ GotText l most t r ok ∧ Below w.heap.size w w'
def RowPost (l : List UInt8) (most : Int) (w : World) (e : Ending) (w' : World) : Prop := ∃ A cap ts r ok, e = .returned (.tuple #[.slice A (List.length ts) cap, .string ⟨List.toArray r⟩, .bool ok]) ∧ GotRow w' w.heap.size l most A cap ts r ok ∧ Below w.heap.size w w'

theorem readNum_c (l : List UInt8) (h0 : l.length < 9223372036854775000) (w : World) : Calls Try.prog 22 #[.string ⟨l.toArray⟩] w (NumPost l w) := by
  cases h : rdNum l with
  | none => exact (readNum_none h w (by omega)).mono fun e w' ⟨he, hB⟩ => ⟨0, [], false, he, .inr ⟨rfl, h, rfl, rfl⟩, hB⟩
  | some p => exact (readNum_some h w (by omega)).mono fun e w' ⟨he, hB⟩ => ⟨p.1, p.2, true, he, .inl ⟨rfl, h⟩, hB⟩
theorem refReadNum_c (l : List UInt8) (h0 : l.length < 9223372036854775000) (w : World) : Calls Try.prog 23 #[.string ⟨l.toArray⟩] w (NumPost l w) := by
  cases h : rdNum l with
  | none => exact (refReadNum_none h w (by omega)).mono fun e w' ⟨he, hB⟩ => ⟨0, [], false, he, .inr ⟨rfl, h, rfl, rfl⟩, hB⟩
  | some p => exact (refReadNum_some h w (by omega)).mono fun e w' ⟨he, hB⟩ => ⟨p.1, p.2, true, he, .inl ⟨rfl, h⟩, hB⟩
theorem readText_c (l : List UInt8) (most : Int) (h0 : l.length < 9223372036854775000) (w : World) : Calls Try.prog 24 #[.string ⟨l.toArray⟩, .int .i64 most] w (TextPost l most w) := by
  cases h : rdText l most with
  | none => exact (readText_none h w (by omega)).mono fun e w' ⟨he, hB⟩ => ⟨[], [], false, he, .inr ⟨rfl, h, rfl, rfl⟩, hB⟩
  | some p => exact (readText_some h w (by omega)).mono fun e w' ⟨he, hB⟩ => ⟨p.1, p.2, true, he, .inl ⟨rfl, h⟩, hB⟩
theorem refReadText_c (l : List UInt8) (most : Int) (h0 : l.length < 9223372036854775000) (w : World) : Calls Try.prog 25 #[.string ⟨l.toArray⟩, .int .i64 most] w (TextPost l most w) := by
  cases h : rdText l most with
  | none => exact (refReadText_none h w (by omega)).mono fun e w' ⟨he, hB⟩ => ⟨[], [], false, he, .inr ⟨rfl, h, rfl, rfl⟩, hB⟩
  | some p => exact (refReadText_some h w (by omega)).mono fun e w' ⟨he, hB⟩ => ⟨p.1, p.2, true, he, .inl ⟨rfl, h⟩, hB⟩

theorem rdRow_len {l r : List UInt8} {ts : List (List UInt8)} {most : Int} (h : rdRow l most = some (ts, r)) : (ts.length : Int) ≤ most ∧ ts.length ≤ l.length := by
  unfold rdRow at h
  cases hr : rdNum l with
  | none => rw [hr] at h; cases h
  | some p =>
    obtain ⟨n, q⟩ := p
    rw [hr] at h
    simp only at h
    split at h
    · rename_i hy
      have h1 := (rdTexts_length h).1
      have := (rdNum_bounds hr).2.2
      omega
    · cases h

theorem readRow_c (l : List UInt8) (most : Int) (hm : most ≤ 4294967296 ∨ l.length ≤ 4294967296) (h0 : l.length < 9223372036854775000) (w : World) : Calls Try.prog 26 #[.string ⟨l.toArray⟩, .int .i64 most] w (RowPost l most w) := by
  cases h : rdRow l most with
  | none => exact (readRow_none h hm w h0).mono fun e w' ⟨he, hB⟩ => ⟨none, 0, [], [], false, he, ⟨.inr ⟨rfl, h, rfl, rfl⟩, fun i hi => absurd hi (by simp), by simp⟩, hB⟩
  | some p =>
    have hl := rdRow_len h
    exact (readRow_some h hm w h0).mono fun e w' ⟨A, cap, he, hown, hB⟩ => ⟨A, cap, p.1, p.2, true, he, ⟨.inl ⟨rfl, h⟩, strs_of_own (ls := p.1) hown rfl, by omega⟩, hB⟩
theorem refReadRow_c (l : List UInt8) (most : Int) (hm : most ≤ 4294967296 ∨ l.length ≤ 4294967296) (h0 : l.length < 9223372036854775000) (w : World) : Calls Try.prog 27 #[.string ⟨l.toArray⟩, .int .i64 most] w (RowPost l most w) := by
  cases h : rdRow l most with
  | none => exact (refReadRow_none h hm w h0).mono fun e w' ⟨he, hB⟩ => ⟨none, 0, [], [], false, he, ⟨.inr ⟨rfl, h, rfl, rfl⟩, fun i hi => absurd hi (by simp), by simp⟩, hB⟩
  | some p =>
    have hl := rdRow_len h
    exact (refReadRow_some h hm w h0).mono fun e w' ⟨A, cap, he, hown, hB⟩ => ⟨A, cap, p.1, p.2, true, he, ⟨.inl ⟨rfl, h⟩, strs_of_own (ls := p.1) hown rfl, by omega⟩, hB⟩

set_option maxHeartbeats 4000000 in
set_option maxRecDepth 100000 in
theorem sapOne_long (l : List UInt8) (w : World) (h0 : l.length ≤ 9223372036854775807) (h : 4096 < l.length) :
    Calls Try.prog 6 #[.string ⟨l.toArray⟩] w fun e w' => e = .returned (.bool true) ∧ Below w.heap.size w w' := by
  go_enter Try.func6, Try.ntmps6
  go_wp2_with (go_at_call 15; refine (awake_any _).mono ?_; rintro e w1 ⟨rfl, hB⟩)
  go_ret
  exact ⟨rfl, hB⟩

set_option maxHeartbeats 4000000 in
set_option maxRecDepth 100000 in
theorem sapOne_go (l : List UInt8) (w : World) (h : l.length ≤ 4096) :
    Calls Try.prog 6 #[.string ⟨l.toArray⟩] w fun e w' => e = .returned (.bool true) ∧ Below w.heap.size w w' := by
  go_enter Try.func6, Try.ntmps6
  go_wp2_with fail
  refine (awake_any _).mono ?_
  rintro e w1 ⟨rfl, hB⟩
  go_wp2_with fail
  refine (readNum_c l (by omega) _).mono ?_
  rintro e w2 ⟨n, r, ok, rfl, hg, hB2⟩
  have hb2 : Below w.heap.size w w2 := hB.trans (hB2.mono hB.size)
  clear hB hB2
  have Hg := Lib.hid hg
  clear hg
  go_upto_region 6 with fail
  go_cut [39] (fun s wx => s = .bool false ∧ Below w.heap.size w wx)
  case first =>
    rcases Hg.out with ⟨rfl, hg⟩ | ⟨rfl, hg, rfl, rfl⟩
    · have hn := rdNum_bounds hg
      have hl := num_of_rd hg
      have hb : ((num n ++ r) == l) = true := by simp [hl]
      have hll : (num n ++ r).length ≤ 4096 := by rw [hl]; exact h
      rw [List.length_append] at hll
      clear hl hg
      go_wp2_with fail
      refine (num_any n _ hn.1 hn.2.1).mono ?_
      rintro e w3 ⟨rfl, hB⟩
      go_wp2_with fail
      go_meet
      case rel => exact ⟨rfl, hb2.trans (hB.mono hb2.size)⟩
    · clear hg
      go_wp2_with fail
      go_meet
      case rel => exact ⟨rfl, hb2⟩
  case rest =>
    obtain ⟨rfl, hb3⟩ := hcut
    clear Hg hb2
    go_wp2_with fail
    refine (readText_c l 4096 (by omega) _).mono ?_
    rintro e w4 ⟨t, r2, ok2, rfl, hg, hB4⟩
    have hb4 : Below w.heap.size w w4 := hb3.trans (hB4.mono hb3.size)
    clear hb3 hB4
    have Hg := Lib.hid hg
    clear hg
    go_upto_region 9 with fail
    go_cut [66] (fun s wx => s = .bool false ∧ Below w.heap.size w wx)
    case first =>
      rcases Hg.out with ⟨rfl, hg⟩ | ⟨rfl, hg, rfl, rfl⟩
      · have hl := text_of_rd hg
        have hb : ((textB t ++ r2) == l) = true := by simp [hl]
        have hll : (textB t ++ r2).length ≤ 4096 := by rw [hl]; exact h
        rw [List.length_append] at hll
        have htl : t.length ≤ (textB t).length := by simp [textB]
        clear hl hg
        go_wp2_with fail
        refine (text_B t _ (by omega)).mono ?_
        rintro e w5 ⟨rfl, hB⟩
        go_wp2_with fail
        go_meet
        case rel => exact ⟨rfl, hb4.trans (hB.mono hb4.size)⟩
      · clear hg
        go_wp2_with fail
        go_meet
        case rel => exact ⟨rfl, hb4⟩
    case rest =>
      obtain ⟨rfl, hb5⟩ := hcut
      clear Hg hb4
      go_wp2_with fail
      refine (readRow_c l 4096 (.inl (by omega)) (by omega) _).mono ?_
      rintro e w6 ⟨A, cap, ts, r3, ok3, rfl, ⟨hg, hS, htl⟩, hB6⟩
      have hb6 : Below w.heap.size w w6 := hb5.trans (hB6.mono hb5.size)
      clear hb5 hB6
      have HS := Lib.hid hS
      clear hS
      rcases hg with ⟨rfl, hg⟩ | ⟨rfl, hg, rfl, rfl⟩
      · have hl := row_of_rd hg
        have hb : ((rowB ts ++ r3) == l) = true := by simp [hl]
        have hll : (rowB ts ++ r3).length ≤ 4096 := by rw [hl]; exact h
        rw [List.length_append] at hll
        clear hl hg
        go_wp2_with fail
        refine (row_any A cap ts _ HS.out (by omega)).mono ?_
        rintro e w7 ⟨rfl, hB7⟩
        go_wp2
        go_ret
        exact ⟨rfl, hb6.trans (hB7.mono hb6.size)⟩
      · clear hg
        go_wp2
        go_ret
        exact ⟨rfl, hb6⟩
end Go.Proofs.Ytecofehfheodhaa
