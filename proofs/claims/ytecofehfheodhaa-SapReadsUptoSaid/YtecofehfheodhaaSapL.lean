/-
  The walks of SapWrites, SapReads, SapMost.
-/
import Derived.Test.YtecofehfheodhaaSapK
set_option linter.unusedVariables false
set_option linter.unusedSimpArgs false
namespace Go.Proofs.Ytecofehfheodhaa
open Go.RowKit Pl
attribute [local go_sem] Lb.ba_get Lb.ba_cut Lb.ba_add Lb.ba_size Lb.take_rest

theorem textB_le9 (s : List UInt8) (h : s.length ≤ 9223372036854775807) : (textB s).length ≤ s.length + 9 := by
  have := num_length s.length (by omega)
  simp [textB]; omega
theorem textsB_le9 (ls : List (List UInt8)) (h : ∀ s ∈ ls, s.length ≤ 9223372036854775807) : (textsB ls).length ≤ 9 * (ls.map fun s => s.length + 1).sum := by
  induction ls with
  | nil => simp [textsB]
  | cons a t ih =>
    have e : textsB (a :: t) = textB a ++ textsB t := by simp [textsB]
    have h1 := textB_le9 a (h a (by simp))
    have h2 := ih (fun s hs => h s (by simp [hs]))
    rw [e, List.length_append, List.map_cons, List.sum_cons]
    omega
theorem rowB_le9 (ls : List (List UInt8)) (hn : ls.length ≤ 9223372036854775807) (h : ∀ s ∈ ls, s.length ≤ 9223372036854775807) : (rowB ls).length ≤ 9 + 9 * (ls.map fun s => s.length + 1).sum := by
  have h1 := num_length ls.length (by omega)
  have h2 := textsB_le9 ls h
  rw [rowB, List.length_append]; omega

theorem GotNum.same {l r r' : List UInt8} {n n' : Int} {ok ok' : Bool} (h : GotNum l n r ok) (h' : GotNum l n' r' ok') : n = n' ∧ r = r' ∧ ok = ok' := by
  rcases h with ⟨rfl, h⟩ | ⟨rfl, h, rfl, rfl⟩ <;> rcases h' with ⟨rfl, h'⟩ | ⟨rfl, h', rfl, rfl⟩ <;> simp_all
theorem GotText.same {l t r t' r' : List UInt8} {most : Int} {ok ok' : Bool} (h : GotText l most t r ok) (h' : GotText l most t' r' ok') : t = t' ∧ r = r' ∧ ok = ok' := by
  rcases h with ⟨rfl, h⟩ | ⟨rfl, h, rfl, rfl⟩ <;> rcases h' with ⟨rfl, h'⟩ | ⟨rfl, h', rfl, rfl⟩ <;> simp_all
theorem GotRow.same {w w' : World} {B B' : Nat} {A A' : Option Addr} {c c' : Nat} {l r r' : List UInt8} {ts ts' : List (List UInt8)} {most : Int} {ok ok' : Bool} (h : GotRow w B l most A c ts r ok) (h' : GotRow w' B' l most A' c' ts' r' ok') : ts = ts' ∧ r = r' ∧ ok = ok' := by
  obtain ⟨h, _⟩ := h
  obtain ⟨h', _⟩ := h'
  rcases h with ⟨rfl, h⟩ | ⟨rfl, h, rfl, rfl⟩ <;> rcases h' with ⟨rfl, h'⟩ | ⟨rfl, h', rfl, rfl⟩ <;> simp_all

theorem sameB_self (a : List (List UInt8)) : sameB a a = true := by simp [sameB]

set_option maxHeartbeats 4000000 in
set_option maxRecDepth 100000 in
theorem sapWrites_long (n : Int) (s : List UInt8) (A : Option Addr) (cap : Nat) (ls : List (List UInt8)) (w : World) (h : 100 < ls.length) (hm : ls.length ≤ 9223372036854775807) :
    Calls Try.prog 3 #[.int .i64 n, .string ⟨s.toArray⟩, .slice A ls.length cap] w fun e w' => e = .returned (.bool true) ∧ Below w.heap.size w w' := by
  go_enter Try.func3, Try.ntmps3
  go_wp2_with (go_at_call 15; refine (awake_any _).mono ?_; rintro e w1 ⟨rfl, hB⟩)
  go_ret
  exact ⟨rfl, hB⟩

set_option maxHeartbeats 4000000 in
set_option maxRecDepth 100000 in
theorem sapWrites_go (n : Int) (s : List UInt8) (A : Option Addr) (cap : Nat) (ls : List (List UInt8)) (w : World) (h0 : -9223372036854775808 ≤ n) (h1 : n ≤ 9223372036854775807) (hs : s.length < 9223372036854775000)
    (hS : Strs w w.heap.size A ls) (hl : ls.length ≤ 100) (hr : (rowB ls).length ≤ 140737488355328) :
    Calls Try.prog 3 #[.int .i64 n, .string ⟨s.toArray⟩, .slice A ls.length cap] w fun e w' => e = .returned (.bool true) ∧ Below w.heap.size w w' := by
  have HS := Lib.hid hS
  clear hS
  go_enter Try.func3, Try.ntmps3
  go_wp2_with fail
  refine (awake_any _).mono ?_
  rintro e w1 ⟨rfl, hB⟩
  go_wp2_with fail
  refine (num_any n _ h0 h1).mono ?_
  rintro e w2 ⟨rfl, hB2⟩
  have b2 := hB.trans (hB2.mono hB.size)
  clear hB hB2
  go_wp2_with fail
  refine (refNum_any n _ h0 h1).mono ?_
  rintro e w3 ⟨rfl, hB3⟩
  have b3 := b2.trans (hB3.mono b2.size)
  clear b2 hB3
  go_wp2_with fail
  refine (text_B s _ hs).mono ?_
  rintro e w4 ⟨rfl, hB4⟩
  have b4 := b3.trans (hB4.mono b3.size)
  clear b3 hB4
  go_wp2_with fail
  refine (refText_any s _ hs).mono ?_
  rintro e w5 ⟨rfl, hB5⟩
  have b5 := b4.trans (hB5.mono b4.size)
  clear b4 hB5
  go_wp2_with fail
  refine (row_any A cap ls _ ((HS.out.below b5 (Nat.le_refl _)).more b5.size) hr).mono ?_
  rintro e w6 ⟨rfl, hB6⟩
  have b6 := b5.trans (hB6.mono b5.size)
  clear b5 hB6
  go_wp2_with fail
  refine (refRow_any A cap ls _ ((HS.out.below b6 (Nat.le_refl _)).more b6.size) hr).mono ?_
  rintro e w7 ⟨rfl, hB7⟩
  have b7 := b6.trans (hB7.mono b6.size)
  clear b6 hB7
  go_wp2
  go_ret
  exact ⟨by simp, b7⟩

set_option maxHeartbeats 4000000 in
set_option maxRecDepth 100000 in
theorem sapReads_go (l : List UInt8) (most : Int) (w : World) (hl : l.length ≤ 4294967296) :
    Calls Try.prog 4 #[.string ⟨l.toArray⟩, .int .i64 most] w fun e w' => e = .returned (.bool true) ∧ Below w.heap.size w w' := by
  go_enter Try.func4, Try.ntmps4
  go_wp2_with fail
  refine (awake_any _).mono ?_
  rintro e w1 ⟨rfl, hB⟩
  go_wp2_with fail
  refine (readNum_c l (by omega) _).mono ?_
  rintro e w2 ⟨n, r, ok, rfl, hg, hB2⟩
  have b2 := hB.trans (hB2.mono hB.size)
  have Hg := Lib.hid hg
  clear hB hB2 hg
  go_wp2_with fail
  refine (refReadNum_c l (by omega) _).mono ?_
  rintro e w3 ⟨n', r', ok', rfl, hg, hB3⟩
  have b3 := b2.trans (hB3.mono b2.size)
  obtain ⟨rfl, rfl, rfl⟩ := Hg.out.same hg
  clear b2 hB3 hg Hg
  have t1 : ((n : Int) != n) = false := by simp
  have t2 : (ok != ok) = false := by simp
  go_wp2_with fail
  refine (readText_c l most (by omega) _).mono ?_
  rintro e w4 ⟨t, r2, ok2, rfl, hg, hB4⟩
  have b4 := b3.trans (hB4.mono b3.size)
  have Hg := Lib.hid hg
  clear b3 hB4 hg
  go_wp2_with fail
  refine (refReadText_c l most (by omega) _).mono ?_
  rintro e w5 ⟨t', r2', ok2', rfl, hg, hB5⟩
  have b5 := b4.trans (hB5.mono b4.size)
  obtain ⟨rfl, rfl, rfl⟩ := Hg.out.same hg
  clear b4 hB5 hg Hg
  have t3 : (ok2 != ok2) = false := by simp
  go_wp2_with fail
  refine (readRow_c l most (.inr hl) (by omega) _).mono ?_
  rintro e w6 ⟨A, cap, ts, r3, ok3, rfl, hg, hB6⟩
  have b6 := b5.trans (hB6.mono b5.size)
  have Hg := Lib.hid hg
  clear b5 hB6 hg
  go_wp2_with fail
  refine (refReadRow_c l most (.inr hl) (by omega) _).mono ?_
  rintro e w7 ⟨A', cap', ts', r3', ok3', rfl, hg, hB7⟩
  have b7 := b6.trans (hB7.mono b6.size)
  obtain ⟨rfl, rfl, rfl⟩ := Hg.out.same hg
  have S1 := Lib.hid ((Hg.out.2.1.below hB7 (Nat.le_refl _)).more hB7.size)
  have S2 := Lib.hid hg.2.1
  have hlen := hg.2.2
  clear b6 hB7 hg Hg
  go_wp2_with fail
  refine (same_eq A A' cap cap' ts ts rfl _ S1.out S2.out (by omega)).mono ?_
  rw [sameB_self]
  rintro e w8 ⟨rfl, hB8⟩
  have b8 := b7.trans (hB8.mono b7.size)
  clear b7 hB8
  go_wp2
  go_ret
  exact ⟨by simp, b8⟩

end Go.Proofs.Ytecofehfheodhaa
