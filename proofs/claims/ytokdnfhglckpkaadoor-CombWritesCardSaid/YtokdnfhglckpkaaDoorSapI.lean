/-
  The walks of the reference of layer 1: ReadText, ReadRow, Same.
-/
import Derived.Test.YtokdnfhglckpkaaDoorSapH
set_option linter.unusedVariables false
set_option linter.unusedSimpArgs false
namespace Go.Proofs.YtokdnfhglckpkaaDoor
open Go.RowKit Pl
attribute [local go_sem] Lb.ba_get Lb.ba_cut Lb.ba_add Lb.ba_size Lb.take_rest

/-- what a count comes to -/
theorem refReadNum_cases (l : List UInt8) (h0 : l.length < 9223372036854775806) : ∃ (n : Int) (r : List UInt8) (ok : Bool), (∀ w : World, Calls Tryd.prog 65 #[.string ⟨l.toArray⟩] w fun e w' => e = .returned (.tuple #[.int .i64 n, .string ⟨r.toArray⟩, .bool ok]) ∧ Below w.heap.size w w') ∧
    (rdNum l = if ok then some (n, r) else none) ∧ r.length ≤ l.length ∧ (ok = true → r.length < l.length) := by
  cases h : rdNum l with
  | none => exact ⟨0, [], false, fun w => refReadNum_none h w h0, rfl, by simp, by simp⟩
  | some p => exact ⟨p.1, p.2, true, fun w => refReadNum_some h w (by omega), rfl, Nat.le_of_lt (rdNum_bounds h).2.2, fun _ => (rdNum_bounds h).2.2⟩

set_option maxHeartbeats 1000000 in
theorem refReadText_none {l : List UInt8} {most : Int} (h : rdText l most = none) (w : World) (h0 : l.length < 9223372036854775806) :
    Calls Tryd.prog 97 #[.string ⟨l.toArray⟩, .int .i64 most] w fun e w' => e = .returned (.tuple #[.string ⟨#[]⟩, .string ⟨#[]⟩, .bool false]) ∧ Below w.heap.size w w' := by
  obtain ⟨n, r, ok, hc, hn, hr, _⟩ := refReadNum_cases l h0
  have Hc := Lib.hid hc
  clear hc
  unfold rdText at h
  rw [hn] at h
  cases ok with
  | false =>
    clear h hn
    go_enter Tryd.func97, Tryd.ntmps97
    go_wp2_with (go_at_call 65; refine (Hc.out _).mono ?_; rintro e w1 ⟨rfl, hB⟩)
    go_ret3
    exact ⟨rfl, hB⟩
  | true =>
    have h1 : n < 0 ∨ 0 ≤ n ∧ (most < n ∨ n ≤ most ∧ (r.length : Int) < n) := by
      simp only [if_true] at h
      split at h
      · cases h
      · omega
    clear h hn
    rcases h1 with h1 | ⟨h1, h2 | ⟨h2, h3⟩⟩
    all_goals
      go_enter Tryd.func97, Tryd.ntmps97
      go_wp2_with (go_at_call 65; refine (Hc.out _).mono ?_; rintro e w1 ⟨rfl, hB⟩)
      go_ret3
      exact ⟨rfl, hB⟩

set_option maxHeartbeats 1000000 in
theorem refReadText_some {l t r : List UInt8} {most : Int} (h : rdText l most = some (t, r)) (w : World) (h0 : l.length < 9223372036854775806) :
    Calls Tryd.prog 97 #[.string ⟨l.toArray⟩, .int .i64 most] w fun e w' => e = .returned (.tuple #[.string ⟨t.toArray⟩, .string ⟨r.toArray⟩, .bool true]) ∧ Below w.heap.size w w' := by
  obtain ⟨n, q, h1, h2, h3, rfl, rfl⟩ := rdText_some h
  have Hc := Lib.hid (refReadNum_some h1)
  clear h h1
  have h4 : (n : Int) ≤ (q.length : Int) := by omega
  have h5 : (0 : Int) ≤ (n : Int) := by omega
  go_enter Tryd.func97, Tryd.ntmps97
  go_wp2_with (go_at_call 65; refine (Hc.out _ (by omega)).mono ?_; rintro e w1 ⟨rfl, hB⟩)
  go_region
  go_wp2
  go_ret3
  exact ⟨by simp, hB.drew⟩

set_option maxHeartbeats 1000000 in
theorem refReadRow_early {l : List UInt8} {most : Int} (h : ∀ n r, rdNum l = some (n, r) → ¬ (0 ≤ n ∧ n ≤ most ∧ n ≤ r.length)) (w : World) (h0 : l.length < 9223372036854775000) :
    Calls Tryd.prog 64 #[.string ⟨l.toArray⟩, .int .i64 most] w fun e w' => e = .returned (.tuple #[.slice none 0 0, .string ⟨#[]⟩, .bool false]) ∧ Below w.heap.size w w' := by
  obtain ⟨n, r, ok, hc, hn, hr, _⟩ := refReadNum_cases l (by omega)
  have Hc := Lib.hid hc
  clear hc
  cases ok with
  | false =>
    clear h hn
    go_enter Tryd.func64, Tryd.ntmps64
    go_wp2_with (go_at_call 65; refine (Hc.out _).mono ?_; rintro e w1 ⟨rfl, hB⟩)
    go_ret3
    exact ⟨rfl, hB⟩
  | true =>
    have h1 : n < 0 ∨ 0 ≤ n ∧ (most < n ∨ n ≤ most ∧ (r.length : Int) < n) := by
      have := h n r (by rw [hn]; rfl)
      omega
    clear h hn
    rcases h1 with h1 | ⟨h1, h2 | ⟨h2, h3⟩⟩
    all_goals
      go_enter Tryd.func64, Tryd.ntmps64
      go_wp2_with (go_at_call 65; refine (Hc.out _).mono ?_; rintro e w1 ⟨rfl, hB⟩)
      go_ret3
      exact ⟨rfl, hB⟩

set_option maxHeartbeats 2000000 in
set_option maxRecDepth 100000 in
theorem refReadRow_go {l q : List UInt8} {n : Nat} {most : Int} (h : rdNum l = some ((n : Int), q)) (h1 : (n : Int) ≤ most) (h2 : n ≤ q.length) (hn : n ≤ 4294967296) (w : World) (h0 : l.length < 9223372036854775000) :
    Calls Tryd.prog 64 #[.string ⟨l.toArray⟩, .int .i64 most] w (RowEnd w n q) := by
  obtain ⟨i0, hi0, hz0, hz1, hz2⟩ := info_parts str_infoS
  have hql := (rdNum_bounds h).2.2
  have Hc := Lib.hid (refReadNum_some h)
  clear h
  have h4 : (n : Int) ≤ (q.length : Int) := by omega
  have h5 : (0 : Int) ≤ (n : Int) := by omega
  have e1 : decide ((n : Int) < 0) = false := by simp
  have e2 : decide (most < (n : Int)) = false := by simp; omega
  have e3 : decide (q.length < n) = false := by simp; omega
  have hq0 : q.length < 9223372036854775000 := by omega
  go_enter Tryd.func64, Tryd.ntmps64
  go_wp2_with (go_at_call 65; refine (Hc.out _ (by omega)).mono ?_; rintro e w1 ⟨rfl, hB⟩)
  have hB0 := hB.size
  go_loopw [10, 8, 11] (fun v s p wr => ∃ (i : Nat) (ts : List (List UInt8)) (r : List UInt8) (A : Option Addr) (cap : Nat), i ≤ n ∧ p = .int .i64 i ∧ s = .string ⟨r.toArray⟩ ∧ v = .slice A ts.length cap ∧ rdTexts i q = some (ts, r) ∧
      wr.ownsRow w.heap.size 9 1 (.slice A ts.length cap) ts.length (rowV ts) ∧ Below w.heap.size w wr) (fun _ _ p _ => n - (intOf p).toNat)
  case atStart => exact ⟨0, [], q, some ⟨w1.heap.size, 0, none⟩, 0, by omega, rfl, rfl, rfl, rfl, ⟨rfl, .inr ⟨w1.heap.size, 0, #[], rfl, hB0, heap_alloc_new w1 _, Nat.le_refl _, by unfold maxLen; omega, rfl, rfl⟩⟩, hB.alloc hB0 _⟩
  case round =>
    obtain ⟨i, ts, r, A, cap, hi, rfl, rfl, rfl, hrd, hown, hbe⟩ := hrel
    have hsz := hbe.size
    obtain ⟨htl, hrl⟩ := rdTexts_length hrd
    by_cases hin : i < n
    · cases ht : rdText r r.length with
      | none =>
        have Hend : Hid (rdTexts n q = none) := by
          have h3 : rdTexts (i + 1) q = none := by rw [rdTexts_snoc, hrd]; simp only; rw [ht]
          have := rdTexts_none_mono (i + 1) (n - (i + 1)) q h3
          rw [show i + 1 + (n - (i + 1)) = n from by omega] at this
          exact this
        have Ht := Lib.hid ht
        have Hrd := Lib.hid hrd
        clear ht hrd htl hown
        go_wp2_with (go_at_call 97; refine (refReadText_none Ht.out _ (by omega)).mono ?_; rintro e w2 ⟨rfl, hB2⟩)
        go_ret3
        unfold RowEnd
        rw [Hend.out]
        exact ⟨rfl, hbe.trans (hB2.mono (by omega))⟩
      | some p =>
        obtain ⟨t, r'⟩ := p
        have Ht := Lib.hid ht
        have Hrd : Hid (rdTexts (i + 1) q = some (ts ++ [t], r')) := Lib.hid (by rw [rdTexts_snoc, hrd]; simp only; rw [ht])
        have hrl' := rdText_len ht
        have Htl := Lib.hid htl
        have htl' : ts.length ≤ n := by omega
        clear ht hrd htl
        go_wp2_with fail
        refine (refReadText_some Ht.out _ (by omega)).mono ?_
        rintro e w2 ⟨rfl, hB2⟩
        have hown2 := owns_below hown hB2
        have hsz2 := hB2.size
        clear hown
        go_wp2_with (at_builtin; refine wpList_append_own _ rfl _ _ 32 rfl w.heap.size 9 i0 (.string ByteArray.empty) 1 16 Tryd.underlying32 hi0 hz0 hz1 hz2 rfl (by decide) _ _ _ rfl (hown2.alloc _) ⟨w2.heap.size, 0, none⟩ 1 1 [.string ⟨t.toArray⟩] rfl rfl ?c1 ?c2 ?c3 ?c4 ?c5 ?_)
        case c1 => exact cell_one_new _ _ _
        case c2 => intro u hu; simp at hu; subst hu; rfl
        case c3 => unfold maxLen; omega
        case c4 => omega
        case c5 => simp; omega
        intro v' w3 hown3 hgrow _
        obtain ⟨A', cap', rfl⟩ : ∃ A' cap', v' = .slice A' (ts.length + 1) cap' := by
          rcases hown3.2 with ⟨_, h⟩ | ⟨g, cap, cur, hv, _⟩
          · omega
          · exact ⟨_, _, hv⟩
        have hbe3 : Below w.heap.size w w3 := ((hbe.trans (hB2.mono (by omega))).alloc (by omega) _).grown hgrow (by simp; omega) (fun k hk => (hown2.lt k hk).1)
        have Hown : Hid (w3.ownsRow w.heap.size 9 1 (.slice A' (ts ++ [t]).length cap') (ts ++ [t]).length (rowV (ts ++ [t]))) := Lib.hid (by simpa [rowV, strV] using hown3)
        clear hown3 hgrow hown2 hB2 hsz2 hbe hsz
        go_wp2
        go_roundw
        case rel => exact ⟨i + 1, ts ++ [t], r', A', cap', by omega, by go_num, rfl, by simp, Hrd.out, Hown.out, hbe3⟩
        case measure => simp [intOf]; omega
    · obtain rfl : i = n := by omega
      have Hrd := Lib.hid hrd
      clear hrd htl
      go_wp2
      go_ret3
      unfold RowEnd
      rw [Hrd.out]
      exact ⟨A, cap, rfl, hown, hbe⟩

theorem refReadRow_none {l : List UInt8} {most : Int} (h : rdRow l most = none) (hm : most ≤ 4294967296 ∨ l.length ≤ 4294967296) (w : World) (h0 : l.length < 9223372036854775000) :
    Calls Tryd.prog 64 #[.string ⟨l.toArray⟩, .int .i64 most] w fun e w' => e = .returned (.tuple #[.slice none 0 0, .string ⟨#[]⟩, .bool false]) ∧ Below w.heap.size w w' := by
  unfold rdRow at h
  cases hr : rdNum l with
  | none => exact refReadRow_early (fun n r hh => by rw [hr] at hh; cases hh) w h0
  | some p =>
    obtain ⟨n, q⟩ := p
    rw [hr] at h
    simp only at h
    split at h
    · rename_i hy
      obtain ⟨k, rfl⟩ : ∃ k : Nat, n = k := ⟨n.toNat, by omega⟩
      refine (refReadRow_go hr hy.2.1 (by omega) (by have := (rdNum_bounds hr).2.2; omega) w h0).mono fun e w' he => ?_
      unfold RowEnd at he
      rw [show rdTexts k q = none from by simpa using h] at he
      exact he
    · rename_i hy
      exact refReadRow_early (fun n' r' hh => by rw [hr] at hh; cases hh; exact hy) w h0

theorem refReadRow_some {l r : List UInt8} {ts : List (List UInt8)} {most : Int} (h : rdRow l most = some (ts, r)) (hm : most ≤ 4294967296 ∨ l.length ≤ 4294967296) (w : World) (h0 : l.length < 9223372036854775000) :
    Calls Tryd.prog 64 #[.string ⟨l.toArray⟩, .int .i64 most] w (RowYes w ts r) := by
  unfold rdRow at h
  cases hr : rdNum l with
  | none => rw [hr] at h; cases h
  | some p =>
    obtain ⟨n, q⟩ := p
    rw [hr] at h
    simp only at h
    split at h
    · rename_i hy
      obtain ⟨k, rfl⟩ : ∃ k : Nat, n = k := ⟨n.toNat, by omega⟩
      refine (refReadRow_go hr hy.2.1 (by omega) (by have := (rdNum_bounds hr).2.2; omega) w h0).mono fun e w' he => ?_
      unfold RowEnd at he
      rw [show rdTexts k q = some (ts, r) from by simpa using h] at he
      exact he
    · cases h

def sameB (a b : List (List UInt8)) : Bool := decide (a = b)

set_option maxHeartbeats 2000000 in
theorem same_len_q (A B : Option Addr) (n m c d : Nat) (hnm : n ≠ m) (w : World) (hn : n ≤ 9223372036854775807) (hm : m ≤ 9223372036854775807) :
    Calls Tryd.prog 17 #[.slice A n c, .slice B m d] w fun e w' => e = .returned (.bool false) ∧ ∃ k, w' = w.drewN k := by
  have h1 : ((n : Int) != (m : Int)) = true := by simp; omega
  go_enter Tryd.func17, Tryd.ntmps17
  go_wp2
  go_ret
  exact ⟨rfl, 0, rfl⟩

set_option maxHeartbeats 2000000 in
theorem same_eq_q (A B : Option Addr) (c d : Nat) (a b : List (List UInt8)) (hl : a.length = b.length) (w : World) (ha : Strs w w.heap.size A a) (hb : Strs w w.heap.size B b) (hn : a.length ≤ 9223372036854775807) :
    Calls Tryd.prog 17 #[.slice A a.length c, .slice B b.length d] w fun e w' => e = .returned (.bool (sameB a b)) ∧ ∃ k, w' = w.drewN k := by
  obtain ⟨n, hn'⟩ : ∃ n, n = a.length := ⟨_, rfl⟩
  have Hl := Lib.hid hl
  have Hn := Lib.hid hn'
  rw [← hl, ← hn']
  have h1 : ((n : Int) != (n : Int)) = false := by simp
  have HA := Lib.hid ha
  have HB := Lib.hid hb
  rw [← hn'] at hn
  clear ha hb hl hn'
  go_enter Tryd.func17, Tryd.ntmps17
  go_wp2
  go_loopw [5] (fun p wr => ∃ i : Nat, i ≤ n ∧ p = .int .i64 i ∧ a.take i = b.take i ∧ ∃ k, wr = w.drewN k) (fun p _ => n - (intOf p).toNat)
  case atStart => exact ⟨0, by omega, rfl, rfl, 0, rfl⟩
  case round =>
    obtain ⟨i, hi, rfl, htk, k, rfl⟩ := hrel
    by_cases hin : i < n
    · have hia : i < a.length := by rw [← Hn.out]; exact hin
      have hib : i < b.length := by rw [← Hl.out]; exact hia
      obtain ⟨ad, rfl, _, hca⟩ := HA.out i hia
      obtain ⟨bd, rfl, _, hcb⟩ := HB.out i hib
      have hca' : (w.drewN k).cell? (ad.add i) = some (.string ⟨(a[i]).toArray⟩) := hca
      have hcb' : (w.drewN k).cell? (bd.add i) = some (.string ⟨(b[i]).toArray⟩) := hcb
      have Htk := Lib.hid (show a.take (i + 1) = b.take (i + 1) ↔ a[i] = b[i] from by
        rw [List.take_succ_eq_append_getElem hia, List.take_succ_eq_append_getElem hib, htk]
        exact ⟨fun h => by have := List.append_cancel_left h; injection this, fun h => by rw [h]⟩)
      obtain ⟨x, hx⟩ : ∃ x, x = a[i] := ⟨_, rfl⟩
      obtain ⟨y, hy⟩ : ∃ y, y = b[i] := ⟨_, rfl⟩
      rw [← hx, ← hy] at Htk
      rw [← hx] at hca hca'
      rw [← hy] at hcb hcb'
      have Hxy : Hid (x ≠ y → a ≠ b) := Lib.hid (fun h e => by subst e; exact h (hx.trans hy.symm))
      clear hx hy htk hca' hcb'
      by_cases hxy : x = y
      · have hb1 : (x == y) = true := by simpa using hxy
        have Hxy' := Lib.hid hxy
        clear hxy
        go_wp2
        go_region
        go_wp2
        go_roundw
        case rel => exact ⟨i + 1, by omega, by go_num, Htk.out.2 Hxy'.out, k + 1, rfl⟩
        case measure => simp [intOf]; omega
      · have hb1 : (x == y) = false := by simpa using hxy
        have Hab := Lib.hid (Hxy.out hxy)
        clear hxy
        go_wp2
        go_region
        go_wp2
        go_ret
        exact ⟨by simp [sameB, Hab.out], k + 1, rfl⟩
    · obtain rfl : i = n := by omega
      clear HA HB
      have Htk := Lib.hid htk
      clear htk
      go_wp2
      go_ret
      refine ⟨?_, k, rfl⟩
      have h := Htk.out
      rw [Hn.out, List.take_length, Hl.out, List.take_length] at h
      rw [h]; simp [sameB]

theorem same_q (A B : Option Addr) (c d : Nat) (a b : List (List UInt8)) (w : World) (ha : Strs w w.heap.size A a) (hb : Strs w w.heap.size B b) (hn : a.length ≤ 9223372036854775807) (hm : b.length ≤ 9223372036854775807) :
    Calls Tryd.prog 17 #[.slice A a.length c, .slice B b.length d] w fun e w' => e = .returned (.bool (sameB a b)) ∧ ∃ k, w' = w.drewN k := by
  by_cases h : a.length = b.length
  · exact same_eq_q A B c d a b h w ha hb hn
  · have e : sameB a b = false := by simp [sameB]; intro e; exact h (by rw [e])
    rw [e]
    exact same_len_q A B a.length b.length c d h w hn hm

theorem same_eq (A B : Option Addr) (c d : Nat) (a b : List (List UInt8)) (hl : a.length = b.length) (w : World) (ha : Strs w w.heap.size A a) (hb : Strs w w.heap.size B b) (hn : a.length ≤ 9223372036854775807) :
    Calls Tryd.prog 17 #[.slice A a.length c, .slice B b.length d] w fun e w' => e = .returned (.bool (sameB a b)) ∧ Below w.heap.size w w' :=
  (same_eq_q A B c d a b hl w ha hb hn).mono fun e w' ⟨he, k, hk⟩ => ⟨he, by rw [hk]; exact below_drewN (Below.refl _ _) k⟩

end Go.Proofs.YtokdnfhglckpkaaDoor
