/-
  The walk of SapBack.
-/
import Derived.Test.YtecofehfheodhaaSapM
set_option linter.unusedVariables false
set_option linter.unusedSimpArgs false
namespace Go.Proofs.Ytecofehfheodhaa
open Go.RowKit Pl
attribute [local go_sem] Lb.ba_get Lb.ba_cut Lb.ba_add Lb.ba_size Lb.take_rest

def numsB (ns : List Int) : List UInt8 := (ns.map num).flatten
theorem numsB_take (ns : List Int) (i : Nat) (h : i < ns.length) : numsB (ns.take (i + 1)) = numsB (ns.take i) ++ num ns[i] := by
  rw [List.take_succ_eq_append_getElem h, numsB, numsB, List.map_append, List.flatten_append]; simp
theorem numsB_drop (ns : List Int) (i : Nat) (h : i < ns.length) : numsB (ns.drop i) = num ns[i] ++ numsB (ns.drop (i + 1)) := by
  rw [List.drop_eq_getElem_cons h]; rfl
theorem textsB_drop (ts : List (List UInt8)) (i : Nat) (h : i < ts.length) : textsB (ts.drop i) = textB ts[i] ++ textsB (ts.drop (i + 1)) := by
  rw [List.drop_eq_getElem_cons h]; rfl
theorem numsB_len (ns : List Int) (h : ∀ n ∈ ns, -9223372036854775808 ≤ n ∧ n ≤ 9223372036854775807) : (numsB ns).length ≤ 9 * ns.length := by
  induction ns with
  | nil => simp [numsB]
  | cons a t ih =>
    have h1 := num_length_le a (h a (by simp)).1 (h a (by simp)).2
    have h2 := ih (fun s hs => h s (by simp [hs]))
    have e : numsB (a :: t) = num a ++ numsB t := by simp [numsB]
    rw [e, List.length_append, List.length_cons]; omega

set_option maxHeartbeats 4000000 in
set_option maxRecDepth 100000 in
theorem sapBack_early (A : Option Addr) (cap : Nat) (ns : List Int) (A' : Option Addr) (cap' : Nat) (ts : List (List UInt8)) (more : List UInt8) (w : World) (hm : ns.length ≤ 9223372036854775807) (hm' : ts.length ≤ 9223372036854775807)
    (h : 60 < ns.length ∨ ns.length ≤ 60 ∧ 60 < ts.length) :
    Calls Try.prog 5 #[.slice A ns.length cap, .slice A' ts.length cap', .string ⟨more.toArray⟩] w fun e w' => e = .returned (.bool true) ∧ Below w.heap.size w w' := by
  rcases h with h | ⟨h, h'⟩
  all_goals
    go_enter Try.func5, Try.ntmps5
    go_wp2_with (go_at_call 15; refine (awake_any _).mono ?_; rintro e w1 ⟨rfl, hB⟩)
    go_ret
    exact ⟨rfl, hB⟩

set_option maxHeartbeats 8000000 in
set_option maxRecDepth 100000 in
theorem sapBack_go (A : Option Addr) (cap : Nat) (ns : List Int) (A' : Option Addr) (cap' : Nat) (ts : List (List UInt8)) (more : List UInt8) (w : World) (hN : ns.length ≤ 60) (hT : ts.length ≤ 60) (hmore : more.length ≤ 140737488351232)
    (hI : Ints w w.heap.size A ns) (hS : Strs w w.heap.size A' ts) (hn : ∀ n ∈ ns, -9223372036854775808 ≤ n ∧ n ≤ 9223372036854775807) (he : ∀ s ∈ ts, s.length ≤ 9223372036854775807) :
    Calls Try.prog 5 #[.slice A ns.length cap, .slice A' ts.length cap', .string ⟨more.toArray⟩] w fun e w' => e = .returned (.bool true) ∧ Below w.heap.size w w' := by
  have HI := Lib.hid hI
  have HS := Lib.hid hS
  have He := Lib.hid he
  have Hnb := Lib.hid hn
  have Hnl := Lib.hid (numsB_len ns hn)
  obtain ⟨n, hn'⟩ : ∃ n, n = ns.length := ⟨_, rfl⟩
  obtain ⟨m, hm'⟩ : ∃ m, m = ts.length := ⟨_, rfl⟩
  have Hn := Lib.hid hn'
  have Hm := Lib.hid hm'
  rw [← hn'] at hN ⊢
  rw [← hm'] at hT ⊢
  clear hI hS he hn hn' hm'
  have e1 : decide ((60 : Int) < (n : Int)) = false := by simp; omega
  have e2 : decide ((60 : Int) < (m : Int)) = false := by simp; omega
  go_enter Try.func5, Try.ntmps5
  go_wp2_with (go_at_call 15; refine (awake_any _).mono ?_; rintro e w1 ⟨rfl, hB⟩)
  go_loopw [7, 8] (fun v p wr => ∃ (i : Nat) (L : List UInt8), i ≤ n ∧ p = .int .i64 i ∧ v = .string ⟨L.toArray⟩ ∧ L = numsB (ns.take i) ∧ Below w.heap.size w wr) (fun _ p _ => n - (intOf p).toNat)
  case atStart => exact ⟨0, [], by omega, rfl, rfl, by simp [numsB], hB⟩
  case round =>
    obtain ⟨i, L, hi, rfl, rfl, hL, hbe⟩ := hrel
    have hLl : L.length ≤ 9 * i := by
      rw [hL]
      refine Nat.le_trans (numsB_len _ (fun x hx => Hnb.out x (List.mem_of_mem_take hx))) ?_
      simp; omega
    by_cases hin : i < n
    · have hlt : i < ns.length := by rw [← Hn.out]; exact hin
      obtain ⟨a, rfl, hab, hc0⟩ := HI.out i hlt
      have hc := (hbe.cell (p := a.add i) (by rw [block_add]; exact hab)).trans hc0
      have hxb := Hnb.out _ (List.getElem_mem hlt)
      obtain ⟨x, hx⟩ : ∃ x, x = ns[i] := ⟨_, rfl⟩
      have Htk : Hid (L ++ num x = numsB (ns.take (i + 1))) := Lib.hid (by rw [numsB_take ns i hlt, hL, hx])
      rw [← hx] at hc hxb
      have hxl := num_length_le x hxb.1 hxb.2
      clear hc0 hx hL
      go_wp2_with fail
      refine (num_any x _ hxb.1 hxb.2).mono ?_
      rintro e w2 ⟨rfl, hB2⟩
      have b2 := hbe.trans (hB2.mono hbe.size)
      clear hbe hB2 hc
      go_wp2
      go_roundw
      case rel => exact ⟨i + 1, _, by omega, by go_num, rfl, Htk.out, b2⟩
      case measure => simp [intOf]; omega
    · obtain rfl : i = n := by omega
      have hL' : Hid (L = numsB ns) := Lib.hid (by rw [hL, Hn.out, List.take_length])
      clear hL hB
      go_wp2
      go_loopw [7, 9] (fun v p wx => ∃ (j : Nat) (M : List UInt8), j ≤ m ∧ p = .int .i64 j ∧ v = .string ⟨M.toArray⟩ ∧ M = L ++ textsB (ts.take j) ∧ (∀ (k : Nat) (hk : k < ts.length), k < j → (ts[k]).length ≤ 4096) ∧ M.length ≤ 540 + 4105 * j ∧ Below w.heap.size w wx) (fun _ p _ => m - (intOf p).toNat)
      case atStart => exact ⟨0, L, by omega, rfl, rfl, by simp [textsB], fun k hk h => absurd h (by omega), by omega, hbe⟩
      case round =>
        obtain ⟨j, M, hj, rfl, rfl, hM, hall, hMl, hbx⟩ := hrel
        by_cases hjm : j < m
        · have hlt : j < ts.length := by rw [← Hm.out]; exact hjm
          obtain ⟨a, rfl, hab, hc0⟩ := HS.out j hlt
          have hc := (hbx.cell (p := a.add j) (by rw [block_add]; exact hab)).trans hc0
          have htb := He.out _ (List.getElem_mem hlt)
          obtain ⟨t, ht⟩ : ∃ t, t = ts[j] := ⟨_, rfl⟩
          have Htk : Hid (M ++ textB t = L ++ textsB (ts.take (j + 1))) := Lib.hid (by rw [textsB_take ts j hlt, hM, ht]; simp)
          have Hall := Lib.hid hall
          have Ht := Lib.hid ht
          rw [← ht] at hc htb
          clear hc0 ht hM hall hbe
          by_cases hlen : t.length ≤ 4096
          · have htl := textB_le9 t htb
            go_wp2_with fail
            refine (text_B t _ (by omega)).mono ?_
            rintro e w3 ⟨rfl, hB3⟩
            have b3 := hbx.trans (hB3.mono hbx.size)
            clear hbx hB3 hc
            go_wp2
            go_roundw
            case rel =>
              refine ⟨j + 1, _, by omega, by go_num, rfl, Htk.out, ?_, by simp; omega, b3⟩
              intro k hk h
              by_cases e : k = j
              · subst e; rw [← Ht.out]; exact hlen
              · exact Hall.out k hk (by omega)
            case measure => simp [intOf]; omega
          · go_wp2
            go_ret
            exact ⟨rfl, hbx⟩
        · obtain rfl : j = m := by omega
          have hbnd : ∀ s ∈ ts, s.length ≤ 4096 := all_of_take fun k hk => hall k hk (by rw [Hm.out]; exact hk)
          have hsum := sum_le_of ts 4096 hbnd
          have hrl := rowB_le9 ts (by rw [← Hm.out]; omega) (fun s hs => Nat.le_trans (hbnd s hs) (by omega))
          have hrl2 : (rowB ts).length ≤ 3000000 := by rw [← Hm.out] at hsum; omega
          have HM : Hid (M = numsB ns ++ textsB ts) := Lib.hid (by rw [hM, hL'.out, Hm.out, List.take_length])
          have Hb := Lib.hid hbnd
          have S1 := Lib.hid ((HS.out.below hbx (Nat.le_refl _)).more hbx.size)
          have Hmm := Lib.hid Hm.out
          have hTT : ts.length ≤ 60 := by rw [← Hm.out]; omega
          clear hM hall hbnd hsum hrl hbe
          go_wp2_with fail
          rw [Hmm.out]
          refine (row_any A' cap' ts _ S1.out (by omega)).mono ?_
          rintro e w4 ⟨rfl, hB4⟩
          have b4 := hbx.trans (hB4.mono hbx.size)
          clear hbx hB4 S1
          have hMM : M.length ≤ 600000 := by omega
          have Hbeg : Hid (M ++ (rowB ts ++ more) = numsB (ns.drop 0) ++ (textsB ts ++ (rowB ts ++ more))) := Lib.hid (by rw [HM.out]; simp)
          have hLen : (M ++ (rowB ts ++ more)).length < 9223372036854770000 := by simp; omega
          go_wp2
          go_loopw [7, 10] (fun v p wx => ∃ (j : Nat) (L : List UInt8), j ≤ i ∧ p = .int .i64 j ∧ v = .string ⟨L.toArray⟩ ∧ L = numsB (ns.drop j) ++ (textsB ts ++ (rowB ts ++ more)) ∧ L.length < 9223372036854770000 ∧ Below w.heap.size w wx) (fun _ p _ => i - (intOf p).toNat)
          case atStart => exact ⟨0, _, by omega, rfl, rfl, Hbeg.out, hLen, b4⟩
          case round =>
            obtain ⟨j, L, hj, rfl, rfl, hL, hLl3, hbx⟩ := hrel
            by_cases hji : j < i
            · have hlt : j < ns.length := by rw [← Hn.out]; exact hji
              obtain ⟨a, rfl, hab, hc0⟩ := HI.out j hlt
              have hxb := Hnb.out _ (List.getElem_mem hlt)
              rw [numsB_drop ns j hlt, List.append_assoc] at hL
              obtain ⟨x, hx⟩ : ∃ x, x = ns[j] := ⟨_, rfl⟩
              rw [← hx] at hc0 hxb hL
              have Hrd := Lib.hid (show rdNum L = some (x, numsB (ns.drop (j + 1)) ++ (textsB ts ++ (rowB ts ++ more))) from by rw [hL]; exact rd_of_num _ _ hxb.1 hxb.2)
              have hl2 : (numsB (ns.drop (j + 1)) ++ (textsB ts ++ (rowB ts ++ more))).length < 9223372036854770000 := by
                have := congrArg List.length hL; rw [List.length_append] at this; omega
              obtain ⟨R, hR⟩ : ∃ R, R = numsB (ns.drop (j + 1)) ++ (textsB ts ++ (rowB ts ++ more)) := ⟨_, rfl⟩
              rw [← hR] at Hrd hl2
              have HR := Lib.hid hR
              have t1 : ((x : Int) != x) = false := by simp
              clear hL hR hx b4
              go_wp2_with fail
              refine (readNum_some Hrd.out _ (by omega)).mono ?_
              rintro e w5 ⟨rfl, hB5⟩
              have b5 := hbx.trans (hB5.mono hbx.size)
              have hc := (b5.cell (p := a.add j) (by rw [block_add]; exact hab)).trans hc0
              clear hbx hB5 hc0
              go_wp2
              go_roundw
              case rel => exact ⟨j + 1, R, by omega, by go_num, rfl, HR.out, hl2, b5⟩
              case measure => simp [intOf]; omega
            · obtain rfl : j = i := by omega
              rw [Hn.out, List.drop_length] at hL
              have Hbeg2 : Hid (L = textsB (ts.drop 0) ++ (rowB ts ++ more)) := Lib.hid (by rw [hL]; simp [numsB])
              clear hL b4 Hbeg hLen
              go_wp2
              go_loopw [7, 14] (fun v p wx => ∃ (k : Nat) (L : List UInt8), k ≤ ts.length ∧ p = .int .i64 k ∧ v = .string ⟨L.toArray⟩ ∧ L = textsB (ts.drop k) ++ (rowB ts ++ more) ∧ L.length < 9223372036854770000 ∧ Below w.heap.size w wx) (fun _ p _ => ts.length - (intOf p).toNat)
              case atStart => exact ⟨0, _, by omega, rfl, rfl, Hbeg2.out, hLl3, hbx⟩
              case round =>
                obtain ⟨k, K, hk, rfl, rfl, hK, hKl, hby⟩ := hrel
                by_cases hkt : k < ts.length
                · obtain ⟨a, rfl, hab, hc0⟩ := HS.out k hkt
                  have htb := Hb.out _ (List.getElem_mem hkt)
                  rw [textsB_drop ts k hkt, List.append_assoc] at hK
                  obtain ⟨x, hx⟩ : ∃ x, x = ts[k] := ⟨_, rfl⟩
                  rw [← hx] at hc0 htb hK
                  have Hrd := Lib.hid (show rdText K 4096 = some (x, textsB (ts.drop (k + 1)) ++ (rowB ts ++ more)) from by rw [hK, rd_of_text _ _ _ (by omega), if_pos (by omega)])
                  have hl2 : (textsB (ts.drop (k + 1)) ++ (rowB ts ++ more)).length < 9223372036854770000 := by
                    have := congrArg List.length hK; rw [List.length_append] at this; omega
                  obtain ⟨R, hR⟩ : ∃ R, R = textsB (ts.drop (k + 1)) ++ (rowB ts ++ more) := ⟨_, rfl⟩
                  rw [← hR] at Hrd hl2
                  have HR := Lib.hid hR
                  clear hK hR hx hbx
                  go_wp2_with fail
                  refine (readText_some Hrd.out _ (by omega)).mono ?_
                  rintro e w6 ⟨rfl, hB6⟩
                  have b6 := hby.trans (hB6.mono hby.size)
                  have hc := (b6.cell (p := a.add k) (by rw [block_add]; exact hab)).trans hc0
                  clear hby hB6 hc0
                  go_wp2
                  go_roundw
                  case rel => exact ⟨k + 1, R, by omega, by go_num, rfl, HR.out, hl2, b6⟩
                  case measure => simp [intOf]; omega
                · obtain rfl : k = ts.length := by omega
                  rw [List.drop_length] at hK
                  have hK2 : K = rowB ts ++ more := by rw [hK]; simp [textsB]
                  have hrd := rd_of_row ts more 60 (by omega) (fun s hs => Nat.le_trans (Hb.out s hs) (by omega))
                  rw [if_pos (by omega), ← hK2] at hrd
                  have Hrd := Lib.hid hrd
                  clear hK hK2 hrd hbx
                  go_wp2_with fail
                  refine (readRow_some Hrd.out (.inl (by omega)) _ (by omega)).mono ?_
                  rintro e w7 ⟨A7, c7, rfl, hown, hB7⟩
                  have b7 := hby.trans (hB7.mono hby.size)
                  have S7 := Lib.hid (strs_of_own (ls := ts) hown rfl)
                  have S8 := Lib.hid ((HS.out.below b7 (Nat.le_refl _)).more b7.size)
                  clear hby hB7 hown
                  go_wp2_with fail
                  refine (same_eq A7 A' c7 cap' ts ts rfl _ S7.out S8.out (by omega)).mono ?_
                  rw [sameB_self]
                  rintro e w8 ⟨rfl, hB8⟩
                  have b8 := b7.trans (hB8.mono b7.size)
                  go_wp2
                  go_ret
                  exact ⟨by first | (simp; done) | (simp; omega), b8⟩
end Go.Proofs.Ytecofehfheodhaa
