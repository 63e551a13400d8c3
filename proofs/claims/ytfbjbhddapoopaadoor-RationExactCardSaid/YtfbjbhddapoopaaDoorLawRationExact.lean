/-
  RationExact: of every row of frames and ticks what is answered is what the document says. No condition: every input.
-/
import Derived.Test.YtfbjbhddapoopaaDoorReB
import Derived.Deep.Fields
import Derived.ChangeSame
import Derived.Test.YtfbjbhddapoopaaDoorCards
import Derived.Test.YtfbjbhddapoopaaDoorTie
set_option linter.unusedVariables false
set_option linter.unusedSimpArgs false
namespace Go.Proofs.YtfbjbhddapoopaaDoor
open Go.RowKit
attribute [local go_sem] Lb.ba_get Lb.ba_cut Lb.ba_add Lb.ba_size Lb.take_rest

theorem last_len {K : List Int} {ls : List (List UInt8)} {d : List UInt8} : ∀ {j : Nat}, (∀ i, i < j → (ls.getD i []).length ≤ 512) → (lastAt K ls d j).1.length ≤ 512
  | 0, _ => by simp [lastAt]
  | j + 1, h => by
    unfold lastAt
    split
    · exact h j (by omega)
    · exact last_len (fun i hi => h i (by omega))
theorem last_step_yes {K : List Int} {ls : List (List UInt8)} {d : List UInt8} {c : Nat} {t : List UInt8} (ht : t = ls.getD c []) (hd : hashB K t = d) : lastAt K ls d (c + 1) = (t, true) := by
  unfold lastAt
  rw [← ht, if_pos hd]
theorem last_step_no {K : List Int} {ls : List (List UInt8)} {d : List UInt8} {c : Nat} {t : List UInt8} (ht : t = ls.getD c []) (hd : hashB K t ≠ d) : lastAt K ls d (c + 1) = lastAt K ls d c := by
  conv => lhs; unfold lastAt
  rw [← ht, if_neg hd]
theorem small_step {ls : List (List UInt8)} {j : Nat} (h : ∀ i, i < j → (ls.getD i []).length ≤ 512) (h2 : (ls.getD j []).length ≤ 512) : ∀ i, i < j + 1 → (ls.getD i []).length ≤ 512 := fun i hi => by
  by_cases e : i = j
  · rw [e]; exact h2
  · exact h i (by omega)
/-- text j is alone among the first c -/
def AloneAt (K : List Int) (ls : List (List UInt8)) (j c : Nat) : Prop := ∀ k, k < c → ls.getD j [] ≠ ls.getD k [] → hashB K (ls.getD j []) ≠ hashB K (ls.getD k [])
theorem aloneAt_zero (K : List Int) (ls : List (List UInt8)) (j : Nat) : AloneAt K ls j 0 := fun k hk => by omega
theorem alone_zero (K : List Int) (ls : List (List UInt8)) : Alone K ls 0 := fun k hk => by omega
theorem aloneAt_step {K : List Int} {ls : List (List UInt8)} {j c : Nat} {t1 t2 : List UInt8} (h : AloneAt K ls j c) (e1 : t1 = ls.getD j []) (e2 : t2 = ls.getD c []) (h2 : t1 = t2 ∨ hashB K t1 ≠ hashB K t2) : AloneAt K ls j (c + 1) := fun k hk hne => by
  by_cases e : k = c
  · subst e
    rw [← e1, ← e2] at hne ⊢
    rcases h2 with h2 | h2
    · exact absurd h2 hne
    · exact h2
  · exact h k (by omega) hne
theorem alone_step {K : List Int} {ls : List (List UInt8)} {j : Nat} (h : Alone K ls j) (h2 : AloneAt K ls j j) : Alone K ls (j + 1) := fun i hi => by
  by_cases e : i = j
  · rw [e]; exact h2
  · exact h i (by omega)
theorem getD_get {ls : List (List UInt8)} {j : Nat} (h : j < ls.length) : ls[j] = ls.getD j [] := by simp [List.getD, h]

theorem left_okS {K : List Int} {B0 : Nat} {bl : List (List UInt8)} {n B : Int} {f g : FrD} {w : World} {t : Int} {is : Bool} (h0 : 0 ≤ n) (h1 : n ≤ B) (h : ServIs K B0 bl n f w t g is) : 0 ≤ left' n is ∧ left' n is ≤ B := by
  cases h with
  | no h => exact ⟨h0, h1⟩
  | yes b g h hb hp hg => have := h.1; unfold left'; simp; omega

set_option maxHeartbeats 8000000 in
set_option maxRecDepth 100000 in
theorem rationExact_core (A : Option Addr) (cap : Nat) (ls : List (List UInt8)) (x : Int) (A2 : Option Addr) (cap2 : Nat) (ds : List ActG) (w : World) (hL : Laid KK w) (hS : Strs w w.heap.size A ls) (hl : ls.length ≤ maxLen) (he : ∀ s ∈ ls, s.length ≤ maxLen) (xlo : -9223372036854775808 ≤ x) (xhi : x ≤ 9223372036854775807) (hA : ActsG w w.heap.size A2 ds) (hl2 : ds.length ≤ maxLen) :
    Calls Tryd.prog 4 #[.slice A ls.length cap, .int .i64 x, .slice A2 ds.length cap2] w fun e w' => e = .returned (.bool true) ∧ Below w.heap.size w w' := by
  have HL := Lib.hid hL
  have HS := Lib.hid hS
  have HA := Lib.hid hA
  have haw := Lib.hid (awake18_any KK w hL)
  have hsto := Lib.hid (fun W (hW : Below w.heap.size w W) => stored_any KK A cap ls W (hL.below hW) ((hS.below hW (Nat.le_refl _)).more hW.size) hl)
  obtain ⟨m, hm⟩ : ∃ m, m = ls.length := ⟨_, rfl⟩
  obtain ⟨n, hn⟩ : ∃ n, n = ds.length := ⟨_, rfl⟩
  have hm63 : (m : Int) ≤ 9223372036854775807 := by unfold maxLen at hl; omega
  have hn63 : (n : Int) ≤ 9223372036854775807 := by unfold maxLen at hl2; omega
  rw [← hm] at hsto ⊢
  rw [← hn]
  have Hm := Lib.hid hm
  have Hn := Lib.hid hn
  clear hL hS hA hl hl2 he hm hn
  go_enter Tryd.func4, Tryd.ntmps4
  go_wp2_with fail
  refine haw.out.mono ?_
  rintro e w1 ⟨rfl, hB1⟩
  have HB1 := Lib.hid hB1
  clear hB1 haw
  by_cases hm60 : (60 : Int) < (m : Int)
  · go_wp2_with fail
    go_ret
    exact ⟨rfl, HB1.out⟩
  have m60 : m ≤ 60 := by omega
  go_wp2_with fail
  go_loopw [7] (fun i wr => ∃ j : Nat, j ≤ m ∧ i = .int .i64 j ∧ (∀ i, i < j → (ls.getD i []).length ≤ 512) ∧ Alone KK ls j ∧ Below w.heap.size w wr) (fun i _ => m - (intOf i).toNat)
  case atStart => exact ⟨0, by omega, rfl, fun i hi => by omega, alone_zero _ _, HB1.out⟩
  case round =>
    obtain ⟨j, hj, rfl, h5, hAl, hb⟩ := hrel
    have H5 := Lib.hid h5
    have HAl := Lib.hid hAl
    have Hb := Lib.hid hb
    clear h5 hAl hb
    by_cases hjm : j < m
    · have j1 : (j : Int) < (m : Int) := by omega
      have hjl : j < ls.length := by rw [← Hm.out]; exact hjm
      obtain ⟨a, rfl, hab, hc0⟩ := HS.out j hjl
      have hcj := (Hb.out.cell (p := a.add j) (by rw [block_add]; exact hab)).trans hc0
      rw [getD_get hjl] at hcj hc0
      obtain ⟨t1, ht1⟩ : ∃ t, t = ls.getD j [] := ⟨_, rfl⟩
      rw [← ht1] at hcj hc0
      have Ht1 := Lib.hid ht1
      have Hc0 := Lib.hid hc0
      have Hab := Lib.hid hab
      clear ht1 hc0 hab
      by_cases hlen : (512 : Int) < (t1.length : Int)
      · go_wp2_with fail
        go_ret
        exact ⟨rfl, Hb.out⟩
      have hl1 := hashB_length KK t1
      obtain ⟨h1, hh1⟩ : ∃ h, h = hashB KK t1 := ⟨_, rfl⟩
      rw [← hh1] at hl1
      have Hh1 := Lib.hid hh1
      have Hl1 := Lib.hid hl1
      clear hh1 hl1
      go_wp2_with fail
      clear hcj
      go_loopw [8] (fun kv wr => ∃ c : Nat, c ≤ j ∧ kv = .int .i64 c ∧ AloneAt KK ls j c ∧ Below w.heap.size w wr) (fun kv _ => j - (intOf kv).toNat)
      case atStart => exact ⟨0, by omega, rfl, aloneAt_zero _ _ _, Hb.out⟩
      case round =>
        obtain ⟨c, hc, rfl, hac, hbx⟩ := hrel
        have HAc := Lib.hid hac
        have Hbx := Lib.hid hbx
        clear hac hbx
        by_cases hcj : c < j
        · have c1 : (c : Int) < (j : Int) := by omega
          have c2 : (c : Int) < (m : Int) := by omega
          have hcl : c < ls.length := by rw [← Hm.out]; omega
          obtain ⟨a', ea, -, hk0⟩ := HS.out c hcl
          obtain rfl := Option.some.inj ea
          have hck := (Hbx.out.cell (p := a.add c) (by rw [block_add]; exact Hab.out)).trans hk0
          rw [getD_get hcl] at hck
          have hcx := (Hbx.out.cell (p := a.add j) (by rw [block_add]; exact Hab.out)).trans Hc0.out
          obtain ⟨t2, ht2⟩ : ∃ t, t = ls.getD c [] := ⟨_, rfl⟩
          rw [← ht2] at hck
          have Ht2 := Lib.hid ht2
          have ht2l : t2.length ≤ 512 := by rw [ht2]; exact H5.out c hcj
          have laj : (a.add j).block < wr.heap.size := by rw [block_add]; exact Nat.lt_of_lt_of_le Hab.out Hbx.out.size
          have lac : (a.add c).block < wr.heap.size := by rw [block_add]; exact Nat.lt_of_lt_of_le Hab.out Hbx.out.size
          have hl2 := hashB_length KK t2
          obtain ⟨h2, hh2⟩ : ∃ h, h = hashB KK t2 := ⟨_, rfl⟩
          rw [← hh2] at hl2
          have Hh2 := Lib.hid hh2
          have HL0 := Lib.hid (HL.out.below Hbx.out)
          have heq : ∀ W : World, (Op.equalIn 10000 23 (.agg (digV h1)) (.agg (digV h2))).run Tryd.prog W = .ok (h1 == h2) W := fun W => eqIn_dig W h1 h2 Hl1.out hl2
          clear hk0 ea ht2 hh2
          go_upto_region 13 with fail
          by_cases hte : t1 = t2
          · have Hte := Lib.hid hte
            subst hte
            refine wp_region_held_drew (S := fun w' => Below wr.heap.size wr w') (by kernel_rfl) ((Below.refl _ _).drew) (fun hH0 => ?_)
            obtain ⟨W0, hW0⟩ : ∃ W, W = wr.drew := ⟨_, rfl⟩
            rw [← hW0] at hH0 ⊢
            clear hW0
            refine wpAnyH_take (i := 0) (v := ?_) rfl (by kernel_rfl) (by kernel_rfl) (by kernel_rfl) (fun _ _ _ h => h) (Or.inl ⟨by kernel_rfl, ?_⟩) hH0 ?_
            rotate_left 1
            · intro w hSw
              go_simp
              try with_reducible rfl
            try simp only [Act.put, List.getElem_toArray, List.getElem_cons_zero, List.getElem_cons_succ, List.setIfInBounds_toArray, List.set_cons_zero, List.set_cons_succ]
            refine wpAnyH_take (i := 1) (v := ?_) rfl (by kernel_rfl) (by kernel_rfl) (by kernel_rfl) (fun _ _ _ h => h) (Or.inl ⟨by kernel_rfl, ?_⟩) hH0 ?_
            rotate_left 1
            · intro w hSw
              go_simp
              try with_reducible rfl
            try simp only [Act.put, List.getElem_toArray, List.getElem_cons_zero, List.getElem_cons_succ, List.setIfInBounds_toArray, List.set_cons_zero, List.set_cons_succ]
            refine wpAnyH_take (i := 2) (v := ?_) rfl (by kernel_rfl) (by kernel_rfl) (by kernel_rfl) (fun _ _ _ h => h) (Or.inl ⟨by kernel_rfl, ?_⟩) hH0 ?_
            rotate_left 1
            · intro w hSw
              go_simp
              try with_reducible rfl
            try simp only [Act.put, List.getElem_toArray, List.getElem_cons_zero, List.getElem_cons_succ, List.setIfInBounds_toArray, List.set_cons_zero, List.set_cons_succ]
            refine wpAnyH_take (i := 3) (v := ?_) rfl (by kernel_rfl) (by kernel_rfl) (by kernel_rfl) (fun _ _ _ h => h) (Or.inl ⟨by kernel_rfl, ?_⟩) hH0 ?_
            rotate_left 1
            · intro w hSw
              have f0 := (hSw.cell (p := (a.add j)) laj).trans hcx
              have f1 := (hSw.cell (p := (a.add c)) lac).trans hck
              go_simp
              try with_reducible rfl
            try simp only [Act.put, List.getElem_toArray, List.getElem_cons_zero, List.getElem_cons_succ, List.setIfInBounds_toArray, List.set_cons_zero, List.set_cons_succ]
            refine wpAnyH_take (i := 4) (v := ?_) rfl (by kernel_rfl) (by kernel_rfl) (by kernel_rfl) (fun _ _ _ h => h) (Or.inl ⟨by kernel_rfl, ?_⟩) hH0 ?_
            rotate_left 1
            · intro w hSw
              go_simp
              try with_reducible rfl
            try simp only [Act.put, List.getElem_toArray, List.getElem_cons_zero, List.getElem_cons_succ, List.setIfInBounds_toArray, List.set_cons_zero, List.set_cons_succ]
            refine wpAnyH_take (i := 5) (v := ?_) rfl (by kernel_rfl) (by kernel_rfl) (by kernel_rfl) (fun _ _ _ h => h) (Or.inl ⟨by kernel_rfl, ?_⟩) hH0 ?_
            rotate_left 1
            · intro w hSw
              go_simp
              try with_reducible rfl
            try simp only [Act.put, List.getElem_toArray, List.getElem_cons_zero, List.getElem_cons_succ, List.setIfInBounds_toArray, List.set_cons_zero, List.set_cons_succ]
            refine wpAnyH_take (i := 6) (v := ?_) rfl (by kernel_rfl) (by kernel_rfl) (by kernel_rfl) (fun _ _ _ h => h) (Or.inl ⟨by kernel_rfl, ?_⟩) hH0 ?_
            rotate_left 1
            · intro w hSw
              go_simp
              try with_reducible rfl
            try simp only [Act.put, List.getElem_toArray, List.getElem_cons_zero, List.getElem_cons_succ, List.setIfInBounds_toArray, List.set_cons_zero, List.set_cons_succ]
            refine wpAnyH_take (i := 7) (v := ?_) rfl (by kernel_rfl) (by kernel_rfl) (by kernel_rfl) (fun _ _ _ h => h) (Or.inl ⟨by kernel_rfl, ?_⟩) hH0 ?_
            rotate_left 1
            · intro w hSw
              have f0 := (hSw.cell (p := (a.add j)) laj).trans hcx
              have f1 := (hSw.cell (p := (a.add c)) lac).trans hck
              go_simp
              try with_reducible rfl
            try simp only [Act.put, List.getElem_toArray, List.getElem_cons_zero, List.getElem_cons_succ, List.setIfInBounds_toArray, List.set_cons_zero, List.set_cons_succ]
            refine wpAnyH_take (i := 8) (v := ?_) rfl (by kernel_rfl) (by kernel_rfl) (by kernel_rfl) (fun _ _ _ h => h) (Or.inl ⟨by kernel_rfl, ?_⟩) hH0 ?_
            rotate_left 1
            · intro w hSw
              go_simp
              try with_reducible rfl
            try simp only [Act.put, List.getElem_toArray, List.getElem_cons_zero, List.getElem_cons_succ, List.setIfInBounds_toArray, List.set_cons_zero, List.set_cons_succ]
            refine wpAnyH_take (i := 9) (v := ?_) rfl (by kernel_rfl) (by kernel_rfl) (by kernel_rfl) (fun _ _ _ h => h) (Or.inl ⟨by kernel_rfl, ?_⟩) hH0 ?_
            rotate_left 1
            · intro w hSw
              go_simp
              try with_reducible rfl
            try simp only [Act.put, List.getElem_toArray, List.getElem_cons_zero, List.getElem_cons_succ, List.setIfInBounds_toArray, List.set_cons_zero, List.set_cons_succ]
            refine wpAnyH_take (i := 10) (v := undef) rfl (by kernel_rfl) (by kernel_rfl) (by kernel_rfl) (fun _ _ _ h => h) (Or.inr ⟨by kernel_rfl, rfl⟩) hH0 ?_
            try simp only [Act.put, List.getElem_toArray, List.getElem_cons_zero, List.getElem_cons_succ, List.setIfInBounds_toArray, List.set_cons_zero, List.set_cons_succ]
            refine wpAnyH_take (i := 11) (v := undef) rfl (by kernel_rfl) (by kernel_rfl) (by kernel_rfl) (fun _ _ _ h => h) (Or.inr ⟨by kernel_rfl, rfl⟩) hH0 ?_
            try simp only [Act.put, List.getElem_toArray, List.getElem_cons_zero, List.getElem_cons_succ, List.setIfInBounds_toArray, List.set_cons_zero, List.set_cons_succ]
            refine wpAnyH_take (i := 12) (v := undef) rfl (by kernel_rfl) (by kernel_rfl) (by kernel_rfl) (fun _ _ _ h => h) (Or.inr ⟨by kernel_rfl, rfl⟩) hH0 ?_
            try simp only [Act.put, List.getElem_toArray, List.getElem_cons_zero, List.getElem_cons_succ, List.setIfInBounds_toArray, List.set_cons_zero, List.set_cons_succ]
            refine wpAnyH_take (i := 13) (v := undef) rfl (by kernel_rfl) (by kernel_rfl) (by kernel_rfl) (fun _ _ _ h => h) (Or.inr ⟨by kernel_rfl, rfl⟩) hH0 ?_
            try simp only [Act.put, List.getElem_toArray, List.getElem_cons_zero, List.getElem_cons_succ, List.setIfInBounds_toArray, List.set_cons_zero, List.set_cons_succ]
            refine wpAnyH_take (i := 14) (v := undef) rfl (by kernel_rfl) (by kernel_rfl) (by kernel_rfl) (fun _ _ _ h => h) (Or.inr ⟨by kernel_rfl, rfl⟩) hH0 ?_
            try simp only [Act.put, List.getElem_toArray, List.getElem_cons_zero, List.getElem_cons_succ, List.setIfInBounds_toArray, List.set_cons_zero, List.set_cons_succ]
            refine wpAnyH_take (i := 15) (v := undef) rfl (by kernel_rfl) (by kernel_rfl) (by kernel_rfl) (fun _ _ _ h => h) (Or.inr ⟨by kernel_rfl, rfl⟩) hH0 ?_
            try simp only [Act.put, List.getElem_toArray, List.getElem_cons_zero, List.getElem_cons_succ, List.setIfInBounds_toArray, List.set_cons_zero, List.set_cons_succ]
            refine wpAnyH_take (i := 16) (v := undef) rfl (by kernel_rfl) (by kernel_rfl) (by kernel_rfl) (fun _ _ _ h => h) (Or.inr ⟨by kernel_rfl, rfl⟩) hH0 ?_
            try simp only [Act.put, List.getElem_toArray, List.getElem_cons_zero, List.getElem_cons_succ, List.setIfInBounds_toArray, List.set_cons_zero, List.set_cons_succ]
            refine wpAnyH_take (i := 17) (v := undef) rfl (by kernel_rfl) (by kernel_rfl) (by kernel_rfl) (fun _ _ _ h => h) (Or.inr ⟨by kernel_rfl, rfl⟩) hH0 ?_
            try simp only [Act.put, List.getElem_toArray, List.getElem_cons_zero, List.getElem_cons_succ, List.setIfInBounds_toArray, List.set_cons_zero, List.set_cons_succ]
            refine wpAnyH_take (i := 18) (v := undef) rfl (by kernel_rfl) (by kernel_rfl) (by kernel_rfl) (fun _ _ _ h => h) (Or.inr ⟨by kernel_rfl, rfl⟩) hH0 ?_
            try simp only [Act.put, List.getElem_toArray, List.getElem_cons_zero, List.getElem_cons_succ, List.setIfInBounds_toArray, List.set_cons_zero, List.set_cons_succ]
            refine wpAnyH_take (i := 19) (v := undef) rfl (by kernel_rfl) (by kernel_rfl) (by kernel_rfl) (fun _ _ _ h => h) (Or.inr ⟨by kernel_rfl, rfl⟩) hH0 ?_
            try simp only [Act.put, List.getElem_toArray, List.getElem_cons_zero, List.getElem_cons_succ, List.setIfInBounds_toArray, List.set_cons_zero, List.set_cons_succ]
            refine wpAnyH_take (i := 20) (v := undef) rfl (by kernel_rfl) (by kernel_rfl) (by kernel_rfl) (fun _ _ _ h => h) (Or.inr ⟨by kernel_rfl, rfl⟩) hH0 ?_
            try simp only [Act.put, List.getElem_toArray, List.getElem_cons_zero, List.getElem_cons_succ, List.setIfInBounds_toArray, List.set_cons_zero, List.set_cons_succ]
            refine wpAnyH_take (i := 21) (v := undef) rfl (by kernel_rfl) (by kernel_rfl) (by kernel_rfl) (fun _ _ _ h => h) (Or.inr ⟨by kernel_rfl, rfl⟩) hH0 ?_
            try simp only [Act.put, List.getElem_toArray, List.getElem_cons_zero, List.getElem_cons_succ, List.setIfInBounds_toArray, List.set_cons_zero, List.set_cons_succ]
            refine wpAnyH_take (i := 22) (v := undef) rfl (by kernel_rfl) (by kernel_rfl) (by kernel_rfl) (fun _ _ _ h => h) (Or.inr ⟨by kernel_rfl, rfl⟩) hH0 ?_
            try simp only [Act.put, List.getElem_toArray, List.getElem_cons_zero, List.getElem_cons_succ, List.setIfInBounds_toArray, List.set_cons_zero, List.set_cons_succ]
            refine wpAnyH_take (i := 23) (v := ?_) rfl (by kernel_rfl) (by kernel_rfl) (by kernel_rfl) (fun _ _ _ h => h) (Or.inl ⟨by kernel_rfl, ?_⟩) hH0 ?_
            rotate_left 1
            · intro w hSw
              go_simp
              try with_reducible rfl
            try simp only [Act.put, List.getElem_toArray, List.getElem_cons_zero, List.getElem_cons_succ, List.setIfInBounds_toArray, List.set_cons_zero, List.set_cons_succ]
            refine wpAnyH_done (by kernel_rfl) ?_ _
            have Hx := Lib.hid (Hbx.out.trans (hH0.mono Hbx.out.size))
            clear hH0
            go_wp2_with fail
            go_roundw
            case rel => exact ⟨c + 1, by omega, by go_num, aloneAt_step HAc.out Ht1.out Ht2.out (Or.inl rfl), Hx.out⟩
            case measure => simp [intOf]; omega
          have hn1 : (t1 != t2) = true := by simpa using hte
          have hn2 : (t1 == t2) = false := by simpa using hte
          by_cases hd : h1 = h2
          · rw [show (h1 == h2) = true by simp [hd]] at heq
            clear hd
            refine wp_region_held_drew (S := fun w' => Below wr.heap.size wr w') (by kernel_rfl) ((Below.refl _ _).drew) (fun hH0 => ?_)
            obtain ⟨W0, hW0⟩ : ∃ W, W = wr.drew := ⟨_, rfl⟩
            rw [← hW0] at hH0 ⊢
            clear hW0
            refine wpAnyH_take (i := 0) (v := ?_) rfl (by kernel_rfl) (by kernel_rfl) (by kernel_rfl) (fun _ _ _ h => h) (Or.inl ⟨by kernel_rfl, ?_⟩) hH0 ?_
            rotate_left 1
            · intro w hSw
              go_simp
              try with_reducible rfl
            try simp only [Act.put, List.getElem_toArray, List.getElem_cons_zero, List.getElem_cons_succ, List.setIfInBounds_toArray, List.set_cons_zero, List.set_cons_succ]
            refine wpAnyH_take (i := 1) (v := ?_) rfl (by kernel_rfl) (by kernel_rfl) (by kernel_rfl) (fun _ _ _ h => h) (Or.inl ⟨by kernel_rfl, ?_⟩) hH0 ?_
            rotate_left 1
            · intro w hSw
              go_simp
              try with_reducible rfl
            try simp only [Act.put, List.getElem_toArray, List.getElem_cons_zero, List.getElem_cons_succ, List.setIfInBounds_toArray, List.set_cons_zero, List.set_cons_succ]
            refine wpAnyH_take (i := 2) (v := ?_) rfl (by kernel_rfl) (by kernel_rfl) (by kernel_rfl) (fun _ _ _ h => h) (Or.inl ⟨by kernel_rfl, ?_⟩) hH0 ?_
            rotate_left 1
            · intro w hSw
              go_simp
              try with_reducible rfl
            try simp only [Act.put, List.getElem_toArray, List.getElem_cons_zero, List.getElem_cons_succ, List.setIfInBounds_toArray, List.set_cons_zero, List.set_cons_succ]
            refine wpAnyH_take (i := 3) (v := ?_) rfl (by kernel_rfl) (by kernel_rfl) (by kernel_rfl) (fun _ _ _ h => h) (Or.inl ⟨by kernel_rfl, ?_⟩) hH0 ?_
            rotate_left 1
            · intro w hSw
              have f0 := (hSw.cell (p := (a.add j)) laj).trans hcx
              have f1 := (hSw.cell (p := (a.add c)) lac).trans hck
              go_simp
              try with_reducible rfl
            try simp only [Act.put, List.getElem_toArray, List.getElem_cons_zero, List.getElem_cons_succ, List.setIfInBounds_toArray, List.set_cons_zero, List.set_cons_succ]
            refine wpAnyH_take (i := 4) (v := ?_) rfl (by kernel_rfl) (by kernel_rfl) (by kernel_rfl) (fun _ _ _ h => h) (Or.inl ⟨by kernel_rfl, ?_⟩) hH0 ?_
            rotate_left 1
            · intro w hSw
              go_simp
              try with_reducible rfl
            try simp only [Act.put, List.getElem_toArray, List.getElem_cons_zero, List.getElem_cons_succ, List.setIfInBounds_toArray, List.set_cons_zero, List.set_cons_succ]
            refine wpAnyH_take (i := 5) (v := ?_) rfl (by kernel_rfl) (by kernel_rfl) (by kernel_rfl) (fun _ _ _ h => h) (Or.inl ⟨by kernel_rfl, ?_⟩) hH0 ?_
            rotate_left 1
            · intro w hSw
              go_simp
              try with_reducible rfl
            try simp only [Act.put, List.getElem_toArray, List.getElem_cons_zero, List.getElem_cons_succ, List.setIfInBounds_toArray, List.set_cons_zero, List.set_cons_succ]
            refine wpAnyH_take (i := 6) (v := ?_) rfl (by kernel_rfl) (by kernel_rfl) (by kernel_rfl) (fun _ _ _ h => h) (Or.inl ⟨by kernel_rfl, ?_⟩) hH0 ?_
            rotate_left 1
            · intro w hSw
              go_simp
              try with_reducible rfl
            try simp only [Act.put, List.getElem_toArray, List.getElem_cons_zero, List.getElem_cons_succ, List.setIfInBounds_toArray, List.set_cons_zero, List.set_cons_succ]
            refine wpAnyH_take (i := 7) (v := ?_) rfl (by kernel_rfl) (by kernel_rfl) (by kernel_rfl) (fun _ _ _ h => h) (Or.inl ⟨by kernel_rfl, ?_⟩) hH0 ?_
            rotate_left 1
            · intro w hSw
              have f0 := (hSw.cell (p := (a.add j)) laj).trans hcx
              have f1 := (hSw.cell (p := (a.add c)) lac).trans hck
              go_simp
              try with_reducible rfl
            try simp only [Act.put, List.getElem_toArray, List.getElem_cons_zero, List.getElem_cons_succ, List.setIfInBounds_toArray, List.set_cons_zero, List.set_cons_succ]
            refine wpAnyH_take (i := 8) (v := ?_) rfl (by kernel_rfl) (by kernel_rfl) (by kernel_rfl) (fun _ _ _ h => h) (Or.inl ⟨by kernel_rfl, ?_⟩) hH0 ?_
            rotate_left 1
            · intro w hSw
              go_simp
              try with_reducible rfl
            try simp only [Act.put, List.getElem_toArray, List.getElem_cons_zero, List.getElem_cons_succ, List.setIfInBounds_toArray, List.set_cons_zero, List.set_cons_succ]
            refine wpAnyH_take (i := 9) (v := ?_) rfl (by kernel_rfl) (by kernel_rfl) (by kernel_rfl) (fun _ _ _ h => h) (Or.inl ⟨by kernel_rfl, ?_⟩) hH0 ?_
            rotate_left 1
            · intro w hSw
              go_simp
              try with_reducible rfl
            try simp only [Act.put, List.getElem_toArray, List.getElem_cons_zero, List.getElem_cons_succ, List.setIfInBounds_toArray, List.set_cons_zero, List.set_cons_succ]
            refine wpAnyH_take (i := 10) (v := ?_) rfl (by kernel_rfl) (by kernel_rfl) (by kernel_rfl) (fun _ _ _ h => h) (Or.inl ⟨by kernel_rfl, ?_⟩) hH0 ?_
            rotate_left 1
            · intro w hSw
              go_simp
              try with_reducible rfl
            try simp only [Act.put, List.getElem_toArray, List.getElem_cons_zero, List.getElem_cons_succ, List.setIfInBounds_toArray, List.set_cons_zero, List.set_cons_succ]
            refine wpAnyH_take (i := 11) (v := ?_) rfl (by kernel_rfl) (by kernel_rfl) (by kernel_rfl) (fun _ _ _ h => h) (Or.inl ⟨by kernel_rfl, ?_⟩) hH0 ?_
            rotate_left 1
            · intro w hSw
              go_simp
              try with_reducible rfl
            try simp only [Act.put, List.getElem_toArray, List.getElem_cons_zero, List.getElem_cons_succ, List.setIfInBounds_toArray, List.set_cons_zero, List.set_cons_succ]
            refine wpAnyH_take (i := 12) (v := ?_) rfl (by kernel_rfl) (by kernel_rfl) (by kernel_rfl) (fun _ _ _ h => h) (Or.inl ⟨by kernel_rfl, ?_⟩) hH0 ?_
            rotate_left 1
            · intro w hSw
              go_simp
              try with_reducible rfl
            try simp only [Act.put, List.getElem_toArray, List.getElem_cons_zero, List.getElem_cons_succ, List.setIfInBounds_toArray, List.set_cons_zero, List.set_cons_succ]
            refine wpAnyH_take (i := 13) (v := ?_) rfl (by kernel_rfl) (by kernel_rfl) (by kernel_rfl) (fun _ _ _ h => h) (Or.inl ⟨by kernel_rfl, ?_⟩) hH0 ?_
            rotate_left 1
            · intro w hSw
              have f0 := (hSw.cell (p := (a.add j)) laj).trans hcx
              have f1 := (hSw.cell (p := (a.add c)) lac).trans hck
              go_simp
              try with_reducible rfl
            try simp only [Act.put, List.getElem_toArray, List.getElem_cons_zero, List.getElem_cons_succ, List.setIfInBounds_toArray, List.set_cons_zero, List.set_cons_succ]
            refine wpAnyH_take (i := 16) (v := ?_) rfl (by kernel_rfl) (by kernel_rfl) (by kernel_rfl) (fun _ _ _ h => h) (Or.inl ⟨by kernel_rfl, ?_⟩) hH0 ?_
            rotate_left 1
            · intro w hSw
              go_simp
              try with_reducible rfl
            try simp only [Act.put, List.getElem_toArray, List.getElem_cons_zero, List.getElem_cons_succ, List.setIfInBounds_toArray, List.set_cons_zero, List.set_cons_succ]
            refine wpAnyH_take (i := 17) (v := ?_) rfl (by kernel_rfl) (by kernel_rfl) (by kernel_rfl) (fun _ _ _ h => h) (Or.inl ⟨by kernel_rfl, ?_⟩) hH0 ?_
            rotate_left 1
            · intro w hSw
              go_simp
              try with_reducible rfl
            try simp only [Act.put, List.getElem_toArray, List.getElem_cons_zero, List.getElem_cons_succ, List.setIfInBounds_toArray, List.set_cons_zero, List.set_cons_succ]
            refine wpAnyH_take (i := 18) (v := ?_) rfl (by kernel_rfl) (by kernel_rfl) (by kernel_rfl) (fun _ _ _ h => h) (Or.inl ⟨by kernel_rfl, ?_⟩) hH0 ?_
            rotate_left 1
            · intro w hSw
              go_simp
              try with_reducible rfl
            try simp only [Act.put, List.getElem_toArray, List.getElem_cons_zero, List.getElem_cons_succ, List.setIfInBounds_toArray, List.set_cons_zero, List.set_cons_succ]
            refine wpAnyH_take (i := 19) (v := ?_) rfl (by kernel_rfl) (by kernel_rfl) (by kernel_rfl) (fun _ _ _ h => h) (Or.inl ⟨by kernel_rfl, ?_⟩) hH0 ?_
            rotate_left 1
            · intro w hSw
              have f0 := (hSw.cell (p := (a.add j)) laj).trans hcx
              have f1 := (hSw.cell (p := (a.add c)) lac).trans hck
              go_simp
              try with_reducible rfl
            try simp only [Act.put, List.getElem_toArray, List.getElem_cons_zero, List.getElem_cons_succ, List.setIfInBounds_toArray, List.set_cons_zero, List.set_cons_succ]
            refine wpAnyH_ready (rs := [14, 20]) (by kernel_rfl) (by simp) ?_
            refine AllReadyH.cons rfl (fun K_ hK => ?_) ?_
            · go_simp
              have hb1 := (Below.refl W0.heap.size W0).alloc (Nat.le_refl _) (.cells #[.string ⟨(t1).toArray⟩] 9)
              have cb1 : (W0.alloc (.cells #[.string ⟨(t1).toArray⟩] 9)).cell? ⟨W0.heap.size, 0, none⟩ = some (.string ⟨(t1).toArray⟩) := by rw [Lib.cell_of_heap (heap_alloc_new W0 _)]; rfl
              obtain ⟨W1, hW1⟩ : ∃ W, W = W0.alloc (.cells #[.string ⟨(t1).toArray⟩] 9) := ⟨_, rfl⟩
              have hl1 : W0.heap.size < W1.heap.size := by rw [hW1]; simp
              rw [← hW1] at hb1 cb1 ⊢
              clear hW1
              refine hK.out _ _ ((hH0).trans (hb1.mono (hH0).size)) (fun hH1 => ?_)
              clear hK K_
              try simp only [Act.put, List.getElem_toArray, List.getElem_cons_zero, List.getElem_cons_succ, List.setIfInBounds_toArray, List.set_cons_zero, List.set_cons_succ]
              refine wpAnyH_ready (rs := [15, 20]) (by kernel_rfl) (by simp) ?_
              refine AllReadyH.cons rfl (fun K_ hK => ?_) ?_
              · go_simp
                refine (of_hash KK _ 1 (t1) _ (HL0.out.below hH1) ⟨_, rfl, cb1⟩ (by omega)).mono ?_
                rintro e W2 ⟨rfl, hb2⟩
                rw [← Hh1.out]
                have c14_2 := (hb2.cell (p := ⟨W0.heap.size, 0, none⟩) hl1).trans cb1
                have l14_2 : (⟨W0.heap.size, 0, none⟩ : Addr).block < W2.heap.size := Nat.lt_of_lt_of_le hl1 hb2.size
                refine hK.out _ _ ((hH1).trans (hb2.mono (hH1).size)) (fun hH2 => ?_)
                clear hK K_
                try simp only [Act.put, List.getElem_toArray, List.getElem_cons_zero, List.getElem_cons_succ, List.setIfInBounds_toArray, List.set_cons_zero, List.set_cons_succ]
                refine wpAnyH_ready (rs := [20]) (by kernel_rfl) (by simp) ?_
                refine AllReadyH.cons rfl (fun K_ hK => ?_) ?_
                · go_simp
                  have hb3 := (Below.refl W2.heap.size W2).alloc (Nat.le_refl _) (.cells #[.string ⟨(t2).toArray⟩] 9)
                  have cb3 : (W2.alloc (.cells #[.string ⟨(t2).toArray⟩] 9)).cell? ⟨W2.heap.size, 0, none⟩ = some (.string ⟨(t2).toArray⟩) := by rw [Lib.cell_of_heap (heap_alloc_new W2 _)]; rfl
                  obtain ⟨W3, hW3⟩ : ∃ W, W = W2.alloc (.cells #[.string ⟨(t2).toArray⟩] 9) := ⟨_, rfl⟩
                  have hl3 : W2.heap.size < W3.heap.size := by rw [hW3]; simp
                  rw [← hW3] at hb3 cb3 ⊢
                  clear hW3
                  have c14_3 := (hb3.cell (p := ⟨W0.heap.size, 0, none⟩) l14_2).trans c14_2
                  have l14_3 : (⟨W0.heap.size, 0, none⟩ : Addr).block < W3.heap.size := Nat.lt_of_lt_of_le l14_2 hb3.size
                  refine hK.out _ _ ((hH2).trans (hb3.mono (hH2).size)) (fun hH3 => ?_)
                  clear hK K_
                  try simp only [Act.put, List.getElem_toArray, List.getElem_cons_zero, List.getElem_cons_succ, List.setIfInBounds_toArray, List.set_cons_zero, List.set_cons_succ]
                  refine wpAnyH_ready (rs := [21]) (by kernel_rfl) (by simp) ?_
                  refine AllReadyH.cons rfl (fun K_ hK => ?_) ?_
                  · go_simp
                    refine (of_hash KK _ 1 (t2) _ (HL0.out.below hH3) ⟨_, rfl, cb3⟩ (by omega)).mono ?_
                    rintro e W4 ⟨rfl, hb4⟩
                    rw [← Hh2.out]
                    have c14_4 := (hb4.cell (p := ⟨W0.heap.size, 0, none⟩) l14_3).trans c14_3
                    have l14_4 : (⟨W0.heap.size, 0, none⟩ : Addr).block < W4.heap.size := Nat.lt_of_lt_of_le l14_3 hb4.size
                    have c20_4 := (hb4.cell (p := ⟨W2.heap.size, 0, none⟩) hl3).trans cb3
                    have l20_4 : (⟨W2.heap.size, 0, none⟩ : Addr).block < W4.heap.size := Nat.lt_of_lt_of_le hl3 hb4.size
                    refine hK.out _ _ ((hH3).trans (hb4.mono (hH3).size)) (fun hH4 => ?_)
                    clear hK K_
                    try simp only [Act.put, List.getElem_toArray, List.getElem_cons_zero, List.getElem_cons_succ, List.setIfInBounds_toArray, List.set_cons_zero, List.set_cons_succ]
                    refine wpAnyH_take (i := 22) (v := ?_) rfl (by kernel_rfl) (by kernel_rfl) (by kernel_rfl) (fun _ _ _ h => h) (Or.inl ⟨by kernel_rfl, ?_⟩) hH4 ?_
                    rotate_left 1
                    · intro w hSw
                      go_simp
                      try with_reducible rfl
                    try simp only [Act.put, List.getElem_toArray, List.getElem_cons_zero, List.getElem_cons_succ, List.setIfInBounds_toArray, List.set_cons_zero, List.set_cons_succ]
                    refine wpAnyH_take (i := 23) (v := ?_) rfl (by kernel_rfl) (by kernel_rfl) (by kernel_rfl) (fun _ _ _ h => h) (Or.inl ⟨by kernel_rfl, ?_⟩) hH4 ?_
                    rotate_left 1
                    · intro w hSw
                      go_simp
                      try with_reducible rfl
                    try simp only [Act.put, List.getElem_toArray, List.getElem_cons_zero, List.getElem_cons_succ, List.setIfInBounds_toArray, List.set_cons_zero, List.set_cons_succ]
                    refine wpAnyH_done (by kernel_rfl) ?_ _
                    have Hx := Lib.hid (Hbx.out.trans (hH4.mono Hbx.out.size))
                    clear hH4
                    go_wp2_with fail
                    go_ret
                    exact ⟨rfl, Hx.out⟩
                  exact AllReadyH.nil
                exact AllReadyH.nil
              refine AllReadyH.cons rfl (fun K_ hK => ?_) ?_
              · go_simp
                have hb5 := (Below.refl W1.heap.size W1).alloc (Nat.le_refl _) (.cells #[.string ⟨(t2).toArray⟩] 9)
                have cb5 : (W1.alloc (.cells #[.string ⟨(t2).toArray⟩] 9)).cell? ⟨W1.heap.size, 0, none⟩ = some (.string ⟨(t2).toArray⟩) := by rw [Lib.cell_of_heap (heap_alloc_new W1 _)]; rfl
                obtain ⟨W5, hW5⟩ : ∃ W, W = W1.alloc (.cells #[.string ⟨(t2).toArray⟩] 9) := ⟨_, rfl⟩
                have hl5 : W1.heap.size < W5.heap.size := by rw [hW5]; simp
                rw [← hW5] at hb5 cb5 ⊢
                clear hW5
                have c14_5 := (hb5.cell (p := ⟨W0.heap.size, 0, none⟩) hl1).trans cb1
                have l14_5 : (⟨W0.heap.size, 0, none⟩ : Addr).block < W5.heap.size := Nat.lt_of_lt_of_le hl1 hb5.size
                refine hK.out _ _ ((hH1).trans (hb5.mono (hH1).size)) (fun hH5 => ?_)
                clear hK K_
                try simp only [Act.put, List.getElem_toArray, List.getElem_cons_zero, List.getElem_cons_succ, List.setIfInBounds_toArray, List.set_cons_zero, List.set_cons_succ]
                refine wpAnyH_ready (rs := [15]) (by kernel_rfl) (by simp) ?_
                refine AllReadyH.cons rfl (fun K_ hK => ?_) ?_
                · go_simp
                  refine (of_hash KK _ 1 (t1) _ (HL0.out.below hH5) ⟨_, rfl, c14_5⟩ (by omega)).mono ?_
                  rintro e W6 ⟨rfl, hb6⟩
                  rw [← Hh1.out]
                  have c14_6 := (hb6.cell (p := ⟨W0.heap.size, 0, none⟩) l14_5).trans c14_5
                  have l14_6 : (⟨W0.heap.size, 0, none⟩ : Addr).block < W6.heap.size := Nat.lt_of_lt_of_le l14_5 hb6.size
                  have c20_6 := (hb6.cell (p := ⟨W1.heap.size, 0, none⟩) hl5).trans cb5
                  have l20_6 : (⟨W1.heap.size, 0, none⟩ : Addr).block < W6.heap.size := Nat.lt_of_lt_of_le hl5 hb6.size
                  refine hK.out _ _ ((hH5).trans (hb6.mono (hH5).size)) (fun hH6 => ?_)
                  clear hK K_
                  try simp only [Act.put, List.getElem_toArray, List.getElem_cons_zero, List.getElem_cons_succ, List.setIfInBounds_toArray, List.set_cons_zero, List.set_cons_succ]
                  refine wpAnyH_ready (rs := [21]) (by kernel_rfl) (by simp) ?_
                  refine AllReadyH.cons rfl (fun K_ hK => ?_) ?_
                  · go_simp
                    refine (of_hash KK _ 1 (t2) _ (HL0.out.below hH6) ⟨_, rfl, c20_6⟩ (by omega)).mono ?_
                    rintro e W7 ⟨rfl, hb7⟩
                    rw [← Hh2.out]
                    have c14_7 := (hb7.cell (p := ⟨W0.heap.size, 0, none⟩) l14_6).trans c14_6
                    have l14_7 : (⟨W0.heap.size, 0, none⟩ : Addr).block < W7.heap.size := Nat.lt_of_lt_of_le l14_6 hb7.size
                    have c20_7 := (hb7.cell (p := ⟨W1.heap.size, 0, none⟩) l20_6).trans c20_6
                    have l20_7 : (⟨W1.heap.size, 0, none⟩ : Addr).block < W7.heap.size := Nat.lt_of_lt_of_le l20_6 hb7.size
                    refine hK.out _ _ ((hH6).trans (hb7.mono (hH6).size)) (fun hH7 => ?_)
                    clear hK K_
                    try simp only [Act.put, List.getElem_toArray, List.getElem_cons_zero, List.getElem_cons_succ, List.setIfInBounds_toArray, List.set_cons_zero, List.set_cons_succ]
                    refine wpAnyH_take (i := 22) (v := ?_) rfl (by kernel_rfl) (by kernel_rfl) (by kernel_rfl) (fun _ _ _ h => h) (Or.inl ⟨by kernel_rfl, ?_⟩) hH7 ?_
                    rotate_left 1
                    · intro w hSw
                      go_simp
                      try with_reducible rfl
                    try simp only [Act.put, List.getElem_toArray, List.getElem_cons_zero, List.getElem_cons_succ, List.setIfInBounds_toArray, List.set_cons_zero, List.set_cons_succ]
                    refine wpAnyH_take (i := 23) (v := ?_) rfl (by kernel_rfl) (by kernel_rfl) (by kernel_rfl) (fun _ _ _ h => h) (Or.inl ⟨by kernel_rfl, ?_⟩) hH7 ?_
                    rotate_left 1
                    · intro w hSw
                      go_simp
                      try with_reducible rfl
                    try simp only [Act.put, List.getElem_toArray, List.getElem_cons_zero, List.getElem_cons_succ, List.setIfInBounds_toArray, List.set_cons_zero, List.set_cons_succ]
                    refine wpAnyH_done (by kernel_rfl) ?_ _
                    have Hx := Lib.hid (Hbx.out.trans (hH7.mono Hbx.out.size))
                    clear hH7
                    go_wp2_with fail
                    go_ret
                    exact ⟨rfl, Hx.out⟩
                  exact AllReadyH.nil
                exact AllReadyH.nil
              exact AllReadyH.nil
            refine AllReadyH.cons rfl (fun K_ hK => ?_) ?_
            · go_simp
              have hb8 := (Below.refl W0.heap.size W0).alloc (Nat.le_refl _) (.cells #[.string ⟨(t2).toArray⟩] 9)
              have cb8 : (W0.alloc (.cells #[.string ⟨(t2).toArray⟩] 9)).cell? ⟨W0.heap.size, 0, none⟩ = some (.string ⟨(t2).toArray⟩) := by rw [Lib.cell_of_heap (heap_alloc_new W0 _)]; rfl
              obtain ⟨W8, hW8⟩ : ∃ W, W = W0.alloc (.cells #[.string ⟨(t2).toArray⟩] 9) := ⟨_, rfl⟩
              have hl8 : W0.heap.size < W8.heap.size := by rw [hW8]; simp
              rw [← hW8] at hb8 cb8 ⊢
              clear hW8
              refine hK.out _ _ ((hH0).trans (hb8.mono (hH0).size)) (fun hH8 => ?_)
              clear hK K_
              try simp only [Act.put, List.getElem_toArray, List.getElem_cons_zero, List.getElem_cons_succ, List.setIfInBounds_toArray, List.set_cons_zero, List.set_cons_succ]
              refine wpAnyH_ready (rs := [14]) (by kernel_rfl) (by simp) ?_
              refine AllReadyH.cons rfl (fun K_ hK => ?_) ?_
              · go_simp
                have hb9 := (Below.refl W8.heap.size W8).alloc (Nat.le_refl _) (.cells #[.string ⟨(t1).toArray⟩] 9)
                have cb9 : (W8.alloc (.cells #[.string ⟨(t1).toArray⟩] 9)).cell? ⟨W8.heap.size, 0, none⟩ = some (.string ⟨(t1).toArray⟩) := by rw [Lib.cell_of_heap (heap_alloc_new W8 _)]; rfl
                obtain ⟨W9, hW9⟩ : ∃ W, W = W8.alloc (.cells #[.string ⟨(t1).toArray⟩] 9) := ⟨_, rfl⟩
                have hl9 : W8.heap.size < W9.heap.size := by rw [hW9]; simp
                rw [← hW9] at hb9 cb9 ⊢
                clear hW9
                have c20_9 := (hb9.cell (p := ⟨W0.heap.size, 0, none⟩) hl8).trans cb8
                have l20_9 : (⟨W0.heap.size, 0, none⟩ : Addr).block < W9.heap.size := Nat.lt_of_lt_of_le hl8 hb9.size
                refine hK.out _ _ ((hH8).trans (hb9.mono (hH8).size)) (fun hH9 => ?_)
                clear hK K_
                try simp only [Act.put, List.getElem_toArray, List.getElem_cons_zero, List.getElem_cons_succ, List.setIfInBounds_toArray, List.set_cons_zero, List.set_cons_succ]
                refine wpAnyH_ready (rs := [15]) (by kernel_rfl) (by simp) ?_
                refine AllReadyH.cons rfl (fun K_ hK => ?_) ?_
                · go_simp
                  refine (of_hash KK _ 1 (t1) _ (HL0.out.below hH9) ⟨_, rfl, cb9⟩ (by omega)).mono ?_
                  rintro e W10 ⟨rfl, hb10⟩
                  rw [← Hh1.out]
                  have c20_10 := (hb10.cell (p := ⟨W0.heap.size, 0, none⟩) l20_9).trans c20_9
                  have l20_10 : (⟨W0.heap.size, 0, none⟩ : Addr).block < W10.heap.size := Nat.lt_of_lt_of_le l20_9 hb10.size
                  have c14_10 := (hb10.cell (p := ⟨W8.heap.size, 0, none⟩) hl9).trans cb9
                  have l14_10 : (⟨W8.heap.size, 0, none⟩ : Addr).block < W10.heap.size := Nat.lt_of_lt_of_le hl9 hb10.size
                  refine hK.out _ _ ((hH9).trans (hb10.mono (hH9).size)) (fun hH10 => ?_)
                  clear hK K_
                  try simp only [Act.put, List.getElem_toArray, List.getElem_cons_zero, List.getElem_cons_succ, List.setIfInBounds_toArray, List.set_cons_zero, List.set_cons_succ]
                  refine wpAnyH_ready (rs := [21]) (by kernel_rfl) (by simp) ?_
                  refine AllReadyH.cons rfl (fun K_ hK => ?_) ?_
                  · go_simp
                    refine (of_hash KK _ 1 (t2) _ (HL0.out.below hH10) ⟨_, rfl, c20_10⟩ (by omega)).mono ?_
                    rintro e W11 ⟨rfl, hb11⟩
                    rw [← Hh2.out]
                    have c20_11 := (hb11.cell (p := ⟨W0.heap.size, 0, none⟩) l20_10).trans c20_10
                    have l20_11 : (⟨W0.heap.size, 0, none⟩ : Addr).block < W11.heap.size := Nat.lt_of_lt_of_le l20_10 hb11.size
                    have c14_11 := (hb11.cell (p := ⟨W8.heap.size, 0, none⟩) l14_10).trans c14_10
                    have l14_11 : (⟨W8.heap.size, 0, none⟩ : Addr).block < W11.heap.size := Nat.lt_of_lt_of_le l14_10 hb11.size
                    refine hK.out _ _ ((hH10).trans (hb11.mono (hH10).size)) (fun hH11 => ?_)
                    clear hK K_
                    try simp only [Act.put, List.getElem_toArray, List.getElem_cons_zero, List.getElem_cons_succ, List.setIfInBounds_toArray, List.set_cons_zero, List.set_cons_succ]
                    refine wpAnyH_take (i := 22) (v := ?_) rfl (by kernel_rfl) (by kernel_rfl) (by kernel_rfl) (fun _ _ _ h => h) (Or.inl ⟨by kernel_rfl, ?_⟩) hH11 ?_
                    rotate_left 1
                    · intro w hSw
                      go_simp
                      try with_reducible rfl
                    try simp only [Act.put, List.getElem_toArray, List.getElem_cons_zero, List.getElem_cons_succ, List.setIfInBounds_toArray, List.set_cons_zero, List.set_cons_succ]
                    refine wpAnyH_take (i := 23) (v := ?_) rfl (by kernel_rfl) (by kernel_rfl) (by kernel_rfl) (fun _ _ _ h => h) (Or.inl ⟨by kernel_rfl, ?_⟩) hH11 ?_
                    rotate_left 1
                    · intro w hSw
                      go_simp
                      try with_reducible rfl
                    try simp only [Act.put, List.getElem_toArray, List.getElem_cons_zero, List.getElem_cons_succ, List.setIfInBounds_toArray, List.set_cons_zero, List.set_cons_succ]
                    refine wpAnyH_done (by kernel_rfl) ?_ _
                    have Hx := Lib.hid (Hbx.out.trans (hH11.mono Hbx.out.size))
                    clear hH11
                    go_wp2_with fail
                    go_ret
                    exact ⟨rfl, Hx.out⟩
                  exact AllReadyH.nil
                exact AllReadyH.nil
              exact AllReadyH.nil
            exact AllReadyH.nil
          · rw [show (h1 == h2) = false by simp [hd]] at heq
            have Hd : Hid (hashB KK t1 ≠ hashB KK t2) := Lib.hid (by rw [← Hh1.out, ← Hh2.out]; exact hd)
            clear hd
            refine wp_region_held_drew (S := fun w' => Below wr.heap.size wr w') (by kernel_rfl) ((Below.refl _ _).drew) (fun hH0 => ?_)
            obtain ⟨W0, hW0⟩ : ∃ W, W = wr.drew := ⟨_, rfl⟩
            rw [← hW0] at hH0 ⊢
            clear hW0
            refine wpAnyH_take (i := 0) (v := ?_) rfl (by kernel_rfl) (by kernel_rfl) (by kernel_rfl) (fun _ _ _ h => h) (Or.inl ⟨by kernel_rfl, ?_⟩) hH0 ?_
            rotate_left 1
            · intro w hSw
              go_simp
              try with_reducible rfl
            try simp only [Act.put, List.getElem_toArray, List.getElem_cons_zero, List.getElem_cons_succ, List.setIfInBounds_toArray, List.set_cons_zero, List.set_cons_succ]
            refine wpAnyH_take (i := 1) (v := ?_) rfl (by kernel_rfl) (by kernel_rfl) (by kernel_rfl) (fun _ _ _ h => h) (Or.inl ⟨by kernel_rfl, ?_⟩) hH0 ?_
            rotate_left 1
            · intro w hSw
              go_simp
              try with_reducible rfl
            try simp only [Act.put, List.getElem_toArray, List.getElem_cons_zero, List.getElem_cons_succ, List.setIfInBounds_toArray, List.set_cons_zero, List.set_cons_succ]
            refine wpAnyH_take (i := 2) (v := ?_) rfl (by kernel_rfl) (by kernel_rfl) (by kernel_rfl) (fun _ _ _ h => h) (Or.inl ⟨by kernel_rfl, ?_⟩) hH0 ?_
            rotate_left 1
            · intro w hSw
              go_simp
              try with_reducible rfl
            try simp only [Act.put, List.getElem_toArray, List.getElem_cons_zero, List.getElem_cons_succ, List.setIfInBounds_toArray, List.set_cons_zero, List.set_cons_succ]
            refine wpAnyH_take (i := 3) (v := ?_) rfl (by kernel_rfl) (by kernel_rfl) (by kernel_rfl) (fun _ _ _ h => h) (Or.inl ⟨by kernel_rfl, ?_⟩) hH0 ?_
            rotate_left 1
            · intro w hSw
              have f0 := (hSw.cell (p := (a.add j)) laj).trans hcx
              have f1 := (hSw.cell (p := (a.add c)) lac).trans hck
              go_simp
              try with_reducible rfl
            try simp only [Act.put, List.getElem_toArray, List.getElem_cons_zero, List.getElem_cons_succ, List.setIfInBounds_toArray, List.set_cons_zero, List.set_cons_succ]
            refine wpAnyH_take (i := 4) (v := ?_) rfl (by kernel_rfl) (by kernel_rfl) (by kernel_rfl) (fun _ _ _ h => h) (Or.inl ⟨by kernel_rfl, ?_⟩) hH0 ?_
            rotate_left 1
            · intro w hSw
              go_simp
              try with_reducible rfl
            try simp only [Act.put, List.getElem_toArray, List.getElem_cons_zero, List.getElem_cons_succ, List.setIfInBounds_toArray, List.set_cons_zero, List.set_cons_succ]
            refine wpAnyH_take (i := 5) (v := ?_) rfl (by kernel_rfl) (by kernel_rfl) (by kernel_rfl) (fun _ _ _ h => h) (Or.inl ⟨by kernel_rfl, ?_⟩) hH0 ?_
            rotate_left 1
            · intro w hSw
              go_simp
              try with_reducible rfl
            try simp only [Act.put, List.getElem_toArray, List.getElem_cons_zero, List.getElem_cons_succ, List.setIfInBounds_toArray, List.set_cons_zero, List.set_cons_succ]
            refine wpAnyH_take (i := 6) (v := ?_) rfl (by kernel_rfl) (by kernel_rfl) (by kernel_rfl) (fun _ _ _ h => h) (Or.inl ⟨by kernel_rfl, ?_⟩) hH0 ?_
            rotate_left 1
            · intro w hSw
              go_simp
              try with_reducible rfl
            try simp only [Act.put, List.getElem_toArray, List.getElem_cons_zero, List.getElem_cons_succ, List.setIfInBounds_toArray, List.set_cons_zero, List.set_cons_succ]
            refine wpAnyH_take (i := 7) (v := ?_) rfl (by kernel_rfl) (by kernel_rfl) (by kernel_rfl) (fun _ _ _ h => h) (Or.inl ⟨by kernel_rfl, ?_⟩) hH0 ?_
            rotate_left 1
            · intro w hSw
              have f0 := (hSw.cell (p := (a.add j)) laj).trans hcx
              have f1 := (hSw.cell (p := (a.add c)) lac).trans hck
              go_simp
              try with_reducible rfl
            try simp only [Act.put, List.getElem_toArray, List.getElem_cons_zero, List.getElem_cons_succ, List.setIfInBounds_toArray, List.set_cons_zero, List.set_cons_succ]
            refine wpAnyH_take (i := 8) (v := ?_) rfl (by kernel_rfl) (by kernel_rfl) (by kernel_rfl) (fun _ _ _ h => h) (Or.inl ⟨by kernel_rfl, ?_⟩) hH0 ?_
            rotate_left 1
            · intro w hSw
              go_simp
              try with_reducible rfl
            try simp only [Act.put, List.getElem_toArray, List.getElem_cons_zero, List.getElem_cons_succ, List.setIfInBounds_toArray, List.set_cons_zero, List.set_cons_succ]
            refine wpAnyH_take (i := 9) (v := ?_) rfl (by kernel_rfl) (by kernel_rfl) (by kernel_rfl) (fun _ _ _ h => h) (Or.inl ⟨by kernel_rfl, ?_⟩) hH0 ?_
            rotate_left 1
            · intro w hSw
              go_simp
              try with_reducible rfl
            try simp only [Act.put, List.getElem_toArray, List.getElem_cons_zero, List.getElem_cons_succ, List.setIfInBounds_toArray, List.set_cons_zero, List.set_cons_succ]
            refine wpAnyH_take (i := 10) (v := ?_) rfl (by kernel_rfl) (by kernel_rfl) (by kernel_rfl) (fun _ _ _ h => h) (Or.inl ⟨by kernel_rfl, ?_⟩) hH0 ?_
            rotate_left 1
            · intro w hSw
              go_simp
              try with_reducible rfl
            try simp only [Act.put, List.getElem_toArray, List.getElem_cons_zero, List.getElem_cons_succ, List.setIfInBounds_toArray, List.set_cons_zero, List.set_cons_succ]
            refine wpAnyH_take (i := 11) (v := ?_) rfl (by kernel_rfl) (by kernel_rfl) (by kernel_rfl) (fun _ _ _ h => h) (Or.inl ⟨by kernel_rfl, ?_⟩) hH0 ?_
            rotate_left 1
            · intro w hSw
              go_simp
              try with_reducible rfl
            try simp only [Act.put, List.getElem_toArray, List.getElem_cons_zero, List.getElem_cons_succ, List.setIfInBounds_toArray, List.set_cons_zero, List.set_cons_succ]
            refine wpAnyH_take (i := 12) (v := ?_) rfl (by kernel_rfl) (by kernel_rfl) (by kernel_rfl) (fun _ _ _ h => h) (Or.inl ⟨by kernel_rfl, ?_⟩) hH0 ?_
            rotate_left 1
            · intro w hSw
              go_simp
              try with_reducible rfl
            try simp only [Act.put, List.getElem_toArray, List.getElem_cons_zero, List.getElem_cons_succ, List.setIfInBounds_toArray, List.set_cons_zero, List.set_cons_succ]
            refine wpAnyH_take (i := 13) (v := ?_) rfl (by kernel_rfl) (by kernel_rfl) (by kernel_rfl) (fun _ _ _ h => h) (Or.inl ⟨by kernel_rfl, ?_⟩) hH0 ?_
            rotate_left 1
            · intro w hSw
              have f0 := (hSw.cell (p := (a.add j)) laj).trans hcx
              have f1 := (hSw.cell (p := (a.add c)) lac).trans hck
              go_simp
              try with_reducible rfl
            try simp only [Act.put, List.getElem_toArray, List.getElem_cons_zero, List.getElem_cons_succ, List.setIfInBounds_toArray, List.set_cons_zero, List.set_cons_succ]
            refine wpAnyH_take (i := 16) (v := ?_) rfl (by kernel_rfl) (by kernel_rfl) (by kernel_rfl) (fun _ _ _ h => h) (Or.inl ⟨by kernel_rfl, ?_⟩) hH0 ?_
            rotate_left 1
            · intro w hSw
              go_simp
              try with_reducible rfl
            try simp only [Act.put, List.getElem_toArray, List.getElem_cons_zero, List.getElem_cons_succ, List.setIfInBounds_toArray, List.set_cons_zero, List.set_cons_succ]
            refine wpAnyH_take (i := 17) (v := ?_) rfl (by kernel_rfl) (by kernel_rfl) (by kernel_rfl) (fun _ _ _ h => h) (Or.inl ⟨by kernel_rfl, ?_⟩) hH0 ?_
            rotate_left 1
            · intro w hSw
              go_simp
              try with_reducible rfl
            try simp only [Act.put, List.getElem_toArray, List.getElem_cons_zero, List.getElem_cons_succ, List.setIfInBounds_toArray, List.set_cons_zero, List.set_cons_succ]
            refine wpAnyH_take (i := 18) (v := ?_) rfl (by kernel_rfl) (by kernel_rfl) (by kernel_rfl) (fun _ _ _ h => h) (Or.inl ⟨by kernel_rfl, ?_⟩) hH0 ?_
            rotate_left 1
            · intro w hSw
              go_simp
              try with_reducible rfl
            try simp only [Act.put, List.getElem_toArray, List.getElem_cons_zero, List.getElem_cons_succ, List.setIfInBounds_toArray, List.set_cons_zero, List.set_cons_succ]
            refine wpAnyH_take (i := 19) (v := ?_) rfl (by kernel_rfl) (by kernel_rfl) (by kernel_rfl) (fun _ _ _ h => h) (Or.inl ⟨by kernel_rfl, ?_⟩) hH0 ?_
            rotate_left 1
            · intro w hSw
              have f0 := (hSw.cell (p := (a.add j)) laj).trans hcx
              have f1 := (hSw.cell (p := (a.add c)) lac).trans hck
              go_simp
              try with_reducible rfl
            try simp only [Act.put, List.getElem_toArray, List.getElem_cons_zero, List.getElem_cons_succ, List.setIfInBounds_toArray, List.set_cons_zero, List.set_cons_succ]
            refine wpAnyH_ready (rs := [14, 20]) (by kernel_rfl) (by simp) ?_
            refine AllReadyH.cons rfl (fun K_ hK => ?_) ?_
            · go_simp
              have hb1 := (Below.refl W0.heap.size W0).alloc (Nat.le_refl _) (.cells #[.string ⟨(t1).toArray⟩] 9)
              have cb1 : (W0.alloc (.cells #[.string ⟨(t1).toArray⟩] 9)).cell? ⟨W0.heap.size, 0, none⟩ = some (.string ⟨(t1).toArray⟩) := by rw [Lib.cell_of_heap (heap_alloc_new W0 _)]; rfl
              obtain ⟨W1, hW1⟩ : ∃ W, W = W0.alloc (.cells #[.string ⟨(t1).toArray⟩] 9) := ⟨_, rfl⟩
              have hl1 : W0.heap.size < W1.heap.size := by rw [hW1]; simp
              rw [← hW1] at hb1 cb1 ⊢
              clear hW1
              refine hK.out _ _ ((hH0).trans (hb1.mono (hH0).size)) (fun hH1 => ?_)
              clear hK K_
              try simp only [Act.put, List.getElem_toArray, List.getElem_cons_zero, List.getElem_cons_succ, List.setIfInBounds_toArray, List.set_cons_zero, List.set_cons_succ]
              refine wpAnyH_ready (rs := [15, 20]) (by kernel_rfl) (by simp) ?_
              refine AllReadyH.cons rfl (fun K_ hK => ?_) ?_
              · go_simp
                refine (of_hash KK _ 1 (t1) _ (HL0.out.below hH1) ⟨_, rfl, cb1⟩ (by omega)).mono ?_
                rintro e W2 ⟨rfl, hb2⟩
                rw [← Hh1.out]
                have c14_2 := (hb2.cell (p := ⟨W0.heap.size, 0, none⟩) hl1).trans cb1
                have l14_2 : (⟨W0.heap.size, 0, none⟩ : Addr).block < W2.heap.size := Nat.lt_of_lt_of_le hl1 hb2.size
                refine hK.out _ _ ((hH1).trans (hb2.mono (hH1).size)) (fun hH2 => ?_)
                clear hK K_
                try simp only [Act.put, List.getElem_toArray, List.getElem_cons_zero, List.getElem_cons_succ, List.setIfInBounds_toArray, List.set_cons_zero, List.set_cons_succ]
                refine wpAnyH_ready (rs := [20]) (by kernel_rfl) (by simp) ?_
                refine AllReadyH.cons rfl (fun K_ hK => ?_) ?_
                · go_simp
                  have hb3 := (Below.refl W2.heap.size W2).alloc (Nat.le_refl _) (.cells #[.string ⟨(t2).toArray⟩] 9)
                  have cb3 : (W2.alloc (.cells #[.string ⟨(t2).toArray⟩] 9)).cell? ⟨W2.heap.size, 0, none⟩ = some (.string ⟨(t2).toArray⟩) := by rw [Lib.cell_of_heap (heap_alloc_new W2 _)]; rfl
                  obtain ⟨W3, hW3⟩ : ∃ W, W = W2.alloc (.cells #[.string ⟨(t2).toArray⟩] 9) := ⟨_, rfl⟩
                  have hl3 : W2.heap.size < W3.heap.size := by rw [hW3]; simp
                  rw [← hW3] at hb3 cb3 ⊢
                  clear hW3
                  have c14_3 := (hb3.cell (p := ⟨W0.heap.size, 0, none⟩) l14_2).trans c14_2
                  have l14_3 : (⟨W0.heap.size, 0, none⟩ : Addr).block < W3.heap.size := Nat.lt_of_lt_of_le l14_2 hb3.size
                  refine hK.out _ _ ((hH2).trans (hb3.mono (hH2).size)) (fun hH3 => ?_)
                  clear hK K_
                  try simp only [Act.put, List.getElem_toArray, List.getElem_cons_zero, List.getElem_cons_succ, List.setIfInBounds_toArray, List.set_cons_zero, List.set_cons_succ]
                  refine wpAnyH_ready (rs := [21]) (by kernel_rfl) (by simp) ?_
                  refine AllReadyH.cons rfl (fun K_ hK => ?_) ?_
                  · go_simp
                    refine (of_hash KK _ 1 (t2) _ (HL0.out.below hH3) ⟨_, rfl, cb3⟩ (by omega)).mono ?_
                    rintro e W4 ⟨rfl, hb4⟩
                    rw [← Hh2.out]
                    have c14_4 := (hb4.cell (p := ⟨W0.heap.size, 0, none⟩) l14_3).trans c14_3
                    have l14_4 : (⟨W0.heap.size, 0, none⟩ : Addr).block < W4.heap.size := Nat.lt_of_lt_of_le l14_3 hb4.size
                    have c20_4 := (hb4.cell (p := ⟨W2.heap.size, 0, none⟩) hl3).trans cb3
                    have l20_4 : (⟨W2.heap.size, 0, none⟩ : Addr).block < W4.heap.size := Nat.lt_of_lt_of_le hl3 hb4.size
                    refine hK.out _ _ ((hH3).trans (hb4.mono (hH3).size)) (fun hH4 => ?_)
                    clear hK K_
                    try simp only [Act.put, List.getElem_toArray, List.getElem_cons_zero, List.getElem_cons_succ, List.setIfInBounds_toArray, List.set_cons_zero, List.set_cons_succ]
                    refine wpAnyH_take (i := 22) (v := ?_) rfl (by kernel_rfl) (by kernel_rfl) (by kernel_rfl) (fun _ _ _ h => h) (Or.inl ⟨by kernel_rfl, ?_⟩) hH4 ?_
                    rotate_left 1
                    · intro w hSw
                      go_simp
                      try with_reducible rfl
                    try simp only [Act.put, List.getElem_toArray, List.getElem_cons_zero, List.getElem_cons_succ, List.setIfInBounds_toArray, List.set_cons_zero, List.set_cons_succ]
                    refine wpAnyH_take (i := 23) (v := ?_) rfl (by kernel_rfl) (by kernel_rfl) (by kernel_rfl) (fun _ _ _ h => h) (Or.inl ⟨by kernel_rfl, ?_⟩) hH4 ?_
                    rotate_left 1
                    · intro w hSw
                      go_simp
                      try with_reducible rfl
                    try simp only [Act.put, List.getElem_toArray, List.getElem_cons_zero, List.getElem_cons_succ, List.setIfInBounds_toArray, List.set_cons_zero, List.set_cons_succ]
                    refine wpAnyH_done (by kernel_rfl) ?_ _
                    have Hx := Lib.hid (Hbx.out.trans (hH4.mono Hbx.out.size))
                    clear hH4
                    go_wp2_with fail
                    go_roundw
                    case rel => exact ⟨c + 1, by omega, by go_num, aloneAt_step HAc.out Ht1.out Ht2.out (Or.inr Hd.out), Hx.out⟩
                    case measure => simp [intOf]; omega
                  exact AllReadyH.nil
                exact AllReadyH.nil
              refine AllReadyH.cons rfl (fun K_ hK => ?_) ?_
              · go_simp
                have hb5 := (Below.refl W1.heap.size W1).alloc (Nat.le_refl _) (.cells #[.string ⟨(t2).toArray⟩] 9)
                have cb5 : (W1.alloc (.cells #[.string ⟨(t2).toArray⟩] 9)).cell? ⟨W1.heap.size, 0, none⟩ = some (.string ⟨(t2).toArray⟩) := by rw [Lib.cell_of_heap (heap_alloc_new W1 _)]; rfl
                obtain ⟨W5, hW5⟩ : ∃ W, W = W1.alloc (.cells #[.string ⟨(t2).toArray⟩] 9) := ⟨_, rfl⟩
                have hl5 : W1.heap.size < W5.heap.size := by rw [hW5]; simp
                rw [← hW5] at hb5 cb5 ⊢
                clear hW5
                have c14_5 := (hb5.cell (p := ⟨W0.heap.size, 0, none⟩) hl1).trans cb1
                have l14_5 : (⟨W0.heap.size, 0, none⟩ : Addr).block < W5.heap.size := Nat.lt_of_lt_of_le hl1 hb5.size
                refine hK.out _ _ ((hH1).trans (hb5.mono (hH1).size)) (fun hH5 => ?_)
                clear hK K_
                try simp only [Act.put, List.getElem_toArray, List.getElem_cons_zero, List.getElem_cons_succ, List.setIfInBounds_toArray, List.set_cons_zero, List.set_cons_succ]
                refine wpAnyH_ready (rs := [15]) (by kernel_rfl) (by simp) ?_
                refine AllReadyH.cons rfl (fun K_ hK => ?_) ?_
                · go_simp
                  refine (of_hash KK _ 1 (t1) _ (HL0.out.below hH5) ⟨_, rfl, c14_5⟩ (by omega)).mono ?_
                  rintro e W6 ⟨rfl, hb6⟩
                  rw [← Hh1.out]
                  have c14_6 := (hb6.cell (p := ⟨W0.heap.size, 0, none⟩) l14_5).trans c14_5
                  have l14_6 : (⟨W0.heap.size, 0, none⟩ : Addr).block < W6.heap.size := Nat.lt_of_lt_of_le l14_5 hb6.size
                  have c20_6 := (hb6.cell (p := ⟨W1.heap.size, 0, none⟩) hl5).trans cb5
                  have l20_6 : (⟨W1.heap.size, 0, none⟩ : Addr).block < W6.heap.size := Nat.lt_of_lt_of_le hl5 hb6.size
                  refine hK.out _ _ ((hH5).trans (hb6.mono (hH5).size)) (fun hH6 => ?_)
                  clear hK K_
                  try simp only [Act.put, List.getElem_toArray, List.getElem_cons_zero, List.getElem_cons_succ, List.setIfInBounds_toArray, List.set_cons_zero, List.set_cons_succ]
                  refine wpAnyH_ready (rs := [21]) (by kernel_rfl) (by simp) ?_
                  refine AllReadyH.cons rfl (fun K_ hK => ?_) ?_
                  · go_simp
                    refine (of_hash KK _ 1 (t2) _ (HL0.out.below hH6) ⟨_, rfl, c20_6⟩ (by omega)).mono ?_
                    rintro e W7 ⟨rfl, hb7⟩
                    rw [← Hh2.out]
                    have c14_7 := (hb7.cell (p := ⟨W0.heap.size, 0, none⟩) l14_6).trans c14_6
                    have l14_7 : (⟨W0.heap.size, 0, none⟩ : Addr).block < W7.heap.size := Nat.lt_of_lt_of_le l14_6 hb7.size
                    have c20_7 := (hb7.cell (p := ⟨W1.heap.size, 0, none⟩) l20_6).trans c20_6
                    have l20_7 : (⟨W1.heap.size, 0, none⟩ : Addr).block < W7.heap.size := Nat.lt_of_lt_of_le l20_6 hb7.size
                    refine hK.out _ _ ((hH6).trans (hb7.mono (hH6).size)) (fun hH7 => ?_)
                    clear hK K_
                    try simp only [Act.put, List.getElem_toArray, List.getElem_cons_zero, List.getElem_cons_succ, List.setIfInBounds_toArray, List.set_cons_zero, List.set_cons_succ]
                    refine wpAnyH_take (i := 22) (v := ?_) rfl (by kernel_rfl) (by kernel_rfl) (by kernel_rfl) (fun _ _ _ h => h) (Or.inl ⟨by kernel_rfl, ?_⟩) hH7 ?_
                    rotate_left 1
                    · intro w hSw
                      go_simp
                      try with_reducible rfl
                    try simp only [Act.put, List.getElem_toArray, List.getElem_cons_zero, List.getElem_cons_succ, List.setIfInBounds_toArray, List.set_cons_zero, List.set_cons_succ]
                    refine wpAnyH_take (i := 23) (v := ?_) rfl (by kernel_rfl) (by kernel_rfl) (by kernel_rfl) (fun _ _ _ h => h) (Or.inl ⟨by kernel_rfl, ?_⟩) hH7 ?_
                    rotate_left 1
                    · intro w hSw
                      go_simp
                      try with_reducible rfl
                    try simp only [Act.put, List.getElem_toArray, List.getElem_cons_zero, List.getElem_cons_succ, List.setIfInBounds_toArray, List.set_cons_zero, List.set_cons_succ]
                    refine wpAnyH_done (by kernel_rfl) ?_ _
                    have Hx := Lib.hid (Hbx.out.trans (hH7.mono Hbx.out.size))
                    clear hH7
                    go_wp2_with fail
                    go_roundw
                    case rel => exact ⟨c + 1, by omega, by go_num, aloneAt_step HAc.out Ht1.out Ht2.out (Or.inr Hd.out), Hx.out⟩
                    case measure => simp [intOf]; omega
                  exact AllReadyH.nil
                exact AllReadyH.nil
              exact AllReadyH.nil
            refine AllReadyH.cons rfl (fun K_ hK => ?_) ?_
            · go_simp
              have hb8 := (Below.refl W0.heap.size W0).alloc (Nat.le_refl _) (.cells #[.string ⟨(t2).toArray⟩] 9)
              have cb8 : (W0.alloc (.cells #[.string ⟨(t2).toArray⟩] 9)).cell? ⟨W0.heap.size, 0, none⟩ = some (.string ⟨(t2).toArray⟩) := by rw [Lib.cell_of_heap (heap_alloc_new W0 _)]; rfl
              obtain ⟨W8, hW8⟩ : ∃ W, W = W0.alloc (.cells #[.string ⟨(t2).toArray⟩] 9) := ⟨_, rfl⟩
              have hl8 : W0.heap.size < W8.heap.size := by rw [hW8]; simp
              rw [← hW8] at hb8 cb8 ⊢
              clear hW8
              refine hK.out _ _ ((hH0).trans (hb8.mono (hH0).size)) (fun hH8 => ?_)
              clear hK K_
              try simp only [Act.put, List.getElem_toArray, List.getElem_cons_zero, List.getElem_cons_succ, List.setIfInBounds_toArray, List.set_cons_zero, List.set_cons_succ]
              refine wpAnyH_ready (rs := [14]) (by kernel_rfl) (by simp) ?_
              refine AllReadyH.cons rfl (fun K_ hK => ?_) ?_
              · go_simp
                have hb9 := (Below.refl W8.heap.size W8).alloc (Nat.le_refl _) (.cells #[.string ⟨(t1).toArray⟩] 9)
                have cb9 : (W8.alloc (.cells #[.string ⟨(t1).toArray⟩] 9)).cell? ⟨W8.heap.size, 0, none⟩ = some (.string ⟨(t1).toArray⟩) := by rw [Lib.cell_of_heap (heap_alloc_new W8 _)]; rfl
                obtain ⟨W9, hW9⟩ : ∃ W, W = W8.alloc (.cells #[.string ⟨(t1).toArray⟩] 9) := ⟨_, rfl⟩
                have hl9 : W8.heap.size < W9.heap.size := by rw [hW9]; simp
                rw [← hW9] at hb9 cb9 ⊢
                clear hW9
                have c20_9 := (hb9.cell (p := ⟨W0.heap.size, 0, none⟩) hl8).trans cb8
                have l20_9 : (⟨W0.heap.size, 0, none⟩ : Addr).block < W9.heap.size := Nat.lt_of_lt_of_le hl8 hb9.size
                refine hK.out _ _ ((hH8).trans (hb9.mono (hH8).size)) (fun hH9 => ?_)
                clear hK K_
                try simp only [Act.put, List.getElem_toArray, List.getElem_cons_zero, List.getElem_cons_succ, List.setIfInBounds_toArray, List.set_cons_zero, List.set_cons_succ]
                refine wpAnyH_ready (rs := [15]) (by kernel_rfl) (by simp) ?_
                refine AllReadyH.cons rfl (fun K_ hK => ?_) ?_
                · go_simp
                  refine (of_hash KK _ 1 (t1) _ (HL0.out.below hH9) ⟨_, rfl, cb9⟩ (by omega)).mono ?_
                  rintro e W10 ⟨rfl, hb10⟩
                  rw [← Hh1.out]
                  have c20_10 := (hb10.cell (p := ⟨W0.heap.size, 0, none⟩) l20_9).trans c20_9
                  have l20_10 : (⟨W0.heap.size, 0, none⟩ : Addr).block < W10.heap.size := Nat.lt_of_lt_of_le l20_9 hb10.size
                  have c14_10 := (hb10.cell (p := ⟨W8.heap.size, 0, none⟩) hl9).trans cb9
                  have l14_10 : (⟨W8.heap.size, 0, none⟩ : Addr).block < W10.heap.size := Nat.lt_of_lt_of_le hl9 hb10.size
                  refine hK.out _ _ ((hH9).trans (hb10.mono (hH9).size)) (fun hH10 => ?_)
                  clear hK K_
                  try simp only [Act.put, List.getElem_toArray, List.getElem_cons_zero, List.getElem_cons_succ, List.setIfInBounds_toArray, List.set_cons_zero, List.set_cons_succ]
                  refine wpAnyH_ready (rs := [21]) (by kernel_rfl) (by simp) ?_
                  refine AllReadyH.cons rfl (fun K_ hK => ?_) ?_
                  · go_simp
                    refine (of_hash KK _ 1 (t2) _ (HL0.out.below hH10) ⟨_, rfl, c20_10⟩ (by omega)).mono ?_
                    rintro e W11 ⟨rfl, hb11⟩
                    rw [← Hh2.out]
                    have c20_11 := (hb11.cell (p := ⟨W0.heap.size, 0, none⟩) l20_10).trans c20_10
                    have l20_11 : (⟨W0.heap.size, 0, none⟩ : Addr).block < W11.heap.size := Nat.lt_of_lt_of_le l20_10 hb11.size
                    have c14_11 := (hb11.cell (p := ⟨W8.heap.size, 0, none⟩) l14_10).trans c14_10
                    have l14_11 : (⟨W8.heap.size, 0, none⟩ : Addr).block < W11.heap.size := Nat.lt_of_lt_of_le l14_10 hb11.size
                    refine hK.out _ _ ((hH10).trans (hb11.mono (hH10).size)) (fun hH11 => ?_)
                    clear hK K_
                    try simp only [Act.put, List.getElem_toArray, List.getElem_cons_zero, List.getElem_cons_succ, List.setIfInBounds_toArray, List.set_cons_zero, List.set_cons_succ]
                    refine wpAnyH_take (i := 22) (v := ?_) rfl (by kernel_rfl) (by kernel_rfl) (by kernel_rfl) (fun _ _ _ h => h) (Or.inl ⟨by kernel_rfl, ?_⟩) hH11 ?_
                    rotate_left 1
                    · intro w hSw
                      go_simp
                      try with_reducible rfl
                    try simp only [Act.put, List.getElem_toArray, List.getElem_cons_zero, List.getElem_cons_succ, List.setIfInBounds_toArray, List.set_cons_zero, List.set_cons_succ]
                    refine wpAnyH_take (i := 23) (v := ?_) rfl (by kernel_rfl) (by kernel_rfl) (by kernel_rfl) (fun _ _ _ h => h) (Or.inl ⟨by kernel_rfl, ?_⟩) hH11 ?_
                    rotate_left 1
                    · intro w hSw
                      go_simp
                      try with_reducible rfl
                    try simp only [Act.put, List.getElem_toArray, List.getElem_cons_zero, List.getElem_cons_succ, List.setIfInBounds_toArray, List.set_cons_zero, List.set_cons_succ]
                    refine wpAnyH_done (by kernel_rfl) ?_ _
                    have Hx := Lib.hid (Hbx.out.trans (hH11.mono Hbx.out.size))
                    clear hH11
                    go_wp2_with fail
                    go_roundw
                    case rel => exact ⟨c + 1, by omega, by go_num, aloneAt_step HAc.out Ht1.out Ht2.out (Or.inr Hd.out), Hx.out⟩
                    case measure => simp [intOf]; omega
                  exact AllReadyH.nil
                exact AllReadyH.nil
              exact AllReadyH.nil
            exact AllReadyH.nil
        · obtain rfl : c = j := by omega
          have c1 : ¬ (c : Int) < (c : Int) := by omega
          have Hl512 : Hid ((ls.getD c []).length ≤ 512) := Lib.hid (by rw [← Ht1.out]; omega)
          go_wp2_with fail
          go_roundw
          case rel => exact ⟨c + 1, by omega, by go_num, small_step H5.out Hl512.out, alone_step HAl.out HAc.out, Hbx.out⟩
          case measure => simp [intOf]; omega
    · obtain rfl : m = j := by omega
      have j1 : ¬ (m : Int) < (m : Int) := by omega
      have hmin : min ls.length 60 = m := by rw [← Hm.out]; omega
      have Hlast : Hid (∀ d, lastAt KK ls d m = blobS KK (stAt KK ls (min ls.length 60)) d) := Lib.hid (fun d => by rw [hmin]; exact last_blob KK ls m H5.out HAl.out d)
      clear hjm hmin hj HAl
      go_wp2_with fail
      refine (hsto.out wr Hb.out).mono ?_
      rintro e w2 ⟨q, S, rfl, h2, hbig, hB2⟩
      obtain ⟨bl, hbl⟩ : ∃ bl, bl = stAt KK ls (min ls.length 60) := ⟨_, rfl⟩
      rw [← hbl] at h2 Hlast
      have H2 := Lib.hid h2
      have HB2 := Lib.hid (Hb.out.trans (hB2.mono Hb.out.size))
      have Hbig : Hid (∀ x ∈ S, w.heap.size ≤ x) := Lib.hid (fun x hx => Nat.le_trans Hb.out.size (hbig x hx))
      clear h2 hbig hB2 hbl hsto
      go_wp2_with fail
      refine (rnew_any x w2).mono ?_
      rintro e w3 ⟨rfl, hr3, hB3⟩
      obtain ⟨B, hB⟩ : ∃ B, B = clampB x := ⟨_, rfl⟩
      have B0 : 0 ≤ B := by rw [hB]; exact clampB_lo x
      have B1 : B ≤ 1000 := by rw [hB]; exact clampB_hi x
      rw [← hB] at hr3
      have HBx := Lib.hid hB
      have H3 := Lib.hid (H2.out.below hB3)
      have HB3 := Lib.hid (HB2.out.trans (hB3.mono HB2.out.size))
      obtain ⟨r, hr⟩ : ∃ r, r = w2.heap.size := ⟨_, rfl⟩
      rw [← hr] at hr3 ⊢
      have HrS : Hid (r ∉ S) := Lib.hid (fun hx => by have := H2.out.lt r hx; omega)
      have Hrw : Hid (w.heap.size ≤ r) := Lib.hid (by rw [hr]; exact HB2.out.size)
      have Hr3 := Lib.hid hr3
      have H0S : Hid (0 ∉ S) := Lib.hid (fun hx => by have := Hbig.out 0 hx; have := HL.out.lt; omega)
      have Hlo : Hid (∀ y ∈ r :: S, w.heap.size ≤ y) := Lib.hid (by intro y hy; rcases List.mem_cons.1 hy with rfl | hy; exact Hrw.out; exact Hbig.out y hy)
      clear hB3 hr hr3 hB
      go_wp2_with fail
      refine (rtnew_any x w3).mono ?_
      rintro e w4 ⟨rfl, hu4, hB4⟩
      rw [← HBx.out] at hu4
      have H4 := Lib.hid (H3.out.below hB4)
      have Hr4 := Lib.hid (Hr3.out.below hB4)
      have HB4 := Lib.hid (HB3.out.trans (hB4.mono HB3.out.size))
      obtain ⟨u, hu⟩ : ∃ r, r = w3.heap.size := ⟨_, rfl⟩
      rw [← hu] at hu4 ⊢
      have HuS : Hid (u ∉ S) := Lib.hid (fun hx => by have := H3.out.lt u hx; omega)
      have Hur : Hid (u ≠ r) := Lib.hid (fun hx => by have := Hr3.out.lt; omega)
      have Huw : Hid (w.heap.size ≤ u) := Lib.hid (by rw [hu]; exact HB3.out.size)
      have Hu4 := Lib.hid hu4
      clear hB4 hu hu4
      go_wp2_with fail
      go_loopw [12] (fun i wr => ∃ (j : Nat) (c : Int), j ≤ n ∧ j ≤ 100 ∧ i = .int .i64 j ∧ 0 ≤ c ∧ c ≤ B ∧ StoreAt KK wr q S bl (900000 - 2 * j) ∧ RatAt wr r B c ∧ RtAt wr u B c ∧ Below w.heap.size w wr) (fun i _ => 100 - (intOf i).toNat)
      case atStart => exact ⟨0, B, by omega, by omega, rfl, B0, by omega, H4.out, Hr4.out, Hu4.out, HB4.out⟩
      case round =>
        obtain ⟨j, c, hj, hj100, rfl, c0, c1, hst, hr, hu, hb⟩ := hrel
        have HSt := Lib.hid hst
        have Hr := Lib.hid hr
        have Hu := Lib.hid hu
        have Hb := Lib.hid hb
        clear hst hr hu hb
        by_cases hjj : j < n ∧ j < 100
        · obtain ⟨h1, h2⟩ := hjj
          have j1 : (j : Int) < (n : Int) := by omega
          have j2 : (j : Int) < 100 := by omega
          have hid : j < ds.length := by rw [← Hn.out]; exact h1
          obtain ⟨b, o, rfl, hbl, hr, hfit⟩ := (HA.out.below Hb.out) j hid
          obtain ⟨a, ha⟩ : ∃ a, a = ds[j] := ⟨_, rfl⟩
          rw [← ha] at hr hfit
          have Hfit := Lib.hid hfit
          have asz : a.cells.length = 239 := ActG.len hfit
          have aone := ActG.one hfit
          have adix : (Tryd.prog.info? 68).map (·.size) = some a.cells.length := by rw [act_info, asz]
          have adixA : (Tryd.prog.info? 68).map (·.size) = some a.cells.toArray.size := by rw [act_info]; simp [asz]
          have asza : a.cells.toArray.size = 239 := by simp [asz]
          have aund := Tryd.underlying68
          have azero := act_zero
          obtain ⟨ac, hac⟩ : ∃ ac, ac = a.cells := ⟨_, rfl⟩
          rw [← hac] at hr asz aone adix adixA asza
          have Hac := Lib.hid hac
          clear ha hac hfit
          go_upto_region 22 with (first | (refine wpList_load_mid rfl 68 _ rfl b (o + j * 239) rfl ac _ hr aund rfl adix ?_) | (refine wpList_store_row rfl 68 _ _ rfl wr.heap.size ac.toArray rfl rfl 68 _ (heap_alloc_new wr _) adixA (by rw [asza, azero]) aone ?_))
          show Code.wp _ _ _ _ ((wr.alloc (.cells Tryd.zeroCells68 68)).setRow wr.heap.size ac.toArray)
          obtain ⟨hq_w7, hB_w7⟩ := put_new wr Tryd.zeroCells68 ac.toArray 68
          obtain ⟨xb, hp_w7⟩ : ∃ q, q = wr.heap.size := ⟨_, rfl⟩
          obtain ⟨w7, hw_w7⟩ : ∃ y, y = ((wr.alloc (.cells Tryd.zeroCells68 68)).setRow wr.heap.size ac.toArray) := ⟨_, rfl⟩
          rw [← hw_w7] at hq_w7 hB_w7 ⊢
          rw [← hp_w7] at hq_w7 ⊢
          have HQ_w7 := Lib.hid hq_w7
          have HB_w7 := Lib.hid hB_w7
          have Hp_w7 := Lib.hid hp_w7
          clear hq_w7 hB_w7 hp_w7 hw_w7
          have HB7 := Lib.hid (Hb.out.trans (HB_w7.out.mono Hb.out.size))
          have H7 := Lib.hid (HSt.out.below HB_w7.out)
          have Hr7 := Lib.hid (Hr.out.below HB_w7.out)
          have Hu7 := Lib.hid (Hu.out.below HB_w7.out)
          have hq7 := HQ_w7.out
          rw [Hac.out] at hq7
          obtain ⟨x0, xf, xt⟩ := act_mem Hfit.out hq7
          clear hr asz aone adix adixA asza aund azero hq7
          obtain ⟨kd, hkd⟩ : ∃ kd, kd = a.kind := ⟨_, rfl⟩
          obtain ⟨tx, htx⟩ : ∃ tx, tx = a.text := ⟨_, rfl⟩
          obtain ⟨f, hf⟩ : ∃ f, f = a.f := ⟨_, rfl⟩
          rw [← hkd] at x0
          rw [← htx] at xt
          rw [← hf] at xf
          have Hff : Hid f.Fit := Lib.hid (by rw [hf]; exact Hfit.out)
          clear hkd htx hf Hac
          by_cases htl : (1000 : Int) < (tx.length : Int)
          · go_wp2_with fail
            go_ret
            exact ⟨rfl, HB7.out⟩
          have fdix : (Tryd.prog.info? 44).map (·.size) = some f.cells.length := by rw [fr_info, FrD.len Hff.out]
          have fund := Tryd.underlying44
          have fsz : f.cells.toArray.size = 237 := by simp [FrD.len Hff.out]
          have fone : f.cells.toArray.all (·.oneCell') = true := FrD.row_one Hff.out
          have fdixA : (Tryd.prog.info? 44).map (·.size) = some f.cells.toArray.size := by rw [fdix]; simp
          have hzf : Tryd.zeroCells44.size = 237 := by rw [zero_frame, FrD.row_size zeroFr_fit]
          obtain ⟨fc, hfc⟩ : ∃ fc, fc = f.cells := ⟨_, rfl⟩
          rw [← hfc] at xf fdix fsz fone fdixA
          have Hfc := Lib.hid hfc
          clear hfc
          go_upto_region 25 with (first | (refine wpList_load_mid rfl 44 _ rfl xb 1 rfl fc _ xf fund rfl fdix ?_) | (refine wpList_store_row rfl 44 _ _ rfl w7.heap.size fc.toArray rfl rfl 44 _ (heap_alloc_new w7 _) fdixA (by rw [fsz, hzf]) fone ?_))
          show Code.wp _ _ _ _ ((w7.alloc (.cells Tryd.zeroCells44 44)).setRow w7.heap.size fc.toArray)
          obtain ⟨hq_w8, hB_w8⟩ := put_new w7 Tryd.zeroCells44 fc.toArray 44
          obtain ⟨fb, hp_w8⟩ : ∃ q, q = w7.heap.size := ⟨_, rfl⟩
          obtain ⟨w8, hw_w8⟩ : ∃ y, y = ((w7.alloc (.cells Tryd.zeroCells44 44)).setRow w7.heap.size fc.toArray) := ⟨_, rfl⟩
          rw [← hw_w8] at hq_w8 hB_w8 ⊢
          rw [← hp_w8] at hq_w8 ⊢
          have HQ_w8 := Lib.hid hq_w8
          have HB_w8 := Lib.hid hB_w8
          have Hp_w8 := Lib.hid hp_w8
          clear hq_w8 hB_w8 hp_w8 hw_w8
          have HB8 := Lib.hid (HB7.out.trans (HB_w8.out.mono HB7.out.size))
          have H8 := Lib.hid (H7.out.below HB_w8.out)
          have Hr8 := Lib.hid (Hr7.out.below HB_w8.out)
          have Hu8 := Lib.hid (Hu7.out.below HB_w8.out)
          have x0 := (HB_w8.out.cell (p := ⟨xb, 0, none⟩) (heap_lt HQ_w7.out)).trans x0
          have xt := (HB_w8.out.cell (p := ⟨xb, 238, none⟩) (heap_lt HQ_w7.out)).trans xt
          have HQf : Hid (w8.heap[fb]? = some (.cells f.row 44 (0, 0))) := Lib.hid (by have h := HQ_w8.out; rw [Hfc.out] at h; exact h)
          clear xf fdix fund fsz fone fdixA
          by_cases hk1 : kd = 1
          · subst hk1
            go_wp2_with fail
            refine (rtick_any w8 r B c Hr8.out).mono ?_
            rintro e w9 ⟨rfl, hr9, hO9⟩
            have H9 := Lib.hid (H8.out.keep (fun y hy => hO9.block y (H8.out.lt y hy) (by simp; exact fun e => HrS.out (e ▸ hy))))
            have HB9 := Lib.hid (HB8.out.trans (hO9.below HB8.out.size (by simp; exact Hrw.out)))
            have Hu9 := Lib.hid (Hu8.out.keep (hO9.block u Hu8.out.lt (by simp; exact Hur.out)))
            have Hr9 := Lib.hid hr9
            clear hr9 hO9
            obtain ⟨u0, u1, uz⟩ := Hu9.out.cells
            have uz1 := uz 1
            have hset := Hu9.out.set B
            have hOu : Only [u] w9 (w9.setCell ⟨u, 1, none⟩ (.int .i64 B)) := (Only.refl [u] w9).setCell (p := ⟨u, 1, none⟩) (by simp) _
            have Hset := Lib.hid hset
            have HOu := Lib.hid hOu
            clear hset hOu uz
            go_wp2_with fail
            go_roundw
            case rel => exact ⟨j + 1, B, by omega, by omega, by go_num, B0, by omega, (H9.out.keep (fun y hy => HOu.out.block y (H9.out.lt y hy) (by simp; exact fun e => HuS.out (e ▸ hy)))).less (by omega), Hr9.out.keep (HOu.out.block r Hr9.out.lt (by simp; exact fun e => Hur.out e.symm)), Hset.out, HB9.out.trans (HOu.out.below HB9.out.size (by simp; exact Huw.out))⟩
            case measure => simp [intOf]; omega
          have hk1' : (kd == 1) = false := by simp [hk1]
          by_cases hk3 : kd = 3
          · subst hk3
            have hbs := (Below.refl w8.heap.size w8).alloc (Nat.le_refl _) (.cells #[.string ⟨tx.toArray⟩] 9)
            have hcs : (w8.alloc (.cells #[.string ⟨tx.toArray⟩] 9)).cell? ⟨w8.heap.size, 0, none⟩ = some (.string ⟨tx.toArray⟩) := by rw [Lib.cell_of_heap (heap_alloc_new w8 _)]; rfl
            have hof := Lib.hid (of_hash KK (some ⟨w8.heap.size, 0, none⟩) 1 tx _ ((HL.out.below HB8.out).below hbs) ⟨_, rfl, hcs⟩ (by omega))
            have hh := hashB_length KK tx
            obtain ⟨h, hhh⟩ : ∃ h, h = hashB KK tx := ⟨_, rfl⟩
            rw [← hhh] at hh hof
            have Hhh := Lib.hid hhh
            have HBs := Lib.hid hbs
            have Hh := Lib.hid hh
            clear hbs hcs hhh
            go_wp2_with fail
            refine hof.out.mono ?_
            rintro e w9 ⟨rfl, hbo⟩
            have HBo := Lib.hid (HBs.out.trans (hbo.mono HBs.out.size))
            have HQo := Lib.hid (below_keep HBo.out HQf.out)
            have dixD : (Tryd.prog.info? 23).map (·.size) = some (digV h).size := by rw [dig_info]; simp [digV, byV_length, Hh.out]
            have dszD : (digV h).size = 32 := by simp [digV, byV_length, Hh.out]
            have doneD := digV_one h
            have dth : w9.there fb 102 (digV h).size := fun k hk => by
              have ra := (fr_mem Hff.out HQo.out).out
              have hl : k < (byV f.out).length := by rw [byV_length, Hff.out.lo]; omega
              exact ⟨by rw [ra k _ (List.getElem?_eq_getElem hl)]; rfl, Lib.frozen_of_heap HQo.out _⟩
            have hput := fr_put_out Hff.out h Hh.out HQo.out
            have hO2 : Only [fb] w9 (w9.setCells fb 102 (byV h)) := seg_only (by simp) _ _ _ (Only.refl _ _)
            obtain ⟨f2, hf2⟩ : ∃ f2 : FrD, f2 = { f with out := h } := ⟨_, rfl⟩
            have Hf2f : Hid f2.Fit := Lib.hid (by rw [hf2]; exact fr_out_fit Hff.out h Hh.out)
            rw [← hf2] at hput
            have Hf2 := Lib.hid hf2
            have Hput := Lib.hid hput
            have HO2 := Lib.hid hO2
            obtain ⟨DV, hDV⟩ : ∃ D, D = digV h := ⟨_, rfl⟩
            rw [← hDV] at dixD dszD doneD dth ⊢
            have HDV : Hid (DV.toList = byV h) := Lib.hid (by rw [hDV]; rfl)
            clear hf2 hput hO2 hbo hof hDV
            go_upto_region 30 with (refine wpList_store_mid rfl 23 _ _ rfl fb 102 DV rfl rfl dth dixD doneD ?_)
            rw [HDV.out]
            obtain ⟨w10, hw10⟩ : ∃ y, y = w9.setCells fb 102 (byV h) := ⟨_, rfl⟩
            rw [← hw10] at Hput HO2 ⊢
            clear hw10 dth dixD dszD doneD
            have HB9 := Lib.hid (HB8.out.trans (HBo.out.mono HB8.out.size))
            have Hfw : Hid (w.heap.size ≤ fb) := Lib.hid (by rw [Hp_w8.out]; exact HB7.out.size)
            have HB10 := Lib.hid (HB9.out.trans (HO2.out.below HB9.out.size (by simp; exact Hfw.out)))
            have H10 := Lib.hid ((H8.out.below HBo.out).keep (fun y hy => HO2.out.block y ((H8.out.below HBo.out).lt y hy) (by simp; have := H7.out.lt y hy; have := Hp_w8.out; omega)))
            have Hr10 := Lib.hid ((Hr8.out.below HBo.out).keep (HO2.out.block r (Hr8.out.below HBo.out).lt (by simp; have := Hr7.out.lt; have := Hp_w8.out; omega)))
            have Hu10 := Lib.hid ((Hu8.out.below HBo.out).keep (HO2.out.block u (Hu8.out.below HBo.out).lt (by simp; have := Hu7.out.lt; have := Hp_w8.out; omega)))
            have rfs := FrD.row_size Hf2f.out
            have rfi := fr_infoR Hf2f.out
            obtain ⟨R, hR⟩ : ∃ R, R = f2.row := ⟨_, rfl⟩
            have HQR : Hid (w10.heap[fb]? = some (.cells R 44 (0, 0))) := Lib.hid (by rw [hR]; exact Hput.out)
            rw [← hR] at rfs rfi
            have HR := Lib.hid hR
            have hzs : Tryd.zeroCells50.size = 238 := by rw [zero_sent, sentRow_size 0 zeroFr_fit]
            have Hfbn : Hid (fb ∉ r :: S ∧ fb ≠ u) := Lib.hid ⟨fun hx => by
              have e := Hp_w8.out
              rcases List.mem_cons.1 hx with e2 | hx
              · have := Hr7.out.lt; omega
              · have := H7.out.lt _ hx; omega, fun hx => by have := Hp_w8.out; have := Hu7.out.lt; omega⟩
            have fout := (fr_mem Hf2f.out (by rw [← hR]; exact HQR.out)).out
            have dix : (Tryd.prog.info? 23).map (·.size) = some (byV f2.out).length := by rw [dig_info, byV_length, Hf2f.out.lo]
            have dund := Tryd.underlying23
            have lfb : fb < w10.heap.size := heap_lt HQR.out
            obtain ⟨ow, how⟩ : ∃ ow, ow = f2.out := ⟨_, rfl⟩
            obtain ⟨oc, hoc⟩ : ∃ oc, oc = byV ow := ⟨_, rfl⟩
            rw [← how, ← hoc] at fout dix
            have How := Lib.hid how
            have Hoc := Lib.hid hoc
            have Hol : Hid (ow.length = 32) := Lib.hid (by rw [how]; exact Hf2f.out.lo)
            clear hR how hoc
            go_wp2_with fail
            clear x0 xt
            go_loopw [15, 16, 17] (fun bv hv kv wr => ∃ c : Nat, c ≤ m ∧ kv = .int .i64 c ∧ bv = .string ⟨((lastAt KK ls ow c).1).toArray⟩ ∧ hv = .bool (lastAt KK ls ow c).2 ∧ Below w10.heap.size w10 wr) (fun _ _ kv _ => m - (intOf kv).toNat)
            case atStart => exact ⟨0, by omega, rfl, rfl, rfl, Below.refl _ _⟩
            case round =>
              obtain ⟨d, hd, rfl, rfl, rfl, hbx⟩ := hrel
              have Hbx := Lib.hid hbx
              have HBx := Lib.hid (HB10.out.trans (hbx.mono HB10.out.size))
              clear hbx
              by_cases hdm : d < m
              · have d2 : (d : Int) < (m : Int) := by omega
                have hcl : d < ls.length := by rw [← Hm.out]; omega
                obtain ⟨la, hla⟩ : ∃ p, p = lastAt KK ls ow d := ⟨_, rfl⟩
                rw [← hla]
                have Hla := Lib.hid hla
                clear hla
                obtain ⟨a9, rfl, hab, hk0⟩ := HS.out d hcl
                have hck := (HBx.out.cell (p := a9.add d) (by rw [block_add]; exact hab)).trans hk0
                rw [getD_get hcl] at hck
                obtain ⟨t2, ht2⟩ : ∃ t, t = ls.getD d [] := ⟨_, rfl⟩
                rw [← ht2] at hck
                have Ht2 := Lib.hid ht2
                have ht2l : t2.length ≤ 512 := by rw [ht2]; exact H5.out d hdm
                have lac : (a9.add d).block < wr.heap.size := by rw [block_add]; exact Nat.lt_of_lt_of_le hab HBx.out.size
                have hl2 := hashB_length KK t2
                obtain ⟨h2, hh2⟩ : ∃ h, h = hashB KK t2 := ⟨_, rfl⟩
                rw [← hh2] at hl2
                have Hh2 := Lib.hid hh2
                have HL0 := Lib.hid (HL.out.below HBx.out)
                have fout := range_below fout Hbx.out lfb
                have lfx : fb < wr.heap.size := Nat.lt_of_lt_of_le lfb Hbx.out.size
                have heq : ∀ W : World, (Op.equalIn 10000 23 (.agg (digV h2)) (.agg oc.toArray)).run Tryd.prog W = .ok (h2 == ow) W := fun W => by rw [Hoc.out]; exact eqIn_dig W h2 ow hl2 Hol.out
                have Hck := Lib.hid hck
                have HbA := Lib.hid hab
                clear hk0 ht2 hh2 hab
                go_upto_region 35 with fail
                by_cases hdd : h2 = ow
                · rw [show (h2 == ow) = true by simp [hdd]] at heq
                  have Hst : Hid (lastAt KK ls ow (d + 1) = (t2, true)) := Lib.hid (last_step_yes Ht2.out (by rw [← Hh2.out]; exact hdd))
                  clear hdd
                  refine wp_region_held_drew (S := fun w' => Below wr.heap.size wr w') (by kernel_rfl) ((Below.refl _ _).drew) (fun hH0 => ?_)
                  obtain ⟨W0, hW0⟩ : ∃ W, W = wr.drew := ⟨_, rfl⟩
                  rw [← hW0] at hH0 ⊢
                  clear hW0
                  refine wpAnyH_take (i := 0) (v := ?_) rfl (by kernel_rfl) (by kernel_rfl) (by kernel_rfl) (fun _ _ _ h => h) (Or.inl ⟨by kernel_rfl, ?_⟩) hH0 ?_
                  rotate_left 1
                  · intro w hSw
                    go_simp
                    try with_reducible rfl
                  try simp only [Act.put, List.getElem_toArray, List.getElem_cons_zero, List.getElem_cons_succ, List.setIfInBounds_toArray, List.set_cons_zero, List.set_cons_succ]
                  refine wpAnyH_take (i := 1) (v := ?_) rfl (by kernel_rfl) (by kernel_rfl) (by kernel_rfl) (fun _ _ _ h => h) (Or.inl ⟨by kernel_rfl, ?_⟩) hH0 ?_
                  rotate_left 1
                  · intro w hSw
                    go_simp
                    try with_reducible rfl
                  try simp only [Act.put, List.getElem_toArray, List.getElem_cons_zero, List.getElem_cons_succ, List.setIfInBounds_toArray, List.set_cons_zero, List.set_cons_succ]
                  refine wpAnyH_take (i := 2) (v := ?_) rfl (by kernel_rfl) (by kernel_rfl) (by kernel_rfl) (fun _ _ _ h => h) (Or.inl ⟨by kernel_rfl, ?_⟩) hH0 ?_
                  rotate_left 1
                  · intro w hSw
                    go_simp
                    try with_reducible rfl
                  try simp only [Act.put, List.getElem_toArray, List.getElem_cons_zero, List.getElem_cons_succ, List.setIfInBounds_toArray, List.set_cons_zero, List.set_cons_succ]
                  refine wpAnyH_take (i := 3) (v := ?_) rfl (by kernel_rfl) (by kernel_rfl) (by kernel_rfl) (fun _ _ _ h => h) (Or.inl ⟨by kernel_rfl, ?_⟩) hH0 ?_
                  rotate_left 1
                  · intro w hSw
                    have f0 := (hSw.cell (p := (a9.add d)) lac).trans hck
                    go_simp
                    try with_reducible rfl
                  try simp only [Act.put, List.getElem_toArray, List.getElem_cons_zero, List.getElem_cons_succ, List.setIfInBounds_toArray, List.set_cons_zero, List.set_cons_succ]
                  refine wpAnyH_take (i := 6) (v := ?_) rfl (by kernel_rfl) (by kernel_rfl) (by kernel_rfl) (fun _ _ _ h => h) (Or.inl ⟨by kernel_rfl, ?_⟩) hH0 ?_
                  rotate_left 1
                  · intro w hSw
                    go_simp
                    try with_reducible rfl
                  try simp only [Act.put, List.getElem_toArray, List.getElem_cons_zero, List.getElem_cons_succ, List.setIfInBounds_toArray, List.set_cons_zero, List.set_cons_succ]
                  refine wpAnyH_take (i := 7) (v := _) rfl (by kernel_rfl) (by kernel_rfl) (by kernel_rfl) (fun _ _ _ h => h) (yieldsIf_load_mid (by kernel_rfl) _ _ rfl _ _ rfl oc _ (fun W hW => range_below fout hW lfx) dund rfl dix) hH0 ?_
                  try simp only [Act.put, List.getElem_toArray, List.getElem_cons_zero, List.getElem_cons_succ, List.setIfInBounds_toArray, List.set_cons_zero, List.set_cons_succ]
                  refine wpAnyH_ready (rs := [4]) (by kernel_rfl) (by simp) ?_
                  refine AllReadyH.cons rfl (fun K_ hK => ?_) ?_
                  · go_simp
                    have hb1 := (Below.refl W0.heap.size W0).alloc (Nat.le_refl _) (.cells #[.string ⟨(t2).toArray⟩] 9)
                    have cb1 : (W0.alloc (.cells #[.string ⟨(t2).toArray⟩] 9)).cell? ⟨W0.heap.size, 0, none⟩ = some (.string ⟨(t2).toArray⟩) := by rw [Lib.cell_of_heap (heap_alloc_new W0 _)]; rfl
                    obtain ⟨W1, hW1⟩ : ∃ W, W = W0.alloc (.cells #[.string ⟨(t2).toArray⟩] 9) := ⟨_, rfl⟩
                    have hl1 : W0.heap.size < W1.heap.size := by rw [hW1]; simp
                    rw [← hW1] at hb1 cb1 ⊢
                    clear hW1
                    refine hK.out _ _ ((hH0).trans (hb1.mono (hH0).size)) (fun hH1 => ?_)
                    clear hK K_
                    try simp only [Act.put, List.getElem_toArray, List.getElem_cons_zero, List.getElem_cons_succ, List.setIfInBounds_toArray, List.set_cons_zero, List.set_cons_succ]
                    refine wpAnyH_ready (rs := [5]) (by kernel_rfl) (by simp) ?_
                    refine AllReadyH.cons rfl (fun K_ hK => ?_) ?_
                    · go_simp
                      refine (of_hash KK _ 1 (t2) _ (HL0.out.below hH1) ⟨_, rfl, cb1⟩ (by omega)).mono ?_
                      rintro e W2 ⟨rfl, hb2⟩
                      rw [← Hh2.out]
                      have c4_2 := (hb2.cell (p := ⟨W0.heap.size, 0, none⟩) hl1).trans cb1
                      have l4_2 : (⟨W0.heap.size, 0, none⟩ : Addr).block < W2.heap.size := Nat.lt_of_lt_of_le hl1 hb2.size
                      refine hK.out _ _ ((hH1).trans (hb2.mono (hH1).size)) (fun hH2 => ?_)
                      clear hK K_
                      try simp only [Act.put, List.getElem_toArray, List.getElem_cons_zero, List.getElem_cons_succ, List.setIfInBounds_toArray, List.set_cons_zero, List.set_cons_succ]
                      refine wpAnyH_take (i := 8) (v := ?_) rfl (by kernel_rfl) (by kernel_rfl) (by kernel_rfl) (fun _ _ _ h => h) (Or.inl ⟨by kernel_rfl, ?_⟩) hH2 ?_
                      rotate_left 1
                      · intro w hSw
                        go_simp
                        try with_reducible rfl
                      try simp only [Act.put, List.getElem_toArray, List.getElem_cons_zero, List.getElem_cons_succ, List.setIfInBounds_toArray, List.set_cons_zero, List.set_cons_succ]
                      refine wpAnyH_done (by kernel_rfl) ?_ _
                      have hck9 := (hH2.cell (p := a9.add d) lac).trans Hck.out
                      have Hx := Lib.hid (Hbx.out.trans (hH2.mono Hbx.out.size))
                      clear hH2 hck
                      go_wp2_with fail
                      go_roundw
                      case rel => exact ⟨d + 1, by omega, by go_num, by rw [Hst.out], by rw [Hst.out], Hx.out⟩
                      case measure => simp [intOf]; omega
                    exact AllReadyH.nil
                  exact AllReadyH.nil
                · rw [show (h2 == ow) = false by simp [hdd]] at heq
                  have Hst : Hid (lastAt KK ls ow (d + 1) = la) := Lib.hid (by rw [Hla.out]; exact last_step_no Ht2.out (by rw [← Hh2.out]; exact hdd))
                  clear hdd
                  refine wp_region_held_drew (S := fun w' => Below wr.heap.size wr w') (by kernel_rfl) ((Below.refl _ _).drew) (fun hH0 => ?_)
                  obtain ⟨W0, hW0⟩ : ∃ W, W = wr.drew := ⟨_, rfl⟩
                  rw [← hW0] at hH0 ⊢
                  clear hW0
                  refine wpAnyH_take (i := 0) (v := ?_) rfl (by kernel_rfl) (by kernel_rfl) (by kernel_rfl) (fun _ _ _ h => h) (Or.inl ⟨by kernel_rfl, ?_⟩) hH0 ?_
                  rotate_left 1
                  · intro w hSw
                    go_simp
                    try with_reducible rfl
                  try simp only [Act.put, List.getElem_toArray, List.getElem_cons_zero, List.getElem_cons_succ, List.setIfInBounds_toArray, List.set_cons_zero, List.set_cons_succ]
                  refine wpAnyH_take (i := 1) (v := ?_) rfl (by kernel_rfl) (by kernel_rfl) (by kernel_rfl) (fun _ _ _ h => h) (Or.inl ⟨by kernel_rfl, ?_⟩) hH0 ?_
                  rotate_left 1
                  · intro w hSw
                    go_simp
                    try with_reducible rfl
                  try simp only [Act.put, List.getElem_toArray, List.getElem_cons_zero, List.getElem_cons_succ, List.setIfInBounds_toArray, List.set_cons_zero, List.set_cons_succ]
                  refine wpAnyH_take (i := 2) (v := ?_) rfl (by kernel_rfl) (by kernel_rfl) (by kernel_rfl) (fun _ _ _ h => h) (Or.inl ⟨by kernel_rfl, ?_⟩) hH0 ?_
                  rotate_left 1
                  · intro w hSw
                    go_simp
                    try with_reducible rfl
                  try simp only [Act.put, List.getElem_toArray, List.getElem_cons_zero, List.getElem_cons_succ, List.setIfInBounds_toArray, List.set_cons_zero, List.set_cons_succ]
                  refine wpAnyH_take (i := 3) (v := ?_) rfl (by kernel_rfl) (by kernel_rfl) (by kernel_rfl) (fun _ _ _ h => h) (Or.inl ⟨by kernel_rfl, ?_⟩) hH0 ?_
                  rotate_left 1
                  · intro w hSw
                    have f0 := (hSw.cell (p := (a9.add d)) lac).trans hck
                    go_simp
                    try with_reducible rfl
                  try simp only [Act.put, List.getElem_toArray, List.getElem_cons_zero, List.getElem_cons_succ, List.setIfInBounds_toArray, List.set_cons_zero, List.set_cons_succ]
                  refine wpAnyH_take (i := 6) (v := ?_) rfl (by kernel_rfl) (by kernel_rfl) (by kernel_rfl) (fun _ _ _ h => h) (Or.inl ⟨by kernel_rfl, ?_⟩) hH0 ?_
                  rotate_left 1
                  · intro w hSw
                    go_simp
                    try with_reducible rfl
                  try simp only [Act.put, List.getElem_toArray, List.getElem_cons_zero, List.getElem_cons_succ, List.setIfInBounds_toArray, List.set_cons_zero, List.set_cons_succ]
                  refine wpAnyH_take (i := 7) (v := _) rfl (by kernel_rfl) (by kernel_rfl) (by kernel_rfl) (fun _ _ _ h => h) (yieldsIf_load_mid (by kernel_rfl) _ _ rfl _ _ rfl oc _ (fun W hW => range_below fout hW lfx) dund rfl dix) hH0 ?_
                  try simp only [Act.put, List.getElem_toArray, List.getElem_cons_zero, List.getElem_cons_succ, List.setIfInBounds_toArray, List.set_cons_zero, List.set_cons_succ]
                  refine wpAnyH_ready (rs := [4]) (by kernel_rfl) (by simp) ?_
                  refine AllReadyH.cons rfl (fun K_ hK => ?_) ?_
                  · go_simp
                    have hb1 := (Below.refl W0.heap.size W0).alloc (Nat.le_refl _) (.cells #[.string ⟨(t2).toArray⟩] 9)
                    have cb1 : (W0.alloc (.cells #[.string ⟨(t2).toArray⟩] 9)).cell? ⟨W0.heap.size, 0, none⟩ = some (.string ⟨(t2).toArray⟩) := by rw [Lib.cell_of_heap (heap_alloc_new W0 _)]; rfl
                    obtain ⟨W1, hW1⟩ : ∃ W, W = W0.alloc (.cells #[.string ⟨(t2).toArray⟩] 9) := ⟨_, rfl⟩
                    have hl1 : W0.heap.size < W1.heap.size := by rw [hW1]; simp
                    rw [← hW1] at hb1 cb1 ⊢
                    clear hW1
                    refine hK.out _ _ ((hH0).trans (hb1.mono (hH0).size)) (fun hH1 => ?_)
                    clear hK K_
                    try simp only [Act.put, List.getElem_toArray, List.getElem_cons_zero, List.getElem_cons_succ, List.setIfInBounds_toArray, List.set_cons_zero, List.set_cons_succ]
                    refine wpAnyH_ready (rs := [5]) (by kernel_rfl) (by simp) ?_
                    refine AllReadyH.cons rfl (fun K_ hK => ?_) ?_
                    · go_simp
                      refine (of_hash KK _ 1 (t2) _ (HL0.out.below hH1) ⟨_, rfl, cb1⟩ (by omega)).mono ?_
                      rintro e W2 ⟨rfl, hb2⟩
                      rw [← Hh2.out]
                      have c4_2 := (hb2.cell (p := ⟨W0.heap.size, 0, none⟩) hl1).trans cb1
                      have l4_2 : (⟨W0.heap.size, 0, none⟩ : Addr).block < W2.heap.size := Nat.lt_of_lt_of_le hl1 hb2.size
                      refine hK.out _ _ ((hH1).trans (hb2.mono (hH1).size)) (fun hH2 => ?_)
                      clear hK K_
                      try simp only [Act.put, List.getElem_toArray, List.getElem_cons_zero, List.getElem_cons_succ, List.setIfInBounds_toArray, List.set_cons_zero, List.set_cons_succ]
                      refine wpAnyH_take (i := 8) (v := ?_) rfl (by kernel_rfl) (by kernel_rfl) (by kernel_rfl) (fun _ _ _ h => h) (Or.inl ⟨by kernel_rfl, ?_⟩) hH2 ?_
                      rotate_left 1
                      · intro w hSw
                        go_simp
                        try with_reducible rfl
                      try simp only [Act.put, List.getElem_toArray, List.getElem_cons_zero, List.getElem_cons_succ, List.setIfInBounds_toArray, List.set_cons_zero, List.set_cons_succ]
                      refine wpAnyH_done (by kernel_rfl) ?_ _
                      have Hx := Lib.hid (Hbx.out.trans (hH2.mono Hbx.out.size))
                      clear hH2 hck
                      go_wp2_with fail
                      go_roundw
                      case rel => exact ⟨d + 1, by omega, by go_num, by rw [Hst.out], by rw [Hst.out], Hx.out⟩
                      case measure => simp [intOf]; omega
                    exact AllReadyH.nil
                  exact AllReadyH.nil
              · obtain rfl : d = m := by omega
                have d1 : ¬ (d : Int) < (d : Int) := by omega
                have Hbb5 : Hid ((lastAt KK ls ow d).1.length ≤ 512) := Lib.hid (last_len H5.out)
                have Hblob := Lib.hid (Hlast.out ow)
                obtain ⟨⟨bb, has⟩, hbh⟩ : ∃ p, p = lastAt KK ls ow d := ⟨_, rfl⟩
                rw [← hbh] at Hbb5 Hblob ⊢
                have hbb5 : bb.length ≤ 512 := Hbb5.out
                simp only []
                clear hbh Hbb5
                have Hx := Lib.hid (H10.out.below Hbx.out)
                have Hrx := Lib.hid (Hr10.out.below Hbx.out)
                have Hux := Lib.hid (Hu10.out.below Hbx.out)
                have HQx := Lib.hid (below_keep Hbx.out HQR.out)
                have hsv := Lib.hid (serve_any KK q S bl r B c f2 (900000 - 2 * j - 1) wr (Hx.out.less (by omega)) Hrx.out Hf2f.out (HL.out.below HBx.out) H0S.out HrS.out c0 (by omega))
                rw [← HR.out] at hsv
                go_wp2_with (refine wpList_load_row rfl 44 _ rfl fb rfl 44 R (0, 0) _ HQx.out Tryd.underlying44 rfl rfi ?_)
                refine hsv.out.mono ?_
                rintro e w12 ⟨t1, g1, is1, rfl, hs1, h12, hr12, hO12⟩
                have gf1 := hs1.fit Hf2f.out
                have Hs1 := Lib.hid hs1
                have Gf1 := Lib.hid gf1
                have H12 := Lib.hid h12
                have Hr12 := Lib.hid hr12
                have HB12 := Lib.hid (HBx.out.trans (hO12.below HBx.out.size Hlo.out))
                have HQ12 := Lib.hid (hO12.keep HQx.out Hfbn.out.1)
                have Hu12 := Lib.hid (Hux.out.keep (hO12.block u Hux.out.lt (fun hy => by rcases List.mem_cons.1 hy with e | hy; exact Hur.out e; exact HuS.out hy)))
                have ss1 := sentRow_size t1 gf1
                have so1 := sent_one t1 gf1
                have si1 : (Tryd.prog.info? 50).map (·.size) = some (sentRow t1 g1).size := by rw [ss1]; exact sent_info
                obtain ⟨SR1, hSR1⟩ : ∃ R, R = sentRow t1 g1 := ⟨_, rfl⟩
                rw [← hSR1] at ss1 so1 si1 ⊢
                have HSR1 := Lib.hid hSR1
                clear hs1 h12 hr12 hO12 gf1 hSR1 hsv
                go_upto_region 39 with (first | (refine wpList_store_row rfl 50 _ _ rfl w12.heap.size SR1 rfl rfl 50 _ (heap_alloc_new w12 _) si1 (by rw [ss1, hzs]) so1 ?_))
                show Code.wp _ _ _ _ ((w12.alloc (.cells Tryd.zeroCells50 50)).setRow w12.heap.size SR1)
                obtain ⟨hq_w13, hB_w13⟩ := put_new w12 Tryd.zeroCells50 SR1 50
                obtain ⟨b1, hp_w13⟩ : ∃ q, q = w12.heap.size := ⟨_, rfl⟩
                obtain ⟨w13, hw_w13⟩ : ∃ y, y = ((w12.alloc (.cells Tryd.zeroCells50 50)).setRow w12.heap.size SR1) := ⟨_, rfl⟩
                rw [← hw_w13] at hq_w13 hB_w13 ⊢
                rw [← hp_w13] at hq_w13 ⊢
                have HQ_w13 := Lib.hid hq_w13
                have HB_w13 := Lib.hid hB_w13
                have Hp_w13 := Lib.hid hp_w13
                clear hq_w13 hB_w13 hp_w13 hw_w13
                have H13 := Lib.hid (H12.out.below HB_w13.out)
                have Hr13 := Lib.hid (Hr12.out.below HB_w13.out)
                have Hu13 := Lib.hid (Hu12.out.below HB_w13.out)
                have HB13 := Lib.hid (HB12.out.trans (HB_w13.out.mono HB12.out.size))
                have HQ13 := Lib.hid (below_keep HB_w13.out HQ12.out)
                have hsv2 := Lib.hid (rserve_any bb has u B c f2 w13 Hu13.out Hf2f.out hbb5 c0 (by omega))
                rw [← HR.out] at hsv2
                go_wp2_with (refine wpList_load_row rfl 44 _ rfl fb rfl 44 R (0, 0) _ HQ13.out Tryd.underlying44 rfl rfi ?_)
                refine hsv2.out.mono ?_
                rintro e w14 ⟨t2, g2, is2, rfl, hs2, hu14, hO14⟩
                have gf2 := hs2.fit Hf2f.out
                obtain ⟨rfl, rfl, ek, eo, ea, ed, em⟩ := serv_same (by rw [← How.out]; exact Hblob.out.symm) Hs1.out hs2
                have Hs2 := Lib.hid hs2
                have Gf2 := Lib.hid gf2
                have Hem : Hid (g1.kind = g2.kind ∧ g1.out = g2.out ∧ g1.at_ = g2.at_ ∧ g1.data = g2.data ∧ sameM g1.mani g2.mani = true) := Lib.hid ⟨ek, eo, ea, ed, em⟩
                have Hu14 := Lib.hid hu14
                have HO14 := Lib.hid hO14
                have H14 := Lib.hid (H13.out.keep (fun y hy => hO14.block y (H13.out.lt y hy) (by simp; exact fun e => HuS.out (e ▸ hy))))
                have Hr14 := Lib.hid (Hr13.out.keep (hO14.block r Hr13.out.lt (by simp; exact fun e => Hur.out e.symm)))
                have HB14 := Lib.hid (HB13.out.trans (hO14.below HB13.out.size (by simp; exact Huw.out)))
                have HS14 := Lib.hid (hO14.keep HQ_w13.out (by simp; have := Hp_w13.out; have := Hu12.out.lt; omega))
                have ss2 := sentRow_size t1 gf2
                have so2 := sent_one t1 gf2
                have si2 : (Tryd.prog.info? 50).map (·.size) = some (sentRow t1 g2).size := by rw [ss2]; exact sent_info
                obtain ⟨SR2, hSR2⟩ : ∃ R, R = sentRow t1 g2 := ⟨_, rfl⟩
                rw [← hSR2] at ss2 so2 si2 ⊢
                have HSR2 := Lib.hid hSR2
                clear hs2 hu14 hO14 gf2 hSR2 hsv2 ek eo ea ed em
                go_upto_region 40 with (first | (refine wpList_store_row rfl 50 _ _ rfl w14.heap.size SR2 rfl rfl 50 _ (heap_alloc_new w14 _) si2 (by rw [ss2, hzs]) so2 ?_))
                show Code.wp _ _ _ _ ((w14.alloc (.cells Tryd.zeroCells50 50)).setRow w14.heap.size SR2)
                obtain ⟨hq_w15, hB_w15⟩ := put_new w14 Tryd.zeroCells50 SR2 50
                obtain ⟨b2, hp_w15⟩ : ∃ q, q = w14.heap.size := ⟨_, rfl⟩
                obtain ⟨w15, hw_w15⟩ : ∃ y, y = ((w14.alloc (.cells Tryd.zeroCells50 50)).setRow w14.heap.size SR2) := ⟨_, rfl⟩
                rw [← hw_w15] at hq_w15 hB_w15 ⊢
                rw [← hp_w15] at hq_w15 ⊢
                have HQ_w15 := Lib.hid hq_w15
                have HB_w15 := Lib.hid hB_w15
                have Hp_w15 := Lib.hid hp_w15
                clear hq_w15 hB_w15 hp_w15 hw_w15
                have H15 := Lib.hid (H14.out.below HB_w15.out)
                have Hr15 := Lib.hid (Hr14.out.below HB_w15.out)
                have Hu15 := Lib.hid (Hu14.out.below HB_w15.out)
                have HB15 := Lib.hid (HB14.out.trans (HB_w15.out.mono HB14.out.size))
                have HS15 := Lib.hid (below_keep HB_w15.out HS14.out)
                have ho : Only [u] w12 w15 := ((Only.of_below HB_w13.out).trans HO14.out).trans (Only.of_below HB_w15.out)
                have hk1 := (Hs1.out.only ho (by simp; exact Hux.out.lt)).ok
                have hk2 := (Hs2.out.only (bs := []) (Only.of_below HB_w15.out) (by simp)).ok
                have Hk1 := Lib.hid hk1
                have Hk2 := Lib.hid hk2
                obtain ⟨c9, hc9⟩ : ∃ x, x = left' c is1 := ⟨_, rfl⟩
                have c90 : 0 ≤ c9 ∧ c9 ≤ B := by rw [hc9]; exact left_okS c0 c1 Hs1.out
                rw [← hc9] at Hr15 Hu15
                have hlf : Hid (∀ W, Below w15.heap.size w15 W → Calls Tryd.prog 32 #[.pointer (some ⟨r, 0, none⟩)] W fun e w' => e = .returned (.int .i64 c9) ∧ Below W.heap.size W w') := Lib.hid (fun W hW => (rleft_any W r B c9 (Hr15.out.below hW)).mono (fun _ _ h => ⟨h.1, by rw [h.2]; exact Below.refl _ _⟩))
                have hsame : Hid (∀ W, Below w15.heap.size w15 W → Calls Tryd.prog 31 #[.agg (sentCells t1 g1).toArray, .agg (sentCells t1 g2).toArray] W fun e w' => e = .returned (.bool true) ∧ Below W.heap.size W w') := Lib.hid (fun W hW => rsent_same t1 g1 g2 W Gf1.out Gf2.out ((Hk1.out.below hW (Nat.le_refl _)).more hW.size) ((Hk2.out.below hW (Nat.le_refl _)).more hW.size) Hem.out.1 Hem.out.2.1 Hem.out.2.2.1 Hem.out.2.2.2.1 Hem.out.2.2.2.2)
                have r1 : w15.rangeAt b1 0 (sentCells t1 g1) := fun k v hv => by rw [Nat.zero_add, Lib.cell_of_heap HS15.out, HSR1.out]; unfold sentRow; rw [List.getElem?_toArray]; exact hv
                have r2 : w15.rangeAt b2 0 (sentCells t1 g2) := fun k v hv => by rw [Nat.zero_add, Lib.cell_of_heap HQ_w15.out, HSR2.out]; unfold sentRow; rw [List.getElem?_toArray]; exact hv
                have l1 : b1 < w15.heap.size := heap_lt HS15.out
                have l2 : b2 < w15.heap.size := heap_lt HQ_w15.out
                have lu : u < w15.heap.size := Hu15.out.lt
                have u1 := Hu15.out.cells.2.1
                have sdix1 : (Tryd.prog.info? 50).map (·.size) = some (sentCells t1 g1).length := by rw [sent_len t1 Gf1.out]; exact sent_info
                have sdix2 : (Tryd.prog.info? 50).map (·.size) = some (sentCells t1 g2).length := by rw [sent_len t1 Gf2.out]; exact sent_info
                have sund := Tryd.underlying50
                obtain ⟨sc1, hsc1⟩ : ∃ x, x = sentCells t1 g1 := ⟨_, rfl⟩
                obtain ⟨sc2, hsc2⟩ : ∃ x, x = sentCells t1 g2 := ⟨_, rfl⟩
                rw [← hsc1] at hsame r1 sdix1
                rw [← hsc2] at hsame r2 sdix2
                obtain ⟨c90a, c90b⟩ := c90
                clear hk1 hk2 ho ss1 so1 si1 ss2 so2 si2 hc9 hsc1 hsc2
                go_upto_region 40 with fail
                refine wp_region_held_drew (S := fun w' => Below w15.heap.size w15 w') (by kernel_rfl) ((Below.refl _ _).drew) (fun hH0 => ?_)
                obtain ⟨W0, hW0⟩ : ∃ W, W = w15.drew := ⟨_, rfl⟩
                rw [← hW0] at hH0 ⊢
                clear hW0
                refine wpAnyH_take (i := 0) (v := ?_) rfl (by kernel_rfl) (by kernel_rfl) (by kernel_rfl) (fun _ _ _ h => h) (Or.inl ⟨by kernel_rfl, ?_⟩) hH0 ?_
                rotate_left 1
                · intro w hSw
                  go_simp
                  try with_reducible rfl
                try simp only [Act.put, List.getElem_toArray, List.getElem_cons_zero, List.getElem_cons_succ, List.setIfInBounds_toArray, List.set_cons_zero, List.set_cons_succ]
                refine wpAnyH_take (i := 1) (v := ?_) rfl (by kernel_rfl) (by kernel_rfl) (by kernel_rfl) (fun _ _ _ h => h) (Or.inl ⟨by kernel_rfl, ?_⟩) hH0 ?_
                rotate_left 1
                · intro w hSw
                  go_simp
                  try with_reducible rfl
                try simp only [Act.put, List.getElem_toArray, List.getElem_cons_zero, List.getElem_cons_succ, List.setIfInBounds_toArray, List.set_cons_zero, List.set_cons_succ]
                refine wpAnyH_take (i := 2) (v := ?_) rfl (by kernel_rfl) (by kernel_rfl) (by kernel_rfl) (fun _ _ _ h => h) (Or.inl ⟨by kernel_rfl, ?_⟩) hH0 ?_
                rotate_left 1
                · intro w hSw
                  go_simp
                  try with_reducible rfl
                try simp only [Act.put, List.getElem_toArray, List.getElem_cons_zero, List.getElem_cons_succ, List.setIfInBounds_toArray, List.set_cons_zero, List.set_cons_succ]
                refine wpAnyH_take (i := 3) (v := ?_) rfl (by kernel_rfl) (by kernel_rfl) (by kernel_rfl) (fun _ _ _ h => h) (Or.inl ⟨by kernel_rfl, ?_⟩) hH0 ?_
                rotate_left 1
                · intro w hSw
                  go_simp
                  try with_reducible rfl
                try simp only [Act.put, List.getElem_toArray, List.getElem_cons_zero, List.getElem_cons_succ, List.setIfInBounds_toArray, List.set_cons_zero, List.set_cons_succ]
                refine wpAnyH_take (i := 4) (v := _) rfl (by kernel_rfl) (by kernel_rfl) (by kernel_rfl) (fun _ _ _ h => h) (yieldsIf_load_mid (by kernel_rfl) _ _ rfl _ _ rfl sc1 _ (fun W hW => range_below r1 hW l1) sund rfl sdix1) hH0 ?_
                try simp only [Act.put, List.getElem_toArray, List.getElem_cons_zero, List.getElem_cons_succ, List.setIfInBounds_toArray, List.set_cons_zero, List.set_cons_succ]
                refine wpAnyH_take (i := 5) (v := _) rfl (by kernel_rfl) (by kernel_rfl) (by kernel_rfl) (fun _ _ _ h => h) (yieldsIf_load_mid (by kernel_rfl) _ _ rfl _ _ rfl sc2 _ (fun W hW => range_below r2 hW l2) sund rfl sdix2) hH0 ?_
                try simp only [Act.put, List.getElem_toArray, List.getElem_cons_zero, List.getElem_cons_succ, List.setIfInBounds_toArray, List.set_cons_zero, List.set_cons_succ]
                refine wpAnyH_ready (rs := [6]) (by kernel_rfl) (by simp) ?_
                refine AllReadyH.cons rfl (fun K_ hK => ?_) ?_
                · go_simp
                  refine (hsame.out W0 hH0).mono ?_
                  rintro e W1 ⟨rfl, hb1⟩
                  refine hK.out _ _ ((hH0).trans (hb1.mono (hH0).size)) (fun hH1 => ?_)
                  clear hK K_
                  try simp only [Act.put, List.getElem_toArray, List.getElem_cons_zero, List.getElem_cons_succ, List.setIfInBounds_toArray, List.set_cons_zero, List.set_cons_succ]
                  refine wpAnyH_take (i := 7) (v := ?_) rfl (by kernel_rfl) (by kernel_rfl) (by kernel_rfl) (fun _ _ _ h => h) (Or.inl ⟨by kernel_rfl, ?_⟩) hH1 ?_
                  rotate_left 1
                  · intro w hSw
                    go_simp
                    try with_reducible rfl
                  try simp only [Act.put, List.getElem_toArray, List.getElem_cons_zero, List.getElem_cons_succ, List.setIfInBounds_toArray, List.set_cons_zero, List.set_cons_succ]
                  refine wpAnyH_take (i := 8) (v := ?_) rfl (by kernel_rfl) (by kernel_rfl) (by kernel_rfl) (fun _ _ _ h => h) (Or.inl ⟨by kernel_rfl, ?_⟩) hH1 ?_
                  rotate_left 1
                  · intro w hSw
                    go_simp
                    try with_reducible rfl
                  try simp only [Act.put, List.getElem_toArray, List.getElem_cons_zero, List.getElem_cons_succ, List.setIfInBounds_toArray, List.set_cons_zero, List.set_cons_succ]
                  refine wpAnyH_take (i := 9) (v := ?_) rfl (by kernel_rfl) (by kernel_rfl) (by kernel_rfl) (fun _ _ _ h => h) (Or.inl ⟨by kernel_rfl, ?_⟩) hH1 ?_
                  rotate_left 1
                  · intro w hSw
                    go_simp
                    try with_reducible rfl
                  try simp only [Act.put, List.getElem_toArray, List.getElem_cons_zero, List.getElem_cons_succ, List.setIfInBounds_toArray, List.set_cons_zero, List.set_cons_succ]
                  refine wpAnyH_take (i := 10) (v := ?_) rfl (by kernel_rfl) (by kernel_rfl) (by kernel_rfl) (fun _ _ _ h => h) (Or.inl ⟨by kernel_rfl, ?_⟩) hH1 ?_
                  rotate_left 1
                  · intro w hSw
                    go_simp
                    try with_reducible rfl
                  try simp only [Act.put, List.getElem_toArray, List.getElem_cons_zero, List.getElem_cons_succ, List.setIfInBounds_toArray, List.set_cons_zero, List.set_cons_succ]
                  refine wpAnyH_take (i := 12) (v := ?_) rfl (by kernel_rfl) (by kernel_rfl) (by kernel_rfl) (fun _ _ _ h => h) (Or.inl ⟨by kernel_rfl, ?_⟩) hH1 ?_
                  rotate_left 1
                  · intro w hSw
                    go_simp
                    try with_reducible rfl
                  try simp only [Act.put, List.getElem_toArray, List.getElem_cons_zero, List.getElem_cons_succ, List.setIfInBounds_toArray, List.set_cons_zero, List.set_cons_succ]
                  refine wpAnyH_take (i := 13) (v := ?_) rfl (by kernel_rfl) (by kernel_rfl) (by kernel_rfl) (fun _ _ _ h => h) (Or.inl ⟨by kernel_rfl, ?_⟩) hH1 ?_
                  rotate_left 1
                  · intro w hSw
                    go_simp
                    try with_reducible rfl
                  try simp only [Act.put, List.getElem_toArray, List.getElem_cons_zero, List.getElem_cons_succ, List.setIfInBounds_toArray, List.set_cons_zero, List.set_cons_succ]
                  refine wpAnyH_take (i := 14) (v := ?_) rfl (by kernel_rfl) (by kernel_rfl) (by kernel_rfl) (fun _ _ _ h => h) (Or.inl ⟨by kernel_rfl, ?_⟩) hH1 ?_
                  rotate_left 1
                  · intro w hSw
                    go_simp
                    try with_reducible rfl
                  try simp only [Act.put, List.getElem_toArray, List.getElem_cons_zero, List.getElem_cons_succ, List.setIfInBounds_toArray, List.set_cons_zero, List.set_cons_succ]
                  refine wpAnyH_take (i := 15) (v := ?_) rfl (by kernel_rfl) (by kernel_rfl) (by kernel_rfl) (fun _ _ _ h => h) (Or.inl ⟨by kernel_rfl, ?_⟩) hH1 ?_
                  rotate_left 1
                  · intro w hSw
                    have f0 := (hSw.cell (p := ⟨u, 1, none⟩) lu).trans u1
                    go_simp
                    try with_reducible rfl
                  try simp only [Act.put, List.getElem_toArray, List.getElem_cons_zero, List.getElem_cons_succ, List.setIfInBounds_toArray, List.set_cons_zero, List.set_cons_succ]
                  refine wpAnyH_ready (rs := [11]) (by kernel_rfl) (by simp) ?_
                  refine AllReadyH.cons rfl (fun K_ hK => ?_) ?_
                  · go_simp
                    refine (hlf.out W1 hH1).mono ?_
                    rintro e W2 ⟨rfl, hb2⟩
                    refine hK.out _ _ ((hH1).trans (hb2.mono (hH1).size)) (fun hH2 => ?_)
                    clear hK K_
                    try simp only [Act.put, List.getElem_toArray, List.getElem_cons_zero, List.getElem_cons_succ, List.setIfInBounds_toArray, List.set_cons_zero, List.set_cons_succ]
                    refine wpAnyH_take (i := 16) (v := ?_) rfl (by kernel_rfl) (by kernel_rfl) (by kernel_rfl) (fun _ _ _ h => h) (Or.inl ⟨by kernel_rfl, ?_⟩) hH2 ?_
                    rotate_left 1
                    · intro w hSw
                      go_simp
                      try with_reducible rfl
                    try simp only [Act.put, List.getElem_toArray, List.getElem_cons_zero, List.getElem_cons_succ, List.setIfInBounds_toArray, List.set_cons_zero, List.set_cons_succ]
                    refine wpAnyH_take (i := 17) (v := ?_) rfl (by kernel_rfl) (by kernel_rfl) (by kernel_rfl) (fun _ _ _ h => h) (Or.inl ⟨by kernel_rfl, ?_⟩) hH2 ?_
                    rotate_left 1
                    · intro w hSw
                      go_simp
                      try with_reducible rfl
                    try simp only [Act.put, List.getElem_toArray, List.getElem_cons_zero, List.getElem_cons_succ, List.setIfInBounds_toArray, List.set_cons_zero, List.set_cons_succ]
                    refine wpAnyH_done (by kernel_rfl) ?_ _
                    have H16 := Lib.hid (H15.out.below hH2)
                    have Hr16 := Lib.hid (Hr15.out.below hH2)
                    have Hu16 := Lib.hid (Hu15.out.below hH2)
                    have HB16 := Lib.hid (HB15.out.trans (hH2.mono HB15.out.size))
                    clear hH2 r1 r2 u1
                    go_wp2_with fail
                    go_roundw
                    case rel => exact ⟨j + 1, c9, by omega, by omega, by go_num, c90a, c90b, H16.out.less (by omega), Hr16.out, Hu16.out, HB16.out⟩
                    case measure => simp [intOf]; omega
                  exact AllReadyH.nil
                exact AllReadyH.nil
          · have hk3' : (kd == 3) = false := by simp [hk3]
            have rfs := FrD.row_size Hff.out
            have rfi := fr_infoR Hff.out
            obtain ⟨R, hR⟩ : ∃ R, R = f.row := ⟨_, rfl⟩
            have HQR : Hid (w8.heap[fb]? = some (.cells R 44 (0, 0))) := Lib.hid (by rw [hR]; exact HQf.out)
            rw [← hR] at rfs rfi
            have HR := Lib.hid hR
            have hzs : Tryd.zeroCells50.size = 238 := by rw [zero_sent, sentRow_size 0 zeroFr_fit]
            have Hfbn : Hid (fb ∉ r :: S ∧ fb ≠ u) := Lib.hid ⟨fun hx => by
              have e := Hp_w8.out
              rcases List.mem_cons.1 hx with e2 | hx
              · have := Hr7.out.lt; omega
              · have := H7.out.lt _ hx; omega, fun hx => by have := Hp_w8.out; have := Hu7.out.lt; omega⟩
            have fout := (fr_mem Hff.out (by rw [← hR]; exact HQR.out)).out
            have dix : (Tryd.prog.info? 23).map (·.size) = some (byV f.out).length := by rw [dig_info, byV_length, Hff.out.lo]
            have dund := Tryd.underlying23
            have lfb : fb < w8.heap.size := heap_lt HQR.out
            obtain ⟨ow, how⟩ : ∃ ow, ow = f.out := ⟨_, rfl⟩
            obtain ⟨oc, hoc⟩ : ∃ oc, oc = byV ow := ⟨_, rfl⟩
            rw [← how, ← hoc] at fout dix
            have How := Lib.hid how
            have Hoc := Lib.hid hoc
            have Hol : Hid (ow.length = 32) := Lib.hid (by rw [how]; exact Hff.out.lo)
            clear hR how hoc
            go_wp2_with fail
            clear x0 xt
            go_loopw [15, 16, 17] (fun bv hv kv wr => ∃ c : Nat, c ≤ m ∧ kv = .int .i64 c ∧ bv = .string ⟨((lastAt KK ls ow c).1).toArray⟩ ∧ hv = .bool (lastAt KK ls ow c).2 ∧ Below w8.heap.size w8 wr) (fun _ _ kv _ => m - (intOf kv).toNat)
            case atStart => exact ⟨0, by omega, rfl, rfl, rfl, Below.refl _ _⟩
            case round =>
              obtain ⟨d, hd, rfl, rfl, rfl, hbx⟩ := hrel
              have Hbx := Lib.hid hbx
              have HBx := Lib.hid (HB8.out.trans (hbx.mono HB8.out.size))
              clear hbx
              by_cases hdm : d < m
              · have d2 : (d : Int) < (m : Int) := by omega
                have hcl : d < ls.length := by rw [← Hm.out]; omega
                obtain ⟨la, hla⟩ : ∃ p, p = lastAt KK ls ow d := ⟨_, rfl⟩
                rw [← hla]
                have Hla := Lib.hid hla
                clear hla
                obtain ⟨a9, rfl, hab, hk0⟩ := HS.out d hcl
                have hck := (HBx.out.cell (p := a9.add d) (by rw [block_add]; exact hab)).trans hk0
                rw [getD_get hcl] at hck
                obtain ⟨t2, ht2⟩ : ∃ t, t = ls.getD d [] := ⟨_, rfl⟩
                rw [← ht2] at hck
                have Ht2 := Lib.hid ht2
                have ht2l : t2.length ≤ 512 := by rw [ht2]; exact H5.out d hdm
                have lac : (a9.add d).block < wr.heap.size := by rw [block_add]; exact Nat.lt_of_lt_of_le hab HBx.out.size
                have hl2 := hashB_length KK t2
                obtain ⟨h2, hh2⟩ : ∃ h, h = hashB KK t2 := ⟨_, rfl⟩
                rw [← hh2] at hl2
                have Hh2 := Lib.hid hh2
                have HL0 := Lib.hid (HL.out.below HBx.out)
                have fout := range_below fout Hbx.out lfb
                have lfx : fb < wr.heap.size := Nat.lt_of_lt_of_le lfb Hbx.out.size
                have heq : ∀ W : World, (Op.equalIn 10000 23 (.agg (digV h2)) (.agg oc.toArray)).run Tryd.prog W = .ok (h2 == ow) W := fun W => by rw [Hoc.out]; exact eqIn_dig W h2 ow hl2 Hol.out
                have Hck := Lib.hid hck
                have HbA := Lib.hid hab
                clear hk0 ht2 hh2 hab
                go_upto_region 35 with fail
                by_cases hdd : h2 = ow
                · rw [show (h2 == ow) = true by simp [hdd]] at heq
                  have Hst : Hid (lastAt KK ls ow (d + 1) = (t2, true)) := Lib.hid (last_step_yes Ht2.out (by rw [← Hh2.out]; exact hdd))
                  clear hdd
                  refine wp_region_held_drew (S := fun w' => Below wr.heap.size wr w') (by kernel_rfl) ((Below.refl _ _).drew) (fun hH0 => ?_)
                  obtain ⟨W0, hW0⟩ : ∃ W, W = wr.drew := ⟨_, rfl⟩
                  rw [← hW0] at hH0 ⊢
                  clear hW0
                  refine wpAnyH_take (i := 0) (v := ?_) rfl (by kernel_rfl) (by kernel_rfl) (by kernel_rfl) (fun _ _ _ h => h) (Or.inl ⟨by kernel_rfl, ?_⟩) hH0 ?_
                  rotate_left 1
                  · intro w hSw
                    go_simp
                    try with_reducible rfl
                  try simp only [Act.put, List.getElem_toArray, List.getElem_cons_zero, List.getElem_cons_succ, List.setIfInBounds_toArray, List.set_cons_zero, List.set_cons_succ]
                  refine wpAnyH_take (i := 1) (v := ?_) rfl (by kernel_rfl) (by kernel_rfl) (by kernel_rfl) (fun _ _ _ h => h) (Or.inl ⟨by kernel_rfl, ?_⟩) hH0 ?_
                  rotate_left 1
                  · intro w hSw
                    go_simp
                    try with_reducible rfl
                  try simp only [Act.put, List.getElem_toArray, List.getElem_cons_zero, List.getElem_cons_succ, List.setIfInBounds_toArray, List.set_cons_zero, List.set_cons_succ]
                  refine wpAnyH_take (i := 2) (v := ?_) rfl (by kernel_rfl) (by kernel_rfl) (by kernel_rfl) (fun _ _ _ h => h) (Or.inl ⟨by kernel_rfl, ?_⟩) hH0 ?_
                  rotate_left 1
                  · intro w hSw
                    go_simp
                    try with_reducible rfl
                  try simp only [Act.put, List.getElem_toArray, List.getElem_cons_zero, List.getElem_cons_succ, List.setIfInBounds_toArray, List.set_cons_zero, List.set_cons_succ]
                  refine wpAnyH_take (i := 3) (v := ?_) rfl (by kernel_rfl) (by kernel_rfl) (by kernel_rfl) (fun _ _ _ h => h) (Or.inl ⟨by kernel_rfl, ?_⟩) hH0 ?_
                  rotate_left 1
                  · intro w hSw
                    have f0 := (hSw.cell (p := (a9.add d)) lac).trans hck
                    go_simp
                    try with_reducible rfl
                  try simp only [Act.put, List.getElem_toArray, List.getElem_cons_zero, List.getElem_cons_succ, List.setIfInBounds_toArray, List.set_cons_zero, List.set_cons_succ]
                  refine wpAnyH_take (i := 6) (v := ?_) rfl (by kernel_rfl) (by kernel_rfl) (by kernel_rfl) (fun _ _ _ h => h) (Or.inl ⟨by kernel_rfl, ?_⟩) hH0 ?_
                  rotate_left 1
                  · intro w hSw
                    go_simp
                    try with_reducible rfl
                  try simp only [Act.put, List.getElem_toArray, List.getElem_cons_zero, List.getElem_cons_succ, List.setIfInBounds_toArray, List.set_cons_zero, List.set_cons_succ]
                  refine wpAnyH_take (i := 7) (v := _) rfl (by kernel_rfl) (by kernel_rfl) (by kernel_rfl) (fun _ _ _ h => h) (yieldsIf_load_mid (by kernel_rfl) _ _ rfl _ _ rfl oc _ (fun W hW => range_below fout hW lfx) dund rfl dix) hH0 ?_
                  try simp only [Act.put, List.getElem_toArray, List.getElem_cons_zero, List.getElem_cons_succ, List.setIfInBounds_toArray, List.set_cons_zero, List.set_cons_succ]
                  refine wpAnyH_ready (rs := [4]) (by kernel_rfl) (by simp) ?_
                  refine AllReadyH.cons rfl (fun K_ hK => ?_) ?_
                  · go_simp
                    have hb1 := (Below.refl W0.heap.size W0).alloc (Nat.le_refl _) (.cells #[.string ⟨(t2).toArray⟩] 9)
                    have cb1 : (W0.alloc (.cells #[.string ⟨(t2).toArray⟩] 9)).cell? ⟨W0.heap.size, 0, none⟩ = some (.string ⟨(t2).toArray⟩) := by rw [Lib.cell_of_heap (heap_alloc_new W0 _)]; rfl
                    obtain ⟨W1, hW1⟩ : ∃ W, W = W0.alloc (.cells #[.string ⟨(t2).toArray⟩] 9) := ⟨_, rfl⟩
                    have hl1 : W0.heap.size < W1.heap.size := by rw [hW1]; simp
                    rw [← hW1] at hb1 cb1 ⊢
                    clear hW1
                    refine hK.out _ _ ((hH0).trans (hb1.mono (hH0).size)) (fun hH1 => ?_)
                    clear hK K_
                    try simp only [Act.put, List.getElem_toArray, List.getElem_cons_zero, List.getElem_cons_succ, List.setIfInBounds_toArray, List.set_cons_zero, List.set_cons_succ]
                    refine wpAnyH_ready (rs := [5]) (by kernel_rfl) (by simp) ?_
                    refine AllReadyH.cons rfl (fun K_ hK => ?_) ?_
                    · go_simp
                      refine (of_hash KK _ 1 (t2) _ (HL0.out.below hH1) ⟨_, rfl, cb1⟩ (by omega)).mono ?_
                      rintro e W2 ⟨rfl, hb2⟩
                      rw [← Hh2.out]
                      have c4_2 := (hb2.cell (p := ⟨W0.heap.size, 0, none⟩) hl1).trans cb1
                      have l4_2 : (⟨W0.heap.size, 0, none⟩ : Addr).block < W2.heap.size := Nat.lt_of_lt_of_le hl1 hb2.size
                      refine hK.out _ _ ((hH1).trans (hb2.mono (hH1).size)) (fun hH2 => ?_)
                      clear hK K_
                      try simp only [Act.put, List.getElem_toArray, List.getElem_cons_zero, List.getElem_cons_succ, List.setIfInBounds_toArray, List.set_cons_zero, List.set_cons_succ]
                      refine wpAnyH_take (i := 8) (v := ?_) rfl (by kernel_rfl) (by kernel_rfl) (by kernel_rfl) (fun _ _ _ h => h) (Or.inl ⟨by kernel_rfl, ?_⟩) hH2 ?_
                      rotate_left 1
                      · intro w hSw
                        go_simp
                        try with_reducible rfl
                      try simp only [Act.put, List.getElem_toArray, List.getElem_cons_zero, List.getElem_cons_succ, List.setIfInBounds_toArray, List.set_cons_zero, List.set_cons_succ]
                      refine wpAnyH_done (by kernel_rfl) ?_ _
                      have hck9 := (hH2.cell (p := a9.add d) lac).trans Hck.out
                      have Hx := Lib.hid (Hbx.out.trans (hH2.mono Hbx.out.size))
                      clear hH2 hck
                      go_wp2_with fail
                      go_roundw
                      case rel => exact ⟨d + 1, by omega, by go_num, by rw [Hst.out], by rw [Hst.out], Hx.out⟩
                      case measure => simp [intOf]; omega
                    exact AllReadyH.nil
                  exact AllReadyH.nil
                · rw [show (h2 == ow) = false by simp [hdd]] at heq
                  have Hst : Hid (lastAt KK ls ow (d + 1) = la) := Lib.hid (by rw [Hla.out]; exact last_step_no Ht2.out (by rw [← Hh2.out]; exact hdd))
                  clear hdd
                  refine wp_region_held_drew (S := fun w' => Below wr.heap.size wr w') (by kernel_rfl) ((Below.refl _ _).drew) (fun hH0 => ?_)
                  obtain ⟨W0, hW0⟩ : ∃ W, W = wr.drew := ⟨_, rfl⟩
                  rw [← hW0] at hH0 ⊢
                  clear hW0
                  refine wpAnyH_take (i := 0) (v := ?_) rfl (by kernel_rfl) (by kernel_rfl) (by kernel_rfl) (fun _ _ _ h => h) (Or.inl ⟨by kernel_rfl, ?_⟩) hH0 ?_
                  rotate_left 1
                  · intro w hSw
                    go_simp
                    try with_reducible rfl
                  try simp only [Act.put, List.getElem_toArray, List.getElem_cons_zero, List.getElem_cons_succ, List.setIfInBounds_toArray, List.set_cons_zero, List.set_cons_succ]
                  refine wpAnyH_take (i := 1) (v := ?_) rfl (by kernel_rfl) (by kernel_rfl) (by kernel_rfl) (fun _ _ _ h => h) (Or.inl ⟨by kernel_rfl, ?_⟩) hH0 ?_
                  rotate_left 1
                  · intro w hSw
                    go_simp
                    try with_reducible rfl
                  try simp only [Act.put, List.getElem_toArray, List.getElem_cons_zero, List.getElem_cons_succ, List.setIfInBounds_toArray, List.set_cons_zero, List.set_cons_succ]
                  refine wpAnyH_take (i := 2) (v := ?_) rfl (by kernel_rfl) (by kernel_rfl) (by kernel_rfl) (fun _ _ _ h => h) (Or.inl ⟨by kernel_rfl, ?_⟩) hH0 ?_
                  rotate_left 1
                  · intro w hSw
                    go_simp
                    try with_reducible rfl
                  try simp only [Act.put, List.getElem_toArray, List.getElem_cons_zero, List.getElem_cons_succ, List.setIfInBounds_toArray, List.set_cons_zero, List.set_cons_succ]
                  refine wpAnyH_take (i := 3) (v := ?_) rfl (by kernel_rfl) (by kernel_rfl) (by kernel_rfl) (fun _ _ _ h => h) (Or.inl ⟨by kernel_rfl, ?_⟩) hH0 ?_
                  rotate_left 1
                  · intro w hSw
                    have f0 := (hSw.cell (p := (a9.add d)) lac).trans hck
                    go_simp
                    try with_reducible rfl
                  try simp only [Act.put, List.getElem_toArray, List.getElem_cons_zero, List.getElem_cons_succ, List.setIfInBounds_toArray, List.set_cons_zero, List.set_cons_succ]
                  refine wpAnyH_take (i := 6) (v := ?_) rfl (by kernel_rfl) (by kernel_rfl) (by kernel_rfl) (fun _ _ _ h => h) (Or.inl ⟨by kernel_rfl, ?_⟩) hH0 ?_
                  rotate_left 1
                  · intro w hSw
                    go_simp
                    try with_reducible rfl
                  try simp only [Act.put, List.getElem_toArray, List.getElem_cons_zero, List.getElem_cons_succ, List.setIfInBounds_toArray, List.set_cons_zero, List.set_cons_succ]
                  refine wpAnyH_take (i := 7) (v := _) rfl (by kernel_rfl) (by kernel_rfl) (by kernel_rfl) (fun _ _ _ h => h) (yieldsIf_load_mid (by kernel_rfl) _ _ rfl _ _ rfl oc _ (fun W hW => range_below fout hW lfx) dund rfl dix) hH0 ?_
                  try simp only [Act.put, List.getElem_toArray, List.getElem_cons_zero, List.getElem_cons_succ, List.setIfInBounds_toArray, List.set_cons_zero, List.set_cons_succ]
                  refine wpAnyH_ready (rs := [4]) (by kernel_rfl) (by simp) ?_
                  refine AllReadyH.cons rfl (fun K_ hK => ?_) ?_
                  · go_simp
                    have hb1 := (Below.refl W0.heap.size W0).alloc (Nat.le_refl _) (.cells #[.string ⟨(t2).toArray⟩] 9)
                    have cb1 : (W0.alloc (.cells #[.string ⟨(t2).toArray⟩] 9)).cell? ⟨W0.heap.size, 0, none⟩ = some (.string ⟨(t2).toArray⟩) := by rw [Lib.cell_of_heap (heap_alloc_new W0 _)]; rfl
                    obtain ⟨W1, hW1⟩ : ∃ W, W = W0.alloc (.cells #[.string ⟨(t2).toArray⟩] 9) := ⟨_, rfl⟩
                    have hl1 : W0.heap.size < W1.heap.size := by rw [hW1]; simp
                    rw [← hW1] at hb1 cb1 ⊢
                    clear hW1
                    refine hK.out _ _ ((hH0).trans (hb1.mono (hH0).size)) (fun hH1 => ?_)
                    clear hK K_
                    try simp only [Act.put, List.getElem_toArray, List.getElem_cons_zero, List.getElem_cons_succ, List.setIfInBounds_toArray, List.set_cons_zero, List.set_cons_succ]
                    refine wpAnyH_ready (rs := [5]) (by kernel_rfl) (by simp) ?_
                    refine AllReadyH.cons rfl (fun K_ hK => ?_) ?_
                    · go_simp
                      refine (of_hash KK _ 1 (t2) _ (HL0.out.below hH1) ⟨_, rfl, cb1⟩ (by omega)).mono ?_
                      rintro e W2 ⟨rfl, hb2⟩
                      rw [← Hh2.out]
                      have c4_2 := (hb2.cell (p := ⟨W0.heap.size, 0, none⟩) hl1).trans cb1
                      have l4_2 : (⟨W0.heap.size, 0, none⟩ : Addr).block < W2.heap.size := Nat.lt_of_lt_of_le hl1 hb2.size
                      refine hK.out _ _ ((hH1).trans (hb2.mono (hH1).size)) (fun hH2 => ?_)
                      clear hK K_
                      try simp only [Act.put, List.getElem_toArray, List.getElem_cons_zero, List.getElem_cons_succ, List.setIfInBounds_toArray, List.set_cons_zero, List.set_cons_succ]
                      refine wpAnyH_take (i := 8) (v := ?_) rfl (by kernel_rfl) (by kernel_rfl) (by kernel_rfl) (fun _ _ _ h => h) (Or.inl ⟨by kernel_rfl, ?_⟩) hH2 ?_
                      rotate_left 1
                      · intro w hSw
                        go_simp
                        try with_reducible rfl
                      try simp only [Act.put, List.getElem_toArray, List.getElem_cons_zero, List.getElem_cons_succ, List.setIfInBounds_toArray, List.set_cons_zero, List.set_cons_succ]
                      refine wpAnyH_done (by kernel_rfl) ?_ _
                      have Hx := Lib.hid (Hbx.out.trans (hH2.mono Hbx.out.size))
                      clear hH2 hck
                      go_wp2_with fail
                      go_roundw
                      case rel => exact ⟨d + 1, by omega, by go_num, by rw [Hst.out], by rw [Hst.out], Hx.out⟩
                      case measure => simp [intOf]; omega
                    exact AllReadyH.nil
                  exact AllReadyH.nil
              · obtain rfl : d = m := by omega
                have d1 : ¬ (d : Int) < (d : Int) := by omega
                have Hbb5 : Hid ((lastAt KK ls ow d).1.length ≤ 512) := Lib.hid (last_len H5.out)
                have Hblob := Lib.hid (Hlast.out ow)
                obtain ⟨⟨bb, has⟩, hbh⟩ : ∃ p, p = lastAt KK ls ow d := ⟨_, rfl⟩
                rw [← hbh] at Hbb5 Hblob ⊢
                have hbb5 : bb.length ≤ 512 := Hbb5.out
                simp only []
                clear hbh Hbb5
                have Hx := Lib.hid (H8.out.below Hbx.out)
                have Hrx := Lib.hid (Hr8.out.below Hbx.out)
                have Hux := Lib.hid (Hu8.out.below Hbx.out)
                have HQx := Lib.hid (below_keep Hbx.out HQR.out)
                have hsv := Lib.hid (serve_any KK q S bl r B c f (900000 - 2 * j - 1) wr (Hx.out.less (by omega)) Hrx.out Hff.out (HL.out.below HBx.out) H0S.out HrS.out c0 (by omega))
                rw [← HR.out] at hsv
                go_wp2_with (refine wpList_load_row rfl 44 _ rfl fb rfl 44 R (0, 0) _ HQx.out Tryd.underlying44 rfl rfi ?_)
                refine hsv.out.mono ?_
                rintro e w12 ⟨t1, g1, is1, rfl, hs1, h12, hr12, hO12⟩
                have gf1 := hs1.fit Hff.out
                have Hs1 := Lib.hid hs1
                have Gf1 := Lib.hid gf1
                have H12 := Lib.hid h12
                have Hr12 := Lib.hid hr12
                have HB12 := Lib.hid (HBx.out.trans (hO12.below HBx.out.size Hlo.out))
                have HQ12 := Lib.hid (hO12.keep HQx.out Hfbn.out.1)
                have Hu12 := Lib.hid (Hux.out.keep (hO12.block u Hux.out.lt (fun hy => by rcases List.mem_cons.1 hy with e | hy; exact Hur.out e; exact HuS.out hy)))
                have ss1 := sentRow_size t1 gf1
                have so1 := sent_one t1 gf1
                have si1 : (Tryd.prog.info? 50).map (·.size) = some (sentRow t1 g1).size := by rw [ss1]; exact sent_info
                obtain ⟨SR1, hSR1⟩ : ∃ R, R = sentRow t1 g1 := ⟨_, rfl⟩
                rw [← hSR1] at ss1 so1 si1 ⊢
                have HSR1 := Lib.hid hSR1
                clear hs1 h12 hr12 hO12 gf1 hSR1 hsv
                go_upto_region 39 with (first | (refine wpList_store_row rfl 50 _ _ rfl w12.heap.size SR1 rfl rfl 50 _ (heap_alloc_new w12 _) si1 (by rw [ss1, hzs]) so1 ?_))
                show Code.wp _ _ _ _ ((w12.alloc (.cells Tryd.zeroCells50 50)).setRow w12.heap.size SR1)
                obtain ⟨hq_w13, hB_w13⟩ := put_new w12 Tryd.zeroCells50 SR1 50
                obtain ⟨b1, hp_w13⟩ : ∃ q, q = w12.heap.size := ⟨_, rfl⟩
                obtain ⟨w13, hw_w13⟩ : ∃ y, y = ((w12.alloc (.cells Tryd.zeroCells50 50)).setRow w12.heap.size SR1) := ⟨_, rfl⟩
                rw [← hw_w13] at hq_w13 hB_w13 ⊢
                rw [← hp_w13] at hq_w13 ⊢
                have HQ_w13 := Lib.hid hq_w13
                have HB_w13 := Lib.hid hB_w13
                have Hp_w13 := Lib.hid hp_w13
                clear hq_w13 hB_w13 hp_w13 hw_w13
                have H13 := Lib.hid (H12.out.below HB_w13.out)
                have Hr13 := Lib.hid (Hr12.out.below HB_w13.out)
                have Hu13 := Lib.hid (Hu12.out.below HB_w13.out)
                have HB13 := Lib.hid (HB12.out.trans (HB_w13.out.mono HB12.out.size))
                have HQ13 := Lib.hid (below_keep HB_w13.out HQ12.out)
                have hsv2 := Lib.hid (rserve_any bb has u B c f w13 Hu13.out Hff.out hbb5 c0 (by omega))
                rw [← HR.out] at hsv2
                go_wp2_with (refine wpList_load_row rfl 44 _ rfl fb rfl 44 R (0, 0) _ HQ13.out Tryd.underlying44 rfl rfi ?_)
                refine hsv2.out.mono ?_
                rintro e w14 ⟨t2, g2, is2, rfl, hs2, hu14, hO14⟩
                have gf2 := hs2.fit Hff.out
                obtain ⟨rfl, rfl, ek, eo, ea, ed, em⟩ := serv_same (by rw [← How.out]; exact Hblob.out.symm) Hs1.out hs2
                have Hs2 := Lib.hid hs2
                have Gf2 := Lib.hid gf2
                have Hem : Hid (g1.kind = g2.kind ∧ g1.out = g2.out ∧ g1.at_ = g2.at_ ∧ g1.data = g2.data ∧ sameM g1.mani g2.mani = true) := Lib.hid ⟨ek, eo, ea, ed, em⟩
                have Hu14 := Lib.hid hu14
                have HO14 := Lib.hid hO14
                have H14 := Lib.hid (H13.out.keep (fun y hy => hO14.block y (H13.out.lt y hy) (by simp; exact fun e => HuS.out (e ▸ hy))))
                have Hr14 := Lib.hid (Hr13.out.keep (hO14.block r Hr13.out.lt (by simp; exact fun e => Hur.out e.symm)))
                have HB14 := Lib.hid (HB13.out.trans (hO14.below HB13.out.size (by simp; exact Huw.out)))
                have HS14 := Lib.hid (hO14.keep HQ_w13.out (by simp; have := Hp_w13.out; have := Hu12.out.lt; omega))
                have ss2 := sentRow_size t1 gf2
                have so2 := sent_one t1 gf2
                have si2 : (Tryd.prog.info? 50).map (·.size) = some (sentRow t1 g2).size := by rw [ss2]; exact sent_info
                obtain ⟨SR2, hSR2⟩ : ∃ R, R = sentRow t1 g2 := ⟨_, rfl⟩
                rw [← hSR2] at ss2 so2 si2 ⊢
                have HSR2 := Lib.hid hSR2
                clear hs2 hu14 hO14 gf2 hSR2 hsv2 ek eo ea ed em
                go_upto_region 40 with (first | (refine wpList_store_row rfl 50 _ _ rfl w14.heap.size SR2 rfl rfl 50 _ (heap_alloc_new w14 _) si2 (by rw [ss2, hzs]) so2 ?_))
                show Code.wp _ _ _ _ ((w14.alloc (.cells Tryd.zeroCells50 50)).setRow w14.heap.size SR2)
                obtain ⟨hq_w15, hB_w15⟩ := put_new w14 Tryd.zeroCells50 SR2 50
                obtain ⟨b2, hp_w15⟩ : ∃ q, q = w14.heap.size := ⟨_, rfl⟩
                obtain ⟨w15, hw_w15⟩ : ∃ y, y = ((w14.alloc (.cells Tryd.zeroCells50 50)).setRow w14.heap.size SR2) := ⟨_, rfl⟩
                rw [← hw_w15] at hq_w15 hB_w15 ⊢
                rw [← hp_w15] at hq_w15 ⊢
                have HQ_w15 := Lib.hid hq_w15
                have HB_w15 := Lib.hid hB_w15
                have Hp_w15 := Lib.hid hp_w15
                clear hq_w15 hB_w15 hp_w15 hw_w15
                have H15 := Lib.hid (H14.out.below HB_w15.out)
                have Hr15 := Lib.hid (Hr14.out.below HB_w15.out)
                have Hu15 := Lib.hid (Hu14.out.below HB_w15.out)
                have HB15 := Lib.hid (HB14.out.trans (HB_w15.out.mono HB14.out.size))
                have HS15 := Lib.hid (below_keep HB_w15.out HS14.out)
                have ho : Only [u] w12 w15 := ((Only.of_below HB_w13.out).trans HO14.out).trans (Only.of_below HB_w15.out)
                have hk1 := (Hs1.out.only ho (by simp; exact Hux.out.lt)).ok
                have hk2 := (Hs2.out.only (bs := []) (Only.of_below HB_w15.out) (by simp)).ok
                have Hk1 := Lib.hid hk1
                have Hk2 := Lib.hid hk2
                obtain ⟨c9, hc9⟩ : ∃ x, x = left' c is1 := ⟨_, rfl⟩
                have c90 : 0 ≤ c9 ∧ c9 ≤ B := by rw [hc9]; exact left_okS c0 c1 Hs1.out
                rw [← hc9] at Hr15 Hu15
                have hlf : Hid (∀ W, Below w15.heap.size w15 W → Calls Tryd.prog 32 #[.pointer (some ⟨r, 0, none⟩)] W fun e w' => e = .returned (.int .i64 c9) ∧ Below W.heap.size W w') := Lib.hid (fun W hW => (rleft_any W r B c9 (Hr15.out.below hW)).mono (fun _ _ h => ⟨h.1, by rw [h.2]; exact Below.refl _ _⟩))
                have hsame : Hid (∀ W, Below w15.heap.size w15 W → Calls Tryd.prog 31 #[.agg (sentCells t1 g1).toArray, .agg (sentCells t1 g2).toArray] W fun e w' => e = .returned (.bool true) ∧ Below W.heap.size W w') := Lib.hid (fun W hW => rsent_same t1 g1 g2 W Gf1.out Gf2.out ((Hk1.out.below hW (Nat.le_refl _)).more hW.size) ((Hk2.out.below hW (Nat.le_refl _)).more hW.size) Hem.out.1 Hem.out.2.1 Hem.out.2.2.1 Hem.out.2.2.2.1 Hem.out.2.2.2.2)
                have r1 : w15.rangeAt b1 0 (sentCells t1 g1) := fun k v hv => by rw [Nat.zero_add, Lib.cell_of_heap HS15.out, HSR1.out]; unfold sentRow; rw [List.getElem?_toArray]; exact hv
                have r2 : w15.rangeAt b2 0 (sentCells t1 g2) := fun k v hv => by rw [Nat.zero_add, Lib.cell_of_heap HQ_w15.out, HSR2.out]; unfold sentRow; rw [List.getElem?_toArray]; exact hv
                have l1 : b1 < w15.heap.size := heap_lt HS15.out
                have l2 : b2 < w15.heap.size := heap_lt HQ_w15.out
                have lu : u < w15.heap.size := Hu15.out.lt
                have u1 := Hu15.out.cells.2.1
                have sdix1 : (Tryd.prog.info? 50).map (·.size) = some (sentCells t1 g1).length := by rw [sent_len t1 Gf1.out]; exact sent_info
                have sdix2 : (Tryd.prog.info? 50).map (·.size) = some (sentCells t1 g2).length := by rw [sent_len t1 Gf2.out]; exact sent_info
                have sund := Tryd.underlying50
                obtain ⟨sc1, hsc1⟩ : ∃ x, x = sentCells t1 g1 := ⟨_, rfl⟩
                obtain ⟨sc2, hsc2⟩ : ∃ x, x = sentCells t1 g2 := ⟨_, rfl⟩
                rw [← hsc1] at hsame r1 sdix1
                rw [← hsc2] at hsame r2 sdix2
                obtain ⟨c90a, c90b⟩ := c90
                clear hk1 hk2 ho ss1 so1 si1 ss2 so2 si2 hc9 hsc1 hsc2
                go_upto_region 40 with fail
                refine wp_region_held_drew (S := fun w' => Below w15.heap.size w15 w') (by kernel_rfl) ((Below.refl _ _).drew) (fun hH0 => ?_)
                obtain ⟨W0, hW0⟩ : ∃ W, W = w15.drew := ⟨_, rfl⟩
                rw [← hW0] at hH0 ⊢
                clear hW0
                refine wpAnyH_take (i := 0) (v := ?_) rfl (by kernel_rfl) (by kernel_rfl) (by kernel_rfl) (fun _ _ _ h => h) (Or.inl ⟨by kernel_rfl, ?_⟩) hH0 ?_
                rotate_left 1
                · intro w hSw
                  go_simp
                  try with_reducible rfl
                try simp only [Act.put, List.getElem_toArray, List.getElem_cons_zero, List.getElem_cons_succ, List.setIfInBounds_toArray, List.set_cons_zero, List.set_cons_succ]
                refine wpAnyH_take (i := 1) (v := ?_) rfl (by kernel_rfl) (by kernel_rfl) (by kernel_rfl) (fun _ _ _ h => h) (Or.inl ⟨by kernel_rfl, ?_⟩) hH0 ?_
                rotate_left 1
                · intro w hSw
                  go_simp
                  try with_reducible rfl
                try simp only [Act.put, List.getElem_toArray, List.getElem_cons_zero, List.getElem_cons_succ, List.setIfInBounds_toArray, List.set_cons_zero, List.set_cons_succ]
                refine wpAnyH_take (i := 2) (v := ?_) rfl (by kernel_rfl) (by kernel_rfl) (by kernel_rfl) (fun _ _ _ h => h) (Or.inl ⟨by kernel_rfl, ?_⟩) hH0 ?_
                rotate_left 1
                · intro w hSw
                  go_simp
                  try with_reducible rfl
                try simp only [Act.put, List.getElem_toArray, List.getElem_cons_zero, List.getElem_cons_succ, List.setIfInBounds_toArray, List.set_cons_zero, List.set_cons_succ]
                refine wpAnyH_take (i := 3) (v := ?_) rfl (by kernel_rfl) (by kernel_rfl) (by kernel_rfl) (fun _ _ _ h => h) (Or.inl ⟨by kernel_rfl, ?_⟩) hH0 ?_
                rotate_left 1
                · intro w hSw
                  go_simp
                  try with_reducible rfl
                try simp only [Act.put, List.getElem_toArray, List.getElem_cons_zero, List.getElem_cons_succ, List.setIfInBounds_toArray, List.set_cons_zero, List.set_cons_succ]
                refine wpAnyH_take (i := 4) (v := _) rfl (by kernel_rfl) (by kernel_rfl) (by kernel_rfl) (fun _ _ _ h => h) (yieldsIf_load_mid (by kernel_rfl) _ _ rfl _ _ rfl sc1 _ (fun W hW => range_below r1 hW l1) sund rfl sdix1) hH0 ?_
                try simp only [Act.put, List.getElem_toArray, List.getElem_cons_zero, List.getElem_cons_succ, List.setIfInBounds_toArray, List.set_cons_zero, List.set_cons_succ]
                refine wpAnyH_take (i := 5) (v := _) rfl (by kernel_rfl) (by kernel_rfl) (by kernel_rfl) (fun _ _ _ h => h) (yieldsIf_load_mid (by kernel_rfl) _ _ rfl _ _ rfl sc2 _ (fun W hW => range_below r2 hW l2) sund rfl sdix2) hH0 ?_
                try simp only [Act.put, List.getElem_toArray, List.getElem_cons_zero, List.getElem_cons_succ, List.setIfInBounds_toArray, List.set_cons_zero, List.set_cons_succ]
                refine wpAnyH_ready (rs := [6]) (by kernel_rfl) (by simp) ?_
                refine AllReadyH.cons rfl (fun K_ hK => ?_) ?_
                · go_simp
                  refine (hsame.out W0 hH0).mono ?_
                  rintro e W1 ⟨rfl, hb1⟩
                  refine hK.out _ _ ((hH0).trans (hb1.mono (hH0).size)) (fun hH1 => ?_)
                  clear hK K_
                  try simp only [Act.put, List.getElem_toArray, List.getElem_cons_zero, List.getElem_cons_succ, List.setIfInBounds_toArray, List.set_cons_zero, List.set_cons_succ]
                  refine wpAnyH_take (i := 7) (v := ?_) rfl (by kernel_rfl) (by kernel_rfl) (by kernel_rfl) (fun _ _ _ h => h) (Or.inl ⟨by kernel_rfl, ?_⟩) hH1 ?_
                  rotate_left 1
                  · intro w hSw
                    go_simp
                    try with_reducible rfl
                  try simp only [Act.put, List.getElem_toArray, List.getElem_cons_zero, List.getElem_cons_succ, List.setIfInBounds_toArray, List.set_cons_zero, List.set_cons_succ]
                  refine wpAnyH_take (i := 8) (v := ?_) rfl (by kernel_rfl) (by kernel_rfl) (by kernel_rfl) (fun _ _ _ h => h) (Or.inl ⟨by kernel_rfl, ?_⟩) hH1 ?_
                  rotate_left 1
                  · intro w hSw
                    go_simp
                    try with_reducible rfl
                  try simp only [Act.put, List.getElem_toArray, List.getElem_cons_zero, List.getElem_cons_succ, List.setIfInBounds_toArray, List.set_cons_zero, List.set_cons_succ]
                  refine wpAnyH_take (i := 9) (v := ?_) rfl (by kernel_rfl) (by kernel_rfl) (by kernel_rfl) (fun _ _ _ h => h) (Or.inl ⟨by kernel_rfl, ?_⟩) hH1 ?_
                  rotate_left 1
                  · intro w hSw
                    go_simp
                    try with_reducible rfl
                  try simp only [Act.put, List.getElem_toArray, List.getElem_cons_zero, List.getElem_cons_succ, List.setIfInBounds_toArray, List.set_cons_zero, List.set_cons_succ]
                  refine wpAnyH_take (i := 10) (v := ?_) rfl (by kernel_rfl) (by kernel_rfl) (by kernel_rfl) (fun _ _ _ h => h) (Or.inl ⟨by kernel_rfl, ?_⟩) hH1 ?_
                  rotate_left 1
                  · intro w hSw
                    go_simp
                    try with_reducible rfl
                  try simp only [Act.put, List.getElem_toArray, List.getElem_cons_zero, List.getElem_cons_succ, List.setIfInBounds_toArray, List.set_cons_zero, List.set_cons_succ]
                  refine wpAnyH_take (i := 12) (v := ?_) rfl (by kernel_rfl) (by kernel_rfl) (by kernel_rfl) (fun _ _ _ h => h) (Or.inl ⟨by kernel_rfl, ?_⟩) hH1 ?_
                  rotate_left 1
                  · intro w hSw
                    go_simp
                    try with_reducible rfl
                  try simp only [Act.put, List.getElem_toArray, List.getElem_cons_zero, List.getElem_cons_succ, List.setIfInBounds_toArray, List.set_cons_zero, List.set_cons_succ]
                  refine wpAnyH_take (i := 13) (v := ?_) rfl (by kernel_rfl) (by kernel_rfl) (by kernel_rfl) (fun _ _ _ h => h) (Or.inl ⟨by kernel_rfl, ?_⟩) hH1 ?_
                  rotate_left 1
                  · intro w hSw
                    go_simp
                    try with_reducible rfl
                  try simp only [Act.put, List.getElem_toArray, List.getElem_cons_zero, List.getElem_cons_succ, List.setIfInBounds_toArray, List.set_cons_zero, List.set_cons_succ]
                  refine wpAnyH_take (i := 14) (v := ?_) rfl (by kernel_rfl) (by kernel_rfl) (by kernel_rfl) (fun _ _ _ h => h) (Or.inl ⟨by kernel_rfl, ?_⟩) hH1 ?_
                  rotate_left 1
                  · intro w hSw
                    go_simp
                    try with_reducible rfl
                  try simp only [Act.put, List.getElem_toArray, List.getElem_cons_zero, List.getElem_cons_succ, List.setIfInBounds_toArray, List.set_cons_zero, List.set_cons_succ]
                  refine wpAnyH_take (i := 15) (v := ?_) rfl (by kernel_rfl) (by kernel_rfl) (by kernel_rfl) (fun _ _ _ h => h) (Or.inl ⟨by kernel_rfl, ?_⟩) hH1 ?_
                  rotate_left 1
                  · intro w hSw
                    have f0 := (hSw.cell (p := ⟨u, 1, none⟩) lu).trans u1
                    go_simp
                    try with_reducible rfl
                  try simp only [Act.put, List.getElem_toArray, List.getElem_cons_zero, List.getElem_cons_succ, List.setIfInBounds_toArray, List.set_cons_zero, List.set_cons_succ]
                  refine wpAnyH_ready (rs := [11]) (by kernel_rfl) (by simp) ?_
                  refine AllReadyH.cons rfl (fun K_ hK => ?_) ?_
                  · go_simp
                    refine (hlf.out W1 hH1).mono ?_
                    rintro e W2 ⟨rfl, hb2⟩
                    refine hK.out _ _ ((hH1).trans (hb2.mono (hH1).size)) (fun hH2 => ?_)
                    clear hK K_
                    try simp only [Act.put, List.getElem_toArray, List.getElem_cons_zero, List.getElem_cons_succ, List.setIfInBounds_toArray, List.set_cons_zero, List.set_cons_succ]
                    refine wpAnyH_take (i := 16) (v := ?_) rfl (by kernel_rfl) (by kernel_rfl) (by kernel_rfl) (fun _ _ _ h => h) (Or.inl ⟨by kernel_rfl, ?_⟩) hH2 ?_
                    rotate_left 1
                    · intro w hSw
                      go_simp
                      try with_reducible rfl
                    try simp only [Act.put, List.getElem_toArray, List.getElem_cons_zero, List.getElem_cons_succ, List.setIfInBounds_toArray, List.set_cons_zero, List.set_cons_succ]
                    refine wpAnyH_take (i := 17) (v := ?_) rfl (by kernel_rfl) (by kernel_rfl) (by kernel_rfl) (fun _ _ _ h => h) (Or.inl ⟨by kernel_rfl, ?_⟩) hH2 ?_
                    rotate_left 1
                    · intro w hSw
                      go_simp
                      try with_reducible rfl
                    try simp only [Act.put, List.getElem_toArray, List.getElem_cons_zero, List.getElem_cons_succ, List.setIfInBounds_toArray, List.set_cons_zero, List.set_cons_succ]
                    refine wpAnyH_done (by kernel_rfl) ?_ _
                    have H16 := Lib.hid (H15.out.below hH2)
                    have Hr16 := Lib.hid (Hr15.out.below hH2)
                    have Hu16 := Lib.hid (Hu15.out.below hH2)
                    have HB16 := Lib.hid (HB15.out.trans (hH2.mono HB15.out.size))
                    clear hH2 r1 r2 u1
                    go_wp2_with fail
                    go_roundw
                    case rel => exact ⟨j + 1, c9, by omega, by omega, by go_num, c90a, c90b, H16.out.less (by omega), Hr16.out, Hu16.out, HB16.out⟩
                    case measure => simp [intOf]; omega
                  exact AllReadyH.nil
                exact AllReadyH.nil
        · have hlf : Hid (∀ W, Below wr.heap.size wr W → Calls Tryd.prog 32 #[.pointer (some ⟨r, 0, none⟩)] W fun e w' => e = .returned (.int .i64 c) ∧ Below W.heap.size W w') := Lib.hid (fun W hW => (rleft_any W r B c (Hr.out.below hW)).mono (fun _ _ h => ⟨h.1, by rw [h.2]; exact Below.refl _ _⟩))
          have lu : u < wr.heap.size := Hu.out.lt
          have u1 := Hu.out.cells.2.1
          have key : ((j : Int) < (n : Int) ∧ ¬ ((j : Int) < 100)) ∨ ¬ ((j : Int) < (n : Int)) := by omega
          clear hjj
          rcases key with ⟨j1, j2⟩ | j1
          · go_upto_region 42 with fail
            refine wp_region_held_drew (S := fun w' => Below wr.heap.size wr w') (by kernel_rfl) ((Below.refl _ _).drew) (fun hH0 => ?_)
            obtain ⟨W0, hW0⟩ : ∃ W, W = wr.drew := ⟨_, rfl⟩
            rw [← hW0] at hH0 ⊢
            clear hW0
            refine wpAnyH_take (i := 0) (v := ?_) rfl (by kernel_rfl) (by kernel_rfl) (by kernel_rfl) (fun _ _ _ h => h) (Or.inl ⟨by kernel_rfl, ?_⟩) hH0 ?_
            rotate_left 1
            · intro w hSw
              go_simp
              try with_reducible rfl
            try simp only [Act.put, List.getElem_toArray, List.getElem_cons_zero, List.getElem_cons_succ, List.setIfInBounds_toArray, List.set_cons_zero, List.set_cons_succ]
            refine wpAnyH_take (i := 2) (v := ?_) rfl (by kernel_rfl) (by kernel_rfl) (by kernel_rfl) (fun _ _ _ h => h) (Or.inl ⟨by kernel_rfl, ?_⟩) hH0 ?_
            rotate_left 1
            · intro w hSw
              go_simp
              try with_reducible rfl
            try simp only [Act.put, List.getElem_toArray, List.getElem_cons_zero, List.getElem_cons_succ, List.setIfInBounds_toArray, List.set_cons_zero, List.set_cons_succ]
            refine wpAnyH_take (i := 3) (v := ?_) rfl (by kernel_rfl) (by kernel_rfl) (by kernel_rfl) (fun _ _ _ h => h) (Or.inl ⟨by kernel_rfl, ?_⟩) hH0 ?_
            rotate_left 1
            · intro w hSw
              go_simp
              try with_reducible rfl
            try simp only [Act.put, List.getElem_toArray, List.getElem_cons_zero, List.getElem_cons_succ, List.setIfInBounds_toArray, List.set_cons_zero, List.set_cons_succ]
            refine wpAnyH_take (i := 4) (v := ?_) rfl (by kernel_rfl) (by kernel_rfl) (by kernel_rfl) (fun _ _ _ h => h) (Or.inl ⟨by kernel_rfl, ?_⟩) hH0 ?_
            rotate_left 1
            · intro w hSw
              go_simp
              try with_reducible rfl
            try simp only [Act.put, List.getElem_toArray, List.getElem_cons_zero, List.getElem_cons_succ, List.setIfInBounds_toArray, List.set_cons_zero, List.set_cons_succ]
            refine wpAnyH_take (i := 5) (v := ?_) rfl (by kernel_rfl) (by kernel_rfl) (by kernel_rfl) (fun _ _ _ h => h) (Or.inl ⟨by kernel_rfl, ?_⟩) hH0 ?_
            rotate_left 1
            · intro w hSw
              have f0 := (hSw.cell (p := ⟨u, 1, none⟩) lu).trans u1
              go_simp
              try with_reducible rfl
            try simp only [Act.put, List.getElem_toArray, List.getElem_cons_zero, List.getElem_cons_succ, List.setIfInBounds_toArray, List.set_cons_zero, List.set_cons_succ]
            refine wpAnyH_ready (rs := [1]) (by kernel_rfl) (by simp) ?_
            refine AllReadyH.cons rfl (fun K_ hK => ?_) ?_
            · go_simp
              refine (hlf.out W0 hH0).mono ?_
              rintro e W1 ⟨rfl, hb1⟩
              refine hK.out _ _ ((hH0).trans (hb1.mono (hH0).size)) (fun hH1 => ?_)
              clear hK K_
              try simp only [Act.put, List.getElem_toArray, List.getElem_cons_zero, List.getElem_cons_succ, List.setIfInBounds_toArray, List.set_cons_zero, List.set_cons_succ]
              refine wpAnyH_take (i := 6) (v := ?_) rfl (by kernel_rfl) (by kernel_rfl) (by kernel_rfl) (fun _ _ _ h => h) (Or.inl ⟨by kernel_rfl, ?_⟩) hH1 ?_
              rotate_left 1
              · intro w hSw
                go_simp
                try with_reducible rfl
              try simp only [Act.put, List.getElem_toArray, List.getElem_cons_zero, List.getElem_cons_succ, List.setIfInBounds_toArray, List.set_cons_zero, List.set_cons_succ]
              refine wpAnyH_take (i := 7) (v := ?_) rfl (by kernel_rfl) (by kernel_rfl) (by kernel_rfl) (fun _ _ _ h => h) (Or.inl ⟨by kernel_rfl, ?_⟩) hH1 ?_
              rotate_left 1
              · intro w hSw
                go_simp
                try with_reducible rfl
              try simp only [Act.put, List.getElem_toArray, List.getElem_cons_zero, List.getElem_cons_succ, List.setIfInBounds_toArray, List.set_cons_zero, List.set_cons_succ]
              refine wpAnyH_done (by kernel_rfl) ?_ _
              have HB16 := Lib.hid (Hb.out.trans (hH1.mono Hb.out.size))
              clear hH1 u1
              go_wp2_with fail
              go_ret
              exact ⟨rfl, HB16.out⟩
            exact AllReadyH.nil
          · go_upto_region 42 with fail
            refine wp_region_held_drew (S := fun w' => Below wr.heap.size wr w') (by kernel_rfl) ((Below.refl _ _).drew) (fun hH0 => ?_)
            obtain ⟨W0, hW0⟩ : ∃ W, W = wr.drew := ⟨_, rfl⟩
            rw [← hW0] at hH0 ⊢
            clear hW0
            refine wpAnyH_take (i := 0) (v := ?_) rfl (by kernel_rfl) (by kernel_rfl) (by kernel_rfl) (fun _ _ _ h => h) (Or.inl ⟨by kernel_rfl, ?_⟩) hH0 ?_
            rotate_left 1
            · intro w hSw
              go_simp
              try with_reducible rfl
            try simp only [Act.put, List.getElem_toArray, List.getElem_cons_zero, List.getElem_cons_succ, List.setIfInBounds_toArray, List.set_cons_zero, List.set_cons_succ]
            refine wpAnyH_take (i := 2) (v := ?_) rfl (by kernel_rfl) (by kernel_rfl) (by kernel_rfl) (fun _ _ _ h => h) (Or.inl ⟨by kernel_rfl, ?_⟩) hH0 ?_
            rotate_left 1
            · intro w hSw
              go_simp
              try with_reducible rfl
            try simp only [Act.put, List.getElem_toArray, List.getElem_cons_zero, List.getElem_cons_succ, List.setIfInBounds_toArray, List.set_cons_zero, List.set_cons_succ]
            refine wpAnyH_take (i := 3) (v := ?_) rfl (by kernel_rfl) (by kernel_rfl) (by kernel_rfl) (fun _ _ _ h => h) (Or.inl ⟨by kernel_rfl, ?_⟩) hH0 ?_
            rotate_left 1
            · intro w hSw
              go_simp
              try with_reducible rfl
            try simp only [Act.put, List.getElem_toArray, List.getElem_cons_zero, List.getElem_cons_succ, List.setIfInBounds_toArray, List.set_cons_zero, List.set_cons_succ]
            refine wpAnyH_take (i := 4) (v := ?_) rfl (by kernel_rfl) (by kernel_rfl) (by kernel_rfl) (fun _ _ _ h => h) (Or.inl ⟨by kernel_rfl, ?_⟩) hH0 ?_
            rotate_left 1
            · intro w hSw
              go_simp
              try with_reducible rfl
            try simp only [Act.put, List.getElem_toArray, List.getElem_cons_zero, List.getElem_cons_succ, List.setIfInBounds_toArray, List.set_cons_zero, List.set_cons_succ]
            refine wpAnyH_take (i := 5) (v := ?_) rfl (by kernel_rfl) (by kernel_rfl) (by kernel_rfl) (fun _ _ _ h => h) (Or.inl ⟨by kernel_rfl, ?_⟩) hH0 ?_
            rotate_left 1
            · intro w hSw
              have f0 := (hSw.cell (p := ⟨u, 1, none⟩) lu).trans u1
              go_simp
              try with_reducible rfl
            try simp only [Act.put, List.getElem_toArray, List.getElem_cons_zero, List.getElem_cons_succ, List.setIfInBounds_toArray, List.set_cons_zero, List.set_cons_succ]
            refine wpAnyH_ready (rs := [1]) (by kernel_rfl) (by simp) ?_
            refine AllReadyH.cons rfl (fun K_ hK => ?_) ?_
            · go_simp
              refine (hlf.out W0 hH0).mono ?_
              rintro e W1 ⟨rfl, hb1⟩
              refine hK.out _ _ ((hH0).trans (hb1.mono (hH0).size)) (fun hH1 => ?_)
              clear hK K_
              try simp only [Act.put, List.getElem_toArray, List.getElem_cons_zero, List.getElem_cons_succ, List.setIfInBounds_toArray, List.set_cons_zero, List.set_cons_succ]
              refine wpAnyH_take (i := 6) (v := ?_) rfl (by kernel_rfl) (by kernel_rfl) (by kernel_rfl) (fun _ _ _ h => h) (Or.inl ⟨by kernel_rfl, ?_⟩) hH1 ?_
              rotate_left 1
              · intro w hSw
                go_simp
                try with_reducible rfl
              try simp only [Act.put, List.getElem_toArray, List.getElem_cons_zero, List.getElem_cons_succ, List.setIfInBounds_toArray, List.set_cons_zero, List.set_cons_succ]
              refine wpAnyH_take (i := 7) (v := ?_) rfl (by kernel_rfl) (by kernel_rfl) (by kernel_rfl) (fun _ _ _ h => h) (Or.inl ⟨by kernel_rfl, ?_⟩) hH1 ?_
              rotate_left 1
              · intro w hSw
                go_simp
                try with_reducible rfl
              try simp only [Act.put, List.getElem_toArray, List.getElem_cons_zero, List.getElem_cons_succ, List.setIfInBounds_toArray, List.set_cons_zero, List.set_cons_succ]
              refine wpAnyH_done (by kernel_rfl) ?_ _
              have HB16 := Lib.hid (Hb.out.trans (hH1.mono Hb.out.size))
              clear hH1 u1
              go_wp2_with fail
              go_ret
              exact ⟨rfl, HB16.out⟩
            exact AllReadyH.nil
namespace RationExactLaw
open Go.ChangeShapes Go.WideShapes Go.ChangeAt
open Go.ChangeMaps (open_string shut_string)
set_option maxRecDepth 100000 in
theorem contract (H : Type) (enc : TypeId × Value → H) (W : World) (base : Nat) (args : Array Value) (ds gs : List (DataW H)) (before : List MemPlace)
    (hval : ∀ (j : Nat) t v, Tryd.f4.params[j]? = some t → args[j]? = some v → Value.okWide Tryd.prog W .any base t v)
    (hW : DataW.Whole enc Tryd.prog Tryd.f4.params.toList Rows.rationExactSpec.vars false W args.toList ds gs before) (hsz0 : (DataW.weightsEach Tryd.prog (Tryd.f4.params.toList ++ Rows.rationExactSpec.plain.varTypes Tryd.prog) (ds ++ gs)).all (· ≤ reachBytes) = true) (hLd : laidMetH Tryd.prog laid1 W) :
    Calls Tryd.prog 4 args W fun e W' => ∃ v, e = .returned v ∧ Rows.rationExactSpec.post enc Tryd.prog Tryd.f4 false true false false W args v W' := by
  have hW' := hW
  obtain ⟨p, q, hA0, hV, rfl, hfz, hnd⟩ := hW
  have hA : DataW.TrodAll enc Tryd.prog W 0 (fun _ => true) true Tryd.f4.params.toList args.toList ds p := hA0
  rw [Tryd.params4] at hA hval
  obtain ⟨v0, vs0, d0, ds0, p0, q0, hargs, rfl, rfl, h0, r0⟩ := trodAll_cons hA
  obtain ⟨v1, vs1, d1, ds1, p1, q1, rfl, rfl, rfl, h1, r1⟩ := trodAll_cons r0
  obtain ⟨v2, vs2, d2, ds2, p2, q2, rfl, rfl, rfl, h2, r2⟩ := trodAll_cons r1
  obtain ⟨rfl, rfl, rfl⟩ := trodAll_nil r2
  obtain rfl : args = #[v0, v1, v2] := by cases args; simp_all
  obtain ⟨rfl, rfl⟩ := trodVars_none hV
  obtain ⟨A0, c0, x0, rfl, hS0, hl0, he0, hb0⟩ := open_strs Tryd.underlying54 Tryd.underlying9 (by kernel_rfl) (hval 0 54 v0 rfl rfl) h0
  obtain ⟨x1, rfl, hd1, _, w1⟩ := open_int Tryd.underlying3 (hval 1 3 v1 rfl rfl) h1
  obtain ⟨A2, c2, x2, rfl, hS2, hl2⟩ := open_actsG (hval 2 59 v2 rfl rfl) h2
  refine (rationExact_core A0 c0 x0 x1 A2 c2 x2 W (of_laid hLd) hS0 hl0 he0 (wf_bounds w1).1 (wf_bounds w1).2 hS2 hl2).mono fun e W' ⟨he, hg⟩ => ?_
  subst he
  exact ⟨_, rfl, law_post (tb := 4) laidOut_ (of_decide_eq_true (by kernel_rfl)) Tryd.underlying4 (by kernel_rfl) rfl rfl hW' hg⟩

theorem door_met (os : Os) (args : Array Value) : laidMetH Tryd.prog laid1 ((World.doorLaid Tryd.prog 400 os).forCall (fun _ _ => 0) ⟨#[], args, []⟩).memory :=
  laidMetH_of_parts3 (fuel := 8) (laidMet_of_run' 8 (by kernel_rfl) (by kernel_rfl)) (by kernel_rfl) (by kernel_rfl)

set_option maxRecDepth 100000 in
theorem lifted (os : Os) (started : os.Started) (H : Type) (enc : TypeId × Value → H) :
    ReturnsInHanded {} Tryd.checked os 4 .any (fun w args => (Rows.rationExactSpec.pre enc Tryd.prog Tryd.f4 [] false w args ∧ laidMetH Tryd.prog laid1 w) ∧ sizedMet enc Tryd.prog Tryd.f4 (OpenSpec.ofChange Rows.rationExactSpec) false w args)
      (Rows.rationExactSpec.post enc Tryd.prog Tryd.f4 false true false false) := by
  refine returnsInHanded_of_change_and (C := Tryd.checked) (X := fun w _ => laidMetH Tryd.prog laid1 w) (fun _ _ _ hh h => h.of_heap hh) ownKnob_ started (by kernel_rfl) Tryd.func4
    (ChangeSpec.witness_shaped (enc := enc) (C := Tryd.checked) (os := os) (X := fun w _ => laidMetH Tryd.prog laid1 w) false (World.doorLaid Tryd.prog 400 os) #[.slice none 0 0, .int .i64 0, .slice none 0 0] 8 rfl (World.shaped_of_RefB (by kernel_rfl) (by kernel_rfl)) (by kernel_rfl) (by kernel_rfl) (by kernel_rfl) (door_met os _)) ?_
  intro W base args ds gs before hval hW _ hsz hLd _
  exact contract H enc W base args ds gs before hval hW hsz hLd

theorem said : Rows.RationExactSaid :=
  OpenClaim.holds_of_wide 4 Tryd.f4 rfl rfl rfl rfl rfl rfl rfl ⟨rfl, rfl, rfl, rfl, rfl⟩ rfl rfl rfl rfl rfl (by kernel_rfl) Tryd.func4 (by kernel_rfl)
    (of_decide_eq_true (by kernel_rfl)) (by unfold Func.isWrapper; first | (rw [if_pos (by decide +kernel)]; kernel_rfl) | (rw [if_neg (by decide +kernel)]; exact ⟨rfl, rfl⟩))
    (fun os started H enc _ => lifted os started H enc)

theorem proved : Rows.RationExactCardSaid :=
  Claim7.holds_tied_plain_at .later [] [.data] true Rows.rationExactCard.stood.harness false
    said (fun _ h => by cases h) (by kernel_rfl) (fun _ h => by cases h) rationExact_row_tie rfl ⟨rfl, rfl⟩ (by kernel_rfl) rfl
    (fun f fn hf hfn => by
      obtain rfl : f = 4 := Option.some.inj ((show Tryd.prog.funcNamed "apiary/apiarylaw18.RationExact" = some 4 by kernel_rfl).symm.trans hf) |>.symm
      obtain rfl : fn = Tryd.f4 := (Option.some.inj (Tryd.func4.symm.trans hfn)).symm
      exact ⟨by kernel_rfl, fun j t ht => by
        rw [Tryd.params4] at ht
        have hm : t ∈ [54, 3, 59] := by simpa using Array.mem_of_getElem? ht
        have hall : ([54, 3, 59].all fun u => !Tryd.prog.wantsStandIn u) = true := by kernel_rfl
        exact (show Tryd.prog.wantsStandIn t = false by simpa using List.all_eq_true.1 hall t hm)⟩)
    (by kernel_rfl)
end RationExactLaw
end Go.Proofs.YtfbjbhddapoopaaDoor
