/-
  Layer 5's laws: the texts of acts; a new shelf.
-/
import Derived.Test.YteihfoacdocgkaaDoorHyD
import Derived.Test.YteihfoacdocgkaaDoorHxEG
import Derived.Test.YteihfoacdocgkaaDoorHwI
set_option linter.unusedVariables false
set_option linter.unusedSimpArgs false
namespace Go.Proofs.YteihfoacdocgkaaDoor
open Go.RowKit Pl Sh
attribute [local go_sem] Lb.ba_get Lb.ba_cut Lb.ba_add Lb.ba_size Lb.take_rest

/-- a new shelf holds nothing -/
theorem d_new {K : List Int} {n : Nat} {b g : Nat} {w : World} (h : ShAt w b g (St.new n)) (k : Nat) (hk : k ≤ 49000) : DOn K w b g n k [] [] := by
  refine ⟨St.new n, h, ⟨⟨rfl, rfl, by show 0 ≤ _; omega, by show 0 < 100000; omega, by simp [St.new]⟩, by omega, by show 0 + k ≤ 50000; omega, new_small n, ⟨(fun r hr => by cases hr), List.Pairwise.nil⟩, [], rfl, List.nodup_nil, (fun p hp => by cases hp), fun i x hx => ?_⟩⟩
  have hm := List.mem_of_getElem? hx
  have : x = ⟨[], [], false⟩ := by
    unfold St.new at hm
    exact (List.mem_replicate.1 hm).2
  subst this
  exact ⟨rfl, .inr ⟨(fun p hp => by cases hp), rfl⟩⟩
def TextsPost (ds : List ActH) (w : World) (e : Ending) (w' : World) : Prop :=
  ∃ (A : Option Addr) (c : Nat) (ls : List (List UInt8)), e = .returned (.slice A ls.length c) ∧ Strs w' w'.heap.size A ls ∧ ls.length ≤ 70 ∧ (∀ t ∈ ls, t.length ≤ 1000) ∧ (∀ (j : Nat) (h : j < ds.length), j < 70 → ds[j].text ∈ ls) ∧ Below w.heap.size w w'
set_option maxHeartbeats 4000000 in
theorem texts_any (A : Option Addr) (cap : Nat) (ds : List ActH) (w : World) (hS : ActsH w w.heap.size A ds) (hl : ds.length ≤ maxLen) (hsm : ∀ (j : Nat) (h : j < ds.length), j < 70 → SmallAct ds[j]) :
    Calls Tryd.prog 29 #[.slice A ds.length cap] w (TextsPost ds w) := by
  have HS := Lib.hid hS
  have Hsm := Lib.hid hsm
  obtain ⟨n, hn⟩ : ∃ n, n = ds.length := ⟨_, rfl⟩
  rw [← hn] at hl ⊢
  unfold maxLen at hl
  have n63 : (n : Int) ≤ 9223372036854775807 := by omega
  have Hn := Lib.hid hn
  have hk0 := Lib.hid (kept_nil (S := []) (Nat.le_refl w.heap.size) (fun x hx => by cases hx))
  have hb0 := Lib.hid ((Below.refl w.heap.size w).alloc (Nat.le_refl _) (.cells #[] 9))
  clear hS hn hsm
  go_enter Tryd.func29, Tryd.ntmps29
  go_wp2_with fail
  go_loopw [3, 4] (fun v i wr => ∃ (k : Nat) (ls : List (List UInt8)), k ≤ n ∧ k ≤ 70 ∧ i = .int .i64 k ∧ ls.length ≤ k ∧ (∀ t ∈ ls, t.length ≤ 1000) ∧ (∀ (j : Nat) (h : j < ds.length), j < k → ds[j].text ∈ ls) ∧ KeptV wr w.heap.size v ls [] ∧ Below w.heap.size w wr) (fun _ i _ => n - (intOf i).toNat)
  case atStart => exact ⟨0, [], by omega, by omega, rfl, by simp, (fun t ht => by cases ht), (fun j h hj => by omega), hk0.out, hb0.out⟩
  case round =>
    obtain ⟨k, ls, hk, hk70, rfl, hll, ht, hin, hkv, hb⟩ := hrel
    have Ht := Lib.hid ht
    have Hin := Lib.hid hin
    have Hkv := Lib.hid hkv
    have Hb := Lib.hid hb
    clear ht hin hkv hb hk0 hb0
    by_cases hkn : k < n ∧ k < 70
    · obtain ⟨h1, h2⟩ := hkn
      have j1 : (k : Int) < (n : Int) := by omega
      have j2 : (k : Int) < 70 := by omega
      have hkl : k < ds.length := by rw [← Hn.out]; exact h1
      obtain ⟨b, o, rfl, hbl, hr, hok⟩ := (HS.out.below Hb.out) k hkl
      obtain ⟨-, c1, -, -, -⟩ := actH_cells hr hok.rfit
      obtain ⟨hs1, -⟩ := Hsm.out k hkl h2
      obtain ⟨s, hs⟩ : ∃ s, s = ds[k].text := ⟨_, rfl⟩
      rw [← hs] at c1 hs1
      have Hs := Lib.hid hs
      have Hs1 := Lib.hid hs1
      obtain ⟨A9, c9, rfl, hs9⟩ := Hkv.out.shape
      have hha := Lib.hid (has_any A9 c9 ls s wr hs9 (by unfold maxLen; omega))
      obtain ⟨nk, hnk⟩ : ∃ n, n = ls.length := ⟨_, rfl⟩
      rw [← hnk] at hha ⊢
      have Hnk := Lib.hid hnk
      have hkl3 : ls.length ≤ 1000 := by omega
      clear hr hok hs hs9 hnk hbl hs1
      by_cases hk : s ∈ ls
      · rw [decide_eq_true hk] at hha
        have Hk := Lib.hid hk
        clear hk
        go_wp2_with fail
        refine hha.out.mono ?_
        rintro r w10 ⟨rfl, rfl⟩
        clear hha
        go_wp2_with fail
        go_roundw
        case rel => exact ⟨k + 1, ls, by omega, by omega, by go_num, by omega, Ht.out, (fun j h hj => by
          by_cases e : j = k
          · subst e; rw [← Hs.out]; exact Hk.out
          · exact Hin.out j h (by omega)), by rw [Hnk.out]; exact Hkv.out, Hb.out⟩
        case measure => simp [intOf]; omega
      · rw [decide_eq_false hk] at hha
        clear hk
        have hb13 := (Below.refl wr.heap.size wr).alloc (Nat.le_refl _) (.cells #[.string ⟨s.toArray⟩] 9)
        have hkv13 : KeptV (wr.alloc (.cells #[.string ⟨s.toArray⟩] 9)) w.heap.size (.slice A9 nk c9) ls [] := by have h := Hkv.out.below hb13; rw [← Hnk.out] at h; exact h
        have hsrc : Src Tryd.prog 1 49 (.slice (some ⟨wr.heap.size, 0, none⟩) 1 1) 1 [.string ⟨s.toArray⟩] (wr.alloc (.cells #[.string ⟨s.toArray⟩] 9)) := str_src _ 1 _ (by rw [Lib.cell_of_heap (heap_alloc_new wr _)]; rfl)
        have HB13 := Lib.hid (Hb.out.trans (hb13.mono Hb.out.size))
        have hBw := HB13.out.size
        have hS13 : ∀ z ∈ ([] : List Nat), z < (wr.alloc (.cells #[.string ⟨s.toArray⟩] 9)).heap.size := fun z hz => by cases hz
        clear hb13
        go_wp2_with fail
        refine hha.out.mono ?_
        rintro r w10 ⟨rfl, rfl⟩
        clear hha
        go_wp2_with (at_builtin; refine wpList_append_kept _ rfl _ _ rfl hBw rfl hkv13 hS13 hkl3 _ s rfl hsrc ?_)
        intro v' w14 T hkv14 hT hTS
        have HB14 := Lib.hid (HB13.out.trans (hT.below HB13.out.size (fun z hz => by have h := hTS z hz; first | exact h | exact h.1)))
        have Hkv14 := Lib.hid hkv14
        clear hkv14 hT hTS hkv13 hsrc hBw hS13
        go_wp2_with fail
        go_roundw
        case rel => exact ⟨k + 1, ls ++ [s], by omega, by omega, by go_num, by simp; omega, (fun t ht => by
          rcases List.mem_append.1 ht with ht | ht
          · exact Ht.out t ht
          · simp only [List.mem_singleton] at ht; subst ht; exact Hs1.out), (fun j h hj => by
          by_cases e : j = k
          · subst e; rw [← Hs.out]; simp
          · exact List.mem_append_left _ (Hin.out j h (by omega))), Hkv14.out, HB14.out⟩
        case measure => simp [intOf]; omega
    · obtain ⟨A9, c9, rfl, hs9⟩ := Hkv.out.shape
      have Hs9 := Lib.hid hs9
      have key : ((k : Int) < (n : Int) ∧ ¬ (k : Int) < 70) ∨ ¬ (k : Int) < (n : Int) := by omega
      have hfin : Hid (TextsPost ds w (.returned (.slice A9 ls.length c9)) wr) := Lib.hid ⟨A9, c9, ls, rfl, Hs9.out, by omega, Ht.out, (fun j h hj => Hin.out j h (by have := Hn.out; omega)), Hb.out⟩
      clear hs9 hkn
      rcases key with ⟨j1, j2⟩ | j1
      all_goals
        go_wp2_with fail
        go_ret
        exact hfin.out
end Go.Proofs.YteihfoacdocgkaaDoor
