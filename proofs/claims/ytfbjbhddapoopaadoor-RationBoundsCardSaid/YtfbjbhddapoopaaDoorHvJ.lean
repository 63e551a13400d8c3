/-
  Layer 18's laws: the walk of stored.
-/
import Derived.Test.YtfbjbhddapoopaaDoorHvH
import Derived.Test.YtfbjbhddapoopaaDoorHvI
set_option linter.unusedVariables false
set_option linter.unusedSimpArgs false
namespace Go.Proofs.YtfbjbhddapoopaaDoor
open Go.RowKit Pl Sh
attribute [local go_sem] Lb.ba_get Lb.ba_cut Lb.ba_add Lb.ba_size Lb.take_rest

/-- what a store of texts has, of the first j -/
def stAt (K : List Int) (ls : List (List UInt8)) : Nat → List (List UInt8)
  | 0 => []
  | j + 1 => (putS K (stAt K ls j) (ls.getD j [])).2.2
theorem putS_len (K : List Int) (bl : List (List UInt8)) (b : List UInt8) : (putS K bl b).2.2.length ≤ bl.length + 1 := by
  unfold putS
  split
  · simp
  · split <;> simp
theorem stAt_len (K : List Int) (ls : List (List UInt8)) : ∀ j, (stAt K ls j).length ≤ j
  | 0 => Nat.le_refl _
  | j + 1 => by
    have := stAt_len K ls j
    have := putS_len K (stAt K ls j) (ls.getD j [])
    show (putS K (stAt K ls j) (ls.getD j [])).2.2.length ≤ j + 1
    omega
def StoredPost (K : List Int) (w : World) (ls : List (List UInt8)) (e : Ending) (w' : World) : Prop :=
  ∃ q S, e = .returned (.pointer (some ⟨q.p, 0, none⟩)) ∧ StoreAt K w' q S (stAt K ls (min ls.length 60)) 900000 ∧ (∀ x ∈ S, w.heap.size ≤ x) ∧ Below w.heap.size w w'
theorem new_read (m i : Nat) (hi : i < m) : St.read (St.new m) i = [] := by
  unfold St.read
  split
  · rfl
  · simp [St.new, slot0, hi]
set_option maxHeartbeats 4000000 in
set_option maxRecDepth 100000 in
theorem stored_any (K : List Int) (A : Option Addr) (cap : Nat) (ls : List (List UInt8)) (w : World) (hL : Laid K w) (hS : Strs w w.heap.size A ls) (hl : ls.length ≤ maxLen) :
    Calls Tryd.prog 25 #[.slice A ls.length cap] w (StoredPost K w ls) := by
  have hnew := Lib.hid (new_any 128 w (by omega))
  have HL := Lib.hid hL
  have HS := Lib.hid hS
  obtain ⟨n, hn⟩ : ∃ n, n = ls.length := ⟨_, rfl⟩
  rw [← hn]
  rw [← hn] at hl
  unfold maxLen at hl
  have n63 : (n : Int) ≤ 9223372036854775807 := by omega
  have Hn := Lib.hid hn
  clear hL hS hn
  go_enter Tryd.func25, Tryd.ntmps25
  go_wp2_with fail
  refine hnew.out.mono ?_
  rintro e w1 ⟨rfl, h1, hB1⟩
  have hop := open_empty (w.heap.size + 1) w.heap.size (St.new 128) w1 h1 rfl (by simp [St.new]) (fun i hi => new_read 128 i (by simpa [St.new] using hi))
  have HO := Lib.hid hop
  have B1 := Lib.hid hB1
  have Hl1 : Hid (w.heap.size + 1 < w1.heap.size) := Lib.hid (heap_lt h1.pw)
  clear hop hB1 h1 hnew
  go_wp2_with fail
  refine HO.out.mono ?_
  rintro e w2 ⟨q, hqb, hqg, rfl, hat, hnw, hB2⟩
  have hst : StoreAt K w2 q (q.own []) (stAt K ls 0) 900060 := by
    refine ⟨_, hat, ⟨⟨rfl, rfl, rfl⟩, rfl, by show 0 + 900060 < 1000000; omega, by show 0 < 1000; omega, by simp [St.new], rfl, by show 0 + 900060 < 1000000; omega, fun i e he => by simp at he⟩, rfl⟩
  have hbig : ∀ x ∈ q.own [], w.heap.size ≤ x := by
    intro x hx
    have hw1 := B1.out.size
    simp only [HvP.own, List.map_nil, List.mem_cons, List.not_mem_nil, or_false] at hx
    simp only [List.mem_cons, List.not_mem_nil, or_false, forall_eq_or_imp, forall_eq] at hnw
    omega
  have Hst := Lib.hid hst
  have Hbig := Lib.hid hbig
  have B2 := Lib.hid (B1.out.trans (hB2.mono B1.out.size))
  clear hst hbig hB2 hat hnw hqb hqg HO Hl1
  go_wp2_with fail
  go_loopw [5] (fun i wr => ∃ (j : Nat) (S : List Nat), j ≤ n ∧ j ≤ 60 ∧ i = .int .i64 j ∧ StoreAt K wr q S (stAt K ls j) (900060 - j) ∧ (∀ x ∈ S, w.heap.size ≤ x) ∧ Below w.heap.size w wr) (fun i _ => 60 - (intOf i).toNat)
  case atStart => exact ⟨0, _, by omega, by omega, rfl, Hst.out, Hbig.out, B2.out⟩
  case round =>
    obtain ⟨j, S, hj, hj60, rfl, hst, hbig, hb⟩ := hrel
    have Hst := Lib.hid hst
    have Hbig := Lib.hid hbig
    have Hb := Lib.hid hb
    clear hst hbig hb
    by_cases hjn : j < n ∧ j < 60
    · obtain ⟨h1, h2⟩ := hjn
      have j1 : (j : Int) < (n : Int) := by omega
      have j2 : (j : Int) < 60 := by omega
      have hjl : j < ls.length := by rw [← Hn.out]; exact h1
      have hS := HS.out.below Hb.out (Nat.le_refl _)
      obtain ⟨a, rfl, -, hc⟩ := hS j hjl
      have h0 : 0 ∉ S := fun h0 => by have := Hbig.out 0 h0; have := HL.out.lt; omega
      have hlen := stAt_len K ls j
      have hput := hputblob_any K q S (stAt K ls j) (ls[j]) (900059 - j) wr (Hst.out.less (by omega)) (HL.out.below Hb.out) h0 (by omega)
      have hnx : stAt K ls (j + 1) = (putS K (stAt K ls j) (ls[j])).2.2 := by
        show (putS K (stAt K ls j) (ls.getD j [])).2.2 = _
        rw [show ls.getD j [] = ls[j] by simp [List.getD, hjl]]
      have Hput := Lib.hid hput
      have Hnx := Lib.hid hnx
      obtain ⟨tx, htx⟩ : ∃ t, t = ls[j] := ⟨_, rfl⟩
      rw [← htx] at hc Hput Hnx
      clear hS hput hnx htx h0 hlen
      go_wp2_with fail
      refine Hput.out.mono ?_
      rintro e w5 ⟨S', rfl, h5, hO5, hS5⟩
      have H5 := Lib.hid h5
      have hb5 : Below w.heap.size w w5 := Hb.out.trans (hO5.below Hb.out.size Hbig.out)
      have Hbig5 : Hid (∀ x ∈ S', w.heap.size ≤ x) := Lib.hid (fun x hx => by rcases hS5 x hx with h | h; exact Hbig.out x h; exact Nat.le_trans Hb.out.size h)
      have Hb5 := Lib.hid hb5
      clear h5 hO5 hS5 hb5 Hput
      go_wp2_with fail
      go_roundw
      case rel => exact ⟨j + 1, S', by omega, by omega, by go_num, by rw [Hnx.out]; exact H5.out.less (by omega), Hbig5.out, Hb5.out⟩
      case measure => simp [intOf]; omega
    · have hmin : min ls.length 60 = j := by rw [← Hn.out]; omega
      have Hmin := Lib.hid hmin
      have hc : (j : Int) < (n : Int) ∧ ¬ (j : Int) < 60 ∨ ¬ (j : Int) < (n : Int) := by omega
      clear hmin hjn
      rcases hc with ⟨j1, j2⟩ | j1
      all_goals
        go_wp2_with fail
        go_ret
        unfold StoredPost
        rw [Hmin.out]
        exact ⟨q, S, rfl, Hst.out.less (by omega), Hbig.out, Hb.out⟩
end Go.Proofs.YtfbjbhddapoopaaDoor
