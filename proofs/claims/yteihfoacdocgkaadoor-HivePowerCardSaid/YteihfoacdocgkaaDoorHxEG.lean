/-
  Layer 5's laws: comparisons of records.
-/
import Derived.Test.YteihfoacdocgkaaDoorHwYD
import Derived.Test.YteihfoacdocgkaaDoorFrO
set_option linter.unusedVariables false
set_option linter.unusedSimpArgs false
namespace Go.Proofs.YteihfoacdocgkaaDoor
open Go.RowKit Go.ChangeShapes Go.WideShapes Go.Deep

structure ActH where
  kind : Int
  text : List UInt8
  r : RecD
  at_ : Int
  A : Option Addr
  cap : Nat
  fs : List Int
def ActH.cells (x : ActH) : List Value := Value.int .i64 x.kind :: Value.string ⟨x.text.toArray⟩ :: (x.r.cells ++ [Value.int .i64 x.at_, Value.slice x.A x.fs.length x.cap])
structure ActHOk (w : World) (B : Nat) (x : ActH) : Prop where
  rfit : x.r.Fit
  tl : x.text.length ≤ maxLen
  kb : -9223372036854775808 ≤ x.kind ∧ x.kind ≤ 9223372036854775807
  ab : -9223372036854775808 ≤ x.at_ ∧ x.at_ ≤ 9223372036854775807
  fates : Ints w B x.A x.fs
  fb : ∀ f ∈ x.fs, -9223372036854775808 ≤ f ∧ f ≤ 9223372036854775807
  fl : x.fs.length ≤ maxLen
theorem ActHOk.below {w w' : World} {B : Nat} {x : ActH} (h : ActHOk w B x) (hb : Below B w w') : ActHOk w' B x := { h with fates := h.fates.below hb (Nat.le_refl _) }
def ActsH (w : World) (B : Nat) (A : Option Addr) (ds : List ActH) : Prop :=
  ∀ (i : Nat) (h : i < ds.length), ∃ b o, A = some ⟨b, o, none⟩ ∧ b < B ∧ w.rangeAt b (o + i * 69) ds[i].cells ∧ ActHOk w B ds[i]
theorem ActH.len {x : ActH} (h : x.r.Fit) : x.cells.length = 69 := by simp [ActH.cells, x.r.len h]
theorem ActsH.below {w w' : World} {B : Nat} {A : Option Addr} {ds : List ActH} (h : ActsH w B A ds) (hb : Below B w w') : ActsH w' B A ds := fun i hi => by
  obtain ⟨b, o, e, hl, hr, hk⟩ := h i hi
  exact ⟨b, o, e, hl, range_below hr hb hl, hk.below hb⟩

section
variable {H : Type} {enc : TypeId × Value → H} {w : World} {base : Nat} {held : Bool}
/-- a cell of type []int -/
theorem open_intsH {t e : TypeId} {v : Value} {x : DataW H × List MemPlace} {fuel : Nat} (ht : Tryd.prog.underlying t = some (.slice e)) (he : Tryd.prog.underlying e = some (.int .i64)) (hc : Tryd.prog.cellsOf e = 1)
    (hf : DataW.trod enc Tryd.prog w base (fun _ => true) held fuel t [v] = some x) :
    ∃ (A : Option Addr) (cap : Nat) (ns : List Int), v = .slice A ns.length cap ∧ Ints w w.heap.size A ns ∧ ns.length ≤ maxLen ∧ (∀ n ∈ ns, -9223372036854775808 ≤ n ∧ n ≤ 9223372036854775807) := by
  rcases open_ints ht he hc hf with ⟨hcs, hx⟩ | ⟨a, len', cap', zs, hcs, _, hl, hm, hz, hx, hcell, hwz⟩
  · simp only [List.cons.injEq, and_true] at hcs
    subst hcs
    exact ⟨none, 0, [], rfl, fun i hi => absurd hi (by simp), by simp, by simp⟩
  · simp only [List.cons.injEq, and_true] at hcs
    subst hcs
    simp only [if_true] at hz
    have hlen : (zs.take len').length = len' := by simp; omega
    refine ⟨some a, cap', zs.take len', by rw [hlen], ?_, by rw [hlen]; omega, fun n hn => wf_bounds_ (hwz n (List.mem_of_mem_take hn))⟩
    intro i hi
    rw [hlen] at hi
    have hc := hcell i (by omega)
    refine ⟨a, rfl, ?_, ?_⟩
    · have := block_lt_of_cell hc
      rwa [block_add] at this
    · rw [hc]
      simp [List.getD, List.getElem?_eq_getElem (show i < zs.length by omega)]
theorem open_actH {fuel : Nat} {cs : List Value} {x : DataW H × List MemPlace} (hf : DataW.trod enc Tryd.prog w base (fun _ => true) held fuel 71 cs = some x) :
    ∃ y : ActH, cs = y.cells ∧ ActHOk w w.heap.size y := by
  obtain ⟨n, hlen, G⟩ := trod_seg Tryd.underlying71 hf
  have c69 : Tryd.prog.cellsOf 71 = 69 := by kernel_rfl
  rw [c69] at hlen
  obtain ⟨_, g0⟩ := G 0 3 0 1 rfl (by kernel_rfl)
  obtain ⟨_, g1⟩ := G 1 9 1 1 rfl (by kernel_rfl)
  obtain ⟨_, g2⟩ := G 2 26 2 65 rfl (by kernel_rfl)
  obtain ⟨_, g3⟩ := G 3 3 67 1 rfl (by kernel_rfl)
  obtain ⟨_, g4⟩ := G 4 65 68 1 rfl (by kernel_rfl)
  obtain ⟨k, e0, -, w0⟩ := DataW.trod_int Tryd.underlying3 g0
  obtain ⟨s, e1, -, w1⟩ := DataW.trod_string Tryd.underlying9 g1
  obtain ⟨rk, rc, ro, hrk, hro, hlo, hhi, e2⟩ := open_recordC g2
  obtain ⟨a, e3, -, w3⟩ := DataW.trod_int Tryd.underlying3 g3
  have hl4 : ((cs.drop 68).take 1).length = 1 := by simp [hlen]
  obtain ⟨v4, e4⟩ := List.length_eq_one_iff.1 hl4
  rw [e4] at g4
  obtain ⟨A, cap, fs, rfl, hI, hfl, hfb⟩ := open_intsH Tryd.underlying65 Tryd.underlying3 (by kernel_rfl) g4
  refine ⟨⟨k, s.data.toList, ⟨rk, rc, ro⟩, a, A, cap, fs⟩, ?_, ⟨⟨hrk, hro, hlo, hhi⟩, by simpa using w1, wf_bounds_ w0, wf_bounds_ w3, hI, hfb, hfl⟩⟩
  have q4 : cs.drop 68 = [.slice A fs.length cap] := by rw [← e4, List.take_of_length_le (by simp [hlen])]
  have q2 := @take_seg cs 2 65
  rw [e2, one_of_take e3, q4] at q2
  have eda : (Value.string ⟨s.data.toList.toArray⟩) = .string s := by cases s; rfl
  unfold ActH.cells RecD.cells
  simp only [eda]
  rw [← List.drop_zero (l := cs), one_of_take e0, one_of_take e1, ← q2]
  rfl
set_option maxRecDepth 100000 in
theorem open_actsH {v : Value} {d : DataW H} {ps : List MemPlace} {r : Reach} {b0 : Nat} (hv : Value.okWide Tryd.prog w r b0 67 v) (h : DataW.Trod enc Tryd.prog w base (fun _ => true) held 67 v d ps) :
    ∃ (A : Option Addr) (cap : Nat) (ds : List ActH), v = .slice A ds.length cap ∧ ActsH w w.heap.size A ds ∧ ds.length ≤ maxLen := by
  obtain ⟨a0, len, cap, rfl⟩ := okWide_slice Tryd.underlying67 hv
  obtain ⟨fuel, hf⟩ := h
  rcases open_slice Tryd.underlying67 hf with ⟨hcs, _⟩ | ⟨a, len', cap', m, n, D, Pl, hcs, _, hl, hm, hmm, _, hi⟩
  · simp only [Value.cells, Array.toList, List.cons.injEq, Value.slice.injEq, and_true] at hcs
    obtain ⟨rfl, rfl, rfl⟩ := hcs
    exact ⟨none, 0, [], rfl, fun i hi => absurd hi (by simp), by simp⟩
  · simp only [Value.cells, Array.toList, List.cons.injEq, Value.slice.injEq, and_true] at hcs
    obtain ⟨rfl, rfl, rfl⟩ := hcs
    simp only [if_true] at hmm
    have c69 : Tryd.prog.cellsOf 71 = 69 := by kernel_rfl
    have key : ∀ i, i < len → ∃ x : ActH, ActHOk w w.heap.size x ∧ ∀ k, k < 69 → w.cell? ((a.add (i * 69)).add k) = x.cells[k]? := by
      intro i hil
      obtain ⟨cs', hc, ht⟩ := hi i (by omega)
      rw [c69] at hc
      obtain ⟨y, rfl, h3⟩ := open_actH ht
      obtain ⟨_, _, hat⟩ := World.cells?_some hc
      exact ⟨y, h3, fun k hk => hat k hk⟩
    have hne : Nonempty ActH := ⟨⟨0, [], zeroRec, 0, none, 0, []⟩⟩
    refine ⟨some a, cap, (List.range len).map fun i => Classical.epsilon fun x : ActH => ActHOk w w.heap.size x ∧ ∀ k, k < 69 → w.cell? ((a.add (i * 69)).add k) = x.cells[k]?, by simp, ?_, by simp; omega⟩
    intro i hil
    simp only [List.length_map, List.length_range] at hil
    have hs := Classical.epsilon_spec (key i hil)
    simp only [List.getElem_map, List.getElem_range]
    obtain ⟨x, hx⟩ : ∃ x, x = Classical.epsilon fun x : ActH => ActHOk w w.heap.size x ∧ ∀ k, k < 69 → w.cell? ((a.add (i * 69)).add k) = x.cells[k]? := ⟨_, rfl⟩
    rw [← hx] at hs ⊢
    obtain ⟨hok, hc⟩ := hs
    have hsp : a.spot = none := by
      obtain ⟨x0, -, hc0⟩ := key 0 (by omega)
      have h0 := hc0 0 (by omega)
      have e : (a.add (0 * 69)).add 0 = a := by simp [Addr.add]
      rw [e] at h0
      exact spot_of_cell h0
    have h0 := hc 0 (by omega)
    obtain ⟨b, o, sp⟩ := a
    simp only at hsp
    subst hsp
    refine ⟨b, o, rfl, ?_, fun k v hv => ?_, hok⟩
    · have := block_lt_of_cell h0
      rw [block_add, block_add] at this
      exact this
    · have hk : k < 69 := by have := (List.getElem?_eq_some_iff.1 hv).1; rw [ActH.len hok.rfit] at this; exact this
      have := hc k hk
      rw [Addr.add_lit, Addr.add_lit] at this
      rw [this]; exact hv
end
end Go.Proofs.YteihfoacdocgkaaDoor

set_option linter.unusedVariables false
set_option linter.unusedSimpArgs false
namespace Go.Proofs.YteihfoacdocgkaaDoor
open Go.RowKit Pl Sh
attribute [local go_sem] Lb.ba_get Lb.ba_cut Lb.ba_add Lb.ba_size Lb.take_rest

theorem actH_cells {w : World} {b o : Nat} {x : ActH} (h : w.rangeAt b o x.cells) (hf : x.r.Fit) :
    w.cell? ⟨b, o, none⟩ = some (.int .i64 x.kind) ∧ w.cell? ⟨b, o + 1, none⟩ = some (.string ⟨x.text.toArray⟩) ∧ w.rangeAt b (o + 2) x.r.cells ∧ w.cell? ⟨b, o + 67, none⟩ = some (.int .i64 x.at_) ∧ w.cell? ⟨b, o + 68, none⟩ = some (.slice x.A x.fs.length x.cap) := by
  have hl := x.r.len hf
  refine ⟨h 0 _ rfl, h 1 _ rfl, fun k v hv => ?_, ?_, ?_⟩
  · have hk := (List.getElem?_eq_some_iff.1 hv).1
    have := h (2 + k) v (by
      unfold ActH.cells
      rw [show 2 + k = k + 1 + 1 by omega, List.getElem?_cons_succ, List.getElem?_cons_succ, List.getElem?_append_left hk]; exact hv)
    rw [show o + 2 + k = o + (2 + k) by omega]; exact this
  · refine h 67 _ ?_
    unfold ActH.cells
    rw [show (67 : Nat) = 65 + 1 + 1 by omega, List.getElem?_cons_succ, List.getElem?_cons_succ, List.getElem?_append_right (by omega), hl]; rfl
  · refine h 68 _ ?_
    unfold ActH.cells
    rw [show (68 : Nat) = 66 + 1 + 1 by omega, List.getElem?_cons_succ, List.getElem?_cons_succ, List.getElem?_append_right (by omega), hl]; rfl
def SmallAct (x : ActH) : Prop := x.text.length ≤ 1000 ∧ x.fs.length ≤ 200
def GreatPost (ds : List ActH) (w : World) (e : Ending) (w' : World) : Prop := ∃ b : Bool, e = .returned (.bool b) ∧ (b = false → ∀ (j : Nat) (h : j < ds.length), j < 70 → SmallAct ds[j]) ∧ w = w'
set_option maxHeartbeats 4000000 in
theorem great_any (A : Option Addr) (cap : Nat) (ds : List ActH) (w : World) (hS : ActsH w w.heap.size A ds) (hl : ds.length ≤ maxLen) :
    Calls Tryd.prog 28 #[.slice A ds.length cap] w (GreatPost ds w) := by
  have HS := Lib.hid hS
  obtain ⟨n, hn⟩ : ∃ n, n = ds.length := ⟨_, rfl⟩
  rw [← hn] at hl ⊢
  unfold maxLen at hl
  have n63 : (n : Int) ≤ 9223372036854775807 := by omega
  have Hn := Lib.hid hn
  clear hS hn
  go_enter Tryd.func28, Tryd.ntmps28
  go_wp2_with fail
  go_loopw [3] (fun i wr => ∃ k : Nat, k ≤ n ∧ k ≤ 70 ∧ i = .int .i64 k ∧ (∀ (j : Nat) (h : j < ds.length), j < k → SmallAct ds[j]) ∧ w = wr) (fun i _ => n - (intOf i).toNat)
  case atStart => exact ⟨0, by omega, by omega, rfl, fun j hj h => by omega, by first | trivial | rfl⟩
  case round =>
    obtain ⟨k, hk, hk70, rfl, hno, rfl⟩ := hrel
    have Hno := Lib.hid hno
    clear hno
    by_cases hkn : k < n
    · have j1 : (k : Int) < (n : Int) := by omega
      by_cases hk7 : k < 70
      · have j2 : (k : Int) < 70 := by omega
        have hkl : k < ds.length := by rw [← Hn.out]; exact hkn
        obtain ⟨b, o, rfl, -, hr, hok⟩ := HS.out k hkl
        obtain ⟨-, c1, -, -, c4⟩ := actH_cells hr hok.rfit
        have hS1 : Hid (∀ p : ds[k].text.length ≤ 1000 ∧ ds[k].fs.length ≤ 200, SmallAct ds[k]) := Lib.hid (fun p => p)
        obtain ⟨x, hx⟩ : ∃ x, x = ds[k] := ⟨_, rfl⟩
        rw [← hx] at c1 c4 hS1
        have Hx := Lib.hid hx
        clear hr hok hx
        by_cases ht : (1000 : Int) < (x.text.length : Int)
        · go_wp2_with fail
          go_ret
          exact ⟨true, rfl, (fun h => by cases h), rfl⟩
        · by_cases hf : (200 : Int) < (x.fs.length : Int)
          · go_wp2_with fail
            go_ret
            exact ⟨true, rfl, (fun h => by cases h), rfl⟩
          · have Ht := Lib.hid ht
            have Hf := Lib.hid hf
            go_wp2_with fail
            go_roundw
            case rel => exact ⟨k + 1, by omega, by omega, by go_num, (fun j hj hjk => by
              by_cases e : j = k
              · subst e
                rw [← Hx.out]
                exact ⟨by have := Ht.out; omega, by have := Hf.out; omega⟩
              · exact Hno.out j hj (by omega)), by first | trivial | rfl⟩
            case measure => simp [intOf]; omega
      · have j2 : ¬ (k : Int) < 70 := by omega
        go_wp2_with fail
        go_ret
        exact ⟨false, rfl, fun _ j hj h70 => Hno.out j hj (by omega), rfl⟩
    · obtain rfl : k = n := by omega
      have j1 : ¬ (k : Int) < (k : Int) := by omega
      go_wp2_with fail
      go_ret
      exact ⟨false, rfl, fun _ j hj h70 => Hno.out j hj (by rw [Hn.out]; exact hj), rfl⟩
end Go.Proofs.YteihfoacdocgkaaDoor

set_option linter.unusedVariables false
set_option linter.unusedSimpArgs false
namespace Go.Proofs.YteihfoacdocgkaaDoor
open Go.RowKit Pl Sh

end Go.Proofs.YteihfoacdocgkaaDoor
